import Derived.StillTailTactics
import Derived.Deep.RegionHeld3
import Derived.Deep.DeepCutAuto
import Derived.Test.YtkdigdnacggknaaProg
import Derived.Shelf.Abstract
import Derived.Test.YtkdigdnacggknaaZNodP
import Derived.Test.YtkdigdnacggknaaZFloat
/- Walks: the small functions of flow and of its reference. -/
namespace Go.Proofs.Ytkdigdnacggknaa
open Go.RowKit
open Nd

def Nd.Fl.row (f : Fl) : List Value := [.int .i64 f.id, .int .i64 f.fr, .int .i64 f.tn, .int .i64 f.pe, .int .i64 f.ph, .int .i64 f.dl]

theorem fault_eq (f : Fl) (R : Int) (h : R = if (0 ≤ f.id ∧ f.id ≤ 255) ∧ (0 ≤ f.fr ∧ f.fr ≤ 31) ∧ (0 ≤ f.tn ∧ f.tn ≤ 31) ∧ (1 ≤ f.pe ∧ f.pe ≤ 512) ∧ (0 ≤ f.ph ∧ f.ph ≤ f.pe - 1) ∧ (1 ≤ f.dl ∧ f.dl ≤ f.pe) then (if f.fr = f.tn then 1 else 0) else 2) : R = fault f := by
  rw [h]
  unfold fault
  congr 1
  simp [boundsB, inB, and_assoc]

theorem fcheck1_any (n : Int) (g : Nat) (w : World) (hc : w.cell? ⟨g, 0, none⟩ = some (.int .i64 32)) :
    Calls Try.prog 112 #[.int .i64 n, .pointer (some ⟨g, 0, none⟩)] w fun e w' => e = .returned (.bool (decide (0 ≤ n) && decide (n < 32))) ∧ w = w' := by
  go_enter Try.func112, Try.ntmps112
  go_wp2
  all_goals
    go_ret
    exact ⟨ret_bool (by first | (simp [*]; done) | (simp [*]; omega)), rfl⟩

set_option maxHeartbeats 1000000 in
theorem fcheck_any (f : Fl) (w : World) :
    Calls Try.prog 91 #[.int .i64 32, .agg #[.int .i64 f.id, .int .i64 f.fr, .int .i64 f.tn, .int .i64 f.pe, .int .i64 f.ph, .int .i64 f.dl]] w fun e w' => e = .returned (.int .i64 (fault f)) ∧ Below w.heap.size w w' := by
  obtain ⟨T, hT⟩ : ∃ T, T = fault f := ⟨_, rfl⟩
  rw [← hT]
  have HT := Lib.hid (fun R h => hT.trans (fault_eq f R h).symm)
  clear hT
  obtain ⟨id, fr, tn, pe, ph, dl⟩ := f
  dsimp only at HT
  go_enter Try.func91, Try.ntmps91
  go_wp2_with (go_at_call 112; (with_reducible refine (fcheck1_any _ _ _ (by simp)).mono ?_); rintro e w' ⟨rfl, rfl⟩)
  all_goals
    go_ret
    refine ⟨ret_int (HT.out _ ?_).symm, by repeat (first | exact Below.refl _ _ | refine Below.alloc ?_ (by simp) _ )⟩
    try simp only [decide_eq_true_eq, Bool.not_eq_true', Bool.not_eq_false', decide_eq_false_iff_not, beq_iff_eq, beq_eq_false_iff_ne, ne_eq] at *
    first
      | (rw [if_neg (by omega)]; done)
      | (rw [if_pos (by omega), if_pos (by omega)]; done)
      | (rw [if_pos (by omega), if_neg (by omega)]; done)

theorem alone_any (f : Fl) (w : World) :
    Calls Try.prog 88 #[.agg #[.int .i64 f.id, .int .i64 f.fr, .int .i64 f.tn, .int .i64 f.pe, .int .i64 f.ph, .int .i64 f.dl]] w fun e w' => e = .returned (.int .i64 (fault f)) ∧ Below w.heap.size w w' := by
  go_enter Try.func88, Try.ntmps88
  go_wp2_with (go_at_call 91; (with_reducible refine (fcheck_any _ _).mono ?_); rintro e w' ⟨rfl, hb⟩)
  go_ret
  exact ⟨rfl, ((Below.refl _ _).alloc (Nat.le_refl _) _).trans (hb.mono (by simp))⟩

theorem fin_any (n lo hi : Int) (w : World) :
    Calls Try.prog 90 #[.int .i64 n, .int .i64 lo, .int .i64 hi] w fun e w' => e = .returned (.bool (inB n lo hi)) ∧ w = w' := by
  go_enter Try.func90, Try.ntmps90
  go_wp2
  all_goals
    go_ret
    exact ⟨ret_bool (by first | (simp [inB, *]; done) | (simp [inB, *]; omega)), rfl⟩

end Go.Proofs.Ytkdigdnacggknaa
/- Walks: Current, Find, Check of package flow and of its reference. -/
namespace Go.Proofs.Ytkdigdnacggknaa
open Go.RowKit
open Nd

theorem Lies.at_ {α : Type} {f : α → List Value} {sz : Nat} {w : World} {B : Nat} {A : Option Addr} {l : List α} (h : Lies w B sz A (l.map f)) {k : Nat} {a : α} (ha : l[k]? = some a) :
    ∃ b off, A = some ⟨b, off, none⟩ ∧ b < B ∧ ∀ k a, l[k]? = some a → ∀ j u, (f a)[j]? = some u → w.cell? ⟨b, off + k * sz + j, none⟩ = some u := by
  have hne : l.map f ≠ [] := by
    intro h0
    have : l = [] := by simpa using h0
    subst this
    simp at ha
  obtain ⟨b, off, e, hb, hc⟩ := h hne
  exact ⟨b, off, e, hb, fun k a ha => hc k (f a) (by simp [ha])⟩

set_option maxRecDepth 100000 in
set_option maxHeartbeats 1000000 in
theorem indexF_any (p : Fl → Bool) (g : FuncId) (cb : Array Value) (l : List Fl) (A : Option Addr) (c : Nat) (w : World) (eg : ∀ args w, (callFunc g args).run Try.prog w = .ok (.enter g args) w)
    (hA : Lies w w.heap.size 6 A (l.map Fl.row)) (hl : l.length ≤ 1000000) (hp : ∀ W, Below w.heap.size w W → ∀ a, a ∈ l → Calls Try.prog g (#[.agg #[.int .i64 a.id, .int .i64 a.fr, .int .i64 a.tn, .int .i64 a.pe, .int .i64 a.ph, .int .i64 a.dl]] ++ cb) W fun e w' => e = .returned (.bool (p a)) ∧ Below W.heap.size W w') :
    Calls Try.prog 66 #[.slice A l.length c, .func (.func g) #[] cb] w fun e w' => e = .returned (.int .i64 (idxP p l 0)) ∧ Below w.heap.size w w' := by
  obtain ⟨n, hn⟩ : ∃ n, n = l.length := ⟨_, rfl⟩
  rw [← hn] at hl ⊢
  have HN := Lib.hid hn
  obtain ⟨T, hT⟩ : ∃ T, T = idxP p l 0 := ⟨_, rfl⟩
  rw [← hT]
  have HT := Lib.hid hT
  have HP := Lib.hid hp
  clear hn hT hp
  go_enter Try.func66, Try.ntmps66
  go_wp2_with fail
  go_loopw [8] (fun i wr => ∃ (k : Nat), k ≤ n ∧ i = .int .i64 k ∧ Below w.heap.size w wr ∧ Hid (T = idxP p (l.drop k) k)) (fun i _ => n - (intOf i).toNat)
  case atStart => exact ⟨0, Nat.zero_le _, rfl, Below.refl _ _, Lib.hid (by rw [HT.out]; rfl)⟩
  case round =>
    obtain ⟨k, hk, rfl, hb, hst⟩ := hrel
    by_cases hlt : k < n
    · obtain ⟨a, ha⟩ := get_of_lt (l := l) (k := k) (by rw [← HN.out]; exact hlt)
      obtain ⟨b, off, rfl, hbB, hcs⟩ := (Lies.below hA hb).at_ ha
      have c0 := hcs k a ha 0 _ rfl
      have c1 := hcs k a ha 1 _ rfl
      have c2 := hcs k a ha 2 _ rfl
      have c3 := hcs k a ha 3 _ rfl
      have c4 := hcs k a ha 4 _ rfl
      have c5 := hcs k a ha 5 _ rfl
      simp only [Nat.add_zero] at c0 c1 c2 c3 c4 c5
      have hst' : Hid (T = if p a = true then (k : Int) else idxP p (l.drop (k + 1)) ((k : Int) + 1)) := Lib.hid (by rw [hst.out, drop_of_get ha]; rfl)
      have hcall := HP.out wr hb a (List.mem_of_getElem? ha)
      clear hcs ha hst
      cases hq : p a with
      | true =>
        rw [hq] at hcall
        have hf := Lib.hid (show T = (k : Int) by rw [hst'.out, if_pos hq])
        clear hst' hq
        go_wp2_with (go_at_fn g; refine hcall.mono ?_; rintro e w2 ⟨rfl, hb2⟩)
        go_ret
        exact ⟨ret_int (by rw [hf.out]), hb.trans (hb2.mono hb.size)⟩
      | false =>
        rw [hq] at hcall
        have hf := Lib.hid (show T = idxP p (l.drop (k + 1)) ((k + 1 : Nat) : Int) by rw [hst'.out, if_neg (by rw [hq]; decide)]; rfl)
        clear hst' hq
        go_wp2_with (go_at_fn g; refine hcall.mono ?_; rintro e w2 ⟨rfl, hb2⟩)
        go_roundw
        case rel => exact ⟨k + 1, by omega, by go_num, hb.trans (hb2.mono hb.size), hf⟩
        case measure => simp [intOf]; omega
    · have hf : Hid (T = -1) := Lib.hid (by rw [hst.out, List.drop_of_length_le (by rw [← HN.out]; omega)]; rfl)
      go_wp2_with fail
      go_ret
      exact ⟨ret_int (by rw [hf.out]), hb⟩

theorem find1_any (f : Fl) (id : Int) (g : Nat) (w : World) (hc : w.cell? ⟨g, 0, none⟩ = some (.int .i64 id)) (hg : g < w.heap.size) :
    Calls Try.prog 67 #[.agg #[.int .i64 f.id, .int .i64 f.fr, .int .i64 f.tn, .int .i64 f.pe, .int .i64 f.ph, .int .i64 f.dl], .pointer (some ⟨g, 0, none⟩)] w fun e w' => e = .returned (.bool (f.id == id)) ∧ Below w.heap.size w w' := by
  go_enter Try.func67, Try.ntmps67
  go_wp2_with fail
  go_ret
  exact ⟨rfl, (Below.refl _ _).alloc (Nat.le_refl _) _⟩

theorem find_any (l : List Fl) (id : Int) (A : Option Addr) (c : Nat) (w : World) (hA : Lies w w.heap.size 6 A (l.map Fl.row)) (hl : l.length ≤ 1000000) :
    Calls Try.prog 36 #[.slice A l.length c, .int .i64 id] w fun e w' => e = .returned (.int .i64 (findF l id)) ∧ Below w.heap.size w w' := by
  have hb1 : Below w.heap.size w (w.alloc (.cells #[.int .i64 id] 3)) := (Below.refl _ _).alloc (Nat.le_refl _) _
  have con := indexF_any (fun f => f.id == id) 67 #[.pointer (some ⟨w.heap.size, 0, none⟩)] l A c (w.alloc (.cells #[.int .i64 id] 3)) (enters_of Try.func67 (by kernel_rfl) rfl)
    ((hA.below hb1).more (by simp)) hl (fun W hb a _ => find1_any a id w.heap.size W ((hb.cell (p := ⟨w.heap.size, 0, none⟩) (by simp)).trans (by simp)) (by have := hb.size; simp at this; omega))
  have hT : idxP (fun f : Fl => f.id == id) l 0 = findF l id := rfl
  rw [hT] at con
  have Con := Lib.hid con
  clear con hA hT
  generalize findF l id = T at *
  generalize l.length = n at *
  go_enter Try.func36, Try.ntmps36
  go_wp2_with (go_at_call 66; (with_reducible refine Con.out.mono ?_); rintro e w2 ⟨rfl, hb2⟩)
  go_ret
  exact ⟨rfl, hb1.trans (hb2.mono (by simp))⟩

theorem cur_yes {f : Fl} {slot : Int} (h1 : fault f = 0) (h2 : f.ph ≤ slot) (h3 : slot ≤ 1099511627776) : cur f slot = ((slot - f.ph) / f.pe, true) := by
  unfold cur; rw [if_pos ⟨h1, h2, h3⟩]
theorem cur_no {f : Fl} {slot : Int} (h : ¬ (fault f = 0 ∧ f.ph ≤ slot ∧ slot ≤ 1099511627776)) : cur f slot = (0, false) := by
  unfold cur; rw [if_neg h]

set_option maxHeartbeats 1000000 in
theorem current_any (f : Fl) (slot : Int) (w : World) :
    Calls Try.prog 64 #[.agg #[.int .i64 f.id, .int .i64 f.fr, .int .i64 f.tn, .int .i64 f.pe, .int .i64 f.ph, .int .i64 f.dl], .int .i64 slot] w fun e w' => e = .returned (.tuple #[.int .i64 (cur f slot).1, .bool (cur f slot).2]) ∧ Below w.heap.size w w' := by
  have hno := @cur_no f slot
  have hyes := @cur_yes f slot
  have hz := @fault_zero f
  have con := fun W => alone_any f W
  generalize cur f slot = T at *
  generalize fault f = F at *
  obtain ⟨id, fr, tn, pe, ph, dl⟩ := f
  dsimp only at *
  have Con := Lib.hid con
  clear con
  by_cases hF : F = 0
  · subst hF
    by_cases h1 : ph ≤ slot
    · by_cases h2 : slot ≤ 1099511627776
      · rw [hyes rfl h1 h2]
        obtain ⟨_, _, _, hp, hq, _, _⟩ := hz rfl
        have hpe : pe ≠ 0 := by omega
        have hi1 : inB slot ph 1099511627776 = true := by simp [inB]; omega
        have hdv : (slot - ph).tdiv pe = (slot - ph) / pe := Int.tdiv_eq_ediv_of_nonneg (by omega)
        have hd0 : 0 ≤ (slot - ph) / pe := Int.ediv_nonneg (by omega) (by omega)
        have hd1 : (slot - ph) / pe ≤ slot - ph := Int.ediv_le_self _ (by omega)
        clear hno hyes hz
        dsimp only
        generalize (slot - ph) / pe = D at *
        go_enter Try.func64, Try.ntmps64
        go_wp2_with (first | (go_at_call 88; (with_reducible refine (Con.out _).mono ?_); rintro e w2 ⟨rfl, hb2⟩; have r2 := (Row.new w [.int .i64 id, .int .i64 fr, .int .i64 tn, .int .i64 pe, .int .i64 ph, .int .i64 dl] 37).below hb2 (by simp); unfold Row at r2) | (go_at_call 90; (with_reducible refine (fin_any _ _ _ _).mono ?_); rintro e w' ⟨rfl, rfl⟩))
        go_ret2
        exact ⟨rfl, ((Below.refl _ _).alloc (Nat.le_refl _) _).trans (hb2.mono (by simp))⟩
      · rw [hno (by omega)]
        have hi1 : inB slot ph 1099511627776 = false := by simp [inB]; omega
        have h3 : 1099511627776 < slot := by omega
        clear hno hyes hz
        dsimp only
        go_enter Try.func64, Try.ntmps64
        go_wp2_with (first | (go_at_call 88; (with_reducible refine (Con.out _).mono ?_); rintro e w2 ⟨rfl, hb2⟩; have r2 := (Row.new w [.int .i64 id, .int .i64 fr, .int .i64 tn, .int .i64 pe, .int .i64 ph, .int .i64 dl] 37).below hb2 (by simp); unfold Row at r2) | (go_at_call 90; (with_reducible refine (fin_any _ _ _ _).mono ?_); rintro e w' ⟨rfl, rfl⟩))
        go_ret2
        exact ⟨rfl, ((Below.refl _ _).alloc (Nat.le_refl _) _).trans (hb2.mono (by simp))⟩
    · rw [hno (by omega)]
      have hi1 : inB slot ph 1099511627776 = false := by simp [inB]; omega
      have h3 : slot < ph := by omega
      clear hno hyes hz
      dsimp only
      go_enter Try.func64, Try.ntmps64
      go_wp2_with (first | (go_at_call 88; (with_reducible refine (Con.out _).mono ?_); rintro e w2 ⟨rfl, hb2⟩; have r2 := (Row.new w [.int .i64 id, .int .i64 fr, .int .i64 tn, .int .i64 pe, .int .i64 ph, .int .i64 dl] 37).below hb2 (by simp); unfold Row at r2) | (go_at_call 90; (with_reducible refine (fin_any _ _ _ _).mono ?_); rintro e w' ⟨rfl, rfl⟩))
      go_ret2
      exact ⟨rfl, ((Below.refl _ _).alloc (Nat.le_refl _) _).trans (hb2.mono (by simp))⟩
  · rw [hno (by omega)]
    have h3 : (F != 0) = true := by simpa using hF
    clear hno hyes hz
    dsimp only
    go_enter Try.func64, Try.ntmps64
    go_wp2_with (first | (go_at_call 88; (with_reducible refine (Con.out _).mono ?_); rintro e w2 ⟨rfl, hb2⟩; have r2 := (Row.new w [.int .i64 id, .int .i64 fr, .int .i64 tn, .int .i64 pe, .int .i64 ph, .int .i64 dl] 37).below hb2 (by simp); unfold Row at r2) | (go_at_call 90; (with_reducible refine (fin_any _ _ _ _).mono ?_); rintro e w' ⟨rfl, rfl⟩))
    go_ret2
    exact ⟨rfl, ((Below.refl _ _).alloc (Nat.le_refl _) _).trans (hb2.mono (by simp))⟩

set_option maxHeartbeats 1000000 in
theorem rfault_any (f : Fl) (w : World) :
    Calls Try.prog 89 #[.int .i64 32, .agg #[.int .i64 f.id, .int .i64 f.fr, .int .i64 f.tn, .int .i64 f.pe, .int .i64 f.ph, .int .i64 f.dl]] w fun e w' => e = .returned (.int .i64 (fault f)) ∧ Below w.heap.size w w' := by
  obtain ⟨T, hT⟩ : ∃ T, T = fault f := ⟨_, rfl⟩
  rw [← hT]
  have HT := Lib.hid (fun R h => hT.trans (fault_eq f R h).symm)
  clear hT
  obtain ⟨id, fr, tn, pe, ph, dl⟩ := f
  dsimp only at HT
  have hbi : ∀ (x a b : Int), inB x a b = true ↔ a ≤ x ∧ x ≤ b := fun x a b => by simp [inB]
  have hbj : ∀ (x a b : Int), inB x a b = false ↔ ¬ (a ≤ x ∧ x ≤ b) := fun x a b => by rw [← hbi, Bool.not_eq_true]
  have HI := Lib.hid hbi
  have HJ := Lib.hid hbj
  clear hbi hbj
  by_cases hpe : 1 ≤ pe ∧ pe ≤ 512
  · have hw : IntKind.i64.wrap (pe - 1) = pe - 1 := by rw [IntKind.wrap_i64]; omega
    have hpi := (HI.out pe 1 512).2 hpe
    obtain ⟨hp1, hp2⟩ := hpe
    go_enter Try.func89, Try.ntmps89
    go_wp2_with (go_at_call 90; (with_reducible refine (fin_any _ _ _ _).mono ?_); rintro e w' ⟨rfl, rfl⟩)
    all_goals
      go_ret
      refine ⟨ret_int (HT.out _ ?_).symm, by repeat (first | exact Below.refl _ _ | refine Below.alloc ?_ (by simp) _ )⟩
      try simp only [decide_eq_true_eq, Bool.not_eq_true', Bool.not_eq_false', decide_eq_false_iff_not, beq_iff_eq, beq_eq_false_iff_ne, ne_eq, HI.out, HJ.out] at *
      first
        | (rw [if_neg (by omega)]; done)
        | (rw [if_pos (by omega), if_pos (by omega)]; done)
        | (rw [if_pos (by omega), if_neg (by omega)]; done)
  · have hpi := (HJ.out pe 1 512).2 hpe
    go_enter Try.func89, Try.ntmps89
    go_wp2_with (go_at_call 90; (with_reducible refine (fin_any _ _ _ _).mono ?_); rintro e w' ⟨rfl, rfl⟩)
    all_goals
      go_ret
      refine ⟨ret_int (HT.out _ ?_).symm, by repeat (first | exact Below.refl _ _ | refine Below.alloc ?_ (by simp) _ )⟩
      try simp only [decide_eq_true_eq, Bool.not_eq_true', Bool.not_eq_false', decide_eq_false_iff_not, beq_iff_eq, beq_eq_false_iff_ne, ne_eq, HI.out, HJ.out] at *
      first
        | (rw [if_neg (by omega)]; done)
        | (rw [if_pos (by omega), if_pos (by omega)]; done)
        | (rw [if_pos (by omega), if_neg (by omega)]; done)

set_option maxHeartbeats 1000000 in
theorem rcurrent_any (f : Fl) (slot : Int) (w : World) :
    Calls Try.prog 65 #[.agg #[.int .i64 f.id, .int .i64 f.fr, .int .i64 f.tn, .int .i64 f.pe, .int .i64 f.ph, .int .i64 f.dl], .int .i64 slot] w fun e w' => e = .returned (.tuple #[.int .i64 (cur f slot).1, .bool (cur f slot).2]) ∧ Below w.heap.size w w' := by
  have hno := @cur_no f slot
  have hyes := @cur_yes f slot
  have hz := @fault_zero f
  have con := fun W => rfault_any f W
  generalize cur f slot = T at *
  generalize fault f = F at *
  obtain ⟨id, fr, tn, pe, ph, dl⟩ := f
  dsimp only at *
  have Con := Lib.hid con
  clear con
  by_cases hF : F = 0
  · subst hF
    by_cases h1 : ph ≤ slot
    · by_cases h2 : slot ≤ 1099511627776
      · rw [hyes rfl h1 h2]
        obtain ⟨_, _, _, hp, hq, _, _⟩ := hz rfl
        have hpe : pe ≠ 0 := by omega
        have hi1 : inB slot ph 1099511627776 = true := by simp [inB]; omega
        have hdv : (slot - ph).tdiv pe = (slot - ph) / pe := Int.tdiv_eq_ediv_of_nonneg (by omega)
        have hd0 : 0 ≤ (slot - ph) / pe := Int.ediv_nonneg (by omega) (by omega)
        have hd1 : (slot - ph) / pe ≤ slot - ph := Int.ediv_le_self _ (by omega)
        clear hno hyes hz
        dsimp only
        generalize (slot - ph) / pe = D at *
        go_enter Try.func65, Try.ntmps65
        go_wp2_with (first | (go_at_call 89; (with_reducible refine (Con.out _).mono ?_); rintro e w2 ⟨rfl, hb2⟩; have r2 := (Row.new w [.int .i64 id, .int .i64 fr, .int .i64 tn, .int .i64 pe, .int .i64 ph, .int .i64 dl] 37).below hb2 (by simp); unfold Row at r2) | (go_at_call 90; (with_reducible refine (fin_any _ _ _ _).mono ?_); rintro e w' ⟨rfl, rfl⟩))
        go_ret2
        exact ⟨rfl, ((Below.refl _ _).alloc (Nat.le_refl _) _).trans (hb2.mono (by simp))⟩
      · rw [hno (by omega)]
        have hi1 : inB slot ph 1099511627776 = false := by simp [inB]; omega
        have h3 : 1099511627776 < slot := by omega
        clear hno hyes hz
        dsimp only
        go_enter Try.func65, Try.ntmps65
        go_wp2_with (first | (go_at_call 89; (with_reducible refine (Con.out _).mono ?_); rintro e w2 ⟨rfl, hb2⟩; have r2 := (Row.new w [.int .i64 id, .int .i64 fr, .int .i64 tn, .int .i64 pe, .int .i64 ph, .int .i64 dl] 37).below hb2 (by simp); unfold Row at r2) | (go_at_call 90; (with_reducible refine (fin_any _ _ _ _).mono ?_); rintro e w' ⟨rfl, rfl⟩))
        go_ret2
        exact ⟨rfl, ((Below.refl _ _).alloc (Nat.le_refl _) _).trans (hb2.mono (by simp))⟩
    · rw [hno (by omega)]
      have hi1 : inB slot ph 1099511627776 = false := by simp [inB]; omega
      have h3 : slot < ph := by omega
      clear hno hyes hz
      dsimp only
      go_enter Try.func65, Try.ntmps65
      go_wp2_with (first | (go_at_call 89; (with_reducible refine (Con.out _).mono ?_); rintro e w2 ⟨rfl, hb2⟩; have r2 := (Row.new w [.int .i64 id, .int .i64 fr, .int .i64 tn, .int .i64 pe, .int .i64 ph, .int .i64 dl] 37).below hb2 (by simp); unfold Row at r2) | (go_at_call 90; (with_reducible refine (fin_any _ _ _ _).mono ?_); rintro e w' ⟨rfl, rfl⟩))
      go_ret2
      exact ⟨rfl, ((Below.refl _ _).alloc (Nat.le_refl _) _).trans (hb2.mono (by simp))⟩
  · rw [hno (by omega)]
    have h3 : (F != 0) = true := by simpa using hF
    clear hno hyes hz
    dsimp only
    go_enter Try.func65, Try.ntmps65
    go_wp2_with (first | (go_at_call 89; (with_reducible refine (Con.out _).mono ?_); rintro e w2 ⟨rfl, hb2⟩; have r2 := (Row.new w [.int .i64 id, .int .i64 fr, .int .i64 tn, .int .i64 pe, .int .i64 ph, .int .i64 dl] 37).below hb2 (by simp); unfold Row at r2) | (go_at_call 90; (with_reducible refine (fin_any _ _ _ _).mono ?_); rintro e w' ⟨rfl, rfl⟩))
    go_ret2
    exact ⟨rfl, ((Below.refl _ _).alloc (Nat.le_refl _) _).trans (hb2.mono (by simp))⟩
end Go.Proofs.Ytkdigdnacggknaa
/- Walks: Check of package flow, and of its reference. -/
namespace Go.Proofs.Ytkdigdnacggknaa
open Go.RowKit
open Nd
theorem below_drewN {B : Nat} {a w : World} (h : Below B a w) (n : Nat) : Below B a (w.drewN n) := h.trans ⟨rfl, rfl, rfl, Nat.le_refl _, fun _ _ => rfl⟩

set_option maxRecDepth 100000 in
set_option maxHeartbeats 2000000 in
theorem fCheck_any (l : List Fl) (A : Option Addr) (c : Nat) (w : World) (hA : Lies w w.heap.size 6 A (l.map Fl.row)) (hl : l.length ≤ 1000000) :
    Calls Try.prog 69 #[.int .i64 32, .slice A l.length c] w fun e w' => e = .returned (.tuple #[.int .i64 (chkF l).1, .int .i64 (chkF l).2]) ∧ Below w.heap.size w w' := by
  obtain ⟨T, hT⟩ : ∃ T, T = chkF l := ⟨_, rfl⟩
  rw [← hT]
  obtain ⟨n, hn⟩ : ∃ n, n = l.length := ⟨_, rfl⟩
  rw [← hn] at hl ⊢
  by_cases h16 : 16 < n
  · have HE : Hid (T = (-1, 8)) := Lib.hid (by rw [hT]; unfold chkF; rw [if_pos (by omega)])
    clear hn hT hA
    go_enter Try.func69, Try.ntmps69
    go_wp2_with (fail)
    go_ret2
    exact ⟨by rw [HE.out]; rfl, Below.refl _ _⟩
  have HT : Hid (T = chkGo none 0 l) := Lib.hid (by rw [hT]; unfold chkF; rw [if_neg (by omega)])
  have HN := Lib.hid hn
  clear hn hT
  have h17 : decide ((16 : Int) < (n : Int)) = false := decide_eq_false (by omega)
  go_enter Try.func69, Try.ntmps69
  go_wp2_with (fail)
  go_loopw [20] (fun i wr => ∃ (k : Nat), k ≤ n ∧ i = .int .i64 k ∧ Below w.heap.size w wr ∧ Hid (T = chkGo (if k = 0 then none else l[k - 1]?) k (l.drop k))) (fun i _ => n - (intOf i).toNat)
  case atStart => exact ⟨0, Nat.zero_le _, rfl, Below.refl _ _, Lib.hid (by rw [HT.out]; rfl)⟩
  case round =>
    obtain ⟨k, hk, rfl, hb, hst⟩ := hrel
    by_cases hlt : k < n
    · obtain ⟨a, ha⟩ := get_of_lt (l := l) (k := k) (by rw [← HN.out]; exact hlt)
      obtain ⟨b, off, rfl, hbB, hcs⟩ := (Lies.below hA hb).at_ ha
      have Hcs := Lib.hid hcs
      have c0 := hcs k a ha 0 _ rfl
      have c1 := hcs k a ha 1 _ rfl
      have c2 := hcs k a ha 2 _ rfl
      have c3 := hcs k a ha 3 _ rfl
      have c4 := hcs k a ha 4 _ rfl
      have c5 := hcs k a ha 5 _ rfl
      simp only [Nat.add_zero] at c0 c1 c2 c3 c4 c5
      have hst' : Hid (T = if fault a = 0 then (if notUp (if k = 0 then none else l[k - 1]?) a = true then ((k : Int), 5) else chkGo (some a) ((k : Int) + 1) (l.drop (k + 1))) else ((k : Int), fault a)) := Lib.hid (by rw [hst.out, drop_of_get ha]; rfl)
      have hnext : Hid (some a = (if k + 1 = 0 then none else l[k + 1 - 1]?)) := Lib.hid (by rw [if_neg (by omega), Nat.add_sub_cancel, ha])
      have con := fun W => fcheck_any a W
      by_cases hf : fault a = 0
      case neg =>
        have HE : Hid (T = ((k : Int), fault a)) := Lib.hid (by rw [hst'.out, if_neg hf])
        generalize fault a = F at *
        have hf' : (F != 0) = true := by simpa using hf
        clear hcs ha hst hst' hnext hf
        go_wp2_with (go_at_call 91; (with_reducible refine (con _).mono ?_); rintro e w2 ⟨rfl, hb2⟩)
        go_ret2
        exact ⟨by rw [HE.out]; rfl, (hb.alloc hb.size _).trans (hb2.mono (by simp; have := hb.size; omega))⟩
      rw [hf] at con
      have HC := Lib.hid con
      have hst2 : Hid (T = if notUp (if k = 0 then none else l[k - 1]?) a = true then ((k : Int), 5) else chkGo (if k + 1 = 0 then none else l[k + 1 - 1]?) ((k + 1 : Nat) : Int) (l.drop (k + 1))) := Lib.hid (by rw [hst'.out, if_pos hf, ← hnext.out]; rfl)
      clear con hst' hnext hst hf
      have ROW := Lib.hid (fun W (hW : Below (wr.heap.size + 1) (wr.alloc (.cells #[.int .i64 a.id, .int .i64 a.fr, .int .i64 a.tn, .int .i64 a.pe, .int .i64 a.ph, .int .i64 a.dl] 37)) W) => (Row.new wr [.int .i64 a.id, .int .i64 a.fr, .int .i64 a.tn, .int .i64 a.pe, .int .i64 a.ph, .int .i64 a.dl] 37).below hW (by omega))
      have HB2 := Lib.hid (fun W (hW : Below (wr.heap.size + 1) (wr.alloc (.cells #[.int .i64 a.id, .int .i64 a.fr, .int .i64 a.tn, .int .i64 a.pe, .int .i64 a.ph, .int .i64 a.dl] 37)) W) => (show Below w.heap.size w W ∧ Below wr.heap.size wr W from ⟨((hb.alloc hb.size _).trans (hW.mono (by have := hb.size; omega))), ((Below.refl _ _).alloc (Nat.le_refl _) _).trans (hW.mono (by omega))⟩))
      by_cases hk0 : k = 0
      · subst hk0
        simp only [Nat.zero_mul, Nat.add_zero] at c0 c1 c2 c3 c4 c5
        have hst3 : Hid (T = chkGo (if 0 + 1 = 0 then none else l[0 + 1 - 1]?) ((0 + 1 : Nat) : Int) (l.drop (0 + 1))) := Lib.hid (by rw [hst2.out, if_neg (by simp [notUp])])
        have hd0 : decide ((0 : Int) < ((0 : Nat) : Int)) = false := rfl
        clear hst2 hcs ha
        go_wp2_with (go_at_call 91; (with_reducible refine (HC.out _).mono ?_); rintro e w2 ⟨rfl, hb2⟩)
        have hB := (HB2.out _ (by simpa using hb2)).1
        go_quiet (fail)
        go_wp2_with fail
        go_roundw
        case rel => exact ⟨0 + 1, by omega, by go_num, by first | exact hB | exact below_drewN hB _, hst3⟩
        case measure => simp [intOf]; omega
      · obtain ⟨j, rfl⟩ : ∃ j, k = j + 1 := ⟨k - 1, by omega⟩
        obtain ⟨p, hp⟩ := get_of_lt (l := l) (k := j) (by rw [← HN.out]; omega)
        have hp0 := Hcs.out j p hp 0 _ rfl
        simp only [Nat.add_zero] at hp0
        have hki : decide ((0 : Int) < ((j + 1 : Nat) : Int)) = true := by simp
        have hw1 : IntKind.i64.wrap (((j + 1 : Nat) : Int) - 1) = (j : Int) := by rw [IntWalk.i64_in _ (by omega)]; omega
        have hjn : j < n := by omega
        by_cases hup : a.id ≤ p.id
        · have HE : Hid (T = (((j + 1 : Nat) : Int), 5)) := Lib.hid (by rw [hst2.out, if_pos (by rw [if_neg (by omega), Nat.add_sub_cancel, hp]; simpa [notUp] using hup)])
          clear hst2 hcs ha hp
          go_wp2_with (go_at_call 91; (with_reducible refine (HC.out _).mono ?_); rintro e w2 ⟨rfl, hb2⟩)
          have hB := HB2.out _ (by simpa using hb2)
          have rw2 := ROW.out _ (by simpa using hb2)
          have q0 : w2.cell? ⟨b, off + j * 6, none⟩ = some (.int .i64 p.id) := (hB.2.cell (p := ⟨b, off + j * 6, none⟩) (Nat.lt_of_lt_of_le hbB hb.size)).trans hp0
          have q1 : w2.cell? ⟨b, off + (j + 1) * 6, none⟩ = some (.int .i64 a.id) := (hB.2.cell (p := ⟨b, off + (j + 1) * 6, none⟩) (Nat.lt_of_lt_of_le hbB hb.size)).trans c0
          unfold Row at rw2
          clear c0 c1 c2 c3 c4 c5 hp0
          go_quiet (fail)
          go_wp2_with fail
          go_ret2
          exact ⟨by rw [HE.out]; rfl, by first | exact hB.1 | exact below_drewN hB.1 _⟩
        · have hst3 := Lib.hid (hst2.out.trans (if_neg (by rw [if_neg (by omega), Nat.add_sub_cancel, hp]; simpa [notUp] using hup)))
          have hup' : p.id < a.id := by omega
          clear hst2 hcs ha hp hup
          go_wp2_with (go_at_call 91; (with_reducible refine (HC.out _).mono ?_); rintro e w2 ⟨rfl, hb2⟩)
          have hB := HB2.out _ (by simpa using hb2)
          have rw2 := ROW.out _ (by simpa using hb2)
          have q0 : w2.cell? ⟨b, off + j * 6, none⟩ = some (.int .i64 p.id) := (hB.2.cell (p := ⟨b, off + j * 6, none⟩) (Nat.lt_of_lt_of_le hbB hb.size)).trans hp0
          have q1 : w2.cell? ⟨b, off + (j + 1) * 6, none⟩ = some (.int .i64 a.id) := (hB.2.cell (p := ⟨b, off + (j + 1) * 6, none⟩) (Nat.lt_of_lt_of_le hbB hb.size)).trans c0
          unfold Row at rw2
          clear c0 c1 c2 c3 c4 c5 hp0
          go_quiet (fail)
          go_wp2_with fail
          go_roundw
          case rel => exact ⟨j + 1 + 1, by omega, by go_num, by first | exact hB.1 | exact below_drewN hB.1 _, hst3⟩
          case measure => simp [intOf]; omega
    · have HE : Hid (T = (-1, 0)) := Lib.hid (by rw [hst.out, List.drop_of_length_le (by rw [← HN.out]; omega)]; rfl)
      go_wp2_with fail
      go_ret2
      exact ⟨by rw [HE.out]; rfl, hb⟩

set_option maxRecDepth 100000 in
set_option maxHeartbeats 2000000 in
theorem rCheck_any (l : List Fl) (A : Option Addr) (c : Nat) (w : World) (hA : Lies w w.heap.size 6 A (l.map Fl.row)) (hl : l.length ≤ 1000000) :
    Calls Try.prog 71 #[.int .i64 32, .slice A l.length c] w fun e w' => e = .returned (.tuple #[.int .i64 (chkF l).1, .int .i64 (chkF l).2]) ∧ Below w.heap.size w w' := by
  obtain ⟨T, hT⟩ : ∃ T, T = chkF l := ⟨_, rfl⟩
  rw [← hT]
  obtain ⟨n, hn⟩ : ∃ n, n = l.length := ⟨_, rfl⟩
  rw [← hn] at hl ⊢
  have hin : inB 32 2 32 = true := by decide
  by_cases h16 : 16 < n
  · have HE : Hid (T = (-1, 8)) := Lib.hid (by rw [hT]; unfold chkF; rw [if_pos (by omega)])
    clear hn hT hA
    go_enter Try.func71, Try.ntmps71
    go_wp2_with (go_at_call 90; (with_reducible refine (fin_any _ _ _ _).mono ?_); rintro e w' ⟨rfl, rfl⟩)
    go_ret2
    exact ⟨by rw [HE.out]; rfl, Below.refl _ _⟩
  have HT : Hid (T = chkGo none 0 l) := Lib.hid (by rw [hT]; unfold chkF; rw [if_neg (by omega)])
  have HN := Lib.hid hn
  clear hn hT
  have h17 : decide ((16 : Int) < (n : Int)) = false := decide_eq_false (by omega)
  go_enter Try.func71, Try.ntmps71
  go_wp2_with (go_at_call 90; (with_reducible refine (fin_any _ _ _ _).mono ?_); rintro e w' ⟨rfl, rfl⟩)
  go_loopw [6] (fun i wr => ∃ (k : Nat), k ≤ n ∧ i = .int .i64 k ∧ Below w.heap.size w wr ∧ Hid (T = chkGo (if k = 0 then none else l[k - 1]?) k (l.drop k))) (fun i _ => n - (intOf i).toNat)
  case atStart => exact ⟨0, Nat.zero_le _, rfl, Below.refl _ _, Lib.hid (by rw [HT.out]; rfl)⟩
  case round =>
    obtain ⟨k, hk, rfl, hb, hst⟩ := hrel
    by_cases hlt : k < n
    · obtain ⟨a, ha⟩ := get_of_lt (l := l) (k := k) (by rw [← HN.out]; exact hlt)
      obtain ⟨b, off, rfl, hbB, hcs⟩ := (Lies.below hA hb).at_ ha
      have Hcs := Lib.hid hcs
      have c0 := hcs k a ha 0 _ rfl
      have c1 := hcs k a ha 1 _ rfl
      have c2 := hcs k a ha 2 _ rfl
      have c3 := hcs k a ha 3 _ rfl
      have c4 := hcs k a ha 4 _ rfl
      have c5 := hcs k a ha 5 _ rfl
      simp only [Nat.add_zero] at c0 c1 c2 c3 c4 c5
      have hst' : Hid (T = if fault a = 0 then (if notUp (if k = 0 then none else l[k - 1]?) a = true then ((k : Int), 5) else chkGo (some a) ((k : Int) + 1) (l.drop (k + 1))) else ((k : Int), fault a)) := Lib.hid (by rw [hst.out, drop_of_get ha]; rfl)
      have hnext : Hid (some a = (if k + 1 = 0 then none else l[k + 1 - 1]?)) := Lib.hid (by rw [if_neg (by omega), Nat.add_sub_cancel, ha])
      have con := fun W => rfault_any a W
      by_cases hf : fault a = 0
      case neg =>
        have HE : Hid (T = ((k : Int), fault a)) := Lib.hid (by rw [hst'.out, if_neg hf])
        generalize fault a = F at *
        have hf' : (F != 0) = true := by simpa using hf
        clear hcs ha hst hst' hnext hf
        go_wp2_with (go_at_call 89; (with_reducible refine (con _).mono ?_); rintro e w2 ⟨rfl, hb2⟩)
        go_ret2
        exact ⟨by rw [HE.out]; rfl, hb.trans (hb2.mono hb.size)⟩
      rw [hf] at con
      have HC := Lib.hid con
      have hst2 : Hid (T = if notUp (if k = 0 then none else l[k - 1]?) a = true then ((k : Int), 5) else chkGo (if k + 1 = 0 then none else l[k + 1 - 1]?) ((k + 1 : Nat) : Int) (l.drop (k + 1))) := Lib.hid (by rw [hst'.out, if_pos hf, ← hnext.out]; rfl)
      clear con hst' hnext hst hf
      have ROW := Lib.hid (fun W (hW : Below (wr.heap.size) wr W) => trivial)
      have HB2 := Lib.hid (fun W (hW : Below (wr.heap.size) wr W) => (show Below w.heap.size w W ∧ Below wr.heap.size wr W from ⟨hb.trans (hW.mono hb.size), hW⟩))
      by_cases hk0 : k = 0
      · subst hk0
        simp only [Nat.zero_mul, Nat.add_zero] at c0 c1 c2 c3 c4 c5
        have hst3 : Hid (T = chkGo (if 0 + 1 = 0 then none else l[0 + 1 - 1]?) ((0 + 1 : Nat) : Int) (l.drop (0 + 1))) := Lib.hid (by rw [hst2.out, if_neg (by simp [notUp])])
        have hd0 : decide ((0 : Int) < ((0 : Nat) : Int)) = false := rfl
        clear hst2 hcs ha
        go_wp2_with (go_at_call 89; (with_reducible refine (HC.out _).mono ?_); rintro e w2 ⟨rfl, hb2⟩)
        have hB := (HB2.out _ (by simpa using hb2)).1
        go_quiet (fail)
        go_wp2_with fail
        go_roundw
        case rel => exact ⟨0 + 1, by omega, by go_num, by first | exact hB | exact below_drewN hB _, hst3⟩
        case measure => simp [intOf]; omega
      · obtain ⟨j, rfl⟩ : ∃ j, k = j + 1 := ⟨k - 1, by omega⟩
        obtain ⟨p, hp⟩ := get_of_lt (l := l) (k := j) (by rw [← HN.out]; omega)
        have hp0 := Hcs.out j p hp 0 _ rfl
        simp only [Nat.add_zero] at hp0
        have hki : decide ((0 : Int) < ((j + 1 : Nat) : Int)) = true := by simp
        have hw1 : IntKind.i64.wrap (((j + 1 : Nat) : Int) - 1) = (j : Int) := by rw [IntWalk.i64_in _ (by omega)]; omega
        have hjn : j < n := by omega
        by_cases hup : a.id ≤ p.id
        · have HE : Hid (T = (((j + 1 : Nat) : Int), 5)) := Lib.hid (by rw [hst2.out, if_pos (by rw [if_neg (by omega), Nat.add_sub_cancel, hp]; simpa [notUp] using hup)])
          clear hst2 hcs ha hp
          go_wp2_with (go_at_call 89; (with_reducible refine (HC.out _).mono ?_); rintro e w2 ⟨rfl, hb2⟩)
          have hB := HB2.out _ (by simpa using hb2)
          have rw2 := ROW.out _ (by simpa using hb2)
          have q0 : w2.cell? ⟨b, off + j * 6, none⟩ = some (.int .i64 p.id) := (hB.2.cell (p := ⟨b, off + j * 6, none⟩) (Nat.lt_of_lt_of_le hbB hb.size)).trans hp0
          have q1 : w2.cell? ⟨b, off + (j + 1) * 6, none⟩ = some (.int .i64 a.id) := (hB.2.cell (p := ⟨b, off + (j + 1) * 6, none⟩) (Nat.lt_of_lt_of_le hbB hb.size)).trans c0
          clear rw2
          clear c0 c1 c2 c3 c4 c5 hp0
          go_quiet (fail)
          go_wp2_with fail
          go_ret2
          exact ⟨by rw [HE.out]; rfl, by first | exact hB.1 | exact below_drewN hB.1 _⟩
        · have hst3 := Lib.hid (hst2.out.trans (if_neg (by rw [if_neg (by omega), Nat.add_sub_cancel, hp]; simpa [notUp] using hup)))
          have hup' : p.id < a.id := by omega
          clear hst2 hcs ha hp hup
          go_wp2_with (go_at_call 89; (with_reducible refine (HC.out _).mono ?_); rintro e w2 ⟨rfl, hb2⟩)
          have hB := HB2.out _ (by simpa using hb2)
          have rw2 := ROW.out _ (by simpa using hb2)
          have q0 : w2.cell? ⟨b, off + j * 6, none⟩ = some (.int .i64 p.id) := (hB.2.cell (p := ⟨b, off + j * 6, none⟩) (Nat.lt_of_lt_of_le hbB hb.size)).trans hp0
          have q1 : w2.cell? ⟨b, off + (j + 1) * 6, none⟩ = some (.int .i64 a.id) := (hB.2.cell (p := ⟨b, off + (j + 1) * 6, none⟩) (Nat.lt_of_lt_of_le hbB hb.size)).trans c0
          clear rw2
          clear c0 c1 c2 c3 c4 c5 hp0
          go_quiet (fail)
          go_wp2_with fail
          go_roundw
          case rel => exact ⟨j + 1 + 1, by omega, by go_num, by first | exact hB.1 | exact below_drewN hB.1 _, hst3⟩
          case measure => simp [intOf]; omega
    · have HE : Hid (T = (-1, 0)) := Lib.hid (by rw [hst.out, List.drop_of_length_le (by rw [← HN.out]; omega)]; rfl)
      go_wp2_with fail
      go_ret2
      exact ⟨by rw [HE.out]; rfl, hb⟩
end Go.Proofs.Ytkdigdnacggknaa

/- Walks: Choose of package node, in general. -/
import Derived.Test.YtepamedbbbfjkaaNodC1
namespace Go.Proofs.Ytepamedbbbfjkaa
open Go.RowKit
open Nd

/-- The number of the error, and what is chosen. -/
def ChRes (fs : List Fl) (l : List Hd) (d : List Du) (ln sl : Int) (I : In) (er : Int) : Prop :=
  (er ≠ 0 ∧ I = In.zero ∧ ¬ (chkH fs l = 0 ∧ 1 ≤ ln ∧ ln ≤ 512 ∧ 0 ≤ sl ∧ sl ≤ 1073741824)) ∨ (er = 0 ∧ chkH fs l = 0 ∧ (1 ≤ ln ∧ ln ≤ 512 ∧ 0 ≤ sl ∧ sl ≤ 1073741824) ∧ ∃ now, now.Perm (d.filter (nowP (sl % ln) sl)) ∧ I = chooseN fs l now)
theorem choose_some {fs : List Fl} {l : List Hd} {now : List Du} {x : Du} (h : now.find? (sends fs l) = some x) : chooseN fs l now = ⟨1, x.cs, x.co, x.cf, x.ct, x.cl, frameOf l x.cl⟩ := by unfold chooseN; rw [h]
theorem choose_list {fs : List Fl} {l : List Hd} {now : List Du} {x : Du} (h : now.find? (sends fs l) = none) (h2 : now.find? (fun x => !x.se) = some x) : chooseN fs l now = ⟨2, x.cs, x.co, x.cf, x.ct, x.cl, 0⟩ := by unfold chooseN; rw [h]; simp only; rw [h2]
theorem choose_none {fs : List Fl} {l : List Hd} {now : List Du} (h : now.find? (sends fs l) = none) (h2 : now.find? (fun x => !x.se) = none) : chooseN fs l now = In.zero := by unfold chooseN; rw [h]; simp only; rw [h2]

set_option maxRecDepth 100000 in
set_option maxHeartbeats 4000000 in
theorem choose_any (fs : List Fl) (l : List Ho) (d : List Du) (A D E : Option Addr) (c cd ce : Nat) (ln sl : Int) (w : World) (hA : Lies w w.heap.size 6 A (fs.map Fl.row)) (hf : fs.length ≤ 1000000) (hD : LiesH w w.heap.size D l) (hl : l.length ≤ 1000000) (hE : Lies w w.heap.size 9 E (d.map Du.row)) (hd : d.length ≤ 1000) :
    Calls Try.prog 19 #[.slice A fs.length c, .slice E d.length ce, .int .i64 ln, .int .i64 sl, .slice D l.length cd] w fun e w' => Below w.heap.size w w' ∧ ∃ (I : In) (er : Int), e = .returned (.tuple #[.agg #[.int .i64 I.ki, .int .i64 I.cs, .int .i64 I.co, .int .i64 I.cf, .int .i64 I.ct, .int .i64 I.cl, .int .i64 I.fr], .int .i64 er]) ∧ ChRes fs (l.map Ho.d) d ln sl I er := by
  obtain ⟨n, hn⟩ : ∃ n, n = l.length := ⟨_, rfl⟩
  obtain ⟨m, hm⟩ : ∃ m, m = fs.length := ⟨_, rfl⟩
  obtain ⟨dn, hdn⟩ : ∃ dn, dn = d.length := ⟨_, rfl⟩
  obtain ⟨N, hN⟩ : ∃ N, N = w.heap.size := ⟨_, rfl⟩
  obtain ⟨W1, hW1⟩ : ∃ W1, W1 = ((w.alloc (.cells #[.slice A m c] 22)).alloc (.cells #[.slice D n cd] 23)).alloc (.cells #[.int .i64 0, .int .i64 0, .int .i64 0, .int .i64 0, .int .i64 0, .int .i64 0, .int .i64 0] 56) := ⟨_, rfl⟩
  have hb1 : Below N w W1 := by rw [hW1, hN]; exact (((Below.refl _ _).alloc (Nat.le_refl _) _).alloc (by simp) _).alloc (by simp; omega) _
  have bF : Blk W1 N 22 [.slice A m c] := by rw [hW1, hN]; exact Blk.alloc (Blk.alloc (Blk.new2 _ [.slice A m c] rfl) _) _
  have bL : Blk W1 (N + 1) 23 [.slice D n cd] := by rw [hW1]; exact Blk.alloc (Blk.new2 _ [.slice D n cd] (by simp [hN])) _
  have bO : Blk W1 (N + 1 + 1) 56 [.int .i64 0, .int .i64 0, .int .i64 0, .int .i64 0, .int .i64 0, .int .i64 0, .int .i64 0] := by rw [hW1]; exact Blk.new2 _ [.int .i64 0, .int .i64 0, .int .i64 0, .int .i64 0, .int .i64 0, .int .i64 0, .int .i64 0] (by simp [hN])
  obtain ⟨M, hM⟩ : ∃ M, M = W1.heap.size := ⟨_, rfl⟩
  have hNM : N + 1 + 1 < M := by rw [hM]; exact bO.lt
  have HW := Lib.hid (fun W (h' : Below M W1 W) => (show Below w.heap.size w W ∧ M ≤ W.heap.size from ⟨by rw [← hN]; exact hb1.trans (h'.mono (by omega)), by rw [hM]; exact h'.size⟩))
  have HA := Lib.hid (fun W (h' : Below M W1 W) => Lies.later hA (HW.out W h').1)
  have HD := Lib.hid (fun W (h' : Below M W1 W) => LiesH.later hD (HW.out W h').1)
  have HB := Lib.hid (fun W (h' : Below M W1 W) => (show Blk W N 22 [.slice A m c] ∧ Blk W (N + 1) 23 [.slice D n cd] ∧ Blk W (N + 1 + 1) 56 [.int .i64 0, .int .i64 0, .int .i64 0, .int .i64 0, .int .i64 0, .int .i64 0, .int .i64 0] from ⟨bF.below h' (by omega), bL.below h' (by omega), bO.below h' (by omega)⟩))
  have HCk := Lib.hid (nCheck_any fs l A D c cd W1 (HA.out _ (Below.refl _ _)) hf (HD.out _ (Below.refl _ _)) hl)
  have HAt := Lib.hid (fun (h1 : 1 ≤ ln) (h2 : ln ≤ 512) (h3 : 0 ≤ sl) (h4 : sl ≤ 1073741824) W (h' : Below M W1 W) => at_any d E ce ln sl W (Lies.later hE (HW.out W h').1) hd h1 h2 h3 h4)
  have HS := Lib.hid (fun (hck : chkH fs (l.map Ho.d) = 0) W (h' : Below M W1 W) x => sends_any fs l x (N + 1) N A D c cd W (HA.out W h') hf (HD.out W h') hl hck (by rw [← hn]; exact (HB.out W h').2.1.row) (by rw [← hm]; exact (HB.out W h').1.row) (HB.out W h').2.1.lt (HB.out W h').1.lt)
  have HFd := Lib.hid (fun (x : Int) W h' => hfind_any l x D cd W (HD.out W h') hl)
  have r1 : Row (((w.alloc (.cells #[.slice A m c] 22)).alloc (.cells #[.slice D n cd] 23)).alloc (.cells #[.int .i64 0, .int .i64 0, .int .i64 0, .int .i64 0, .int .i64 0, .int .i64 0, .int .i64 0] 56)) w.heap.size [.slice A m c] := by rw [← hW1, ← hN]; exact bF.row
  rw [← hn] at HCk HFd hl ⊢
  rw [← hm] at HCk hf ⊢
  rw [← hdn] at HAt hd ⊢
  have HNn := Lib.hid hn
  have HMm := Lib.hid hm
  have HDn := Lib.hid hdn
  have HW1 := Lib.hid hW1
  have HM := Lib.hid hM
  have HN := Lib.hid hN
  clear hA hD hE hb1 hW1 hM bF bL bO hN hn hm hdn
  go_enter Try.func19, Try.ntmps19
  clear r1
  go_wp2_with fail
  rw [← HW1.out, ← HN.out]
  refine HCk.out.mono ?_
  rintro e w2 ⟨rfl, hb2⟩
  rw [← HM.out] at hb2
  clear HCk
  rcases chkH_cases fs (l.map Ho.d) with hck | hck
  case inr =>
    have HCK := Lib.hid hck
    rw [hck]
    clear hck HAt HS HFd
    obtain ⟨_, _, b5⟩ := HB.out _ hb2
    have cb5 := b5.row
    have fb5 := b5.frozen
    unfold Row at cb5
    have b6 := (((((((b5.set_ 0 (.int .i64 0)).set_ 1 (.int .i64 0)).set_ 2 (.int .i64 0)).set_ 3 (.int .i64 0)).set_ 4 (.int .i64 0)).set_ 5 (.int .i64 0)).set_ 6 (.int .i64 0))
    simp only [List.set_cons_zero, List.set_cons_succ] at b6
    have C6 := Lib.hid b6.row
    have HB6 : Hid (Below w.heap.size w (((((((w2.setCell ⟨N + 1 + 1, 0, none⟩ (.int .i64 0)).setCell ⟨N + 1 + 1, 1, none⟩ (.int .i64 0)).setCell ⟨N + 1 + 1, 2, none⟩ (.int .i64 0)).setCell ⟨N + 1 + 1, 3, none⟩ (.int .i64 0)).setCell ⟨N + 1 + 1, 4, none⟩ (.int .i64 0)).setCell ⟨N + 1 + 1, 5, none⟩ (.int .i64 0)).setCell ⟨N + 1 + 1, 6, none⟩ (.int .i64 0))) := Lib.hid ((((((((HW.out _ hb2).1.setCell (p := ⟨N + 1 + 1, 0, none⟩) (by dsimp only; have := HN.out; omega) (.int .i64 0)).setCell (p := ⟨N + 1 + 1, 1, none⟩) (by dsimp only; have := HN.out; omega) (.int .i64 0)).setCell (p := ⟨N + 1 + 1, 2, none⟩) (by dsimp only; have := HN.out; omega) (.int .i64 0)).setCell (p := ⟨N + 1 + 1, 3, none⟩) (by dsimp only; have := HN.out; omega) (.int .i64 0)).setCell (p := ⟨N + 1 + 1, 4, none⟩) (by dsimp only; have := HN.out; omega) (.int .i64 0)).setCell (p := ⟨N + 1 + 1, 5, none⟩) (by dsimp only; have := HN.out; omega) (.int .i64 0)).setCell (p := ⟨N + 1 + 1, 6, none⟩) (by dsimp only; have := HN.out; omega) (.int .i64 0))
    clear b6
    go_wp2_with fail
    have c6 := C6.out
    unfold Row at c6
    refine bodyPost_ret (v := .tuple #[.agg #[.int .i64 0, .int .i64 0, .int .i64 0, .int .i64 0, .int .i64 0, .int .i64 0, .int .i64 0], .int .i64 1]) (by simp [results, Try.results19, go_sem, c6]) rfl ?_
    exact ⟨HB6.out, In.zero, 1, rfl, .inl ⟨by decide, rfl, fun h => by rw [HCK.out] at h; exact absurd h.1 (by decide)⟩⟩
  have HCK := Lib.hid hck
  rw [hck]
  clear hck
  by_cases h1 : 1 ≤ ln
  case neg =>
    have dd : decide (ln < 1) = true := decide_eq_true (by omega)
    clear HAt HS HFd
    obtain ⟨_, _, b5⟩ := HB.out _ hb2
    have cb5 := b5.row
    have fb5 := b5.frozen
    unfold Row at cb5
    have b6 := (((((((b5.set_ 0 (.int .i64 0)).set_ 1 (.int .i64 0)).set_ 2 (.int .i64 0)).set_ 3 (.int .i64 0)).set_ 4 (.int .i64 0)).set_ 5 (.int .i64 0)).set_ 6 (.int .i64 0))
    simp only [List.set_cons_zero, List.set_cons_succ] at b6
    have C6 := Lib.hid b6.row
    have HB6 : Hid (Below w.heap.size w (((((((w2.setCell ⟨N + 1 + 1, 0, none⟩ (.int .i64 0)).setCell ⟨N + 1 + 1, 1, none⟩ (.int .i64 0)).setCell ⟨N + 1 + 1, 2, none⟩ (.int .i64 0)).setCell ⟨N + 1 + 1, 3, none⟩ (.int .i64 0)).setCell ⟨N + 1 + 1, 4, none⟩ (.int .i64 0)).setCell ⟨N + 1 + 1, 5, none⟩ (.int .i64 0)).setCell ⟨N + 1 + 1, 6, none⟩ (.int .i64 0))) := Lib.hid ((((((((HW.out _ hb2).1.setCell (p := ⟨N + 1 + 1, 0, none⟩) (by dsimp only; have := HN.out; omega) (.int .i64 0)).setCell (p := ⟨N + 1 + 1, 1, none⟩) (by dsimp only; have := HN.out; omega) (.int .i64 0)).setCell (p := ⟨N + 1 + 1, 2, none⟩) (by dsimp only; have := HN.out; omega) (.int .i64 0)).setCell (p := ⟨N + 1 + 1, 3, none⟩) (by dsimp only; have := HN.out; omega) (.int .i64 0)).setCell (p := ⟨N + 1 + 1, 4, none⟩) (by dsimp only; have := HN.out; omega) (.int .i64 0)).setCell (p := ⟨N + 1 + 1, 5, none⟩) (by dsimp only; have := HN.out; omega) (.int .i64 0)).setCell (p := ⟨N + 1 + 1, 6, none⟩) (by dsimp only; have := HN.out; omega) (.int .i64 0))
    clear b6
    go_wp2_with fail
    have c6 := C6.out
    unfold Row at c6
    refine bodyPost_ret (v := .tuple #[.agg #[.int .i64 0, .int .i64 0, .int .i64 0, .int .i64 0, .int .i64 0, .int .i64 0, .int .i64 0], .int .i64 2]) (by simp [results, Try.results19, go_sem, c6]) rfl ?_
    exact ⟨HB6.out, In.zero, 2, rfl, .inl ⟨by decide, rfl, fun ⟨_, a1, a2, a3, a4⟩ => by omega⟩⟩
  by_cases h2 : ln ≤ 512
  case neg =>
    have dd : decide (512 < ln) = true := decide_eq_true (by omega)
    have d0 : decide (ln < 1) = false := decide_eq_false (by omega)
    clear HAt HS HFd
    obtain ⟨_, _, b5⟩ := HB.out _ hb2
    have cb5 := b5.row
    have fb5 := b5.frozen
    unfold Row at cb5
    have b6 := (((((((b5.set_ 0 (.int .i64 0)).set_ 1 (.int .i64 0)).set_ 2 (.int .i64 0)).set_ 3 (.int .i64 0)).set_ 4 (.int .i64 0)).set_ 5 (.int .i64 0)).set_ 6 (.int .i64 0))
    simp only [List.set_cons_zero, List.set_cons_succ] at b6
    have C6 := Lib.hid b6.row
    have HB6 : Hid (Below w.heap.size w (((((((w2.setCell ⟨N + 1 + 1, 0, none⟩ (.int .i64 0)).setCell ⟨N + 1 + 1, 1, none⟩ (.int .i64 0)).setCell ⟨N + 1 + 1, 2, none⟩ (.int .i64 0)).setCell ⟨N + 1 + 1, 3, none⟩ (.int .i64 0)).setCell ⟨N + 1 + 1, 4, none⟩ (.int .i64 0)).setCell ⟨N + 1 + 1, 5, none⟩ (.int .i64 0)).setCell ⟨N + 1 + 1, 6, none⟩ (.int .i64 0))) := Lib.hid ((((((((HW.out _ hb2).1.setCell (p := ⟨N + 1 + 1, 0, none⟩) (by dsimp only; have := HN.out; omega) (.int .i64 0)).setCell (p := ⟨N + 1 + 1, 1, none⟩) (by dsimp only; have := HN.out; omega) (.int .i64 0)).setCell (p := ⟨N + 1 + 1, 2, none⟩) (by dsimp only; have := HN.out; omega) (.int .i64 0)).setCell (p := ⟨N + 1 + 1, 3, none⟩) (by dsimp only; have := HN.out; omega) (.int .i64 0)).setCell (p := ⟨N + 1 + 1, 4, none⟩) (by dsimp only; have := HN.out; omega) (.int .i64 0)).setCell (p := ⟨N + 1 + 1, 5, none⟩) (by dsimp only; have := HN.out; omega) (.int .i64 0)).setCell (p := ⟨N + 1 + 1, 6, none⟩) (by dsimp only; have := HN.out; omega) (.int .i64 0))
    clear b6
    go_wp2_with fail
    have c6 := C6.out
    unfold Row at c6
    refine bodyPost_ret (v := .tuple #[.agg #[.int .i64 0, .int .i64 0, .int .i64 0, .int .i64 0, .int .i64 0, .int .i64 0, .int .i64 0], .int .i64 2]) (by simp [results, Try.results19, go_sem, c6]) rfl ?_
    exact ⟨HB6.out, In.zero, 2, rfl, .inl ⟨by decide, rfl, fun ⟨_, a1, a2, a3, a4⟩ => by omega⟩⟩
  by_cases h3 : 0 ≤ sl
  case neg =>
    have dd : decide (sl < 0) = true := decide_eq_true (by omega)
    have d0 : decide (ln < 1) = false := decide_eq_false (by omega)
    have d1 : decide (512 < ln) = false := decide_eq_false (by omega)
    clear HAt HS HFd
    obtain ⟨_, _, b5⟩ := HB.out _ hb2
    have cb5 := b5.row
    have fb5 := b5.frozen
    unfold Row at cb5
    have b6 := (((((((b5.set_ 0 (.int .i64 0)).set_ 1 (.int .i64 0)).set_ 2 (.int .i64 0)).set_ 3 (.int .i64 0)).set_ 4 (.int .i64 0)).set_ 5 (.int .i64 0)).set_ 6 (.int .i64 0))
    simp only [List.set_cons_zero, List.set_cons_succ] at b6
    have C6 := Lib.hid b6.row
    have HB6 : Hid (Below w.heap.size w (((((((w2.setCell ⟨N + 1 + 1, 0, none⟩ (.int .i64 0)).setCell ⟨N + 1 + 1, 1, none⟩ (.int .i64 0)).setCell ⟨N + 1 + 1, 2, none⟩ (.int .i64 0)).setCell ⟨N + 1 + 1, 3, none⟩ (.int .i64 0)).setCell ⟨N + 1 + 1, 4, none⟩ (.int .i64 0)).setCell ⟨N + 1 + 1, 5, none⟩ (.int .i64 0)).setCell ⟨N + 1 + 1, 6, none⟩ (.int .i64 0))) := Lib.hid ((((((((HW.out _ hb2).1.setCell (p := ⟨N + 1 + 1, 0, none⟩) (by dsimp only; have := HN.out; omega) (.int .i64 0)).setCell (p := ⟨N + 1 + 1, 1, none⟩) (by dsimp only; have := HN.out; omega) (.int .i64 0)).setCell (p := ⟨N + 1 + 1, 2, none⟩) (by dsimp only; have := HN.out; omega) (.int .i64 0)).setCell (p := ⟨N + 1 + 1, 3, none⟩) (by dsimp only; have := HN.out; omega) (.int .i64 0)).setCell (p := ⟨N + 1 + 1, 4, none⟩) (by dsimp only; have := HN.out; omega) (.int .i64 0)).setCell (p := ⟨N + 1 + 1, 5, none⟩) (by dsimp only; have := HN.out; omega) (.int .i64 0)).setCell (p := ⟨N + 1 + 1, 6, none⟩) (by dsimp only; have := HN.out; omega) (.int .i64 0))
    clear b6
    go_wp2_with fail
    have c6 := C6.out
    unfold Row at c6
    refine bodyPost_ret (v := .tuple #[.agg #[.int .i64 0, .int .i64 0, .int .i64 0, .int .i64 0, .int .i64 0, .int .i64 0, .int .i64 0], .int .i64 2]) (by simp [results, Try.results19, go_sem, c6]) rfl ?_
    exact ⟨HB6.out, In.zero, 2, rfl, .inl ⟨by decide, rfl, fun ⟨_, a1, a2, a3, a4⟩ => by omega⟩⟩
  by_cases h4 : sl ≤ 1073741824
  case neg =>
    have dd : decide (1073741824 < sl) = true := decide_eq_true (by omega)
    have d0 : decide (ln < 1) = false := decide_eq_false (by omega)
    have d1 : decide (512 < ln) = false := decide_eq_false (by omega)
    have d2 : decide (sl < 0) = false := decide_eq_false (by omega)
    clear HAt HS HFd
    obtain ⟨_, _, b5⟩ := HB.out _ hb2
    have cb5 := b5.row
    have fb5 := b5.frozen
    unfold Row at cb5
    have b6 := (((((((b5.set_ 0 (.int .i64 0)).set_ 1 (.int .i64 0)).set_ 2 (.int .i64 0)).set_ 3 (.int .i64 0)).set_ 4 (.int .i64 0)).set_ 5 (.int .i64 0)).set_ 6 (.int .i64 0))
    simp only [List.set_cons_zero, List.set_cons_succ] at b6
    have C6 := Lib.hid b6.row
    have HB6 : Hid (Below w.heap.size w (((((((w2.setCell ⟨N + 1 + 1, 0, none⟩ (.int .i64 0)).setCell ⟨N + 1 + 1, 1, none⟩ (.int .i64 0)).setCell ⟨N + 1 + 1, 2, none⟩ (.int .i64 0)).setCell ⟨N + 1 + 1, 3, none⟩ (.int .i64 0)).setCell ⟨N + 1 + 1, 4, none⟩ (.int .i64 0)).setCell ⟨N + 1 + 1, 5, none⟩ (.int .i64 0)).setCell ⟨N + 1 + 1, 6, none⟩ (.int .i64 0))) := Lib.hid ((((((((HW.out _ hb2).1.setCell (p := ⟨N + 1 + 1, 0, none⟩) (by dsimp only; have := HN.out; omega) (.int .i64 0)).setCell (p := ⟨N + 1 + 1, 1, none⟩) (by dsimp only; have := HN.out; omega) (.int .i64 0)).setCell (p := ⟨N + 1 + 1, 2, none⟩) (by dsimp only; have := HN.out; omega) (.int .i64 0)).setCell (p := ⟨N + 1 + 1, 3, none⟩) (by dsimp only; have := HN.out; omega) (.int .i64 0)).setCell (p := ⟨N + 1 + 1, 4, none⟩) (by dsimp only; have := HN.out; omega) (.int .i64 0)).setCell (p := ⟨N + 1 + 1, 5, none⟩) (by dsimp only; have := HN.out; omega) (.int .i64 0)).setCell (p := ⟨N + 1 + 1, 6, none⟩) (by dsimp only; have := HN.out; omega) (.int .i64 0))
    clear b6
    go_wp2_with fail
    have c6 := C6.out
    unfold Row at c6
    refine bodyPost_ret (v := .tuple #[.agg #[.int .i64 0, .int .i64 0, .int .i64 0, .int .i64 0, .int .i64 0, .int .i64 0, .int .i64 0], .int .i64 2]) (by simp [results, Try.results19, go_sem, c6]) rfl ?_
    exact ⟨HB6.out, In.zero, 2, rfl, .inl ⟨by decide, rfl, fun ⟨_, a1, a2, a3, a4⟩ => by omega⟩⟩
  have d0 : decide (ln < 1) = false := decide_eq_false (by omega)
  have d1 : decide (512 < ln) = false := decide_eq_false (by omega)
  have d2 : decide (sl < 0) = false := decide_eq_false (by omega)
  have d3 : decide (1073741824 < sl) = false := decide_eq_false (by omega)
  have HAt := Lib.hid (HAt.out h1 h2 h3 h4)
  have HS := Lib.hid (HS.out HCK.out)
  have HRg := Lib.hid (show 1 ≤ ln ∧ ln ≤ 512 ∧ 0 ≤ sl ∧ sl ≤ 1073741824 from ⟨h1, h2, h3, h4⟩)
  clear h1 h2 h3 h4
  go_wp2_with fail
  refine (HAt.out _ hb2).mono ?_
  rintro e w3 ⟨hb3, L, A3, c3, rfl, hperm, hL3⟩
  have hB3 : Below M W1 w3 := hb2.trans (hb3.mono (HW.out _ hb2).2)
  have hLl : L.length ≤ 1000 := by rw [hperm.length_eq]; exact Nat.le_trans (List.length_filter_le _ _) (by rw [← HDn.out]; exact hd)
  have HPm := Lib.hid hperm
  have HL3 := Lib.hid hL3
  have con := indexD_any (sends fs (l.map Ho.d)) 45 #[.pointer (some ⟨N + 1, 0, none⟩), .pointer (some ⟨N, 0, none⟩)] L A3 c3 w3 (enters_of Try.func45 (by kernel_rfl) rfl) hL3 (by omega) (fun W hW a ha => HS.out W (hB3.trans (hW.mono (HW.out _ hB3).2)) a)
  have con2 := fun W hW => indexD_any (fun d => !d.se) 47 #[] L A3 c3 W (enters_of Try.func47 (by kernel_rfl) rfl) (Lies.later hL3 hW) (by omega) (fun W hW a ha => choose2_any a W)
  obtain ⟨nl, hnl⟩ : ∃ nl, nl = L.length := ⟨_, rfl⟩
  have HNl := Lib.hid hnl
  have hnl1 : nl ≤ 1000 := by rw [hnl]; exact hLl
  rw [← hnl] at con con2 ⊢
  have Con2 := Lib.hid con2
  clear hnl hLl hb3 hL3 hperm HAt hb2 con2 hf hl hd HS d0 d1 d2 d3
  rcases idx_find (sends fs (l.map Ho.d)) L with ⟨hT, hfn⟩ | ⟨i, x, hi, hsx, hT, hfs⟩
  case inr =>
    rw [hT] at con
    have Con := Lib.hid con
    have hin : i < nl := by rw [HNl.out]; exact (List.getElem?_eq_some_iff.1 hi).1
    have hi0 : decide ((0 : Int) ≤ (i : Int)) = true := decide_eq_true (by omega)
    obtain ⟨b3, o3, hA3, hb3B, hcs3⟩ := HL3.out.at_ hi
    obtain ⟨hse, hd9, fl9, hf9, _, _, _⟩ := sends_inv hsx
    obtain ⟨k, h, hk, hkT⟩ : ∃ (k : Nat) (h : Ho), l[k]? = some h ∧ findH (l.map Ho.d) x.cl = (k : Int) := by
      rcases findH_cases l x.cl with h | h
      · rw [find_none_d h] at hf9; cases hf9
      · exact h
    have hfr : frameOf (l.map Ho.d) x.cl = h.fr := by unfold frameOf; rw [(find_map_d l x.cl hk hkT).1]; rfl
    have hkn : k < n := by rw [HNn.out]; exact (List.getElem?_eq_some_iff.1 hk).1
    obtain ⟨hb_, hoff_, hDe, hbB, hcs⟩ := (HD.out _ (Below.refl _ _)).1.at_ (k := k) (a := h) hk
    have c1 := hcs k h hk 1 _ rfl
    rw [← HM.out] at hbB
    have HFd := Lib.hid (fun W h' => (by have := HFd.out x.cl W h'; rw [hkT] at this; exact this : Calls Try.prog 31 #[.slice D n cd, .int .i64 x.cl] W fun e w' => e = .returned (.int .i64 (k : Int)) ∧ Below W.heap.size W w'))
    have HRES : Hid (chooseN fs (l.map Ho.d) L = ⟨1, x.cs, x.co, x.cf, x.ct, x.cl, h.fr⟩) := Lib.hid (by rw [choose_some hfs, hfr])
    have HC3 := Lib.hid (hcs3 i x hi)
    subst hDe hA3
    clear con hT hi hsx hfs hcs3 hse hf9 hk hkT hfr hcs HL3 Con2
    go_wp2_with fail
    refine Con.out.mono ?_
    rintro e w4 ⟨rfl, hb4⟩
    have hB4 : Below M W1 w4 := hB3.trans (hb4.mono (HW.out _ hB3).2)
    obtain ⟨_, b2, b3'⟩ := HB.out _ hB4
    have hg4 : b3 < w4.heap.size := Nat.lt_of_lt_of_le hb3B hb4.size
    have HR4 := Lib.hid (fun j u hu => (hb4.cell (p := ⟨b3, o3 + i * 9 + j, none⟩) hb3B).trans (HC3.out j u hu))
    clear Con HC3
    go_wp2_with fail
    have hB4d : Below M W1 w4.drew := hB4.drew
    have xL : ∀ (x : ExtW w4.heap.size w4.drew) (i : Nat), x.val.cell? ⟨N + 1, i, none⟩ = _ := (Row.drew b2.row).ext b2.lt
    have x0 : ∀ (x' : ExtW w4.heap.size w4.drew), x'.val.cell? ⟨b3, o3 + i * 9, none⟩ = some (.int .i64 x.cs) := fun x' => (x'.cell _ hg4).trans (HR4.out 0 _ rfl)
    have x1 : ∀ (x' : ExtW w4.heap.size w4.drew), x'.val.cell? ⟨b3, o3 + i * 9 + 1, none⟩ = some (.int .i64 x.co) := fun x' => (x'.cell _ hg4).trans (HR4.out 1 _ rfl)
    have x2 : ∀ (x' : ExtW w4.heap.size w4.drew), x'.val.cell? ⟨b3, o3 + i * 9 + 2, none⟩ = some (.int .i64 x.cf) := fun x' => (x'.cell _ hg4).trans (HR4.out 2 _ rfl)
    have x3 : ∀ (x' : ExtW w4.heap.size w4.drew), x'.val.cell? ⟨b3, o3 + i * 9 + 3, none⟩ = some (.int .i64 x.ct) := fun x' => (x'.cell _ hg4).trans (HR4.out 3 _ rfl)
    have x4 : ∀ (x' : ExtW w4.heap.size w4.drew), x'.val.cell? ⟨b3, o3 + i * 9 + 4, none⟩ = some (.int .i64 x.cl) := fun x' => (x'.cell _ hg4).trans (HR4.out 4 _ rfl)
    have hhb : hb_ < w4.heap.size := Nat.lt_of_lt_of_le hbB (HW.out _ hB4).2
    have xh : ∀ (x' : ExtW w4.heap.size w4.drew), x'.val.cell? ⟨hb_, hoff_ + k * 3 + 1, none⟩ = some (.int .i64 h.fr) := fun x' => (x'.cell _ hhb).trans ((hB4.cell (p := ⟨hb_, hoff_ + k * 3 + 1, none⟩) hbB).trans c1)
    refine wp_region_rough (w4.heap.size) 20 [18] #[false, false, false, false, false, false, false, false, false, false, false, false, false, false, false, false, false, false, false, false] (by kernel_rfl) rfl rfl ?_
    refine anyR_take0 0 _ (nth0) rfl (by kernel_rfl) (by kernel_rfl) (by kernel_rfl) (l' := #[true, false, false, false, false, false, false, false, false, false, false, false, false, false, false, false, false, false, false, false]) rfl rfl ?_; intro K hK; go_big_quiet_op; go_big_quiet_on
    refine anyR_take0 1 _ (nthS (nth0)) rfl (by kernel_rfl) (by kernel_rfl) (by kernel_rfl) (l' := #[true, true, false, false, false, false, false, false, false, false, false, false, false, false, false, false, false, false, false, false]) rfl rfl ?_; intro K hK; go_big_quiet_op; go_big_quiet_on
    refine anyR_take0 2 _ (nthS (nthS (nth0))) rfl (by kernel_rfl) (by kernel_rfl) (by kernel_rfl) (l' := #[true, true, true, false, false, false, false, false, false, false, false, false, false, false, false, false, false, false, false, false]) rfl rfl ?_; intro K hK; go_big_quiet_op; go_big_quiet_on
    refine anyR_take0 3 _ (nthS (nthS (nthS (nth0)))) rfl (by kernel_rfl) (by kernel_rfl) (by kernel_rfl) (l' := #[true, true, true, true, false, false, false, false, false, false, false, false, false, false, false, false, false, false, false, false]) rfl rfl ?_; intro K hK; go_big_quiet_op; go_big_quiet_on
    refine anyR_take 4 _ (nthS (nthS (nthS (nthS (nth0))))) rfl (by kernel_rfl) (by kernel_rfl) (by kernel_rfl) (by kernel_rfl) (l' := #[true, true, true, true, true, false, false, false, false, false, false, false, false, false, false, false, false, false, false, false]) rfl rfl ?_; intro K hK; go_big_quiet_op; go_big_quiet_on
    refine anyR_take 5 _ (nthS (nthS (nthS (nthS (nthS (nth0)))))) rfl (by kernel_rfl) (by kernel_rfl) (by kernel_rfl) (by kernel_rfl) (l' := #[true, true, true, true, true, true, false, false, false, false, false, false, false, false, false, false, false, false, false, false]) rfl rfl ?_; intro K hK; go_big_quiet_op; go_big_quiet_on
    refine anyR_take 6 _ (nthS (nthS (nthS (nthS (nthS (nthS (nth0))))))) rfl (by kernel_rfl) (by kernel_rfl) (by kernel_rfl) (by kernel_rfl) (l' := #[true, true, true, true, true, true, true, false, false, false, false, false, false, false, false, false, false, false, false, false]) rfl rfl ?_; intro K hK; go_big_quiet_op; go_big_quiet_on
    refine anyR_take0 7 _ (nthS (nthS (nthS (nthS (nthS (nthS (nthS (nth0)))))))) rfl (by kernel_rfl) (by kernel_rfl) (by kernel_rfl) (l' := #[true, true, true, true, true, true, true, true, false, false, false, false, false, false, false, false, false, false, false, false]) rfl rfl ?_; intro K hK; go_big_quiet_op; go_big_quiet_on
    refine anyR_take0 8 _ (nthS (nthS (nthS (nthS (nthS (nthS (nthS (nthS (nth0))))))))) rfl (by kernel_rfl) (by kernel_rfl) (by kernel_rfl) (l' := #[true, true, true, true, true, true, true, true, true, false, false, false, false, false, false, false, false, false, false, false]) rfl rfl ?_; intro K hK; go_big_quiet_op; go_big_quiet_on
    refine anyR_take0 9 _ (nthS (nthS (nthS (nthS (nthS (nthS (nthS (nthS (nthS (nth0)))))))))) rfl (by kernel_rfl) (by kernel_rfl) (by kernel_rfl) (l' := #[true, true, true, true, true, true, true, true, true, true, false, false, false, false, false, false, false, false, false, false]) rfl rfl ?_; intro K hK; go_big_quiet_op; go_big_quiet_on
    refine anyR_take0 10 _ (nthS (nthS (nthS (nthS (nthS (nthS (nthS (nthS (nthS (nthS (nth0))))))))))) rfl (by kernel_rfl) (by kernel_rfl) (by kernel_rfl) (l' := #[true, true, true, true, true, true, true, true, true, true, true, false, false, false, false, false, false, false, false, false]) rfl rfl ?_; intro K hK; go_big_quiet_op; go_big_quiet_on
    refine anyR_take0 11 _ (nthS (nthS (nthS (nthS (nthS (nthS (nthS (nthS (nthS (nthS (nthS (nth0)))))))))))) rfl (by kernel_rfl) (by kernel_rfl) (by kernel_rfl) (l' := #[true, true, true, true, true, true, true, true, true, true, true, true, false, false, false, false, false, false, false, false]) rfl rfl ?_; intro K hK; go_big_quiet_op; go_big_quiet_on
    refine anyR_take 12 _ (nthS (nthS (nthS (nthS (nthS (nthS (nthS (nthS (nthS (nthS (nthS (nthS (nth0))))))))))))) rfl (by kernel_rfl) (by kernel_rfl) (by kernel_rfl) (by kernel_rfl) (l' := #[true, true, true, true, true, true, true, true, true, true, true, true, true, false, false, false, false, false, false, false]) rfl rfl ?_; intro K hK; go_big_quiet_op; go_big_quiet_on
    refine anyR_one 13 _ (nthS (nthS (nthS (nthS (nthS (nthS (nthS (nthS (nthS (nthS (nthS (nthS (nthS (nth0)))))))))))))) (by kernel_rfl) (l' := #[true, true, true, true, true, true, true, true, true, true, true, true, true, true, false, false, false, false, false, false]) rfl ?_
    clear xL x0 x1 x2 x3 x4
    go_wp2_with fail
    refine (HFd.out _ hB4d).mono ?_
    rintro e w5 ⟨rfl, hb5⟩
    have hB5 : Below M W1 w5 := hB4d.trans (hb5.mono (HW.out _ hB4d).2)
    have th : w5.cell? ⟨hb_, hoff_ + k * 3 + 1, none⟩ = some (.int .i64 h.fr) := (hB5.cell (p := ⟨hb_, hoff_ + k * 3 + 1, none⟩) hbB).trans c1
    have yh : ∀ (x' : ExtW w4.heap.size w5), x'.val.cell? ⟨hb_, hoff_ + k * 3 + 1, none⟩ = some (.int .i64 h.fr) := fun x' => (x'.cell _ hhb).trans th
    clear xh
    go_wp2_with fail
    refine OneR_mk (hb5) ?_
    refine anyR_take0 14 _ (nthS (nthS (nthS (nthS (nthS (nthS (nthS (nthS (nthS (nthS (nthS (nthS (nthS (nthS (nth0))))))))))))))) rfl (by kernel_rfl) (by kernel_rfl) (by kernel_rfl) (l' := #[true, true, true, true, true, true, true, true, true, true, true, true, true, true, true, false, false, false, false, false]) rfl rfl ?_; intro K hK; go_big_quiet_op; go_big_quiet_on
    refine anyR_take0 15 _ (nthS (nthS (nthS (nthS (nthS (nthS (nthS (nthS (nthS (nthS (nthS (nthS (nthS (nthS (nthS (nth0)))))))))))))))) rfl (by kernel_rfl) (by kernel_rfl) (by kernel_rfl) (l' := #[true, true, true, true, true, true, true, true, true, true, true, true, true, true, true, true, false, false, false, false]) rfl rfl ?_; intro K hK; go_big_quiet_op; go_big_quiet_on
    refine anyR_take 16 _ (nthS (nthS (nthS (nthS (nthS (nthS (nthS (nthS (nthS (nthS (nthS (nthS (nthS (nthS (nthS (nthS (nth0))))))))))))))))) rfl (by kernel_rfl) (by kernel_rfl) (by kernel_rfl) (by kernel_rfl) (l' := #[true, true, true, true, true, true, true, true, true, true, true, true, true, true, true, true, true, false, false, false]) rfl rfl ?_; intro K hK; go_big_quiet_op; go_big_quiet_on
    refine anyR_take0 17 _ (nthS (nthS (nthS (nthS (nthS (nthS (nthS (nthS (nthS (nthS (nthS (nthS (nthS (nthS (nthS (nthS (nthS (nth0)))))))))))))))))) rfl (by kernel_rfl) (by kernel_rfl) (by kernel_rfl) (l' := #[true, true, true, true, true, true, true, true, true, true, true, true, true, true, true, true, true, true, false, false]) rfl rfl ?_; intro K hK; go_big_quiet_op; go_big_quiet_on
    refine anyR_one 18 _ (nthS (nthS (nthS (nthS (nthS (nthS (nthS (nthS (nthS (nthS (nthS (nthS (nthS (nthS (nthS (nthS (nthS (nthS (nth0))))))))))))))))))) (by kernel_rfl) (l' := #[true, true, true, true, true, true, true, true, true, true, true, true, true, true, true, true, true, true, true, false]) rfl ?_
    obtain ⟨_, _, b5⟩ := HB.out _ hB5
    have cb5 := b5.row
    have fb5 := b5.frozen
    unfold Row at cb5
    have b6 := (((((((b5.set_ 0 (.int .i64 1)).set_ 1 (.int .i64 x.cs)).set_ 2 (.int .i64 x.co)).set_ 3 (.int .i64 x.cf)).set_ 4 (.int .i64 x.ct)).set_ 5 (.int .i64 x.cl)).set_ 6 (.int .i64 h.fr))
    simp only [List.set_cons_zero, List.set_cons_succ] at b6
    have C6 := Lib.hid b6.row
    clear b6
    go_wp2_with fail
    generalize hW6 : World.setCell _ _ _ = W6
    have hbe : Below 0 w5 W6 := by rw [← hW6]; exact ((((((((Below.refl 0 w5).setCell (p := ⟨N + 1 + 1, 0, none⟩) (Nat.zero_le _) (.int .i64 1)).setCell (p := ⟨N + 1 + 1, 1, none⟩) (Nat.zero_le _) (.int .i64 x.cs)).setCell (p := ⟨N + 1 + 1, 2, none⟩) (Nat.zero_le _) (.int .i64 x.co)).setCell (p := ⟨N + 1 + 1, 3, none⟩) (Nat.zero_le _) (.int .i64 x.cf)).setCell (p := ⟨N + 1 + 1, 4, none⟩) (Nat.zero_le _) (.int .i64 x.ct)).setCell (p := ⟨N + 1 + 1, 5, none⟩) (Nat.zero_le _) (.int .i64 x.cl)).setCell (p := ⟨N + 1 + 1, 6, none⟩) (Nat.zero_le _) (.int .i64 h.fr))
    have HB6 : Hid (Below w.heap.size w W6) := Lib.hid (by rw [← hW6]; exact ((((((((HW.out _ hB5).1.setCell (p := ⟨N + 1 + 1, 0, none⟩) (by dsimp only; have := HN.out; omega) (.int .i64 1)).setCell (p := ⟨N + 1 + 1, 1, none⟩) (by dsimp only; have := HN.out; omega) (.int .i64 x.cs)).setCell (p := ⟨N + 1 + 1, 2, none⟩) (by dsimp only; have := HN.out; omega) (.int .i64 x.co)).setCell (p := ⟨N + 1 + 1, 3, none⟩) (by dsimp only; have := HN.out; omega) (.int .i64 x.cf)).setCell (p := ⟨N + 1 + 1, 4, none⟩) (by dsimp only; have := HN.out; omega) (.int .i64 x.ct)).setCell (p := ⟨N + 1 + 1, 5, none⟩) (by dsimp only; have := HN.out; omega) (.int .i64 x.cl)).setCell (p := ⟨N + 1 + 1, 6, none⟩) (by dsimp only; have := HN.out; omega) (.int .i64 h.fr)))
    have C7 : Hid (Row W6 (N + 1 + 1) [.int .i64 1, .int .i64 x.cs, .int .i64 x.co, .int .i64 x.cf, .int .i64 x.ct, .int .i64 x.cl, .int .i64 h.fr]) := Lib.hid (by rw [← hW6]; exact C6.out)
    clear hW6 C6 cb5 fb5
    refine OneR_rough (by kernel_rfl) (hbe) ?_
    refine anyR_take0 19 _ (nthS (nthS (nthS (nthS (nthS (nthS (nthS (nthS (nthS (nthS (nthS (nthS (nthS (nthS (nthS (nthS (nthS (nthS (nthS (nth0)))))))))))))))))))) rfl (by kernel_rfl) (by kernel_rfl) (by kernel_rfl) (l' := #[true, true, true, true, true, true, true, true, true, true, true, true, true, true, true, true, true, true, true, true]) rfl rfl ?_; intro K hK; go_big_quiet_op; go_big_quiet_on
    refine anyR_end (by kernel_rfl) ?_
    go_wp2_with fail
    have c6 := C7.out
    unfold Row at c6
    refine bodyPost_ret (v := .tuple #[.agg #[.int .i64 1, .int .i64 x.cs, .int .i64 x.co, .int .i64 x.cf, .int .i64 x.ct, .int .i64 x.cl, .int .i64 h.fr], .int .i64 0]) (by simp [results, Try.results19, go_sem, c6]) rfl ?_
    exact ⟨HB6.out, ⟨1, x.cs, x.co, x.cf, x.ct, x.cl, h.fr⟩, 0, rfl, .inr ⟨rfl, HCK.out, HRg.out, L, HPm.out, HRES.out.symm⟩⟩
  rw [hT] at con
  have Con := Lib.hid con
  clear con hT HFd
  go_wp2_with fail
  refine Con.out.mono ?_
  rintro e w4 ⟨rfl, hb4⟩
  have hB4 : Below M W1 w4 := hB3.trans (hb4.mono (HW.out _ hB3).2)
  clear Con
  rcases idx_find (fun d : Du => !d.se) L with ⟨hT, hfn2⟩ | ⟨i, x, hi, hsx, hT, hfs⟩
  case inl =>
    have Con2 := Lib.hid (by have := Con2.out w4 hb4; rw [hT] at this; exact this : Calls Try.prog 46 #[.slice A3 nl c3, .func (.func 47) #[] #[]] w4 fun e w' => e = .returned (.int .i64 (-1)) ∧ Below w4.heap.size w4 w')
    have HRES : Hid (chooseN fs (l.map Ho.d) L = In.zero) := Lib.hid (choose_none hfn hfn2)
    clear hT hfn hfn2
    go_wp2_with fail
    refine Con2.out.mono ?_
    rintro e w5 ⟨rfl, hb5⟩
    have hB5 : Below M W1 w5 := hB4.trans (hb5.mono (HW.out _ hB4).2)
    clear Con2
    obtain ⟨_, _, b5⟩ := HB.out _ hB5
    have cb5 := b5.row
    have fb5 := b5.frozen
    unfold Row at cb5
    have b6 := (((((((b5.set_ 0 (.int .i64 0)).set_ 1 (.int .i64 0)).set_ 2 (.int .i64 0)).set_ 3 (.int .i64 0)).set_ 4 (.int .i64 0)).set_ 5 (.int .i64 0)).set_ 6 (.int .i64 0))
    simp only [List.set_cons_zero, List.set_cons_succ] at b6
    have C6 := Lib.hid b6.row
    have HB6 : Hid (Below w.heap.size w (((((((w5.setCell ⟨N + 1 + 1, 0, none⟩ (.int .i64 0)).setCell ⟨N + 1 + 1, 1, none⟩ (.int .i64 0)).setCell ⟨N + 1 + 1, 2, none⟩ (.int .i64 0)).setCell ⟨N + 1 + 1, 3, none⟩ (.int .i64 0)).setCell ⟨N + 1 + 1, 4, none⟩ (.int .i64 0)).setCell ⟨N + 1 + 1, 5, none⟩ (.int .i64 0)).setCell ⟨N + 1 + 1, 6, none⟩ (.int .i64 0))) := Lib.hid ((((((((HW.out _ hB5).1.setCell (p := ⟨N + 1 + 1, 0, none⟩) (by dsimp only; have := HN.out; omega) (.int .i64 0)).setCell (p := ⟨N + 1 + 1, 1, none⟩) (by dsimp only; have := HN.out; omega) (.int .i64 0)).setCell (p := ⟨N + 1 + 1, 2, none⟩) (by dsimp only; have := HN.out; omega) (.int .i64 0)).setCell (p := ⟨N + 1 + 1, 3, none⟩) (by dsimp only; have := HN.out; omega) (.int .i64 0)).setCell (p := ⟨N + 1 + 1, 4, none⟩) (by dsimp only; have := HN.out; omega) (.int .i64 0)).setCell (p := ⟨N + 1 + 1, 5, none⟩) (by dsimp only; have := HN.out; omega) (.int .i64 0)).setCell (p := ⟨N + 1 + 1, 6, none⟩) (by dsimp only; have := HN.out; omega) (.int .i64 0))
    clear b6
    go_wp2_with fail
    have c6 := C6.out
    unfold Row at c6
    refine bodyPost_ret (v := .tuple #[.agg #[.int .i64 0, .int .i64 0, .int .i64 0, .int .i64 0, .int .i64 0, .int .i64 0, .int .i64 0], .int .i64 0]) (by simp [results, Try.results19, go_sem, c6]) rfl ?_
    exact ⟨HB6.out, In.zero, 0, rfl, .inr ⟨rfl, HCK.out, HRg.out, L, HPm.out, HRES.out.symm⟩⟩
  have Con2 := Lib.hid (by have := Con2.out w4 hb4; rw [hT] at this; exact this : Calls Try.prog 46 #[.slice A3 nl c3, .func (.func 47) #[] #[]] w4 fun e w' => e = .returned (.int .i64 (i : Int)) ∧ Below w4.heap.size w4 w')
  have HRES : Hid (chooseN fs (l.map Ho.d) L = ⟨2, x.cs, x.co, x.cf, x.ct, x.cl, 0⟩) := Lib.hid (choose_list hfn hfs)
  have hin : i < nl := by rw [HNl.out]; exact (List.getElem?_eq_some_iff.1 hi).1
  have hi0 : decide ((0 : Int) ≤ (i : Int)) = true := decide_eq_true (by omega)
  obtain ⟨b3, o3, hA3, hb3B, hcs3⟩ := HL3.out.at_ hi
  have HC3 := Lib.hid (hcs3 i x hi)
  subst hA3
  clear hT hfn hsx hfs hi hcs3 HL3
  go_wp2_with fail
  refine Con2.out.mono ?_
  rintro e w5 ⟨rfl, hb5⟩
  have hB5 : Below M W1 w5 := hB4.trans (hb5.mono (HW.out _ hB4).2)
  have hb35 := hb4.trans (hb5.mono hb4.size)
  have y0 := (hb35.cell (p := ⟨b3, o3 + i * 9, none⟩) hb3B).trans (HC3.out 0 _ rfl)
  have y1 := (hb35.cell (p := ⟨b3, o3 + i * 9 + 1, none⟩) hb3B).trans (HC3.out 1 _ rfl)
  have y2 := (hb35.cell (p := ⟨b3, o3 + i * 9 + 2, none⟩) hb3B).trans (HC3.out 2 _ rfl)
  have y3 := (hb35.cell (p := ⟨b3, o3 + i * 9 + 3, none⟩) hb3B).trans (HC3.out 3 _ rfl)
  have y4 := (hb35.cell (p := ⟨b3, o3 + i * 9 + 4, none⟩) hb3B).trans (HC3.out 4 _ rfl)
  clear Con2 HC3
  obtain ⟨_, _, b5⟩ := HB.out _ hB5
  have cb5 := b5.row
  have fb5 := b5.frozen
  unfold Row at cb5
  have b6 := (((((((b5.set_ 0 (.int .i64 2)).set_ 1 (.int .i64 x.cs)).set_ 2 (.int .i64 x.co)).set_ 3 (.int .i64 x.cf)).set_ 4 (.int .i64 x.ct)).set_ 5 (.int .i64 x.cl)).set_ 6 (.int .i64 0))
  simp only [List.set_cons_zero, List.set_cons_succ] at b6
  have C6 := Lib.hid b6.row
  have HB6 : Hid (Below w.heap.size w (((((((w5.setCell ⟨N + 1 + 1, 0, none⟩ (.int .i64 2)).setCell ⟨N + 1 + 1, 1, none⟩ (.int .i64 x.cs)).setCell ⟨N + 1 + 1, 2, none⟩ (.int .i64 x.co)).setCell ⟨N + 1 + 1, 3, none⟩ (.int .i64 x.cf)).setCell ⟨N + 1 + 1, 4, none⟩ (.int .i64 x.ct)).setCell ⟨N + 1 + 1, 5, none⟩ (.int .i64 x.cl)).setCell ⟨N + 1 + 1, 6, none⟩ (.int .i64 0))) := Lib.hid ((((((((HW.out _ hB5).1.setCell (p := ⟨N + 1 + 1, 0, none⟩) (by dsimp only; have := HN.out; omega) (.int .i64 2)).setCell (p := ⟨N + 1 + 1, 1, none⟩) (by dsimp only; have := HN.out; omega) (.int .i64 x.cs)).setCell (p := ⟨N + 1 + 1, 2, none⟩) (by dsimp only; have := HN.out; omega) (.int .i64 x.co)).setCell (p := ⟨N + 1 + 1, 3, none⟩) (by dsimp only; have := HN.out; omega) (.int .i64 x.cf)).setCell (p := ⟨N + 1 + 1, 4, none⟩) (by dsimp only; have := HN.out; omega) (.int .i64 x.ct)).setCell (p := ⟨N + 1 + 1, 5, none⟩) (by dsimp only; have := HN.out; omega) (.int .i64 x.cl)).setCell (p := ⟨N + 1 + 1, 6, none⟩) (by dsimp only; have := HN.out; omega) (.int .i64 0))
  clear b6
  go_wp2_with fail
  have c6 := C6.out
  unfold Row at c6
  refine bodyPost_ret (v := .tuple #[.agg #[.int .i64 2, .int .i64 x.cs, .int .i64 x.co, .int .i64 x.cf, .int .i64 x.ct, .int .i64 x.cl, .int .i64 0], .int .i64 0]) (by simp [results, Try.results19, go_sem, c6]) rfl ?_
  exact ⟨HB6.out, ⟨2, x.cs, x.co, x.cf, x.ct, x.cl, 0⟩, 0, rfl, .inr ⟨rfl, HCK.out, HRg.out, L, HPm.out, HRES.out.symm⟩⟩
end Go.Proofs.Ytepamedbbbfjkaa

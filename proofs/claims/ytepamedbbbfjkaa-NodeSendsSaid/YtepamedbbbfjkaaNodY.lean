/- Walks for the example of the node layer: Choose. -/
import Derived.Test.YtepamedbbbfjkaaNodX
namespace Go.Proofs.Ytepamedbbbfjkaa
open Go.RowKit
open Nd
structure Du where
  (cs co cf ct cl : Int) (se ex : Bool) (fi un : Int)
def Du.row (d : Du) : List Value := [.int .i64 d.cs, .int .i64 d.co, .int .i64 d.cf, .int .i64 d.ct, .int .i64 d.cl, .bool d.se, .bool d.ex, .int .i64 d.fi, .int .i64 d.un]
theorem Du.row_len (d : Du) : d.row.length = 9 := rfl

set_option maxRecDepth 100000 in
set_option maxHeartbeats 1000000 in
theorem indexD_any (p : Du → Bool) (g : FuncId) (cb : Array Value) (l : List Du) (A : Option Addr) (c : Nat) (w : World) (eg : ∀ args w, (callFunc g args).run Try.prog w = .ok (.enter g args) w)
    (hA : Lies w w.heap.size 9 A (l.map Du.row)) (hl : l.length ≤ 1000000) (hp : ∀ W, Below w.heap.size w W → ∀ a, a ∈ l → Calls Try.prog g (#[.agg #[.int .i64 a.cs, .int .i64 a.co, .int .i64 a.cf, .int .i64 a.ct, .int .i64 a.cl, .bool a.se, .bool a.ex, .int .i64 a.fi, .int .i64 a.un]] ++ cb) W fun e w' => e = .returned (.bool (p a)) ∧ Below W.heap.size W w') :
    Calls Try.prog 46 #[.slice A l.length c, .func (.func g) #[] cb] w fun e w' => e = .returned (.int .i64 (idxP p l 0)) ∧ Below w.heap.size w w' := by
  obtain ⟨n, hn⟩ : ∃ n, n = l.length := ⟨_, rfl⟩
  rw [← hn] at hl ⊢
  have HN := Lib.hid hn
  obtain ⟨T, hT⟩ : ∃ T, T = idxP p l 0 := ⟨_, rfl⟩
  rw [← hT]
  have HT := Lib.hid hT
  have HP := Lib.hid hp
  clear hn hT hp
  go_enter Try.func46, Try.ntmps46
  go_wp2_with fail
  go_loopw [8] (fun i wr => ∃ (k : Nat), k ≤ n ∧ i = .int .i64 k ∧ Below w.heap.size w wr ∧ Hid (T = idxP p (l.drop k) k)) (fun i _ => n - (intOf i).toNat)
  case atStart => exact ⟨0, Nat.zero_le _, rfl, Below.refl _ _, Lib.hid (by rw [HT.out]; rfl)⟩
  case round =>
    obtain ⟨k, hk, rfl, hb, hst⟩ := hrel
    by_cases hlt : k < n
    · obtain ⟨a, ha⟩ := get_of_lt (l := l) (k := k) (by rw [← HN.out]; exact hlt)
      obtain ⟨b, off, rfl, hbB, hcs⟩ := (Lies.below hA hb).at_ ha
      have c0 := hcs k a ha 0 _ rfl
      have c1 := hcs k a ha 1 _ rfl
      have c2 := hcs k a ha 2 _ rfl
      have c3 := hcs k a ha 3 _ rfl
      have c4 := hcs k a ha 4 _ rfl
      have c5 := hcs k a ha 5 _ rfl
      have c6 := hcs k a ha 6 _ rfl
      have c7 := hcs k a ha 7 _ rfl
      have c8 := hcs k a ha 8 _ rfl
      simp only [Nat.add_zero, Nat.mul_one] at c0 c1 c2 c3 c4 c5 c6 c7 c8
      have hst' : Hid (T = if p a = true then (k : Int) else idxP p (l.drop (k + 1)) ((k : Int) + 1)) := Lib.hid (by rw [hst.out, drop_of_get ha]; rfl)
      have hcall := HP.out wr hb a (List.mem_of_getElem? ha)
      clear hcs ha hst
      cases hq : p a with
      | true =>
        rw [hq] at hcall
        have hf := Lib.hid (show T = (k : Int) by rw [hst'.out, if_pos hq])
        clear hst' hq
        go_wp2_with (go_at_fn g; refine hcall.mono ?_; rintro e w2 ⟨rfl, hb2⟩)
        go_ret
        exact ⟨ret_int (by rw [hf.out]), hb.trans (hb2.mono hb.size)⟩
      | false =>
        rw [hq] at hcall
        have hf := Lib.hid (show T = idxP p (l.drop (k + 1)) ((k + 1 : Nat) : Int) by rw [hst'.out, if_neg (by rw [hq]; decide)]; rfl)
        clear hst' hq
        go_wp2_with (go_at_fn g; refine hcall.mono ?_; rintro e w2 ⟨rfl, hb2⟩)
        go_roundw
        case rel => exact ⟨k + 1, by omega, by go_num, hb.trans (hb2.mono hb.size), hf⟩
        case measure => simp [intOf]; omega
    · have hf : Hid (T = -1) := Lib.hid (by rw [hst.out, List.drop_of_length_le (by rw [← HN.out]; omega)]; rfl)
      go_wp2_with fail
      go_ret
      exact ⟨ret_int (by rw [hf.out]), hb⟩

theorem choose2_any (d : Du) (w : World) : Calls Try.prog 47 #[.agg #[.int .i64 d.cs, .int .i64 d.co, .int .i64 d.cf, .int .i64 d.ct, .int .i64 d.cl, .bool d.se, .bool d.ex, .int .i64 d.fi, .int .i64 d.un]] w fun e w' => e = .returned (.bool (!d.se)) ∧ Below w.heap.size w w' := by
  go_enter Try.func47, Try.ntmps47
  go_wp2_with fail
  go_ret
  exact ⟨rfl, (Below.refl _ _).alloc (Nat.le_refl _) _⟩

/-- The flow of the example. -/
def exF : Fl := ⟨7, 1, 0, 8, 0, 8⟩
def exDu : Du := ⟨1, 0, 1, 0, 7, true, false, 0, -1⟩
theorem exF_find : findF [exF] 7 = 0 := by decide
theorem findH_one (h : Ho) (e : h.fl = 7) : findH ([h].map Ho.d) 7 = 0 := by
  simp [findH, idxP, Ho.d, e]

set_option maxRecDepth 100000 in
set_option maxHeartbeats 2000000 in
/-- Whether the node has something to send. -/
theorem choose1_any (h : Ho) (gl gf : Nat) (A D : Option Addr) (c cd : Nat) (C : Bool) (w : World) (hA : Lies w w.heap.size 6 A ([exF].map Fl.row)) (hD : LiesH w w.heap.size D [h]) (he : h.fl = 7) (hC : conI h.ak 0 = C)
    (hl : Row w gl [.slice D 1 cd]) (hf : Row w gf [.slice A 1 c]) (hgl : gl < w.heap.size) (hgf : gf < w.heap.size) :
    Calls Try.prog 45 #[.agg #[.int .i64 1, .int .i64 0, .int .i64 1, .int .i64 0, .int .i64 7, .bool true, .bool false, .int .i64 0, .int .i64 (-1)], .pointer (some ⟨gl, 0, none⟩), .pointer (some ⟨gf, 0, none⟩)] w fun e w' => e = .returned (.bool (!C)) ∧ Below w.heap.size w w' := by
  have hb1 : Below w.heap.size w (w.alloc (.cells #[.int .i64 1, .int .i64 0, .int .i64 1, .int .i64 0, .int .i64 7, .bool true, .bool false, .int .i64 0, .int .i64 (-1)] 63)) := (Below.refl _ _).alloc (Nat.le_refl _) _
  obtain ⟨W1, hW1⟩ : ∃ W1, W1 = w.alloc (.cells #[.int .i64 1, .int .i64 0, .int .i64 1, .int .i64 0, .int .i64 7, .bool true, .bool false, .int .i64 0, .int .i64 (-1)] 63) := ⟨_, rfl⟩
  have rX : Row W1 w.heap.size [.int .i64 1, .int .i64 0, .int .i64 1, .int .i64 0, .int .i64 7, .bool true, .bool false, .int .i64 0, .int .i64 (-1)] := by rw [hW1]; exact Row.new w [.int .i64 1, .int .i64 0, .int .i64 1, .int .i64 0, .int .i64 7, .bool true, .bool false, .int .i64 0, .int .i64 (-1)] 63
  rw [← hW1] at hb1
  obtain ⟨M, hM⟩ : ∃ M, M = W1.heap.size := ⟨_, rfl⟩
  have hwM : w.heap.size < M := by rw [hM, hW1]; simp
  have HW := Lib.hid (fun W (h' : Below M W1 W) => (show Below w.heap.size w W ∧ M ≤ W.heap.size from ⟨hb1.trans (h'.mono (Nat.le_of_lt hwM)), by rw [hM]; exact h'.size⟩))
  have HA := Lib.hid (fun W (h' : Below M W1 W) => Lies.later hA (HW.out W h').1)
  have HD := Lib.hid (fun W (h' : Below M W1 W) => LiesH.later hD (HW.out W h').1)
  have HFd := Lib.hid (fun W h' => (by have := hfind_any [h] 7 D cd W (HD.out W h') (by simp); rw [findH_one h he] at this; exact this : Calls Try.prog 31 #[.slice D 1 cd, .int .i64 7] W fun e w' => e = .returned (.int .i64 0) ∧ Below W.heap.size W w'))
  have HFf := Lib.hid (fun W h' => (by have := find_any [exF] 7 A c W (HA.out W h') (by simp); rw [exF_find] at this; exact this : Calls Try.prog 30 #[.slice A 1 c, .int .i64 7] W fun e w' => e = .returned (.int .i64 0) ∧ Below W.heap.size W w'))
  have HCo := Lib.hid (fun W h' => (by have := contains_any h.ak 0 h.A h.c W ((HD.out W h').inn (k := 0) rfl).1 ((HD.out W h').inn (k := 0) rfl).2; rw [hC] at this; exact this : Calls Try.prog 24 #[.slice h.A h.ak.length h.c, .int .i64 0] W fun e w' => e = .returned (.bool C) ∧ W = w'))
  have HRl := Lib.hid (fun W (h' : Below M W1 W) => (show Row W gl [.slice D 1 cd] ∧ Row W gf [.slice A 1 c] ∧ Row W w.heap.size [.int .i64 1, .int .i64 0, .int .i64 1, .int .i64 0, .int .i64 7, .bool true, .bool false, .int .i64 0, .int .i64 (-1)] from ⟨hl.below (HW.out W h').1 hgl, hf.below (HW.out W h').1 hgf, rX.below h' hwM⟩))
  obtain ⟨b, off, hDe, hbB, hcs⟩ := (HD.out _ (Below.refl _ _)).1.at_ (k := 0) (a := h) rfl
  have c2 := hcs 0 h rfl 2 _ rfl
  obtain ⟨fb, foff, hAe, hfB, hfc⟩ := (HA.out _ (Below.refl _ _)).at_ (k := 0) (a := exF) rfl
  have f2 := hfc 0 exF rfl 2 _ rfl
  simp only [Nat.zero_mul, Nat.add_zero] at c2 f2
  rw [← hM] at hbB hfB
  have HW1 := Lib.hid hW1
  have HM := Lib.hid hM
  subst hDe hAe
  clear hA hD hC he hb1 hW1 hM rX hl hf hcs hfc
  go_enter Try.func45, Try.ntmps45
  obtain ⟨r1, r2, r3⟩ := HRl.out _ (Below.refl _ _)
  rw [HW1.out] at r1 r2 r3
  unfold Row at r1
  clear r2 r3
  go_wp2_with fail
  rw [← HW1.out]
  refine (HFd.out _ (Below.refl _ _)).mono ?_
  rintro e w2 ⟨rfl, hb2⟩
  rw [← HM.out] at hb2
  clear r1
  obtain ⟨r1, r2, r3⟩ := HRl.out _ hb2
  have x1 := r1.ext (B := M) (by have := hgl; omega)
  have x2 := r2.ext (B := M) (by have := hgf; omega)
  have x3 := r3.ext (B := M) hwM
  have xc : ∀ (x : ExtW M w2), x.val.cell? ⟨b, off + 2, none⟩ = some (.slice h.A h.ak.length h.c) := fun x => (x.cell _ hbB).trans ((hb2.cell (p := ⟨b, off + 2, none⟩) hbB).trans c2)
  have xf : ∀ (x : ExtW M w2), x.val.cell? ⟨fb, foff + 2, none⟩ = some (.int .i64 0) := fun x => (x.cell _ hfB).trans ((hb2.cell (p := ⟨fb, foff + 2, none⟩) hfB).trans f2)
  have HM2 : Hid (M ≤ w2.heap.size) := Lib.hid (HW.out _ hb2).2
  have HBx := Lib.hid (fun (x : ExtW M w2) => hb2.trans x.below)
  clear c2 f2 r1 r2 r3
  generalize h.ak.length = q at *
  go_wp2_with fail
  cases C
  all_goals
    refine wp_region_ext M (by kernel_rfl) (by kernel_rfl) ?_
    repeat (go_big_quiet_step ((first | (go_at_call 24; exact Calls.ext_same (HCo.out _ (HBx.out _))) | (go_at_call 30; exact Calls.ext_of (HFf.out _ (HBx.out _)) HM2.out))))
    refine wpQuiet_nil ?_
    rintro _ ⟨x, rfl⟩
    go_wp2_with fail
    go_ret
    exact ⟨rfl, (HW.out _ (HBx.out x)).1⟩
end Go.Proofs.Ytepamedbbbfjkaa

/- Walks: Choose of package node, in general: whether there is something to send. -/
import Derived.Test.YtepamedbbbfjkaaNodSp
import Derived.Test.YtepamedbbbfjkaaNodSe
namespace Go.Proofs.Ytepamedbbbfjkaa
open Go.RowKit
open Nd

theorem findF_get {fs : List Fl} {id : Int} (h : 0 ≤ findF fs id) : ∃ (i : Nat) (f : Fl), fs[i]? = some f ∧ findF fs id = (i : Int) ∧ fs.find? (fun f => f.id == id) = some f := by
  rcases idx_find (fun f : Fl => f.id == id) fs with ⟨h1, _⟩ | ⟨i, a, h1, _, h3, h4⟩
  · have : findF fs id = -1 := h1
    omega
  · exact ⟨i, a, h1, h3, h4⟩
theorem find_map_d (l : List Ho) (id : Int) {i : Nat} {h : Ho} (hi : l[i]? = some h) (hx : findH (l.map Ho.d) id = (i : Int)) : (l.map Ho.d).find? (fun h => h.fl == id) = some h.d ∧ h.fl = id := by
  rcases idx_find (fun h : Hd => h.fl == id) (l.map Ho.d) with ⟨h1, _⟩ | ⟨j, a, h1, h2, h3, h4⟩
  · have : findH (l.map Ho.d) id = -1 := h1
    omega
  · have : findH (l.map Ho.d) id = (j : Int) := h3
    obtain rfl : i = j := by omega
    rw [map_get_d hi] at h1
    injection h1 with h1
    subst h1
    exact ⟨h4, by simpa [Ho.d] using h2⟩
theorem find_none_d {l : List Hd} {id : Int} (hx : findH l id = -1) : l.find? (fun h => h.fl == id) = none := by
  rcases idx_find (fun h : Hd => h.fl == id) l with ⟨_, h1⟩ | ⟨j, a, _, _, h3, _⟩
  · exact h1
  · have : findH l id = (j : Int) := h3
    omega
theorem findH_cases (l : List Ho) (id : Int) : findH (l.map Ho.d) id = -1 ∨ ∃ (i : Nat) (h : Ho), l[i]? = some h ∧ findH (l.map Ho.d) id = (i : Int) := by
  rcases idx_find (fun h : Hd => h.fl == id) (l.map Ho.d) with ⟨h1, _⟩ | ⟨j, a, h1, _, h3, _⟩
  · exact .inl h1
  · rw [List.getElem?_map] at h1
    cases hj : l[j]? with
    | none => rw [hj] at h1; cases h1
    | some h => exact .inr ⟨j, h, hj, h3⟩
set_option maxRecDepth 100000 in
set_option maxHeartbeats 4000000 in
/-- Whether the node has something to send. -/
theorem sends_any (fs : List Fl) (l : List Ho) (x : Du) (gl gf : Nat) (A D : Option Addr) (c cd : Nat) (w : World) (hA : Lies w w.heap.size 6 A (fs.map Fl.row)) (hf : fs.length ≤ 1000000) (hD : LiesH w w.heap.size D l) (hl : l.length ≤ 1000000) (hck : chkH fs (l.map Ho.d) = 0)
    (hrl : Row w gl [.slice D l.length cd]) (hrf : Row w gf [.slice A fs.length c]) (hgl : gl < w.heap.size) (hgf : gf < w.heap.size) :
    Calls Try.prog 45 #[.agg #[.int .i64 x.cs, .int .i64 x.co, .int .i64 x.cf, .int .i64 x.ct, .int .i64 x.cl, .bool x.se, .bool x.ex, .int .i64 x.fi, .int .i64 x.un], .pointer (some ⟨gl, 0, none⟩), .pointer (some ⟨gf, 0, none⟩)] w fun e w' => e = .returned (.bool (sends fs (l.map Ho.d) x)) ∧ Below w.heap.size w w' := by
  obtain ⟨xs, xo, xf, xt, xl, xe, xx, xi, xu⟩ := x
  dsimp only
  have hb1 : Below w.heap.size w (w.alloc (.cells #[.int .i64 xs, .int .i64 xo, .int .i64 xf, .int .i64 xt, .int .i64 xl, .bool xe, .bool xx, .int .i64 xi, .int .i64 xu] 63)) := (Below.refl _ _).alloc (Nat.le_refl _) _
  obtain ⟨W1, hW1⟩ : ∃ W1, W1 = w.alloc (.cells #[.int .i64 xs, .int .i64 xo, .int .i64 xf, .int .i64 xt, .int .i64 xl, .bool xe, .bool xx, .int .i64 xi, .int .i64 xu] 63) := ⟨_, rfl⟩
  have rX : Row W1 w.heap.size [.int .i64 xs, .int .i64 xo, .int .i64 xf, .int .i64 xt, .int .i64 xl, .bool xe, .bool xx, .int .i64 xi, .int .i64 xu] := by rw [hW1]; exact Row.new w [.int .i64 xs, .int .i64 xo, .int .i64 xf, .int .i64 xt, .int .i64 xl, .bool xe, .bool xx, .int .i64 xi, .int .i64 xu] 63
  rw [← hW1] at hb1
  obtain ⟨M, hM⟩ : ∃ M, M = W1.heap.size := ⟨_, rfl⟩
  have hwM : w.heap.size < M := by rw [hM, hW1]; simp
  obtain ⟨n, hn⟩ : ∃ n, n = l.length := ⟨_, rfl⟩
  obtain ⟨m, hm⟩ : ∃ m, m = fs.length := ⟨_, rfl⟩
  have HW := Lib.hid (fun W (h' : Below M W1 W) => (show Below w.heap.size w W ∧ M ≤ W.heap.size from ⟨hb1.trans (h'.mono (Nat.le_of_lt hwM)), by rw [hM]; exact h'.size⟩))
  have HA := Lib.hid (fun W (h' : Below M W1 W) => Lies.later hA (HW.out W h').1)
  have HD := Lib.hid (fun W (h' : Below M W1 W) => LiesH.later hD (HW.out W h').1)
  have HFd := Lib.hid (fun W h' => hfind_any l xl D cd W (HD.out W h') (by omega))
  have HFf := Lib.hid (fun W h' => find_any fs xl A c W (HA.out W h') (by omega))
  have HRl := Lib.hid (fun W (h' : Below M W1 W) => (show Row W gl [.slice D l.length cd] ∧ Row W gf [.slice A fs.length c] ∧ Row W w.heap.size [.int .i64 xs, .int .i64 xo, .int .i64 xf, .int .i64 xt, .int .i64 xl, .bool xe, .bool xx, .int .i64 xi, .int .i64 xu] from ⟨hrl.below (HW.out W h').1 hgl, hrf.below (HW.out W h').1 hgf, rX.below h' hwM⟩))
  have HCK := Lib.hid hck
  rw [← hn] at HFd HRl
  rw [← hm] at HFf HRl
  have HNn := Lib.hid hn
  have HMm := Lib.hid hm
  have HW1 := Lib.hid hW1
  have HM := Lib.hid hM
  clear hA hD hb1 hW1 hM rX hrl hrf hck hn hm hf hl
  go_enter Try.func45, Try.ntmps45
  obtain ⟨r1, r2, r3⟩ := HRl.out _ (Below.refl _ _)
  rw [HW1.out] at r1 r2 r3
  unfold Row at r1
  clear r2 r3
  go_wp2_with fail
  rw [← HW1.out]
  refine (HFd.out _ (Below.refl _ _)).mono ?_
  rintro e w2 ⟨rfl, hb2⟩
  rw [← HM.out] at hb2
  clear r1
  obtain ⟨r1, r2, r3⟩ := HRl.out _ hb2
  have x1 := r1.ext (B := M) (by have := hgl; omega)
  have x2 := r2.ext (B := M) (by have := hgf; omega)
  have x3 := r3.ext (B := M) hwM
  have HM2 : Hid (M ≤ w2.heap.size) := Lib.hid (HW.out _ hb2).2
  have HBx := Lib.hid (fun (x : ExtW M w2) => hb2.trans x.below)
  clear r1 r2 r3
  cases xe with
  | false =>
    have HS := Lib.hid (show sends fs (l.map Ho.d) ⟨xs, xo, xf, xt, xl, false, xx, xi, xu⟩ = false from rfl)
    generalize findH (l.map Ho.d) xl = T at *
    go_wp2_with fail
    refine wp_region_ext M (by kernel_rfl) (by kernel_rfl) ?_
    repeat (go_big_quiet_step (fail))
    refine wpQuiet_nil ?_
    rintro _ ⟨x, rfl⟩
    go_wp2_with fail
    go_ret
    exact ⟨ret_bool HS.out.symm, (HW.out _ (HBx.out x)).1⟩
  | true =>
    rcases findH_cases l xl with hT | ⟨k, h, hk, hT⟩
    · have HS := Lib.hid (show sends fs (l.map Ho.d) ⟨xs, xo, xf, xt, xl, true, xx, xi, xu⟩ = false by unfold sends; rw [find_none_d hT]; rfl)
      rw [hT]
      clear hT
      go_wp2_with fail
      refine wp_region_ext M (by kernel_rfl) (by kernel_rfl) ?_
      repeat (go_big_quiet_step (fail))
      refine wpQuiet_nil ?_
      rintro _ ⟨x, rfl⟩
      go_wp2_with fail
      go_ret
      exact ⟨ret_bool HS.out.symm, (HW.out _ (HBx.out x)).1⟩
    · have hs0 : sends fs (l.map Ho.d) ⟨xs, xo, xf, xt, xl, true, xx, xi, xu⟩ = (!conI h.ak xt && (match fs.find? (fun f => f.id == xl) with | none => false | some f => !(f.tn == xf))) := by unfold sends; rw [(find_map_d l xl hk hT).1]; rfl
      have hid := (find_map_d l xl hk hT).2
      have hF0 : 0 ≤ findF fs xl := by
        have := (hdGo_ak fs (l.map Ho.d) none k h.d (chkH_zero HCK.out).2 (map_get_d hk)).2
        rwa [show h.d.fl = xl from hid] at this
      obtain ⟨kf, f, hkf, hF, hff⟩ := findF_get hF0
      have hkn : k < n := by rw [HNn.out]; exact (List.getElem?_eq_some_iff.1 hk).1
      have hkm : kf < m := by rw [HMm.out]; exact (List.getElem?_eq_some_iff.1 hkf).1
      have hk0 : decide ((0 : Int) ≤ (k : Int)) = true := decide_eq_true (by omega)
      rw [hff] at hs0
      rw [hT]
      obtain ⟨b, off, hDe, hbB, hcs⟩ := (HD.out _ (Below.refl _ _)).1.at_ (k := k) (a := h) hk
      have c2 := hcs k h hk 2 _ rfl
      obtain ⟨fb, foff, hAe, hfB, hfc⟩ := (HA.out _ (Below.refl _ _)).at_ (k := kf) (a := f) hkf
      have f2 := hfc kf f hkf 2 _ rfl
      rw [← HM.out] at hbB hfB
      have HCo := Lib.hid (fun W h' => contains_any h.ak xt h.A h.c W ((HD.out W h').inn hk).1 ((HD.out W h').inn hk).2)
      have HFf := Lib.hid (fun W h' => (by have := HFf.out W h'; rw [hF] at this; exact this : Calls Try.prog 30 #[.slice A m c, .int .i64 xl] W fun e w' => e = .returned (.int .i64 (kf : Int)) ∧ Below W.heap.size W w'))
      subst hDe hAe
      have xc : ∀ (x : ExtW M w2), x.val.cell? ⟨b, off + k * 3 + 2, none⟩ = some (.slice h.A h.ak.length h.c) := fun x => (x.cell _ hbB).trans ((hb2.cell (p := ⟨b, off + k * 3 + 2, none⟩) hbB).trans c2)
      have xg : ∀ (x : ExtW M w2), x.val.cell? ⟨fb, foff + kf * 6 + 2, none⟩ = some (.int .i64 f.tn) := fun x => (x.cell _ hfB).trans ((hb2.cell (p := ⟨fb, foff + kf * 6 + 2, none⟩) hfB).trans f2)
      clear c2 f2 hcs hfc hid hF0 hF hff hT hk hkf
      generalize h.ak.length = q at *
      cases hC : conI h.ak xt with
      | true =>
        have HS := Lib.hid (show sends fs (l.map Ho.d) ⟨xs, xo, xf, xt, xl, true, xx, xi, xu⟩ = false by rw [hs0, hC]; rfl)
        rw [hC] at HCo
        clear hs0 hC
        go_wp2_with fail
        refine wp_region_ext M (by kernel_rfl) (by kernel_rfl) ?_
        repeat (go_big_quiet_step ((first | (go_at_call 24; exact Calls.ext_same (HCo.out _ (HBx.out _))) | (go_at_call 30; exact Calls.ext_of (HFf.out _ (HBx.out _)) HM2.out))))
        refine wpQuiet_nil ?_
        rintro _ ⟨x, rfl⟩
        go_wp2_with fail
        go_ret
        exact ⟨ret_bool HS.out.symm, (HW.out _ (HBx.out x)).1⟩
      | false =>
        have hs1 : sends fs (l.map Ho.d) ⟨xs, xo, xf, xt, xl, true, xx, xi, xu⟩ = !(f.tn == xf) := by rw [hs0, hC]; rfl
        have HS := Lib.hid hs1
        rw [hC] at HCo
        clear hs0 hC hs1
        go_wp2_with fail
        refine wp_region_ext M (by kernel_rfl) (by kernel_rfl) ?_
        repeat (go_big_quiet_step ((first | (go_at_call 24; exact Calls.ext_same (HCo.out _ (HBx.out _))) | (go_at_call 30; exact Calls.ext_of (HFf.out _ (HBx.out _)) HM2.out))))
        refine wpQuiet_nil ?_
        rintro _ ⟨x, rfl⟩
        go_wp2_with fail
        go_ret
        exact ⟨ret_bool HS.out.symm, (HW.out _ (HBx.out x)).1⟩
end Go.Proofs.Ytepamedbbbfjkaa

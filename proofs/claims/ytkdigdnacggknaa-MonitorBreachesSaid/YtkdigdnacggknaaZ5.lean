import Derived.Maps.OwnOps
import Derived.Maps.Views
import Derived.Maps.Range
import Derived.Maps.RangeRun
import Derived.WideMake
import Derived.Laws.Pointers
import Derived.Test.YtkdigdnacggknaaZ4
set_option linter.unusedVariables false
set_option linter.unusedSimpArgs false
/- Walk: Serve of package monitor. -/
namespace Go.Proofs.Ytkdigdnacggknaa
open Go.RowKit
open Nd Rc Mo

/-- A service as Go's memory holds it. -/
def Mo.Sv.cells (s : Sv) : List Value := [.int .i64 s.fr, .int .i64 s.late, .int .i64 s.least, .int .i64 s.most, .int .i64 s.att, .int .i64 s.lost]
set_option maxRecDepth 100000 in
set_option maxHeartbeats 4000000 in
theorem serve_any (fs : List Fl) (r : Rec) (x : Int) (F A D : Option Addr) (cf ca cd : Nat) (w : World) (hF : Lies w w.heap.size 6 F (fs.map Fl.row)) (hf : fs.length ≤ 1000000) (hA : LiesA w w.heap.size A r.al) (hD : LiesD w w.heap.size D r.dl) (hla : r.al.length ≤ 1000000) (hld : r.dl.length ≤ 1000000) :
    Calls Try.prog 23 #[.slice F fs.length cf, .agg #[.int .i64 r.slots, .slice A r.al.length ca, .slice D r.dl.length cd], .int .i64 x] w fun e w' => Below w.heap.size w w' ∧ e = .returned (.tuple #[.agg (Mo.serve fs r x).1.cells.toArray, .int .i64 (Mo.serve fs r x).2]) := by
  obtain ⟨N, hN⟩ : ∃ N, N = w.heap.size := ⟨_, rfl⟩
  obtain ⟨na, hna⟩ : ∃ n, n = r.al.length := ⟨_, rfl⟩
  obtain ⟨nd, hnd⟩ : ∃ n, n = r.dl.length := ⟨_, rfl⟩
  obtain ⟨m, hm⟩ : ∃ m, m = fs.length := ⟨_, rfl⟩
  obtain ⟨slots, hsl⟩ : ∃ s, s = r.slots := ⟨_, rfl⟩
  obtain ⟨W1, hW1⟩ : ∃ W1, W1 = (w.alloc (.cells #[.int .i64 slots, .slice A na ca, .slice D nd cd] 28)).alloc (.cells #[.int .i64 0, .int .i64 0, .int .i64 0, .int .i64 0, .int .i64 0, .int .i64 0] 57) := ⟨_, rfl⟩
  have hb1 : Below N w W1 := by rw [hW1, hN]; exact ((Below.refl _ _).alloc (Nat.le_refl _) _).alloc (by simp) _
  have bR : Blk W1 N 28 [.int .i64 slots, .slice A na ca, .slice D nd cd] := by rw [hW1]; exact Blk.alloc (Blk.new2 _ [.int .i64 slots, .slice A na ca, .slice D nd cd] hN) _
  have bO : Blk W1 (N + 1) 57 [.int .i64 0, .int .i64 0, .int .i64 0, .int .i64 0, .int .i64 0, .int .i64 0] := by rw [hW1]; exact Blk.new2 _ [.int .i64 0, .int .i64 0, .int .i64 0, .int .i64 0, .int .i64 0, .int .i64 0] (by simp [hN])
  have HW := Lib.hid (fun W (h' : Below W1.heap.size W1 W) => (show Below w.heap.size w W ∧ Row W N [.int .i64 slots, .slice A na ca, .slice D nd cd] ∧ Blk W (N + 1) 57 [.int .i64 0, .int .i64 0, .int .i64 0, .int .i64 0, .int .i64 0, .int .i64 0] from ⟨by rw [← hN]; exact hb1.trans (h'.mono (by have := bR.lt; omega)), (bR.below h' bR.lt).row, bO.below h' bO.lt⟩))
  have HF := Lib.hid (fun W (h' : Below W1.heap.size W1 W) => Lies.later hF (HW.out W h').1)
  have HA := Lib.hid (fun W (h' : Below W1.heap.size W1 W) => (show LiesA W W.heap.size A r.al from (hA.below (HW.out W h').1).more (HW.out W h').1.size))
  have HD := Lib.hid (fun W (h' : Below W1.heap.size W1 W) => (show LiesD W W.heap.size D r.dl from (hD.below (HW.out W h').1).more (HW.out W h').1.size))
  have HRt := Lib.hid (right_any fs r F A D cf ca cd W1 (HF.out _ (Below.refl _ _)) hf (HA.out _ (Below.refl _ _)) (HD.out _ (Below.refl _ _)) hla hld)
  have HFind := Lib.hid (fun W (h' : Below W1.heap.size W1 W) => find_any fs x F cf W (HF.out W h') hf)
  have HAr := Lib.hid (fun (hg : good r = true) W (h' : Below W1.heap.size W1 W) => arrivals_any r A D ca cd W (HD.out W h') hld (fun d hd => by
    obtain ⟨a1, a2, a3, a4, a5, a6⟩ := good_dlv hg hd
    have := (good_slots hg).2
    exact ⟨num_small (by omega), num_small (by omega), num_small (by omega)⟩))
  rw [← hna, ← hnd, ← hsl] at HRt HAr ⊢
  rw [← hm] at HRt HFind ⊢
  rw [← hnd] at hld
  rw [← hna] at hla
  have HM := Lib.hid hm
  have HSl := Lib.hid hsl
  have HNd := Lib.hid hnd
  have HNa := Lib.hid hna
  have HW1 := Lib.hid hW1
  have HN := Lib.hid hN
  have hNlt : N + 1 < W1.heap.size := bO.lt
  obtain ⟨G, hG⟩ : ∃ G, G = Mo.serve fs r x := ⟨_, rfl⟩
  rw [← hG]
  have HG := Lib.hid hG
  clear hF hA hD hna hnd hm hsl hb1 bR hN hf bO hG
  have r1 : Row ((w.alloc (.cells #[.int .i64 slots, .slice A na ca, .slice D nd cd] 28)).alloc (.cells #[.int .i64 0, .int .i64 0, .int .i64 0, .int .i64 0, .int .i64 0, .int .i64 0] 57)) N [.int .i64 slots, .slice A na ca, .slice D nd cd] := by rw [← hW1]; exact (HW.out _ (Below.refl _ _)).2.1
  have hNw : Hid (N = w.heap.size) := HN
  rw [HN.out] at r1
  unfold Row at r1
  clear hW1
  go_enter Try.func23, Try.ntmps23
  clear r1
  go_wp2_with fail
  rw [← HW1.out, ← HN.out]
  refine HRt.out.mono ?_
  rintro e w2 ⟨rfl, hb2⟩
  clear HRt
  cases hr : right fs r with
  | false =>
    have hl : Hid (G = (Sv.zero, 1)) := Lib.hid (by rw [HG.out]; unfold Mo.serve; rw [hr]; rfl)
    clear hr HAr HFind
    have b5 := (HW.out _ hb2).2.2
    have cb5 := b5.row
    have fb5 := b5.frozen
    unfold Row at cb5
    have b6 := ((((((b5.set_ 0 (.int .i64 0)).set_ 1 (.int .i64 0)).set_ 2 (.int .i64 0)).set_ 3 (.int .i64 0)).set_ 4 (.int .i64 0)).set_ 5 (.int .i64 0))
    simp only [List.set_cons_zero, List.set_cons_succ] at b6
    have C6 := Lib.hid b6.row
    have HB6 : Hid (Below w.heap.size w ((((((w2.setCell ⟨N + 1, 0, none⟩ (.int .i64 0)).setCell ⟨N + 1, 1, none⟩ (.int .i64 0)).setCell ⟨N + 1, 2, none⟩ (.int .i64 0)).setCell ⟨N + 1, 3, none⟩ (.int .i64 0)).setCell ⟨N + 1, 4, none⟩ (.int .i64 0)).setCell ⟨N + 1, 5, none⟩ (.int .i64 0))) := Lib.hid (((((((HW.out _ hb2).1.setCell (p := ⟨N + 1, 0, none⟩) (by dsimp only; have := HN.out; omega) (.int .i64 0)).setCell (p := ⟨N + 1, 1, none⟩) (by dsimp only; have := HN.out; omega) (.int .i64 0)).setCell (p := ⟨N + 1, 2, none⟩) (by dsimp only; have := HN.out; omega) (.int .i64 0)).setCell (p := ⟨N + 1, 3, none⟩) (by dsimp only; have := HN.out; omega) (.int .i64 0)).setCell (p := ⟨N + 1, 4, none⟩) (by dsimp only; have := HN.out; omega) (.int .i64 0)).setCell (p := ⟨N + 1, 5, none⟩) (by dsimp only; have := HN.out; omega) (.int .i64 0))
    clear b6
    go_wp2_with fail
    have c6 := C6.out
    unfold Row at c6
    refine bodyPost_ret (v := .tuple #[.agg #[.int .i64 0, .int .i64 0, .int .i64 0, .int .i64 0, .int .i64 0, .int .i64 0], .int .i64 1]) (by simp [results, Try.results23, go_sem, c6]) rfl ?_
    exact ⟨HB6.out, by rw [hl.out]; rfl⟩
  | true =>
    obtain ⟨hc, hg⟩ := right_inv hr
    obtain ⟨hfa, _, hm16⟩ := chkF_ok hc
    obtain ⟨hs0, hs1⟩ := good_slots hg
    have HFa := Lib.hid hfa
    have HAr := Lib.hid (HAr.out hg)
    have HR := Lib.hid hr
    rw [← HSl.out] at hs0 hs1
    clear hc hg hfa hr hm16
    go_wp2_with fail
    refine (HFind.out _ hb2).mono ?_
    rintro e w3 ⟨rfl, hb3'⟩
    have hb3 : Below W1.heap.size W1 w3 := hb2.trans (hb3'.mono hb2.size)
    clear HFind hb3'
    rcases findF_cases fs x with ⟨hT, hfn⟩ | ⟨i, f, hfi, hT, hfs⟩
    · have hl : Hid (G = (Sv.zero, 7)) := Lib.hid (by rw [HG.out]; unfold Mo.serve; rw [if_pos HR.out, hfn])
      rw [hT]
      clear hT hfn HAr
      have b5 := (HW.out _ hb3).2.2
      have cb5 := b5.row
      have fb5 := b5.frozen
      unfold Row at cb5
      have b6 := ((((((b5.set_ 0 (.int .i64 0)).set_ 1 (.int .i64 0)).set_ 2 (.int .i64 0)).set_ 3 (.int .i64 0)).set_ 4 (.int .i64 0)).set_ 5 (.int .i64 0))
      simp only [List.set_cons_zero, List.set_cons_succ] at b6
      have C6 := Lib.hid b6.row
      have HB6 : Hid (Below w.heap.size w ((((((w3.setCell ⟨N + 1, 0, none⟩ (.int .i64 0)).setCell ⟨N + 1, 1, none⟩ (.int .i64 0)).setCell ⟨N + 1, 2, none⟩ (.int .i64 0)).setCell ⟨N + 1, 3, none⟩ (.int .i64 0)).setCell ⟨N + 1, 4, none⟩ (.int .i64 0)).setCell ⟨N + 1, 5, none⟩ (.int .i64 0))) := Lib.hid (((((((HW.out _ hb3).1.setCell (p := ⟨N + 1, 0, none⟩) (by dsimp only; have := HN.out; omega) (.int .i64 0)).setCell (p := ⟨N + 1, 1, none⟩) (by dsimp only; have := HN.out; omega) (.int .i64 0)).setCell (p := ⟨N + 1, 2, none⟩) (by dsimp only; have := HN.out; omega) (.int .i64 0)).setCell (p := ⟨N + 1, 3, none⟩) (by dsimp only; have := HN.out; omega) (.int .i64 0)).setCell (p := ⟨N + 1, 4, none⟩) (by dsimp only; have := HN.out; omega) (.int .i64 0)).setCell (p := ⟨N + 1, 5, none⟩) (by dsimp only; have := HN.out; omega) (.int .i64 0))
      clear b6
      go_wp2_with fail
      have c6 := C6.out
      unfold Row at c6
      refine bodyPost_ret (v := .tuple #[.agg #[.int .i64 0, .int .i64 0, .int .i64 0, .int .i64 0, .int .i64 0, .int .i64 0], .int .i64 7]) (by simp [results, Try.results23, go_sem, c6]) rfl ?_
      exact ⟨HB6.out, by rw [hl.out]; rfl⟩
    · obtain ⟨fb, foff, hFe, hfB, hcs⟩ := (HF.out _ hb3).at_ hfi
      have him : i < m := by rw [HM.out]; exact (List.getElem?_eq_some_iff.1 hfi).1
      have hi0 : decide ((i : Int) < 0) = false := decide_eq_false (by omega)
      have hi1 : ¬ (i : Int) < 0 := by omega
      have hff := HFa.out f (List.mem_of_getElem? hfi)
      have hfx : f.id = x := by have := List.find?_some hfs; simpa using this
      have HFx := Lib.hid hfx
      clear hfx
      have hl : Hid (G = (serveF f r, 0)) := Lib.hid (by rw [HG.out]; unfold Mo.serve; rw [if_pos HR.out, hfs])
      have q0 := hcs i f hfi 0 _ rfl
      have q1 := hcs i f hfi 1 _ rfl
      have q2 := hcs i f hfi 2 _ rfl
      have q3 := hcs i f hfi 3 _ rfl
      have q4 := hcs i f hfi 4 _ rfl
      have q5 := hcs i f hfi 5 _ rfl
      simp only [Nat.add_zero] at q0 q1 q2 q3 q4 q5
      rw [hT]
      obtain ⟨wd, hwd⟩ : ∃ wd, wd = w3.drew := ⟨_, rfl⟩
      have hbd : Below w3.heap.size w3 wd := by rw [hwd]; exact (Below.refl _ _).drew
      have hB_wd : Below W1.heap.size W1 wd := hb3.trans (hbd.mono hb3.size)
      have hX_wd : Below w3.heap.size w3 wd := hbd
      have hNl3 : N < w3.heap.size := by have := hb3.size; omega
      have rN := (HW.out _ hb3).2.1
      subst hFe
      clear hcs hfi hT hfs HR HG
      go_upto_region 6 with fail
      go_cut [9, 10] (fun s9 s10 W => ∃ (X b : Nat), s9 = .pointer (some ⟨X, 0, none⟩) ∧ s10 = .map (some b) ∧ Below W1.heap.size W1 W ∧ W1.heap.size ≤ X ∧ Hid (Blk W X 37 [.int .i64 f.id, .int .i64 f.fr, .int .i64 f.tn, .int .i64 f.pe, .int .i64 f.ph, .int .i64 f.dl]) ∧ Hid (OwnsGr W (b + 1) b nd (slotsOf r.dl)))
      case first =>
        refine wp_region_rough (w3.heap.size) 9 [] #[false, false, false, false, false, false, false, false, false] (by kernel_rfl) rfl rfl ?_
        rw [← hwd]
        clear hwd
        have y0 : ∀ (x' : ExtW w3.heap.size wd), x'.val.cell? ⟨fb, foff + i * 6, none⟩ = some (.int .i64 f.id) := fun x' => (x'.cell _ hfB).trans ((hbd.cell (p := ⟨fb, foff + i * 6, none⟩) hfB).trans q0)
        have y1 : ∀ (x' : ExtW w3.heap.size wd), x'.val.cell? ⟨fb, foff + i * 6 + 1, none⟩ = some (.int .i64 f.fr) := fun x' => (x'.cell _ hfB).trans ((hbd.cell (p := ⟨fb, foff + i * 6 + 1, none⟩) hfB).trans q1)
        have y2 : ∀ (x' : ExtW w3.heap.size wd), x'.val.cell? ⟨fb, foff + i * 6 + 2, none⟩ = some (.int .i64 f.tn) := fun x' => (x'.cell _ hfB).trans ((hbd.cell (p := ⟨fb, foff + i * 6 + 2, none⟩) hfB).trans q2)
        have y3 : ∀ (x' : ExtW w3.heap.size wd), x'.val.cell? ⟨fb, foff + i * 6 + 3, none⟩ = some (.int .i64 f.pe) := fun x' => (x'.cell _ hfB).trans ((hbd.cell (p := ⟨fb, foff + i * 6 + 3, none⟩) hfB).trans q3)
        have y4 : ∀ (x' : ExtW w3.heap.size wd), x'.val.cell? ⟨fb, foff + i * 6 + 4, none⟩ = some (.int .i64 f.ph) := fun x' => (x'.cell _ hfB).trans ((hbd.cell (p := ⟨fb, foff + i * 6 + 4, none⟩) hfB).trans q4)
        have y5 : ∀ (x' : ExtW w3.heap.size wd), x'.val.cell? ⟨fb, foff + i * 6 + 5, none⟩ = some (.int .i64 f.dl) := fun x' => (x'.cell _ hfB).trans ((hbd.cell (p := ⟨fb, foff + i * 6 + 5, none⟩) hfB).trans q5)
        have yN : ∀ (x' : ExtW w3.heap.size wd) (j : Nat), x'.val.cell? ⟨N, j, none⟩ = _ := fun x' j => (x'.cell _ hNl3).trans ((hbd.cell (p := ⟨N, j, none⟩) hNl3).trans (rN j))
        clear q0 q1 q2 q3 q4 q5 rN
        refine anyR_take0 0 _ (nth0) rfl (by kernel_rfl) (by kernel_rfl) (by kernel_rfl) (l' := #[true, false, false, false, false, false, false, false, false]) rfl rfl ?_; intro K hK; go_big_quiet_op; go_big_quiet_on
        refine anyR_take0 1 _ (nthS (nth0)) rfl (by kernel_rfl) (by kernel_rfl) (by kernel_rfl) (l' := #[true, true, false, false, false, false, false, false, false]) rfl rfl ?_; intro K hK; go_big_quiet_op; go_big_quiet_on
        refine anyR_take0 2 _ (nthS (nthS (nth0))) rfl (by kernel_rfl) (by kernel_rfl) (by kernel_rfl) (l' := #[true, true, true, false, false, false, false, false, false]) rfl rfl ?_; intro K hK; go_big_quiet_op; go_big_quiet_on
        refine anyR_take 3 _ (nthS (nthS (nthS (nth0)))) rfl (by kernel_rfl) (by kernel_rfl) (by kernel_rfl) (by kernel_rfl) (l' := #[true, true, true, true, false, false, false, false, false]) rfl rfl ?_; intro K hK; go_big_quiet_op; go_big_quiet_on
        refine anyR_take 4 _ (nthS (nthS (nthS (nthS (nth0))))) rfl (by kernel_rfl) (by kernel_rfl) (by kernel_rfl) (by kernel_rfl) (l' := #[true, true, true, true, true, false, false, false, false]) rfl rfl ?_; intro K hK; go_big_quiet_op; go_big_quiet_on
        refine anyR_two 5 6 _ _ (nthS (nthS (nthS (nthS (nthS (nth0)))))) (nthS (nthS (nthS (nthS (nthS (nthS (nth0))))))) (by kernel_rfl) (l1 := #[true, true, true, true, true, true, false, false, false]) (l2 := #[true, true, true, true, true, false, true, false, false]) rfl rfl ?_ ?_
        · clear y0 y1 y2 y3 y4 y5 yN
          go_wp2_with fail
          refine (HAr.out _ hB_wd).mono ?_
          rintro e V1 ⟨hsV1, b, rfl, hbb, hO⟩
          have HGr := Lib.hid hO
          clear hO
          go_wp2_with fail
          have hB_V1 : Below W1.heap.size W1 V1 := hB_wd.trans (hsV1.mono hB_wd.size)
          have hX_V1 : Below w3.heap.size w3 V1 := hX_wd.trans (hsV1.mono hX_wd.size)
          refine OneR_mk (hsV1.mono hX_wd.size) ?_
          refine anyR_one 6 _ (nthS (nthS (nthS (nthS (nthS (nthS (nth0))))))) (by kernel_rfl) (l' := #[true, true, true, true, true, true, true, false, false]) rfl ?_
          go_wp2_with fail
          generalize hWa : World.alloc _ _ = Wa
          obtain ⟨X, hX⟩ : ∃ X, X = V1.heap.size := ⟨_, rfl⟩
          have hsWa : Below V1.heap.size V1 Wa := by rw [← hWa]; exact (Below.refl _ _).alloc (Nat.le_refl _) _
          have bXa : Blk Wa X 37 [.int .i64 0, .int .i64 0, .int .i64 0, .int .i64 0, .int .i64 0, .int .i64 0] := by rw [← hWa]; exact Blk.new2 37 [.int .i64 0, .int .i64 0, .int .i64 0, .int .i64 0, .int .i64 0, .int .i64 0] hX
          have hXM : W1.heap.size ≤ X := by rw [hX]; exact hB_V1.size
          have hX3 : w3.heap.size ≤ X := by rw [hX]; exact hX_V1.size
          rw [← hX]
          clear hWa hX
          have hB_Wa : Below W1.heap.size W1 Wa := hB_V1.trans (hsWa.mono hB_V1.size)
          have hX_Wa : Below w3.heap.size w3 Wa := hX_V1.trans (hsWa.mono hX_V1.size)
          have bXV : Blk Wa X 37 [.int .i64 0, .int .i64 0, .int .i64 0, .int .i64 0, .int .i64 0, .int .i64 0] := bXa
          have HGr2 : Hid (OwnsGr Wa (b + 1) b nd (slotsOf r.dl)) := Lib.hid (HGr.out.below hsWa)
          clear HGr
          have HGr := HGr2
          clear HGr2
          refine OneR_mk (hsWa.mono hX_V1.size) ?_
          refine anyR_one 7 _ (nthS (nthS (nthS (nthS (nthS (nthS (nthS (nth0)))))))) (by kernel_rfl) (l' := #[true, true, true, true, true, true, true, true, false]) rfl ?_
          have cb5 := bXV.row
          have fb5 := bXV.frozen
          unfold Row at cb5
          have b6 := ((((((bXV.set_ 0 (.int .i64 f.id)).set_ 1 (.int .i64 f.fr)).set_ 2 (.int .i64 f.tn)).set_ 3 (.int .i64 f.pe)).set_ 4 (.int .i64 f.ph)).set_ 5 (.int .i64 f.dl))
          simp only [List.set_cons_zero, List.set_cons_succ] at b6
          have HG6 := Lib.hid (OwnsGr.cells HGr.out bXV (by decide) [.int .i64 f.id, .int .i64 f.fr, .int .i64 f.tn, .int .i64 f.pe, .int .i64 f.ph, .int .i64 f.dl] 0)
          have B6 := Lib.hid b6
          clear b6
          go_wp2_with fail
          generalize hW6 : World.setCell _ _ _ = W6'
          have hbe : Below w3.heap.size Wa W6' := by rw [← hW6]; exact (((((((Below.refl _ Wa).setCell (p := ⟨X, 0, none⟩) hX3 (.int .i64 f.id)).setCell (p := ⟨X, 1, none⟩) hX3 (.int .i64 f.fr)).setCell (p := ⟨X, 2, none⟩) hX3 (.int .i64 f.tn)).setCell (p := ⟨X, 3, none⟩) hX3 (.int .i64 f.pe)).setCell (p := ⟨X, 4, none⟩) hX3 (.int .i64 f.ph)).setCell (p := ⟨X, 5, none⟩) hX3 (.int .i64 f.dl))
          have HB6 : Hid (Below W1.heap.size W1 W6') := Lib.hid (by rw [← hW6]; exact ((((((hB_Wa.setCell (p := ⟨X, 0, none⟩) hXM (.int .i64 f.id)).setCell (p := ⟨X, 1, none⟩) hXM (.int .i64 f.fr)).setCell (p := ⟨X, 2, none⟩) hXM (.int .i64 f.tn)).setCell (p := ⟨X, 3, none⟩) hXM (.int .i64 f.pe)).setCell (p := ⟨X, 4, none⟩) hXM (.int .i64 f.ph)).setCell (p := ⟨X, 5, none⟩) hXM (.int .i64 f.dl)))
          have B7 : Hid (Blk W6' X 37 [.int .i64 f.id, .int .i64 f.fr, .int .i64 f.tn, .int .i64 f.pe, .int .i64 f.ph, .int .i64 f.dl]) := Lib.hid (by rw [← hW6]; exact B6.out)
          have HG7 : Hid (OwnsGr W6' (b + 1) b nd (slotsOf r.dl)) := Lib.hid (by rw [← hW6]; exact HG6.out)
          clear hW6 B6 HG6 cb5 fb5
          refine OneR_mk (hbe) ?_
          refine anyR_take0 8 _ (nthS (nthS (nthS (nthS (nthS (nthS (nthS (nthS (nth0))))))))) rfl (by kernel_rfl) (by kernel_rfl) (by kernel_rfl) (l' := #[true, true, true, true, true, true, true, true, true]) rfl rfl ?_; intro K hK; go_big_quiet_op; go_big_quiet_on
          refine anyR_end (by kernel_rfl) ?_
          go_wp2_with fail
          go_meet
          exact ⟨X, b, rfl, rfl, HB6.out, hXM, B7, HG7⟩
        · clear y0 y1 y2 y3 y4 y5 yN
          go_wp2_with fail
          generalize hWa : World.alloc _ _ = Wa
          obtain ⟨X, hX⟩ : ∃ X, X = wd.heap.size := ⟨_, rfl⟩
          have hsWa : Below wd.heap.size wd Wa := by rw [← hWa]; exact (Below.refl _ _).alloc (Nat.le_refl _) _
          have bXa : Blk Wa X 37 [.int .i64 0, .int .i64 0, .int .i64 0, .int .i64 0, .int .i64 0, .int .i64 0] := by rw [← hWa]; exact Blk.new2 37 [.int .i64 0, .int .i64 0, .int .i64 0, .int .i64 0, .int .i64 0, .int .i64 0] hX
          have hXM : W1.heap.size ≤ X := by rw [hX]; exact hB_wd.size
          have hX3 : w3.heap.size ≤ X := by rw [hX]; exact hX_wd.size
          rw [← hX]
          clear hWa hX
          have hB_Wa : Below W1.heap.size W1 Wa := hB_wd.trans (hsWa.mono hB_wd.size)
          have hX_Wa : Below w3.heap.size w3 Wa := hX_wd.trans (hsWa.mono hX_wd.size)
          refine OneR_mk (hsWa.mono hX_wd.size) ?_
          refine anyR_one 5 _ (nthS (nthS (nthS (nthS (nthS (nth0)))))) (by kernel_rfl) (l' := #[true, true, true, true, true, true, true, false, false]) rfl ?_
          go_wp2_with fail
          refine (HAr.out _ hB_Wa).mono ?_
          rintro e V1 ⟨hsV1, b, rfl, hbb, hO⟩
          have HGr := Lib.hid hO
          clear hO
          go_wp2_with fail
          have hB_V1 : Below W1.heap.size W1 V1 := hB_Wa.trans (hsV1.mono hB_Wa.size)
          have hX_V1 : Below w3.heap.size w3 V1 := hX_Wa.trans (hsV1.mono hX_Wa.size)
          have bXV : Blk V1 X 37 [.int .i64 0, .int .i64 0, .int .i64 0, .int .i64 0, .int .i64 0, .int .i64 0] := bXa.below hsV1 bXa.lt
          refine OneR_mk (hsV1.mono hX_Wa.size) ?_
          refine anyR_one 7 _ (nthS (nthS (nthS (nthS (nthS (nthS (nthS (nth0)))))))) (by kernel_rfl) (l' := #[true, true, true, true, true, true, true, true, false]) rfl ?_
          have cb5 := bXV.row
          have fb5 := bXV.frozen
          unfold Row at cb5
          have b6 := ((((((bXV.set_ 0 (.int .i64 f.id)).set_ 1 (.int .i64 f.fr)).set_ 2 (.int .i64 f.tn)).set_ 3 (.int .i64 f.pe)).set_ 4 (.int .i64 f.ph)).set_ 5 (.int .i64 f.dl))
          simp only [List.set_cons_zero, List.set_cons_succ] at b6
          have HG6 := Lib.hid (OwnsGr.cells HGr.out bXV (by decide) [.int .i64 f.id, .int .i64 f.fr, .int .i64 f.tn, .int .i64 f.pe, .int .i64 f.ph, .int .i64 f.dl] 0)
          have B6 := Lib.hid b6
          clear b6
          go_wp2_with fail
          generalize hW6 : World.setCell _ _ _ = W6'
          have hbe : Below w3.heap.size V1 W6' := by rw [← hW6]; exact (((((((Below.refl _ V1).setCell (p := ⟨X, 0, none⟩) hX3 (.int .i64 f.id)).setCell (p := ⟨X, 1, none⟩) hX3 (.int .i64 f.fr)).setCell (p := ⟨X, 2, none⟩) hX3 (.int .i64 f.tn)).setCell (p := ⟨X, 3, none⟩) hX3 (.int .i64 f.pe)).setCell (p := ⟨X, 4, none⟩) hX3 (.int .i64 f.ph)).setCell (p := ⟨X, 5, none⟩) hX3 (.int .i64 f.dl))
          have HB6 : Hid (Below W1.heap.size W1 W6') := Lib.hid (by rw [← hW6]; exact ((((((hB_V1.setCell (p := ⟨X, 0, none⟩) hXM (.int .i64 f.id)).setCell (p := ⟨X, 1, none⟩) hXM (.int .i64 f.fr)).setCell (p := ⟨X, 2, none⟩) hXM (.int .i64 f.tn)).setCell (p := ⟨X, 3, none⟩) hXM (.int .i64 f.pe)).setCell (p := ⟨X, 4, none⟩) hXM (.int .i64 f.ph)).setCell (p := ⟨X, 5, none⟩) hXM (.int .i64 f.dl)))
          have B7 : Hid (Blk W6' X 37 [.int .i64 f.id, .int .i64 f.fr, .int .i64 f.tn, .int .i64 f.pe, .int .i64 f.ph, .int .i64 f.dl]) := Lib.hid (by rw [← hW6]; exact B6.out)
          have HG7 : Hid (OwnsGr W6' (b + 1) b nd (slotsOf r.dl)) := Lib.hid (by rw [← hW6]; exact HG6.out)
          clear hW6 B6 HG6 cb5 fb5
          refine OneR_mk (hbe) ?_
          refine anyR_take0 8 _ (nthS (nthS (nthS (nthS (nthS (nthS (nthS (nthS (nth0))))))))) rfl (by kernel_rfl) (by kernel_rfl) (by kernel_rfl) (l' := #[true, true, true, true, true, true, true, true, true]) rfl rfl ?_; intro K hK; go_big_quiet_op; go_big_quiet_on
          refine anyR_end (by kernel_rfl) ?_
          go_wp2_with fail
          go_meet
          exact ⟨X, b, rfl, rfl, HB6.out, hXM, B7, HG7⟩
      case rest =>
        obtain ⟨X, b, rfl, rfl, hBc, hXM, HXc, HGc⟩ := hcut
        have hcb := complete_bounds hff hs1
        obtain ⟨cn, hcn⟩ : ∃ cn : Nat, complete f slots = (cn : Int) := ⟨(complete f slots).toNat, by omega⟩
        have HCN : Hid (complete f r.slots = (cn : Int)) := Lib.hid (by rw [← HSl.out, hcn])
        have hcn4 : cn ≤ 4096 := by omega
        have Con := Lib.hid (complete_any f slots (.slice A na ca) (.slice D nd cd) hff hs0 hs1 rfl rfl wc)
        rw [hcn] at Con
        have rX := HXc.out.row
        have rN := (HW.out _ hBc).2.1
        unfold Row at rX rN
        clear hcb hcn
        go_wp2_with fail
        refine Con.out.mono ?_
        rintro e w4 ⟨rfl, hb4⟩
        have hB4 : Below W1.heap.size W1 w4 := hBc.trans (hb4.mono hBc.size)
        have HX4 : Hid (Blk w4 X 37 [.int .i64 f.id, .int .i64 f.fr, .int .i64 f.tn, .int .i64 f.pe, .int .i64 f.ph, .int .i64 f.dl]) := Lib.hid (HXc.out.below hb4 HXc.out.lt)
        have HG4 : Hid (OwnsGr w4 (b + 1) b nd (slotsOf r.dl)) := Lib.hid (HGc.out.below hb4)
        clear Con rX rN HXc HGc hBc hb4
        go_upto_region 8 with fail
        obtain ⟨Y, hY⟩ : ∃ Y, Y = w4.heap.size := ⟨_, rfl⟩
        generalize hWs : World.alloc _ _ = Ws
        have HY0 : Hid (Blk Ws Y 57 [.int .i64 (cn : Int), .int .i64 (svGo f r.dl 0).1, .int .i64 (svGo f r.dl 0).2.1, .int .i64 (svGo f r.dl 0).2.2, .int .i64 0, .int .i64 0]) := Lib.hid (by rw [← hWs]; exact Blk.new2 57 [.int .i64 (cn : Int), .int .i64 0, .int .i64 0, .int .i64 0, .int .i64 0, .int .i64 0] hY)
        have hbs : Below w4.heap.size w4 Ws := by rw [← hWs]; exact (Below.refl _ _).alloc (Nat.le_refl _) _
        have hBs : Below W1.heap.size W1 Ws := hB4.trans (hbs.mono hB4.size)
        have HXs : Hid (Blk Ws X 37 [.int .i64 f.id, .int .i64 f.fr, .int .i64 f.tn, .int .i64 f.pe, .int .i64 f.ph, .int .i64 f.dl]) := Lib.hid (HX4.out.below hbs HX4.out.lt)
        have HGs : Hid (OwnsGr Ws (b + 1) b nd (slotsOf r.dl)) := Lib.hid (HG4.out.below hbs)
        have hXY : X < Y := by rw [hY]; exact HX4.out.lt
        have hYM : W1.heap.size ≤ Y := by rw [hY]; exact hB4.size
        rw [← hY]
        have rY := HY0.out.row
        unfold Row at rY
        clear hWs hY hB4 HX4 HG4 hbs
        go_wp2_with fail
        clear rY
        go_loopw [41] (fun i wr => ∃ (n : Nat), n ≤ cn ∧ i = .int .i64 n ∧ Below W1.heap.size W1 wr ∧ Hid (Blk wr X 37 [.int .i64 f.id, .int .i64 f.fr, .int .i64 f.tn, .int .i64 f.pe, .int .i64 f.ph, .int .i64 f.dl]) ∧ Hid (Blk wr Y 57 [.int .i64 (cn : Int), .int .i64 (svGo f r.dl n).1, .int .i64 (svGo f r.dl n).2.1, .int .i64 (svGo f r.dl n).2.2, .int .i64 0, .int .i64 0]) ∧ Hid (OwnsGr wr (b + 1) b nd (slotsOf r.dl))) (fun i _ => cn - (intOf i).toNat)
        case atStart => exact ⟨0, by omega, rfl, hBs, HXs, HY0, HGs⟩
        case round =>
          clear HXs HGs HY0 hBs
          obtain ⟨n, hn, rfl, hb, HXb, HYb, HGb⟩ := hrel
          by_cases hlt2 : n < cn
          · obtain ⟨wd, hwd⟩ : ∃ wd, wd = wr.drew := ⟨_, rfl⟩
            have hbd : Below wr.heap.size wr wd := by rw [hwd]; exact (Below.refl _ _).drew
            obtain ⟨u5, hlook', hoi⟩ := (HGb.out.below hbd).look (by unfold maxLen; omega) (a := x) (c := (n : Int)) (num_small (by rw [← HFx.out]; obtain ⟨h1, _⟩ := fault_zero hff; omega)) (num_small (by omega))
            obtain ⟨A5, c5, hu5⟩ := own_form2 hoi.1
            have hl5 : (slotsOf r.dl x (n : Int)).length ≤ 1000000 := by
              have h1 : (slotsOf r.dl x (n : Int)).length ≤ r.dl.length := by unfold slotsOf; rw [List.length_map]; exact List.length_filter_le _ _
              have := HNd.out
              omega
            have hI5 : LiesI wd wd.heap.size A5 (slotsOf r.dl x (n : Int)) := by
              have h1 := hoi.1
              rw [hu5] at h1
              exact own_I (by rw [flatI_map]; exact h1)
            have Con := Lib.hid (arrival_any f n (slotsOf r.dl x (n : Int)) A5 c5 wd hff (by omega) (by omega) hI5 hl5)
            rw [hu5] at hlook'
            obtain ⟨T5, hT5⟩ : ∃ T5, T5 = arrival f n (slotsOf r.dl x (n : Int)) := ⟨_, rfl⟩
            have HAb : Hid (T5.2 = true → rel f n ≤ T5.1 ∧ T5.1 ≤ rel f n + f.dl - 1) := Lib.hid (by rw [hT5]; exact arr_bounds f n _)
            have HT5 : Hid (svGo f r.dl (n + 1) = if T5.2 = true then ((svGo f r.dl n).1, if (svGo f r.dl n).2.1 = 0 ∨ T5.1 - rel f n + 1 < (svGo f r.dl n).2.1 then T5.1 - rel f n + 1 else (svGo f r.dl n).2.1, max (svGo f r.dl n).2.2 (T5.1 - rel f n + 1)) else ((svGo f r.dl n).1 + 1, (svGo f r.dl n).2.1, (svGo f r.dl n).2.2)) := Lib.hid (by rw [svGo_succ, hT5, ← HFx.out]; rfl)
            rw [← hT5] at Con
            obtain ⟨q5, hq5⟩ : ∃ q, q = (slotsOf r.dl x (n : Int)).length := ⟨_, rfl⟩
            rw [← hq5] at Con hlook'
            have HXd : Hid (Blk wd X 37 [.int .i64 f.id, .int .i64 f.fr, .int .i64 f.tn, .int .i64 f.pe, .int .i64 f.ph, .int .i64 f.dl]) := Lib.hid (by rw [hwd]; exact HXb.out.drew)
            have hXl : X < wr.heap.size := HXb.out.lt
            have HDZ : Hid (wr.heap.size = wd.heap.size) := Lib.hid (by rw [hwd]; rfl)
            have hBd : Below W1.heap.size W1 wd := hb.trans (hbd.mono hb.size)
            have HYd : Hid (Blk wd Y 57 [.int .i64 (cn : Int), .int .i64 (svGo f r.dl n).1, .int .i64 (svGo f r.dl n).2.1, .int .i64 (svGo f r.dl n).2.2, .int .i64 0, .int .i64 0]) := Lib.hid (by rw [hwd]; exact HYb.out.drew)
            have HGd : Hid (OwnsGr wd (b + 1) b nd (slotsOf r.dl)) := Lib.hid (HGb.out.below hbd)
            have hSb := sv_bounds hff r.dl n
            obtain ⟨S, hS⟩ : ∃ S, S = svGo f r.dl n := ⟨_, rfl⟩
            rw [← hS] at HYd HT5 hSb
            clear hoi hu5 hI5 hl5 hT5 hq5 hbd hS HXb HYb HGb
            go_upto_region 11 with fail
            refine wp_region_rough (wr.heap.size) 13 [] #[false, false, false, false, false, false, false, false, false, false, false, false, false] (by kernel_rfl) rfl rfl ?_
            rw [← hwd]
            clear hwd
            have y0 : ∀ (x' : ExtW wr.heap.size wd), x'.val.cell? ⟨X, 0, none⟩ = some (.int .i64 f.id) := fun x' => (x'.cell _ hXl).trans (HXd.out.row 0)
            have y1 : ∀ (x' : ExtW wr.heap.size wd), x'.val.cell? ⟨X, 1, none⟩ = some (.int .i64 f.fr) := fun x' => (x'.cell _ hXl).trans (HXd.out.row 1)
            have y2 : ∀ (x' : ExtW wr.heap.size wd), x'.val.cell? ⟨X, 2, none⟩ = some (.int .i64 f.tn) := fun x' => (x'.cell _ hXl).trans (HXd.out.row 2)
            have y3 : ∀ (x' : ExtW wr.heap.size wd), x'.val.cell? ⟨X, 3, none⟩ = some (.int .i64 f.pe) := fun x' => (x'.cell _ hXl).trans (HXd.out.row 3)
            have y4 : ∀ (x' : ExtW wr.heap.size wd), x'.val.cell? ⟨X, 4, none⟩ = some (.int .i64 f.ph) := fun x' => (x'.cell _ hXl).trans (HXd.out.row 4)
            have y5 : ∀ (x' : ExtW wr.heap.size wd), x'.val.cell? ⟨X, 5, none⟩ = some (.int .i64 f.dl) := fun x' => (x'.cell _ hXl).trans (HXd.out.row 5)
            refine anyR_take 0 _ (nth0) rfl (by kernel_rfl) (by kernel_rfl) (by kernel_rfl) (by kernel_rfl) (l' := #[true, false, false, false, false, false, false, false, false, false, false, false, false]) rfl rfl ?_; intro K hK; go_big_quiet_op; go_big_quiet_on
            refine anyR_take0 1 _ (nthS (nth0)) rfl (by kernel_rfl) (by kernel_rfl) (by kernel_rfl) (l' := #[true, true, false, false, false, false, false, false, false, false, false, false, false]) rfl rfl ?_; intro K hK; go_big_quiet_op; go_big_quiet_on
            refine anyR_take0 2 _ (nthS (nthS (nth0))) rfl (by kernel_rfl) (by kernel_rfl) (by kernel_rfl) (l' := #[true, true, true, false, false, false, false, false, false, false, false, false, false]) rfl rfl ?_; intro K hK; go_big_quiet_op; go_big_quiet_on
            refine anyR_take0 3 _ (nthS (nthS (nthS (nth0)))) rfl (by kernel_rfl) (by kernel_rfl) (by kernel_rfl) (l' := #[true, true, true, true, false, false, false, false, false, false, false, false, false]) rfl rfl ?_; intro K hK; go_big_quiet_op; go_big_quiet_on
            refine anyR_take0 4 _ (nthS (nthS (nthS (nthS (nth0))))) rfl (by kernel_rfl) (by kernel_rfl) (by kernel_rfl) (l' := #[true, true, true, true, true, false, false, false, false, false, false, false, false]) rfl rfl ?_; intro K hK; go_big_quiet_op; go_big_quiet_on
            refine anyR_take0 5 _ (nthS (nthS (nthS (nthS (nthS (nth0)))))) rfl (by kernel_rfl) (by kernel_rfl) (by kernel_rfl) (l' := #[true, true, true, true, true, true, false, false, false, false, false, false, false]) rfl rfl ?_; intro K hK; go_big_quiet_op; go_big_quiet_on
            refine anyR_one 6 _ (nthS (nthS (nthS (nthS (nthS (nthS (nth0))))))) (by kernel_rfl) (l' := #[true, true, true, true, true, true, true, false, false, false, false, false, false]) rfl ?_
            clear y0 y1 y2 y3 y4 y5
            go_wp2_with fail
            clear hlook'
            refine OneR_mk (Below.refl _ _) ?_
            refine anyR_one 7 _ (nthS (nthS (nthS (nthS (nthS (nthS (nthS (nth0)))))))) (by kernel_rfl) (l' := #[true, true, true, true, true, true, true, true, false, false, false, false, false]) rfl ?_
            go_wp2_with fail
            refine Con.out.mono ?_
            rintro e w5 ⟨rfl, hb5⟩
            clear Con
            go_wp2_with fail
            refine OneR_mk (hb5.mono (Nat.le_of_eq HDZ.out)) ?_
            refine anyR_take0 8 _ (nthS (nthS (nthS (nthS (nthS (nthS (nthS (nthS (nth0))))))))) rfl (by kernel_rfl) (by kernel_rfl) (by kernel_rfl) (l' := #[true, true, true, true, true, true, true, true, true, false, false, false, false]) rfl rfl ?_; intro K hK; go_big_quiet_op; go_big_quiet_on
            refine anyR_take0 9 _ (nthS (nthS (nthS (nthS (nthS (nthS (nthS (nthS (nthS (nth0)))))))))) rfl (by kernel_rfl) (by kernel_rfl) (by kernel_rfl) (l' := #[true, true, true, true, true, true, true, true, true, true, false, false, false]) rfl rfl ?_; intro K hK; go_big_quiet_op; go_big_quiet_on
            refine anyR_take0 10 _ (nthS (nthS (nthS (nthS (nthS (nthS (nthS (nthS (nthS (nthS (nth0))))))))))) rfl (by kernel_rfl) (by kernel_rfl) (by kernel_rfl) (l' := #[true, true, true, true, true, true, true, true, true, true, true, false, false]) rfl rfl ?_; intro K hK; go_big_quiet_op; go_big_quiet_on
            refine anyR_take0 11 _ (nthS (nthS (nthS (nthS (nthS (nthS (nthS (nthS (nthS (nthS (nthS (nth0)))))))))))) rfl (by kernel_rfl) (by kernel_rfl) (by kernel_rfl) (l' := #[true, true, true, true, true, true, true, true, true, true, true, true, false]) rfl rfl ?_; intro K hK; go_big_quiet_op; go_big_quiet_on
            refine anyR_take0 12 _ (nthS (nthS (nthS (nthS (nthS (nthS (nthS (nthS (nthS (nthS (nthS (nthS (nth0))))))))))))) rfl (by kernel_rfl) (by kernel_rfl) (by kernel_rfl) (l' := #[true, true, true, true, true, true, true, true, true, true, true, true, true]) rfl rfl ?_; intro K hK; go_big_quiet_op; go_big_quiet_on
            refine anyR_end (by kernel_rfl) ?_
            have hB5 : Below W1.heap.size W1 w5 := hBd.trans (hb5.mono hBd.size)
            have HX5 : Hid (Blk w5 X 37 [.int .i64 f.id, .int .i64 f.fr, .int .i64 f.tn, .int .i64 f.pe, .int .i64 f.ph, .int .i64 f.dl]) := Lib.hid (HXd.out.below hb5 HXd.out.lt)
            have HY5 : Hid (Blk w5 Y 57 [.int .i64 (cn : Int), .int .i64 S.1, .int .i64 S.2.1, .int .i64 S.2.2, .int .i64 0, .int .i64 0]) := Lib.hid (HYd.out.below hb5 HYd.out.lt)
            have HG5 : Hid (OwnsGr w5 (b + 1) b nd (slotsOf r.dl)) := Lib.hid (HGd.out.below hb5)
            clear HXd HYd HGd hBd HDZ hb5 hb hXl
            cases hok : T5.2 with
            | false =>
              have hQ : Hid (svGo f r.dl (n + 1) = (S.1 + 1, S.2.1, S.2.2)) := Lib.hid (by rw [HT5.out, hok]; rfl)
              have hw1 : IntKind.i64.wrap (S.1 + 1) = S.1 + 1 := by rw [IntKind.wrap_i64]; omega
              clear hok HAb HT5
              have hB6 : Hid (Below W1.heap.size W1 (w5.setCell ⟨Y, 1, none⟩ (.int .i64 (S.1 + 1)))) := Lib.hid (hB5.setCell (p := ⟨Y, 1, none⟩) hYM (.int .i64 (S.1 + 1)))
              have HX6 : Hid (Blk (w5.setCell ⟨Y, 1, none⟩ (.int .i64 (S.1 + 1))) X 37 [.int .i64 f.id, .int .i64 f.fr, .int .i64 f.tn, .int .i64 f.pe, .int .i64 f.ph, .int .i64 f.dl]) := Lib.hid (HX5.out.far (p := ⟨Y, 1, none⟩) (by dsimp only; omega) (.int .i64 (S.1 + 1)))
              have bY6 := (HY5.out.set_ 1 (.int .i64 (S.1 + 1)))
              simp only [List.set_cons_zero, List.set_cons_succ] at bY6
              have HY6 : Hid (Blk (w5.setCell ⟨Y, 1, none⟩ (.int .i64 (S.1 + 1))) Y 57 [.int .i64 (cn : Int), .int .i64 (S.1 + 1), .int .i64 S.2.1, .int .i64 S.2.2, .int .i64 0, .int .i64 0]) := Lib.hid bY6
              have HG6 : Hid (OwnsGr (w5.setCell ⟨Y, 1, none⟩ (.int .i64 (S.1 + 1))) (b + 1) b nd (slotsOf r.dl)) := Lib.hid (OwnsGr.cells HG5.out HY5.out (by decide) [.int .i64 (S.1 + 1)] 1)
              have rY := HY5.out.row
              have fY := HY5.out.frozen
              have rX := HX5.out.row
              unfold Row at rY rX
              clear bY6 HY5 HG5 HX5 hB5
              go_wp2_with fail
              go_roundw
              case rel => exact ⟨n + 1, by omega, by go_num, hB6.out, HX6, Lib.hid (by rw [hQ.out]; exact HY6.out), HG6⟩
              case measure => simp [intOf]; omega
            | true =>
              obtain ⟨hq1, hq2⟩ := HAb.out hok
              have hQ : Hid (svGo f r.dl (n + 1) = (S.1, if S.2.1 = 0 ∨ T5.1 - rel f n + 1 < S.2.1 then T5.1 - rel f n + 1 else S.2.1, max S.2.2 (T5.1 - rel f n + 1))) := Lib.hid (by rw [HT5.out, if_pos hok])
              obtain ⟨mm, hmm⟩ : ∃ mm, mm = (n : Int) * f.pe := ⟨_, rfl⟩
              have hrel : rel f n = f.ph + mm := by rw [hmm]; rfl
              rw [hrel] at hQ hq1 hq2
              obtain ⟨_, _, _, hpe, hph, hdl, _⟩ := fault_zero hff
              have hm0 : 0 ≤ mm := by rw [hmm]; exact Int.mul_nonneg (by omega) (by omega)
              have hm1 : mm ≤ 1000000 * f.pe := by rw [hmm]; exact Int.mul_le_mul_of_nonneg_right (by omega) (by omega)
              have hw1 : IntKind.i64.wrap ((n : Int) * f.pe) = mm := by rw [← hmm, IntKind.wrap_i64]; omega
              have hw2 : IntKind.i64.wrap (T5.1 - f.ph) = T5.1 - f.ph := by rw [IntKind.wrap_i64]; omega
              have hw3 : IntKind.i64.wrap (T5.1 - f.ph - mm) = T5.1 - f.ph - mm := by rw [IntKind.wrap_i64]; omega
              obtain ⟨q, hq⟩ : ∃ q, q = T5.1 - f.ph - mm + 1 := ⟨_, rfl⟩
              have hw4 : IntKind.i64.wrap (T5.1 - f.ph - mm + 1) = q := by rw [← hq, IntKind.wrap_i64]; omega
              have hqe : T5.1 - (f.ph + mm) + 1 = q := by rw [hq]; omega
              rw [hqe] at hQ
              have HMM := Lib.hid hmm.symm
              clear HAb HT5 hrel hmm hok hq1 hq2 hq hqe hm0 hm1
              obtain ⟨mx, hmx⟩ : ∃ mx, mx = max S.2.2 q := ⟨_, rfl⟩
              have hmx' : (if S.2.2 < q then q else S.2.2) = mx := by rw [hmx, Int.max_def]; split <;> split <;> omega
              rw [← hmx] at hQ
              have b3 := HY5.out.set_ 3 (.int .i64 mx)
              simp only [List.set_cons_zero, List.set_cons_succ] at b3
              have hx3 := HX5.out.far (p := ⟨Y, 3, none⟩) (by dsimp only; omega) (.int .i64 mx)
              have hg3 := OwnsGr.cells HG5.out HY5.out (by decide) [.int .i64 mx] 3
              have hB3 := hB5.setCell (p := ⟨Y, 3, none⟩) hYM (.int .i64 mx)
              have HP3 := Lib.hid (And.intro b3 (And.intro hx3 (And.intro hg3 hB3)))
              have HMX := Lib.hid hmx'
              have rY := HY5.out.row
              have fY := HY5.out.frozen
              have rX := HX5.out.row
              unfold Row at rY rX
              clear b3 hx3 hg3 hB3 hmx hmx'
              go_upto_region 16 with fail
              rw [HMX.out]
              generalize hW3 : World.setCell _ _ _ = W3
              have HP : Hid (Blk W3 Y 57 [.int .i64 (cn : Int), .int .i64 S.1, .int .i64 S.2.1, .int .i64 mx, .int .i64 0, .int .i64 0] ∧ Blk W3 X 37 [.int .i64 f.id, .int .i64 f.fr, .int .i64 f.tn, .int .i64 f.pe, .int .i64 f.ph, .int .i64 f.dl] ∧ OwnsGr W3 (b + 1) b nd (slotsOf r.dl) ∧ Below W1.heap.size W1 W3) := Lib.hid (by rw [← hW3]; exact HP3.out)
              clear hW3 HP3 rY fY rX HY5 HX5 HG5 hB5 HMX
              have rY := HP.out.1.row
              have fY := HP.out.1.frozen
              unfold Row at rY
              by_cases e1 : S.2.1 = 0 ∨ q < S.2.1
              · have hQ2 : Hid (svGo f r.dl (n + 1) = (S.1, q, mx)) := Lib.hid (by rw [hQ.out, if_pos e1])
                have b4 := HP.out.1.set_ 2 (.int .i64 q)
                simp only [List.set_cons_zero, List.set_cons_succ] at b4
                have HP4 := Lib.hid (And.intro b4 (And.intro (HP.out.2.1.far (p := ⟨Y, 2, none⟩) (by dsimp only; omega) (.int .i64 q)) (And.intro (OwnsGr.cells HP.out.2.2.1 HP.out.1 (by decide) [.int .i64 q] 2) (HP.out.2.2.2.setCell (p := ⟨Y, 2, none⟩) hYM (.int .i64 q)))))
                clear b4
                by_cases e2 : S.2.1 = 0
                · have d1 : (S.2.1 == 0) = true := by simpa using e2
                  clear e1 e2 hQ
                  go_wp2_with fail
                  go_roundw
                  case rel => exact ⟨n + 1, by omega, by go_num, HP4.out.2.2.2, Lib.hid HP4.out.2.1, Lib.hid (by rw [hQ2.out]; exact HP4.out.1), Lib.hid HP4.out.2.2.1⟩
                  case measure => simp [intOf]; omega
                · have d1 : (S.2.1 == 0) = false := by simpa using e2
                  have d2 : decide (q < S.2.1) = true := decide_eq_true (by omega)
                  clear e1 e2 hQ
                  go_wp2_with fail
                  go_roundw
                  case rel => exact ⟨n + 1, by omega, by go_num, HP4.out.2.2.2, Lib.hid HP4.out.2.1, Lib.hid (by rw [hQ2.out]; exact HP4.out.1), Lib.hid HP4.out.2.2.1⟩
                  case measure => simp [intOf]; omega
              · have hQ2 : Hid (svGo f r.dl (n + 1) = (S.1, S.2.1, mx)) := Lib.hid (by rw [hQ.out, if_neg e1])
                have d1 : (S.2.1 == 0) = false := by
                  rw [beq_eq_false_iff_ne]
                  exact fun h => e1 (.inl h)
                have d2 : decide (q < S.2.1) = false := decide_eq_false (fun h => e1 (.inr h))
                clear e1 hQ
                go_wp2_with fail
                go_roundw
                case rel => exact ⟨n + 1, by omega, by go_num, HP.out.2.2.2, Lib.hid HP.out.2.1, Lib.hid (by rw [hQ2.out]; exact HP.out.1), Lib.hid HP.out.2.2.1⟩
                case measure => simp [intOf]; omega
          · have h1 : n = cn := by omega
            subst h1
            have hS1 := sv_bounds hff r.dl n
            obtain ⟨S, hS⟩ : ∃ S, S = svGo f r.dl n := ⟨_, rfl⟩
            rw [← hS] at HYb
            have HS := Lib.hid hS
            have rN := (HW.out _ hb).2.1
            unfold Row at rN
            have HY0 : Hid (Blk wr Y 57 [.int .i64 (n : Int), .int .i64 S.1, .int .i64 S.2.1, .int .i64 S.2.2, .int .i64 (cntAtt (r.al.take 0) x), .int .i64 (cntLost (r.al.take 0) x)]) := Lib.hid (by simpa [cntAtt, cntLost] using HYb.out)
            clear HGb HXb hS HYb
            go_wp2_with fail
            clear rN
            obtain ⟨wo, hwo⟩ : ∃ wo : World, wo = wr := ⟨_, rfl⟩
            subst hwo
            go_loopw [92] (fun i wr => ∃ (k : Nat), k ≤ na ∧ i = .int .i64 k ∧ Below W1.heap.size W1 wr ∧ Hid (Blk wr Y 57 [.int .i64 (n : Int), .int .i64 S.1, .int .i64 S.2.1, .int .i64 S.2.2, .int .i64 (cntAtt (r.al.take k) x), .int .i64 (cntLost (r.al.take k) x)])) (fun i _ => na - (intOf i).toNat)
            case atStart => exact ⟨0, by omega, rfl, hb, HY0⟩
            case round =>
              clear HY0 hb
              obtain ⟨k, hk, rfl, hb, HYb⟩ := hrel
              by_cases hlt3 : k < na
              · obtain ⟨a, hak⟩ := get_of_lt (l := r.al) (k := k) (by rw [← HNa.out]; exact hlt3)
                obtain ⟨ab, aoff, rfl, haB, hcs⟩ := (HA.out _ hb).at_ hak
                obtain ⟨c0, c1, c2, c3, c4, c5, c6, c7⟩ := hcs k a hak
                have HCt := Lib.hid (And.intro (cntAtt_succ hak x) (cntLost_succ hak x))
                obtain ⟨k1, k2, k3, k4⟩ := cnt_bounds r.al x k
                obtain ⟨A0, hA0⟩ : ∃ A0, A0 = cntAtt (r.al.take k) x := ⟨_, rfl⟩
                obtain ⟨L0, hL0⟩ : ∃ L0, L0 = cntLost (r.al.take k) x := ⟨_, rfl⟩
                rw [← hA0, ← hL0] at HCt HYb
                rw [← hA0] at k1 k2
                rw [← hL0] at k3 k4
                have hw1 : IntKind.i64.wrap (A0 + 1) = A0 + 1 := by rw [IntKind.wrap_i64]; omega
                have hw2 : IntKind.i64.wrap (L0 + 1) = L0 + 1 := by rw [IntKind.wrap_i64]; omega
                clear hcs hak hA0 hL0
                go_upto_region 22 with fail
                clear c0 c1 c2 c3 c4 c5 c6 c7
                obtain ⟨Z, hZ⟩ : ∃ Z, Z = wr.heap.size := ⟨_, rfl⟩
                generalize hWa : World.alloc _ _ = Wa
                have bZ : Blk Wa Z 66 [.int .i64 a.s, .int .i64 a.f, .int .i64 a.cs, .int .i64 a.co, .int .i64 a.cf, .int .i64 a.ct, .int .i64 a.cl, .int .i64 a.o] := by rw [← hWa]; exact Blk.new2 _ [.int .i64 a.s, .int .i64 a.f, .int .i64 a.cs, .int .i64 a.co, .int .i64 a.cf, .int .i64 a.ct, .int .i64 a.cl, .int .i64 a.o] hZ
                have hBa : Below W1.heap.size W1 Wa := by rw [← hWa]; exact hb.alloc hb.size _
                have HYa : Hid (Blk Wa Y 57 [.int .i64 (n : Int), .int .i64 S.1, .int .i64 S.2.1, .int .i64 S.2.2, .int .i64 A0, .int .i64 L0]) := Lib.hid (by rw [← hWa]; exact HYb.out.alloc _)
                have hYZ : Y < Z := by rw [hZ]; exact HYb.out.lt
                rw [← hZ]
                have rZ := bZ.row
                have rY := HYa.out.row
                unfold Row at rZ rY
                clear hWa hZ hb HYb bZ
                cases hc : (a.cl == x) with
                | false =>
                  have b6 := HYa.out
                  have HY6 : Hid (Blk Wa Y 57 [.int .i64 (n : Int), .int .i64 S.1, .int .i64 S.2.1, .int .i64 S.2.2, .int .i64 A0, .int .i64 L0]) := Lib.hid b6
                  have hB6 : Hid (Below W1.heap.size W1 Wa) := Lib.hid hBa
                  have HN6 : Hid (cntAtt (r.al.take (k + 1)) x = A0 ∧ cntLost (r.al.take (k + 1)) x = L0) := Lib.hid (by obtain ⟨e1, e2⟩ := HCt.out; rw [e1, e2]; simp [hc])
                  have fY := HYa.out.frozen
                  clear b6 HYa HCt
                  go_wp2_with fail
                  go_roundw
                  case rel => exact ⟨k + 1, by omega, by go_num, hB6.out, Lib.hid (by rw [HN6.out.1, HN6.out.2]; exact HY6.out)⟩
                  case measure => simp [intOf]; omega
                | true =>
                  cases ho : (a.o == 4) with
                  | true =>
                    have ho' : (a.o != 4) = false := by simpa using ho
                    have b6 := HYa.out
                    have HY6 : Hid (Blk Wa Y 57 [.int .i64 (n : Int), .int .i64 S.1, .int .i64 S.2.1, .int .i64 S.2.2, .int .i64 A0, .int .i64 L0]) := Lib.hid b6
                    have hB6 : Hid (Below W1.heap.size W1 Wa) := Lib.hid hBa
                    have HN6 : Hid (cntAtt (r.al.take (k + 1)) x = A0 ∧ cntLost (r.al.take (k + 1)) x = L0) := Lib.hid (by obtain ⟨e1, e2⟩ := HCt.out; rw [e1, e2]; simp [hc, ho])
                    have fY := HYa.out.frozen
                    clear b6 HYa HCt
                    go_wp2_with fail
                    go_roundw
                    case rel => exact ⟨k + 1, by omega, by go_num, hB6.out, Lib.hid (by rw [HN6.out.1, HN6.out.2]; exact HY6.out)⟩
                    case measure => simp [intOf]; omega
                  | false =>
                    have ho' : (a.o != 4) = true := by simpa using ho
                    cases h1 : (a.o == 1) with
                    | true =>
                      have h1' : (a.o != 1) = false := by simpa using h1
                      have b6 := (HYa.out.set_ 4 (.int .i64 (A0 + 1)))
                      simp only [List.set_cons_zero, List.set_cons_succ] at b6
                      have HY6 : Hid (Blk (Wa.setCell ⟨Y, 4, none⟩ (.int .i64 (A0 + 1))) Y 57 [.int .i64 (n : Int), .int .i64 S.1, .int .i64 S.2.1, .int .i64 S.2.2, .int .i64 (A0 + 1), .int .i64 L0]) := Lib.hid b6
                      have hB6 : Hid (Below W1.heap.size W1 (Wa.setCell ⟨Y, 4, none⟩ (.int .i64 (A0 + 1)))) := Lib.hid (hBa.setCell (p := ⟨Y, 4, none⟩) hYM (.int .i64 (A0 + 1)))
                      have HN6 : Hid (cntAtt (r.al.take (k + 1)) x = (A0 + 1) ∧ cntLost (r.al.take (k + 1)) x = L0) := Lib.hid (by obtain ⟨e1, e2⟩ := HCt.out; rw [e1, e2]; simp [hc, ho, h1])
                      have fY := HYa.out.frozen
                      clear b6 HYa HCt
                      go_wp2_with fail
                      go_roundw
                      case rel => exact ⟨k + 1, by omega, by go_num, hB6.out, Lib.hid (by rw [HN6.out.1, HN6.out.2]; exact HY6.out)⟩
                      case measure => simp [intOf]; omega
                    | false =>
                      have h1' : (a.o != 1) = true := by simpa using h1
                      have b6 := ((HYa.out.set_ 4 (.int .i64 (A0 + 1))).set_ 5 (.int .i64 (L0 + 1)))
                      simp only [List.set_cons_zero, List.set_cons_succ] at b6
                      have HY6 : Hid (Blk ((Wa.setCell ⟨Y, 4, none⟩ (.int .i64 (A0 + 1))).setCell ⟨Y, 5, none⟩ (.int .i64 (L0 + 1))) Y 57 [.int .i64 (n : Int), .int .i64 S.1, .int .i64 S.2.1, .int .i64 S.2.2, .int .i64 (A0 + 1), .int .i64 (L0 + 1)]) := Lib.hid b6
                      have hB6 : Hid (Below W1.heap.size W1 ((Wa.setCell ⟨Y, 4, none⟩ (.int .i64 (A0 + 1))).setCell ⟨Y, 5, none⟩ (.int .i64 (L0 + 1)))) := Lib.hid ((hBa.setCell (p := ⟨Y, 4, none⟩) hYM (.int .i64 (A0 + 1))).setCell (p := ⟨Y, 5, none⟩) hYM (.int .i64 (L0 + 1)))
                      have HN6 : Hid (cntAtt (r.al.take (k + 1)) x = (A0 + 1) ∧ cntLost (r.al.take (k + 1)) x = (L0 + 1)) := Lib.hid (by obtain ⟨e1, e2⟩ := HCt.out; rw [e1, e2]; simp [hc, ho, h1])
                      have fY := HYa.out.frozen
                      clear b6 HYa HCt
                      go_wp2_with fail
                      go_roundw
                      case rel => exact ⟨k + 1, by omega, by go_num, hB6.out, Lib.hid (by rw [HN6.out.1, HN6.out.2]; exact HY6.out)⟩
                      case measure => simp [intOf]; omega
              · have h1 : k = na := by omega
                subst h1
                have hto : r.al.take k = r.al := List.take_of_length_le (by rw [← HNa.out]; exact Nat.le_refl _)
                rw [hto] at HYb
                have hfin : Hid ((Mo.serveF f r).cells = [.int .i64 (n : Int), .int .i64 S.1, .int .i64 S.2.1, .int .i64 S.2.2, .int .i64 (cntAtt r.al x), .int .i64 (cntLost r.al x)]) := Lib.hid (by
                  have hcc := HCN.out
                  unfold Mo.serveF Mo.Sv.cells
                  dsimp only
                  rw [HFx.out, hcc, Int.toNat_natCast, ← HS.out])
                have rY := HYb.out.row
                unfold Row at rY
                clear hlt3 hto
                have b5 := (HW.out _ hb).2.2
                have cb5 := b5.row
                have fb5 := b5.frozen
                unfold Row at cb5
                have b6 := ((((((b5.set_ 0 (.int .i64 (n : Int))).set_ 1 (.int .i64 S.1)).set_ 2 (.int .i64 S.2.1)).set_ 3 (.int .i64 S.2.2)).set_ 4 (.int .i64 (cntAtt r.al x))).set_ 5 (.int .i64 (cntLost r.al x)))
                simp only [List.set_cons_zero, List.set_cons_succ] at b6
                have C6 := Lib.hid b6.row
                have HB6 : Hid (Below w.heap.size w ((((((wr.setCell ⟨N + 1, 0, none⟩ (.int .i64 (n : Int))).setCell ⟨N + 1, 1, none⟩ (.int .i64 S.1)).setCell ⟨N + 1, 2, none⟩ (.int .i64 S.2.1)).setCell ⟨N + 1, 3, none⟩ (.int .i64 S.2.2)).setCell ⟨N + 1, 4, none⟩ (.int .i64 (cntAtt r.al x))).setCell ⟨N + 1, 5, none⟩ (.int .i64 (cntLost r.al x)))) := Lib.hid (((((((HW.out _ hb).1.setCell (p := ⟨N + 1, 0, none⟩) (by dsimp only; have := HN.out; omega) (.int .i64 (n : Int))).setCell (p := ⟨N + 1, 1, none⟩) (by dsimp only; have := HN.out; omega) (.int .i64 S.1)).setCell (p := ⟨N + 1, 2, none⟩) (by dsimp only; have := HN.out; omega) (.int .i64 S.2.1)).setCell (p := ⟨N + 1, 3, none⟩) (by dsimp only; have := HN.out; omega) (.int .i64 S.2.2)).setCell (p := ⟨N + 1, 4, none⟩) (by dsimp only; have := HN.out; omega) (.int .i64 (cntAtt r.al x))).setCell (p := ⟨N + 1, 5, none⟩) (by dsimp only; have := HN.out; omega) (.int .i64 (cntLost r.al x)))
                clear b6
                go_wp2_with fail
                have c6 := C6.out
                unfold Row at c6
                refine bodyPost_ret (v := .tuple #[.agg #[.int .i64 (n : Int), .int .i64 S.1, .int .i64 S.2.1, .int .i64 S.2.2, .int .i64 (cntAtt r.al x), .int .i64 (cntLost r.al x)], .int .i64 0]) (by simp [results, Try.results23, go_sem, c6]) rfl ?_
                exact ⟨HB6.out, by rw [hl.out]; dsimp only; rw [hfin.out]⟩
end Go.Proofs.Ytkdigdnacggknaa
/- Abstract data: records, flows, late frames. -/
namespace Go.Proofs.Ytkdigdnacggknaa
open Go.RowKit
open Nd Rc Mo
open Av
set_option maxRecDepth 100000
set_option linter.unusedSimpArgs false

abbrev iv (n : Int) : AV := .v (.int .i64 n)
abbrev ip (n : Int) : PV := .v (.int .i64 n)
abbrev bv (b : Bool) : AV := .v (.bool b)
def Rc.Att.pv (a : Att) : List PV := [ip a.s, ip a.f, ip a.cs, ip a.co, ip a.cf, ip a.ct, ip a.cl, ip a.o]
def Rc.Dlv.pv (d : Dlv) : List PV := [ip d.fl, ip d.fr, ip d.sl]
def Nd.Fl.pv (f : Fl) : List PV := [ip f.id, ip f.fr, ip f.tn, ip f.pe, ip f.ph, ip f.dl]
def Mo.Lt.pv (x : Lt) : List PV := [ip x.fl, ip x.fr, ip x.sl]
def Rc.Rec.pv (r : Rec) : List PV := [ip r.slots, .sl 8 (r.al.map Att.pv), .sl 3 (r.dl.map Dlv.pv)]
theorem map_pv {α : Type} {f : α → List PV} {g : α → List Value} (h : ∀ x, f x = (g x).map PV.v) (l : List α) : l.map f = (l.map g).map fun row => row.map PV.v := by
  rw [List.map_map]
  exact List.map_congr_left fun x _ => h x
theorem att_pv (l : List Att) : l.map Att.pv = (l.map Att.row).map fun row => row.map PV.v := map_pv (f := Att.pv) (g := Att.row) (fun _ => rfl) l
theorem dlv_pv (l : List Dlv) : l.map Dlv.pv = (l.map Dlv.row).map fun row => row.map PV.v := map_pv (f := Dlv.pv) (g := Dlv.row) (fun _ => rfl) l
theorem fl_pv (l : List Fl) : l.map Fl.pv = (l.map Fl.row).map fun row => row.map PV.v := map_pv (f := Fl.pv) (g := Fl.row) (fun _ => rfl) l
theorem lt_pv (l : List Lt) : l.map Lt.pv = (l.map Lt.row).map fun row => row.map PV.v := map_pv (f := Lt.pv) (g := Lt.row) (fun _ => rfl) l
theorem rec_rep {w : World} {R : Reader} {bx : Nat → Nat} {r : Rec} {u : Value} (hR : ∀ p v, R p = some v → w.cell? p = some v) (h : RepA R bx (.agg r.pv) u) :
    ∃ A D ca cd, u = .agg #[.int .i64 r.slots, .slice A r.al.length ca, .slice D r.dl.length cd] ∧ LiesA w w.heap.size A r.al ∧ LiesD w w.heap.size D r.dl := by
  obtain ⟨us, rfl, h⟩ := h
  cases h with
  | cons h1 h =>
    cases h with
    | cons h2 h =>
      cases h with
      | cons h3 h =>
        cases h
        cases h1
        rw [att_pv] at h2
        rw [dlv_pv] at h3
        obtain ⟨A, ca, rfl, hA⟩ := lies_of_rep hR (by decide) h2
        obtain ⟨D, cd, rfl, hD⟩ := lies_of_rep hR (by decide) h3
        rw [List.length_map, List.length_map]
        exact ⟨A, D, ca, cd, rfl, hA, hD⟩
theorem fls_rep {w : World} {R : Reader} {bx : Nat → Nat} {fs : List Fl} {u : Value} (hR : ∀ p v, R p = some v → w.cell? p = some v) (h : RepA R bx (.sl 6 (fs.map Fl.pv)) u) :
    ∃ A c, u = .slice A fs.length c ∧ Lies w w.heap.size 6 A (fs.map Fl.row) := by
  have h' : RepP R (.sl 6 (fs.map Fl.pv)) u := h
  rw [fl_pv] at h'
  obtain ⟨A, c, rfl, hA⟩ := lies_of_rep hR (by decide) h'
  rw [List.length_map]
  exact ⟨A, c, rfl, hA⟩
/-- A result that is a value, or values. -/
theorem res_v {R : Reader} {w w' : World} {x : Value} : ResRep R w w' ⟨.v x, none⟩ x := ⟨rfl, rfl⟩
theorem res_rows {R : Reader} {w w' : World} {e : TypeId} {sz : Nat} {v : Value} {xs : List (List Value)} {n : Int} (hs : 0 < sz) (h : w'.ownsRow w.heap.size e sz v xs.length xs.flatten) (hl : ∀ row ∈ xs, row.length = sz) (h1 : ∀ row ∈ xs, ∀ x ∈ row, x.oneCell' = true) :
    ResRep R w w' ⟨.tup [.c (.sl sz (xs.map fun row => row.map PV.v)), .c (ip n)], none⟩ (.tuple #[v, .int .i64 n]) := by
  obtain ⟨q, _, h2⟩ := owns_rep (R := R) hs h hl h1
  have h3 := h2 none (.inl rfl)
  refine ⟨rfl, [v, .int .i64 n], rfl, .cons (.c (h3.mono fun p y hp => ?_)) (.cons (.c (.v _ rfl)) .nil)⟩
  unfold fresh at hp ⊢
  split at hp
  · rename_i hb; rw [if_pos hb]; exact hp
  · rename_i hb
    rw [if_neg hb, if_neg (by rintro ⟨h4, _⟩; cases h4)]
    split at hp
    · cases hp
    · exact hp
end Go.Proofs.Ytkdigdnacggknaa
/- Sizes and zero values of types. -/
namespace Go.Proofs.Ytkdigdnacggknaa
open Go.RowKit
open Nd Rc Mo
open Av
set_option maxRecDepth 100000
set_option linter.unusedSimpArgs false
theorem all_arr {α : Type} {l : List α} {p : α → Bool} {n : Nat} (h : n = l.length) : l.toArray.all p 0 n = l.all p := by subst h; simp
theorem loc_ss (a b : Nat) : (Loc.s a == Loc.s b) = (a == b) := by rw [Bool.eq_iff_iff, beq_iff_eq, beq_iff_eq, Loc.s.injEq]
theorem loc_sb (a b c : Nat) : (Loc.s a == Loc.b b c) = false := by rw [beq_eq_false_iff_ne]; exact fun h => by cases h
theorem loc_bs (a b c : Nat) : (Loc.b b c == Loc.s a) = false := by rw [beq_eq_false_iff_ne]; exact fun h => by cases h
theorem loc_bb (a b c d : Nat) : (Loc.b a b == Loc.b c d) = (a == c && b == d) := by rw [Bool.eq_iff_iff, Bool.and_eq_true, beq_iff_eq, beq_iff_eq, beq_iff_eq, Loc.b.injEq]
theorem arr_two {α : Type} (a b c : α) : ((#[a, b] : Array α) = #[c]) = False := eq_false fun h => by have := congrArg Array.size h; simp at this
theorem rg1 : List.range 1 = [0] := by decide
theorem rg2 : List.range 2 = [0, 1] := by decide
theorem rg3 : List.range 3 = [0, 1, 2] := by decide
theorem rg4 : List.range 4 = [0, 1, 2, 3] := by decide
theorem rg5 : List.range 5 = [0, 1, 2, 3, 4] := by decide
theorem rg6 : List.range 6 = [0, 1, 2, 3, 4, 5] := by decide
theorem rg7 : List.range 7 = [0, 1, 2, 3, 4, 5, 6] := by decide
theorem rg8 : List.range 8 = [0, 1, 2, 3, 4, 5, 6, 7] := by decide
theorem arr_one {α : Type} (a b : α) : ((#[a] : Array α) = #[b]) = (a = b) := by simp
theorem Try.sz3 : (Try.prog.info? 3).map (·.size) = some 1 := by kernel_rfl
theorem Try.zr3 : (Try.prog.info? 3).map (·.zero) = some (some (.int .i64 0)) := by kernel_rfl
theorem Try.pl3 (k : Nat) : (Try.prog.info? 3).map (fun t => (k, t.size)) = some (k, 1) := by
  have h := Try.sz3
  cases hi : Try.prog.info? 3 with
  | none => rw [hi] at h; cases h
  | some i => rw [hi] at h; simp only [Option.map_some, Option.some.injEq] at h ⊢; rw [h]
theorem Try.is3 : (Try.prog.info? 3).isSome = true := by kernel_rfl
theorem Try.by3 : (Try.prog.info? 3).map (fun j => decide (j.bytes ≤ 1000000)) = some true := by kernel_rfl
theorem Try.sz4 : (Try.prog.info? 4).map (·.size) = some 1 := by kernel_rfl
theorem Try.zr4 : (Try.prog.info? 4).map (·.zero) = some (some (.bool false)) := by kernel_rfl
theorem Try.pl4 (k : Nat) : (Try.prog.info? 4).map (fun t => (k, t.size)) = some (k, 1) := by
  have h := Try.sz4
  cases hi : Try.prog.info? 4 with
  | none => rw [hi] at h; cases h
  | some i => rw [hi] at h; simp only [Option.map_some, Option.some.injEq] at h ⊢; rw [h]
theorem Try.is4 : (Try.prog.info? 4).isSome = true := by kernel_rfl
theorem Try.by4 : (Try.prog.info? 4).map (fun j => decide (j.bytes ≤ 1000000)) = some true := by kernel_rfl
theorem Try.sz32 : (Try.prog.info? 32).map (·.size) = some 1 := by kernel_rfl
theorem Try.zr32 : (Try.prog.info? 32).map (·.zero) = some (some (.int .i64 0)) := by kernel_rfl
theorem Try.pl32 (k : Nat) : (Try.prog.info? 32).map (fun t => (k, t.size)) = some (k, 1) := by
  have h := Try.sz32
  cases hi : Try.prog.info? 32 with
  | none => rw [hi] at h; cases h
  | some i => rw [hi] at h; simp only [Option.map_some, Option.some.injEq] at h ⊢; rw [h]
theorem Try.is32 : (Try.prog.info? 32).isSome = true := by kernel_rfl
theorem Try.by32 : (Try.prog.info? 32).map (fun j => decide (j.bytes ≤ 1000000)) = some true := by kernel_rfl
theorem Try.sz28 : (Try.prog.info? 28).map (·.size) = some 3 := by kernel_rfl
theorem Try.zr28 : (Try.prog.info? 28).map (·.zero) = some (some (.agg #[.int .i64 0, .slice none 0 0, .slice none 0 0])) := by kernel_rfl
theorem Try.pl28 (k : Nat) : (Try.prog.info? 28).map (fun t => (k, t.size)) = some (k, 3) := by
  have h := Try.sz28
  cases hi : Try.prog.info? 28 with
  | none => rw [hi] at h; cases h
  | some i => rw [hi] at h; simp only [Option.map_some, Option.some.injEq] at h ⊢; rw [h]
theorem Try.is28 : (Try.prog.info? 28).isSome = true := by kernel_rfl
theorem Try.by28 : (Try.prog.info? 28).map (fun j => decide (j.bytes ≤ 1000000)) = some true := by kernel_rfl
theorem Try.sz26 : (Try.prog.info? 26).map (·.size) = some 2 := by kernel_rfl
theorem Try.zr26 : (Try.prog.info? 26).map (·.zero) = some (some (.agg #[.slice none 0 0, .slice none 0 0])) := by kernel_rfl
theorem Try.pl26 (k : Nat) : (Try.prog.info? 26).map (fun t => (k, t.size)) = some (k, 2) := by
  have h := Try.sz26
  cases hi : Try.prog.info? 26 with
  | none => rw [hi] at h; cases h
  | some i => rw [hi] at h; simp only [Option.map_some, Option.some.injEq] at h ⊢; rw [h]
theorem Try.is26 : (Try.prog.info? 26).isSome = true := by kernel_rfl
theorem Try.by26 : (Try.prog.info? 26).map (fun j => decide (j.bytes ≤ 1000000)) = some true := by kernel_rfl
theorem Try.sz37 : (Try.prog.info? 37).map (·.size) = some 6 := by kernel_rfl
theorem Try.zr37 : (Try.prog.info? 37).map (·.zero) = some (some (.agg #[.int .i64 0, .int .i64 0, .int .i64 0, .int .i64 0, .int .i64 0, .int .i64 0])) := by kernel_rfl
theorem Try.pl37 (k : Nat) : (Try.prog.info? 37).map (fun t => (k, t.size)) = some (k, 6) := by
  have h := Try.sz37
  cases hi : Try.prog.info? 37 with
  | none => rw [hi] at h; cases h
  | some i => rw [hi] at h; simp only [Option.map_some, Option.some.injEq] at h ⊢; rw [h]
theorem Try.is37 : (Try.prog.info? 37).isSome = true := by kernel_rfl
theorem Try.by37 : (Try.prog.info? 37).map (fun j => decide (j.bytes ≤ 1000000)) = some true := by kernel_rfl
theorem Try.sz68 : (Try.prog.info? 68).map (·.size) = some 3 := by kernel_rfl
theorem Try.zr68 : (Try.prog.info? 68).map (·.zero) = some (some (.agg #[.int .i64 0, .int .i64 0, .int .i64 0])) := by kernel_rfl
theorem Try.pl68 (k : Nat) : (Try.prog.info? 68).map (fun t => (k, t.size)) = some (k, 3) := by
  have h := Try.sz68
  cases hi : Try.prog.info? 68 with
  | none => rw [hi] at h; cases h
  | some i => rw [hi] at h; simp only [Option.map_some, Option.some.injEq] at h ⊢; rw [h]
theorem Try.is68 : (Try.prog.info? 68).isSome = true := by kernel_rfl
theorem Try.by68 : (Try.prog.info? 68).map (fun j => decide (j.bytes ≤ 1000000)) = some true := by kernel_rfl
theorem Try.sz57 : (Try.prog.info? 57).map (·.size) = some 6 := by kernel_rfl
theorem Try.zr57 : (Try.prog.info? 57).map (·.zero) = some (some (.agg #[.int .i64 0, .int .i64 0, .int .i64 0, .int .i64 0, .int .i64 0, .int .i64 0])) := by kernel_rfl
theorem Try.pl57 (k : Nat) : (Try.prog.info? 57).map (fun t => (k, t.size)) = some (k, 6) := by
  have h := Try.sz57
  cases hi : Try.prog.info? 57 with
  | none => rw [hi] at h; cases h
  | some i => rw [hi] at h; simp only [Option.map_some, Option.some.injEq] at h ⊢; rw [h]
theorem Try.is57 : (Try.prog.info? 57).isSome = true := by kernel_rfl
theorem Try.by57 : (Try.prog.info? 57).map (fun j => decide (j.bytes ≤ 1000000)) = some true := by kernel_rfl
theorem Try.sz70 : (Try.prog.info? 70).map (·.size) = some 5 := by kernel_rfl
theorem Try.zr70 : (Try.prog.info? 70).map (·.zero) = some (some (.agg #[.int .i64 0, .int .i64 0, .int .i64 0, .int .i64 0, .slice none 0 0])) := by kernel_rfl
theorem Try.pl70 (k : Nat) : (Try.prog.info? 70).map (fun t => (k, t.size)) = some (k, 5) := by
  have h := Try.sz70
  cases hi : Try.prog.info? 70 with
  | none => rw [hi] at h; cases h
  | some i => rw [hi] at h; simp only [Option.map_some, Option.some.injEq] at h ⊢; rw [h]
theorem Try.is70 : (Try.prog.info? 70).isSome = true := by kernel_rfl
theorem Try.by70 : (Try.prog.info? 70).map (fun j => decide (j.bytes ≤ 1000000)) = some true := by kernel_rfl
theorem Try.sz54 : (Try.prog.info? 54).map (·.size) = some 3 := by kernel_rfl
theorem Try.zr54 : (Try.prog.info? 54).map (·.zero) = some (some (.agg #[.int .i64 0, .int .i64 0, .int .i64 0])) := by kernel_rfl
theorem Try.pl54 (k : Nat) : (Try.prog.info? 54).map (fun t => (k, t.size)) = some (k, 3) := by
  have h := Try.sz54
  cases hi : Try.prog.info? 54 with
  | none => rw [hi] at h; cases h
  | some i => rw [hi] at h; simp only [Option.map_some, Option.some.injEq] at h ⊢; rw [h]
theorem Try.is54 : (Try.prog.info? 54).isSome = true := by kernel_rfl
theorem Try.by54 : (Try.prog.info? 54).map (fun j => decide (j.bytes ≤ 1000000)) = some true := by kernel_rfl
theorem Try.sz66 : (Try.prog.info? 66).map (·.size) = some 8 := by kernel_rfl
theorem Try.zr66 : (Try.prog.info? 66).map (·.zero) = some (some (.agg #[.int .i64 0, .int .i64 0, .int .i64 0, .int .i64 0, .int .i64 0, .int .i64 0, .int .i64 0, .int .i64 0])) := by kernel_rfl
theorem Try.pl66 (k : Nat) : (Try.prog.info? 66).map (fun t => (k, t.size)) = some (k, 8) := by
  have h := Try.sz66
  cases hi : Try.prog.info? 66 with
  | none => rw [hi] at h; cases h
  | some i => rw [hi] at h; simp only [Option.map_some, Option.some.injEq] at h ⊢; rw [h]
theorem Try.is66 : (Try.prog.info? 66).isSome = true := by kernel_rfl
theorem Try.by66 : (Try.prog.info? 66).map (fun j => decide (j.bytes ≤ 1000000)) = some true := by kernel_rfl
theorem Try.sz64 : (Try.prog.info? 64).map (·.size) = some 5 := by kernel_rfl
theorem Try.zr64 : (Try.prog.info? 64).map (·.zero) = some (some (.agg #[.int .i64 0, .int .i64 0, .int .i64 0, .int .i64 0, .int .i64 0])) := by kernel_rfl
theorem Try.pl64 (k : Nat) : (Try.prog.info? 64).map (fun t => (k, t.size)) = some (k, 5) := by
  have h := Try.sz64
  cases hi : Try.prog.info? 64 with
  | none => rw [hi] at h; cases h
  | some i => rw [hi] at h; simp only [Option.map_some, Option.some.injEq] at h ⊢; rw [h]
theorem Try.is64 : (Try.prog.info? 64).isSome = true := by kernel_rfl
theorem Try.by64 : (Try.prog.info? 64).map (fun j => decide (j.bytes ≤ 1000000)) = some true := by kernel_rfl
theorem Try.sz73 : (Try.prog.info? 73).map (·.size) = some 3 := by kernel_rfl
theorem Try.zr73 : (Try.prog.info? 73).map (·.zero) = some (some (.agg #[.int .i64 0, .int .i64 0, .int .i64 0])) := by kernel_rfl
theorem Try.pl73 (k : Nat) : (Try.prog.info? 73).map (fun t => (k, t.size)) = some (k, 3) := by
  have h := Try.sz73
  cases hi : Try.prog.info? 73 with
  | none => rw [hi] at h; cases h
  | some i => rw [hi] at h; simp only [Option.map_some, Option.some.injEq] at h ⊢; rw [h]
theorem Try.is73 : (Try.prog.info? 73).isSome = true := by kernel_rfl
theorem Try.by73 : (Try.prog.info? 73).map (fun j => decide (j.bytes ≤ 1000000)) = some true := by kernel_rfl
theorem Try.sz102 : (Try.prog.info? 102).map (·.size) = some 2 := by kernel_rfl
theorem Try.zr102 : (Try.prog.info? 102).map (·.zero) = some (some (.agg #[.int .i64 0, .int .i64 0])) := by kernel_rfl
theorem Try.pl102 (k : Nat) : (Try.prog.info? 102).map (fun t => (k, t.size)) = some (k, 2) := by
  have h := Try.sz102
  cases hi : Try.prog.info? 102 with
  | none => rw [hi] at h; cases h
  | some i => rw [hi] at h; simp only [Option.map_some, Option.some.injEq] at h ⊢; rw [h]
theorem Try.is102 : (Try.prog.info? 102).isSome = true := by kernel_rfl
theorem Try.by102 : (Try.prog.info? 102).map (fun j => decide (j.bytes ≤ 1000000)) = some true := by kernel_rfl
theorem Try.sz105 : (Try.prog.info? 105).map (·.size) = some 4 := by kernel_rfl
theorem Try.zr105 : (Try.prog.info? 105).map (·.zero) = some (some (.agg #[.int .i64 0, .int .i64 0, .int .i64 0, .int .i64 0])) := by kernel_rfl
theorem Try.pl105 (k : Nat) : (Try.prog.info? 105).map (fun t => (k, t.size)) = some (k, 4) := by
  have h := Try.sz105
  cases hi : Try.prog.info? 105 with
  | none => rw [hi] at h; cases h
  | some i => rw [hi] at h; simp only [Option.map_some, Option.some.injEq] at h ⊢; rw [h]
theorem Try.is105 : (Try.prog.info? 105).isSome = true := by kernel_rfl
theorem Try.by105 : (Try.prog.info? 105).map (fun j => decide (j.bytes ≤ 1000000)) = some true := by kernel_rfl
theorem Try.sz44 : (Try.prog.info? 44).map (·.size) = some 6 := by kernel_rfl
theorem Try.zr44 : (Try.prog.info? 44).map (·.zero) = some (some (.agg #[.int .i64 0, .slice none 0 0, .int .i64 0, .int .i64 0, .slice none 0 0, .slice none 0 0])) := by kernel_rfl
theorem Try.pl44 (k : Nat) : (Try.prog.info? 44).map (fun t => (k, t.size)) = some (k, 6) := by
  have h := Try.sz44
  cases hi : Try.prog.info? 44 with
  | none => rw [hi] at h; cases h
  | some i => rw [hi] at h; simp only [Option.map_some, Option.some.injEq] at h ⊢; rw [h]
theorem Try.is44 : (Try.prog.info? 44).isSome = true := by kernel_rfl
theorem Try.by44 : (Try.prog.info? 44).map (fun j => decide (j.bytes ≤ 1000000)) = some true := by kernel_rfl
theorem Try.sz22 : (Try.prog.info? 22).map (·.size) = some 1 := by kernel_rfl
theorem Try.zr22 : (Try.prog.info? 22).map (·.zero) = some (some (.slice none 0 0)) := by kernel_rfl
theorem Try.pl22 (k : Nat) : (Try.prog.info? 22).map (fun t => (k, t.size)) = some (k, 1) := by
  have h := Try.sz22
  cases hi : Try.prog.info? 22 with
  | none => rw [hi] at h; cases h
  | some i => rw [hi] at h; simp only [Option.map_some, Option.some.injEq] at h ⊢; rw [h]
theorem Try.is22 : (Try.prog.info? 22).isSome = true := by kernel_rfl
theorem Try.by22 : (Try.prog.info? 22).map (fun j => decide (j.bytes ≤ 1000000)) = some true := by kernel_rfl
theorem Try.sz31 : (Try.prog.info? 31).map (·.size) = some 1 := by kernel_rfl
theorem Try.zr31 : (Try.prog.info? 31).map (·.zero) = some (some (.slice none 0 0)) := by kernel_rfl
theorem Try.pl31 (k : Nat) : (Try.prog.info? 31).map (fun t => (k, t.size)) = some (k, 1) := by
  have h := Try.sz31
  cases hi : Try.prog.info? 31 with
  | none => rw [hi] at h; cases h
  | some i => rw [hi] at h; simp only [Option.map_some, Option.some.injEq] at h ⊢; rw [h]
theorem Try.is31 : (Try.prog.info? 31).isSome = true := by kernel_rfl
theorem Try.by31 : (Try.prog.info? 31).map (fun j => decide (j.bytes ≤ 1000000)) = some true := by kernel_rfl
theorem Try.sz23 : (Try.prog.info? 23).map (·.size) = some 1 := by kernel_rfl
theorem Try.zr23 : (Try.prog.info? 23).map (·.zero) = some (some (.slice none 0 0)) := by kernel_rfl
theorem Try.pl23 (k : Nat) : (Try.prog.info? 23).map (fun t => (k, t.size)) = some (k, 1) := by
  have h := Try.sz23
  cases hi : Try.prog.info? 23 with
  | none => rw [hi] at h; cases h
  | some i => rw [hi] at h; simp only [Option.map_some, Option.some.injEq] at h ⊢; rw [h]
theorem Try.is23 : (Try.prog.info? 23).isSome = true := by kernel_rfl
theorem Try.by23 : (Try.prog.info? 23).map (fun j => decide (j.bytes ≤ 1000000)) = some true := by kernel_rfl
theorem Try.sz24 : (Try.prog.info? 24).map (·.size) = some 1 := by kernel_rfl
theorem Try.zr24 : (Try.prog.info? 24).map (·.zero) = some (some (.slice none 0 0)) := by kernel_rfl
theorem Try.pl24 (k : Nat) : (Try.prog.info? 24).map (fun t => (k, t.size)) = some (k, 1) := by
  have h := Try.sz24
  cases hi : Try.prog.info? 24 with
  | none => rw [hi] at h; cases h
  | some i => rw [hi] at h; simp only [Option.map_some, Option.some.injEq] at h ⊢; rw [h]
theorem Try.is24 : (Try.prog.info? 24).isSome = true := by kernel_rfl
theorem Try.by24 : (Try.prog.info? 24).map (fun j => decide (j.bytes ≤ 1000000)) = some true := by kernel_rfl
theorem Try.sz46 : (Try.prog.info? 46).map (·.size) = some 1 := by kernel_rfl
theorem Try.zr46 : (Try.prog.info? 46).map (·.zero) = some (some (.slice none 0 0)) := by kernel_rfl
theorem Try.pl46 (k : Nat) : (Try.prog.info? 46).map (fun t => (k, t.size)) = some (k, 1) := by
  have h := Try.sz46
  cases hi : Try.prog.info? 46 with
  | none => rw [hi] at h; cases h
  | some i => rw [hi] at h; simp only [Option.map_some, Option.some.injEq] at h ⊢; rw [h]
theorem Try.is46 : (Try.prog.info? 46).isSome = true := by kernel_rfl
theorem Try.by46 : (Try.prog.info? 46).map (fun j => decide (j.bytes ≤ 1000000)) = some true := by kernel_rfl
theorem Try.sz41 : (Try.prog.info? 41).map (·.size) = some 1 := by kernel_rfl
theorem Try.zr41 : (Try.prog.info? 41).map (·.zero) = some (some (.slice none 0 0)) := by kernel_rfl
theorem Try.pl41 (k : Nat) : (Try.prog.info? 41).map (fun t => (k, t.size)) = some (k, 1) := by
  have h := Try.sz41
  cases hi : Try.prog.info? 41 with
  | none => rw [hi] at h; cases h
  | some i => rw [hi] at h; simp only [Option.map_some, Option.some.injEq] at h ⊢; rw [h]
theorem Try.is41 : (Try.prog.info? 41).isSome = true := by kernel_rfl
theorem Try.by41 : (Try.prog.info? 41).map (fun j => decide (j.bytes ≤ 1000000)) = some true := by kernel_rfl
theorem Try.sz42 : (Try.prog.info? 42).map (·.size) = some 1 := by kernel_rfl
theorem Try.zr42 : (Try.prog.info? 42).map (·.zero) = some (some (.slice none 0 0)) := by kernel_rfl
theorem Try.pl42 (k : Nat) : (Try.prog.info? 42).map (fun t => (k, t.size)) = some (k, 1) := by
  have h := Try.sz42
  cases hi : Try.prog.info? 42 with
  | none => rw [hi] at h; cases h
  | some i => rw [hi] at h; simp only [Option.map_some, Option.some.injEq] at h ⊢; rw [h]
theorem Try.is42 : (Try.prog.info? 42).isSome = true := by kernel_rfl
theorem Try.by42 : (Try.prog.info? 42).map (fun j => decide (j.bytes ≤ 1000000)) = some true := by kernel_rfl
theorem Try.sz40 : (Try.prog.info? 40).map (·.size) = some 1 := by kernel_rfl
theorem Try.zr40 : (Try.prog.info? 40).map (·.zero) = some (some (.slice none 0 0)) := by kernel_rfl
theorem Try.pl40 (k : Nat) : (Try.prog.info? 40).map (fun t => (k, t.size)) = some (k, 1) := by
  have h := Try.sz40
  cases hi : Try.prog.info? 40 with
  | none => rw [hi] at h; cases h
  | some i => rw [hi] at h; simp only [Option.map_some, Option.some.injEq] at h ⊢; rw [h]
theorem Try.is40 : (Try.prog.info? 40).isSome = true := by kernel_rfl
theorem Try.by40 : (Try.prog.info? 40).map (fun j => decide (j.bytes ≤ 1000000)) = some true := by kernel_rfl
theorem Try.it68 : Av.intT Try.prog 8 68 = some 3 := by kernel_rfl
theorem Try.eg68 : Try.prog.eqGuardType Try.prog.depth 68 = false := by kernel_rfl
theorem Try.it54 : Av.intT Try.prog 8 54 = some 3 := by kernel_rfl
theorem Try.eg54 : Try.prog.eqGuardType Try.prog.depth 54 = false := by kernel_rfl
theorem Try.it66 : Av.intT Try.prog 8 66 = some 8 := by kernel_rfl
theorem Try.eg66 : Try.prog.eqGuardType Try.prog.depth 66 = false := by kernel_rfl
theorem Try.it57 : Av.intT Try.prog 8 57 = some 6 := by kernel_rfl
theorem Try.eg57 : Try.prog.eqGuardType Try.prog.depth 57 = false := by kernel_rfl
theorem Try.it37 : Av.intT Try.prog 8 37 = some 6 := by kernel_rfl
theorem Try.eg37 : Try.prog.eqGuardType Try.prog.depth 37 = false := by kernel_rfl
theorem Try.it73 : Av.intT Try.prog 8 73 = some 3 := by kernel_rfl
theorem Try.eg73 : Try.prog.eqGuardType Try.prog.depth 73 = false := by kernel_rfl
end Go.Proofs.Ytkdigdnacggknaa
/- Contracts that were proved over memory, lifted: flows, records, the monitor. -/
namespace Go.Proofs.Ytkdigdnacggknaa
open Go.RowKit
open Nd Rc Mo
open Av
set_option maxRecDepth 100000
set_option linter.unusedSimpArgs false

theorem late_ok (fs : List Fl) (r : Rec) (hf : fs.length ≤ 1000000) (hla : r.al.length ≤ 1000000) (hld : r.dl.length ≤ 1000000) : FnOK Try.prog 11 [.sl 6 (fs.map Fl.pv), .agg r.pv] ⟨.tup [.c (.sl 3 ((late fs r).1.map Lt.pv)), .c (ip (late fs r).2)], none⟩ := fn_of ⟨Try.f11, _, Try.func11, by kernel_rfl, rfl⟩ fun w R hR us hus => by
  cases hus with | cons h0 _ hus =>
  cases hus with | cons h1 _ hus =>
  cases hus
  obtain ⟨F, cf, rfl, hF⟩ := fls_rep hR h0
  obtain ⟨A, D, ca, cd, rfl, hA, hD⟩ := rec_rep hR h1
  refine (late_any fs r F A D cf ca cd w hF hf hA hD hla hld).mono ?_
  rintro e w' ⟨hb, v, rfl, hown⟩
  refine ⟨_, rfl, hb, ?_⟩
  rw [lt_pv]
  rw [List.flatMap_def, ← List.length_map (f := Lt.row)] at hown
  exact res_rows (by decide) hown (fun row hr => by obtain ⟨x, _, rfl⟩ := List.mem_map.1 hr; rfl) (fun row hr x hx => by obtain ⟨y, _, rfl⟩ := List.mem_map.1 hr; simp only [Lt.row, List.mem_cons, List.not_mem_nil, or_false] at hx; rcases hx with rfl | rfl | rfl <;> rfl)

theorem stray_ok (fs : List Fl) (r : Rec) (hf : fs.length ≤ 1000000) (hla : r.al.length ≤ 1000000) (hld : r.dl.length ≤ 1000000) : FnOK Try.prog 25 [.sl 6 (fs.map Fl.pv), .agg r.pv] ⟨.tup [.c (.sl 8 ((stray fs r).1.map Att.pv)), .c (ip (stray fs r).2)], none⟩ := fn_of ⟨Try.f25, _, Try.func25, by kernel_rfl, rfl⟩ fun w R hR us hus => by
  cases hus with | cons h0 _ hus =>
  cases hus with | cons h1 _ hus =>
  cases hus
  obtain ⟨F, cf, rfl, hF⟩ := fls_rep hR h0
  obtain ⟨A, D, ca, cd, rfl, hA, hD⟩ := rec_rep hR h1
  refine (stray_any fs r F A D cf ca cd w hF hf hA hD hla hld).mono ?_
  rintro e w' ⟨hb, v, rfl, hown⟩
  refine ⟨_, rfl, hb, ?_⟩
  rw [att_pv]
  rw [List.flatMap_def, ← List.length_map (f := Att.row)] at hown
  exact res_rows (by decide) hown (fun row hr => by obtain ⟨x, _, rfl⟩ := List.mem_map.1 hr; rfl) (fun row hr x hx => by obtain ⟨y, _, rfl⟩ := List.mem_map.1 hr; simp only [Att.row, List.mem_cons, List.not_mem_nil, or_false] at hx; rcases hx with rfl | rfl | rfl | rfl | rfl | rfl | rfl | rfl <;> rfl)

theorem twice_ok (r : Rec) (hla : r.al.length ≤ 1000000) (hld : r.dl.length ≤ 1000000) : FnOK Try.prog 19 [.agg r.pv] ⟨.tup [.c (.sl 3 ((twice r).1.map Dlv.pv)), .c (ip (twice r).2)], none⟩ := fn_of ⟨Try.f19, _, Try.func19, by kernel_rfl, rfl⟩ fun w R hR us hus => by
  cases hus with | cons h0 _ hus =>
  cases hus
  obtain ⟨A, D, ca, cd, rfl, hA, hD⟩ := rec_rep hR h0
  refine (twice_any r A D ca cd w hA hD hla hld).mono ?_
  rintro e w' ⟨hb, v, rfl, hown⟩
  refine ⟨_, rfl, hb, ?_⟩
  rw [dlv_pv]
  rw [List.flatMap_def, ← List.length_map (f := Dlv.row)] at hown
  exact res_rows (by decide) hown (fun row hr => by obtain ⟨x, _, rfl⟩ := List.mem_map.1 hr; rfl) (fun row hr x hx => by obtain ⟨y, _, rfl⟩ := List.mem_map.1 hr; simp only [Dlv.row, List.mem_cons, List.not_mem_nil, or_false] at hx; rcases hx with rfl | rfl | rfl <;> rfl)

def Mo.Sv.pv (s : Sv) : List PV := [ip s.fr, ip s.late, ip s.least, ip s.most, ip s.att, ip s.lost]

theorem serve_ok (fs : List Fl) (r : Rec) (x : Int) (hf : fs.length ≤ 1000000) (hla : r.al.length ≤ 1000000) (hld : r.dl.length ≤ 1000000) : FnOK Try.prog 23 [.sl 6 (fs.map Fl.pv), .agg r.pv, iv x] ⟨.tup [.g (Mo.serve fs r x).1.pv, .c (ip (Mo.serve fs r x).2)], none⟩ := fn_of ⟨Try.f23, _, Try.func23, by kernel_rfl, rfl⟩ fun w R hR us hus => by
  cases hus with | cons h0 _ hus =>
  cases hus with | cons h1 _ hus =>
  cases hus with | cons h2 _ hus =>
  cases hus
  obtain ⟨F, cf, rfl, hF⟩ := fls_rep hR h0
  obtain ⟨A, D, ca, cd, rfl, hA, hD⟩ := rec_rep hR h1
  rw [h2]
  refine (serve_any fs r x F A D cf ca cd w hF hf hA hD hla hld).mono ?_
  rintro e w' ⟨hb, rfl⟩
  refine ⟨_, rfl, hb, rfl, _, rfl, .cons (.g ?_) (.cons (.c (.v _ rfl)) .nil)⟩
  exact .cons (.v _ rfl) (.cons (.v _ rfl) (.cons (.v _ rfl) (.cons (.v _ rfl) (.cons (.v _ rfl) (.cons (.v _ rfl) .nil)))))

theorem rcheck_ok (r : Rec) (hla : r.al.length ≤ 1000000) (hld : r.dl.length ≤ 1000000) : FnOK Try.prog 58 [.agg r.pv] ⟨iv (rcheckE r), none⟩ := fn_of ⟨Try.f58, _, Try.func58, by kernel_rfl, rfl⟩ fun w R hR us hus => by
  cases hus with | cons h0 _ hus =>
  cases hus
  obtain ⟨A, D, ca, cd, rfl, hA, hD⟩ := rec_rep hR h0
  refine (rcheck_any r A D ca cd w hA hD (by omega) (by omega)).mono ?_
  rintro e w' ⟨rfl, hb⟩
  exact ⟨_, rfl, hb, res_v⟩

theorem check_ok (r : Rec) (hla : r.al.length ≤ 1000000) (hld : r.dl.length ≤ 1000000) : FnOK Try.prog 50 [.agg r.pv] ⟨iv (checkE r), none⟩ := fn_of ⟨Try.f50, _, Try.func50, by kernel_rfl, rfl⟩ fun w R hR us hus => by
  cases hus with | cons h0 _ hus =>
  cases hus
  obtain ⟨A, D, ca, cd, rfl, hA, hD⟩ := rec_rep hR h0
  refine (check_any r A D ca cd w hA hD (by omega) (by omega)).mono ?_
  rintro e w' ⟨rfl, hb⟩
  exact ⟨_, rfl, hb, res_v⟩

end Go.Proofs.Ytkdigdnacggknaa
/- Abstract states: what else a frame holds: how it changes; operations by hand. Generic. -/
namespace Go.Proofs.Ytkdigdnacggknaa
open Go.RowKit
namespace Av

/-- From w to w1 only blocks of E0 have changed, and new ones have come; E holds there, of E0's blocks and new ones. -/
structure Turn (E0 : Ext) (w w1 : World) (E : Ext) : Prop where
  os : w1.os = w.os
  tape : w1.tape = w.tape
  output : w1.output = w.output
  size : w.heap.size ≤ w1.heap.size
  block : ∀ k, k < w.heap.size → ¬ E0.foot k → w1.heap[k]? = w.heap[k]?
  holds : E.holds w1
  foot : ∀ b, E.foot b → E0.foot b ∨ (w.heap.size ≤ b ∧ b < w1.heap.size)
  froz : ∀ b, E.froz b → E0.foot b ∨ E0.froz b ∨ (w.heap.size ≤ b ∧ b < w1.heap.size)
  laid : ∀ w0, E0.laid w0 → E.laid w0 := by intros; repeat' (first | assumption | trivial | constructor)
  reads : ∀ R, E0.reads R → E.reads R := by intros; repeat' (first | assumption | trivial | constructor)
theorem Turn.same {E0 E : Ext} {w : World} (h : E.holds w) (hf : ∀ b, E.foot b → E0.foot b) (hz : ∀ b, E.froz b → E0.foot b ∨ E0.froz b) (hl : ∀ w0, E0.laid w0 → E.laid w0 := by intros; repeat' (first | assumption | trivial | constructor)) (hrd : ∀ R, E0.reads R → E.reads R := by intros; repeat' (first | assumption | trivial | constructor)) : Turn E0 w w E := ⟨rfl, rfl, rfl, Nat.le_refl _, fun _ _ _ => rfl, h, fun b hb => .inl (hf b hb), fun b hb => (hz b hb).elim .inl (fun h => .inr (.inl h)), hl, hrd⟩
theorem Turn.below {E0 E : Ext} {w w1 : World} (hb : Below w.heap.size w w1) (h : E.holds w1) (hf : ∀ b, E.foot b → E0.foot b ∨ (w.heap.size ≤ b ∧ b < w1.heap.size)) (hz : ∀ b, E.froz b → E0.foot b ∨ E0.froz b ∨ (w.heap.size ≤ b ∧ b < w1.heap.size)) (hl : ∀ w0, E0.laid w0 → E.laid w0 := by intros; repeat' (first | assumption | trivial | constructor)) (hrd : ∀ R, E0.reads R → E.reads R := by intros; repeat' (first | assumption | trivial | constructor)) : Turn E0 w w1 E := ⟨hb.os, hb.tape, hb.output, hb.size, fun k hk _ => hb.block k hk, h, hf, hz, hl, hrd⟩
section
variable {P : Program} {F : Fr} {σ : St} {γ : Gh} {a : Act} {w w1 : World} {E : Ext}
theorem Rel.turn_le (h : Rel F σ γ a w) (ht : Turn σ.ext w w1 E) : ∀ p v, rdr F.R0 F.w0.heap.size σ γ w p = some v → rdr F.R0 F.w0.heap.size { σ with ext := E } γ w1 p = some v := by
  refine rdr_le fun p v hB hm hc => ?_
  have hlt := Rel.cell_lt hc
  have hne : ¬ σ.ext.foot p.block := fun hx => hm (.inr (.inr hx))
  refine ⟨fun hm' => ?_, (World.cell?_of_block (w := w) (ht.block p.block hlt hne)).trans hc⟩
  rcases hm' with hm' | ⟨L, e, sz, rows, h1, h2, h3, h4⟩ | hx
  · exact hm (.inl hm')
  · exact hm (.inr (.inl ⟨L, e, sz, rows, h1, by cases L <;> exact h2, h3, h4⟩))
  · rcases ht.foot _ hx with h1 | h1
    · exact hne h1
    · omega
/-- What else the frame holds has changed. -/
theorem Rel.turn (h : Rel F σ γ a w) (ht : Turn σ.ext w w1 E) : Rel F { σ with ext := E } γ a w1 := by
  have hle := h.turn_le ht
  have hboxb : ∀ k, (look σ.box k).isSome → w1.heap[γ.bx k]? = w.heap[γ.bx k]? := fun k hk => ht.block _ (h.box_lt hk).1 (fun hx => (h.extf _ (.inl hx)).2.2.1 k hk rfl)
  have hrowb : ∀ L g, (lookL σ.own L).isSome → γ.rw L = some g → w1.heap[g]? = w.heap[g]? := fun L g hL hg => ht.block _ (h.row_lt hL hg).1 (fun hx => (h.extf _ (.inl hx)).2.2.2 L hL hg)
  refine ⟨h.defers, h.size, h.below.trans ⟨ht.os, ht.tape, ht.output, ht.size, fun i hi => ht.block i (Nat.lt_of_lt_of_le hi h.base) (fun hx => by have := (h.extf _ (.inl hx)).1; omega)⟩, h.r0, fun t x hx => ?_, fun k cs hk => ?_, h.boxinj, fun L e sz hL => ?_, h.rowinj, h.rowbox, ht.holds, fun b hb => ?_, h.small, h.dyn, ht.laid _ h.laid, ht.reads _ (σ.ext.rmono hle h.extr)⟩
  · obtain ⟨h1, h2⟩ := h.slots t x hx
    exact ⟨h1.mono hle (fun _ _ => rfl), h2⟩
  · obtain ⟨us, ty, h1, h2, h3⟩ := h.boxes k cs hk
    exact ⟨us, ty, (hboxb k (by rw [show look σ.box k = _ from hk]; rfl)).trans h1, h2, h3.mono hle⟩
  · obtain ⟨rows, v, h1, h2, h3⟩ := h.owns L e sz hL
    have hs : (lookL σ.own L).isSome := by rw [show lookL σ.own L = _ from hL]; rfl
    refine ⟨rows, v, by cases L <;> exact h1, ?_, h3.keep fun g hg => hrowb L g hs hg⟩
    cases L with
    | s t => exact h2
    | b k off =>
      have hk : (look σ.box k).isSome := by
        cases hq : look σ.box k with
        | none => simp [St.avAt, hq] at h1
        | some _ => rfl
      exact (World.cell?_of_block (w := w) (a := ⟨γ.bx k, off, none⟩) (hboxb k hk)).trans h2
  · have hb' : (σ.ext.foot b ∨ σ.ext.froz b) ∨ (w.heap.size ≤ b ∧ b < w1.heap.size) := by
      rcases hb with hb | hb
      · exact (ht.foot b hb).elim (fun h => .inl (.inl h)) .inr
      · exact (ht.froz b hb).elim (fun h => .inl (.inl h)) (fun h => h.elim (fun h => .inl (.inr h)) .inr)
    rcases hb' with h1 | ⟨h1, h2⟩
    · obtain ⟨h3, h4, h5, h6⟩ := h.extf b h1
      exact ⟨h3, Nat.lt_of_lt_of_le h4 ht.size, h5, h6⟩
    · have := h.base
      refine ⟨by omega, h2, fun k hk e => ?_, fun L hL e => ?_⟩
      · have := (h.box_lt hk).1; omega
      · have := (h.row_lt hL e).1; omega
/-- An operation by hand that yields a value. -/
theorem hand_value {n : Nat} {o : Oper} {d : Nat} {K : St → Prop} (hd : o.dst = some d) (hdn : d < n)
    (h : ∀ (F : Fr) (γ : Gh) (a : Act) (w : World), F.n = n → Rel F σ γ a w → ∃ x v w1 E, (execOp a.eval o).run P w = .ok (.value v) w1 ∧ Turn σ.ext w w1 E ∧ RepA (rdr F.R0 F.w0.heap.size { σ with ext := E } γ w1) γ.bx x v ∧ (∀ k ∈ x.refs, (look σ.box k).isSome) ∧ K (({ σ with ext := E } : St).put d x)) : Hand P n σ o K := by
  intro F γ a w hF hr Q
  obtain ⟨x, v, w1, E, hrun, ht, hx, href, hK⟩ := h F γ a w hF hr
  unfold Oper.wp
  rw [hrun]
  show ∃ σ' γ', K σ' ∧ Rel F σ' γ' (a.put o.dst v) w1
  rw [hd]
  exact ⟨_, γ, hK, (hr.turn ht).put (by rw [hF]; exact hdn) hx href⟩
/-- An operation by hand that yields none. -/
theorem hand_skip {n : Nat} {o : Oper} {K : St → Prop} (hd : o.dst = none)
    (h : ∀ (F : Fr) (γ : Gh) (a : Act) (w : World), F.n = n → Rel F σ γ a w → ∃ w1 E, (execOp a.eval o).run P w = .ok .skip w1 ∧ Turn σ.ext w w1 E ∧ K { σ with ext := E }) : Hand P n σ o K := by
  intro F γ a w hF hr Q
  obtain ⟨w1, E, hrun, ht, hK⟩ := h F γ a w hF hr
  unfold Oper.wp
  rw [hrun]
  show ∃ σ' γ', K σ' ∧ Rel F σ' γ' (a.put o.dst undef) w1
  rw [hd]
  exact ⟨_, γ, hK, hr.turn ht⟩
/-- What else the frame holds, said otherwise: some blocks may be set free, and can be read from then on. -/
theorem awp_turn {c : Code} {Q : AX → St → Prop} (h : ∀ w, σ.ext.holds w → E.holds w) (hf : ∀ b, E.foot b → σ.ext.foot b) (hz : ∀ b, E.froz b → σ.ext.foot b ∨ σ.ext.froz b) (hw : AWp P F c Q { σ with ext := E }) (hl : ∀ w0, σ.ext.laid w0 → E.laid w0 := by intros; repeat' (first | assumption | trivial | constructor)) (hrd : ∀ R, σ.ext.reads R → E.reads R := by intros; repeat' (first | assumption | trivial | constructor)) : AWp P F c Q σ := fun γ a w hr =>
  hw γ a w (hr.turn (Turn.same (h w hr.exth) hf hz hl hrd))
/-- A slot's value. -/
theorem Rel.val (h : Rel F σ γ a w) {t : Nat} {v : Value} (ht : look σ.slot t = some (.v v)) : a.tmps.getD t undef = v := (h.slots t _ ht).1
theorem Rel.agg (h : Rel F σ γ a w) {t : Nat} {xs : List PV} (ht : look σ.slot t = some (.agg xs)) : ∃ us, a.tmps.getD t undef = .agg us.toArray ∧ RepL (rdr F.R0 F.w0.heap.size σ γ w) xs us := (h.slots t _ ht).1
theorem rep_ints {R : Reader} : ∀ {xs : List Value} {us : List Value}, RepL R (xs.map PV.v) us → us = xs
  | [], _, h => by cases h; rfl
  | x :: xs, _, h => by
    cases h with
    | cons h1 h2 =>
      cases h1
      rw [rep_ints h2]
end
end Av
end Go.Proofs.Ytkdigdnacggknaa
/- Maps that a call makes, by what they hold at each key. Generic. -/
namespace Go.Proofs.Ytkdigdnacggknaa
open Go.RowKit Go.Maps
open Go.Maps (Keyed)
namespace Av

abbrev MReader := Value → Option (DataW Unit × List MemPlace)
/-- Block b is a map of at most n entries; at a key it holds what reads as G says. -/
def MapIs (w : World) (P : Program) (k : TypeId) (R : MReader) (b n : Nat) (G : Value → Option (DataW Unit)) : Prop :=
  ∃ D, w.ownsMap P k R b n D ∧ IsMap D ∧ ∀ key kl, keyOf P k key = some kl → match G key with | some d => ∀ z, D.atKey kl z = d | none => ∀ z, D.atKey kl z = z
section
variable {P : Program} {k : TypeId} {R : MReader} {b n : Nat} {G : Value → Option (DataW Unit)} {w w' : World}
theorem MapIs.made (w : World) : MapIs (w.alloc (.map #[] 0)) P k R w.heap.size 0 (fun _ => none) :=
  ⟨.map [], World.ownsMap_made w _ _ _, isMap_empty, fun _ _ _ _ => by simp [DataW.atKey]⟩
theorem MapIs.stable (h : MapIs w P k R b n G) (hb : w'.heap[b]? = w.heap[b]?) : MapIs w' P k R b n G := by
  obtain ⟨D, ⟨es, clock, h1, h2⟩, h3⟩ := h
  exact ⟨D, ⟨es, clock, hb.trans h1, h2⟩, h3⟩
theorem MapIs.lt (h : MapIs w P k R b n G) : b < w.heap.size := by
  obtain ⟨D, h1, _⟩ := h
  exact h1.lt
theorem MapIs.mono (h : MapIs w P k R b n G) {n' : Nat} (hn : n ≤ n') : MapIs w P k R b n' G := by
  obtain ⟨D, h1, h2⟩ := h
  exact ⟨D, h1.mono hn, h2⟩
theorem MapIs.look (h : MapIs w P k R b n G) (c : Bool) (K : Keyed P k) {t e : TypeId} (ht : P.underlying t = some (.map k e)) {z : Value} (hz : (zeroValue e).run P w = .ok z w) {key : Value} {kl : Lit} (hkey : keyOf P k key = some kl) :
    (G key = none ∧ (Instr.lookup t (.map (some b)) key c).run P w = .ok (if c then .tuple #[z, .bool false] else z) w) ∨
    ∃ v d ps, G key = some d ∧ R v = some (d, ps) ∧ (Instr.lookup t (.map (some b)) key c).run P w = .ok (if c then .tuple #[v, .bool true] else v) w := by
  obtain ⟨D, ⟨es, clock, hb, F, _, rfl⟩, _, h3⟩ := h
  have h4 := h3 key kl hkey
  rcases fit_look c K ht hz hb F hkey with ⟨hrun, _, hat⟩ | ⟨e0, y, _, _, hrun, hRv, hat, _⟩
  · refine .inl ⟨?_, hrun⟩
    cases hG : G key with
    | none => rfl
    | some d =>
      rw [hG] at h4
      have h5 := (hat (.lit (.bool true))).symm.trans (h4 _)
      have h6 := (hat (.lit (.bool false))).symm.trans (h4 _)
      rw [← h6] at h5
      cases h5
  · refine .inr ?_
    cases hG : G key with
    | none =>
      rw [hG] at h4
      have h5 := (hat (.lit (.bool true))).symm.trans (h4 _)
      have h6 := (hat (.lit (.bool false))).symm.trans (h4 _)
      rw [h5] at h6
      cases h6
    | some d =>
      rw [hG] at h4
      have h5 : y.1 = d := (hat .nil).symm.trans (h4 _)
      exact ⟨e0.val, d, y.2, rfl, by rw [hRv, ← h5], hrun⟩
open Classical in
theorem MapIs.put (h : MapIs w P k R b n G) (K : Keyed P k) {t e : TypeId} (ht : P.underlying t = some (.map k e)) (hn : n < maxLen) {key val : Value} {kl : Lit} {d : DataW Unit} {ps : List MemPlace} (hkey : keyOf P k key = some kl) (hv : R val = some (d, ps)) :
    ∃ w', (Instr.mapUpdate t (.map (some b)) key val).run P w = .ok () w' ∧ MapIs w' P k R b (n + 1) (fun x => if x = key then some d else G x) ∧ w.grownBy w' (some b) := by
  obtain ⟨D, h1, h2, h3⟩ := h
  obtain ⟨w', hrun, r1, r2⟩ := h1.update K ht hn hkey hv
  refine ⟨w', hrun, ⟨_, r1, h2.put _ _, fun x xl hx => ?_⟩, r2⟩
  show match (if x = key then some d else G x) with | some d => ∀ z, _ = d | none => ∀ z, _ = z
  by_cases e : x = key
  · subst e
    have : xl = kl := by rw [hx] at hkey; exact Option.some.inj hkey
    subst this
    rw [if_pos rfl]
    exact fun z => atKey_put_same h2 (K.key hkey) _ _
  · rw [if_neg e]
    have hne : xl ≠ kl := fun e' => e (K.inj hx (by rw [e']; exact hkey))
    have h4 := h3 x xl hx
    cases hG : G x with
    | none =>
      rw [hG] at h4
      exact fun z => (atKey_put_other hne _ _).trans (h4 z)
    | some d' =>
      rw [hG] at h4
      exact fun z => (atKey_put_other hne _ _).trans (h4 z)
end
end Av
end Go.Proofs.Ytkdigdnacggknaa
/- Ranges over maps that a call makes. Generic. -/
namespace Go.Proofs.Ytkdigdnacggknaa
open Go.RowKit Go.Maps
open Go.Maps (Keyed)
namespace Av

/-- Block r is an iterator over the map b; at the keys of S there are entries to come. -/
def RangeIs (w : World) (P : Program) (k : TypeId) (R : MReader) (b r n : Nat) (G : Value → Option (DataW Unit)) (S : Value → Prop) (cnt : Nat) : Prop :=
  ∃ D left, w.ranges P k R b r n D left cnt ∧ IsMap D ∧ (∀ key kl, keyOf P k key = some kl → match G key with | some d => ∀ z, D.atKey kl z = d | none => ∀ z, D.atKey kl z = z) ∧ ∀ key kl, keyOf P k key = some kl → (left kl = true ↔ S key)
section
variable {P : Program} {k : TypeId} {R : MReader} {b r n cnt : Nat} {G : Value → Option (DataW Unit)} {S : Value → Prop} {w w' : World}
theorem RangeIs.stable (h : RangeIs w P k R b r n G S cnt) (hb : w'.heap[b]? = w.heap[b]?) (hr : w'.heap[r]? = w.heap[r]?) : RangeIs w' P k R b r n G S cnt := by
  obtain ⟨D, left, ⟨es, clock, since, seen, c0, h1, h2, h3, h4, h5, h6⟩, h7⟩ := h
  exact ⟨D, left, ⟨es, clock, since, seen, c0, hb.trans h1, h2, h3, h4, hr.trans h5, h6⟩, h7⟩
theorem RangeIs.lt (h : RangeIs w P k R b r n G S cnt) : b < w.heap.size ∧ r < w.heap.size ∧ r ≠ b := by
  obtain ⟨D, left, h1, _⟩ := h
  exact ⟨h1.owns.lt, h1.lt, h1.ne⟩
theorem has_of_atKey {D : DataW Unit} {kl : Lit} {o : Option (DataW Unit)} (h : match o with | some d => ∀ z, D.atKey kl z = d | none => ∀ z, D.atKey kl z = z) : has D kl = true ↔ o.isSome = true := by
  cases o with
  | none => rw [has_false_of_atKey h]; simp
  | some d => rw [has_true_of_atKey h]; simp
theorem MapIs.range (h : MapIs w P k R b n G) (K : Keyed P k) {t e : TypeId} (ht : P.underlying t = some (.map k e)) :
    ∃ w' cnt, (Instr.range t (.map (some b))).run P w = .ok (.pointer (some ⟨w.heap.size, 0, none⟩)) w' ∧ RangeIs w' P k R b w.heap.size n G (fun key => (G key).isSome = true) cnt ∧ w.grownBy w' none ∧ w'.heap.size = w.heap.size + 1 := by
  obtain ⟨D, h1, h2, h3⟩ := h
  obtain ⟨w', hrun, r1, r2, r3⟩ := h1.range K ht
  exact ⟨w', _, hrun, ⟨D, _, r1, h2, h3, fun key kl hkey => has_of_atKey (h3 key kl hkey)⟩, r2, r3⟩
theorem RangeIs.next (h : RangeIs w P k R b r n G S cnt) (K : Keyed P k) (ty : TypeId) :
    ((∀ key kl, keyOf P k key = some kl → ¬ S key) ∧ (Instr.next (.pointer (some ⟨r, 0, none⟩)) false ty).run P w = .ok (.tuple #[.bool false]) w) ∨
    ∃ key v kl d ps w' cnt', keyOf P k key = some kl ∧ S key ∧ R v = some (d, ps) ∧ G key = some d ∧ (Instr.next (.pointer (some ⟨r, 0, none⟩)) false ty).run P w = .ok (.tuple #[.bool true, key, v]) w' ∧
      RangeIs w' P k R b r n G (fun x => S x ∧ x ≠ key) cnt' ∧ cnt' < cnt ∧ w.grownBy w' (some r) ∧ w'.heap.size = w.heap.size ∧ (Instr.entry (.pointer (some ⟨r, 0, none⟩))).run P w' = .ok (.tuple #[key, v]) w' := by
  obtain ⟨D, left, h1, h2, h3, h4⟩ := h
  rcases h1.next K ty with ⟨_, hl, hrun⟩ | ⟨key, v, kl, y, w', cnt', hkey, hlk, hv, hat, hrun, hrg, hlt, hgr, hsz, hen⟩
  · refine .inl ⟨fun key kl hkey hS => ?_, hrun⟩
    have h5 := (h4 key kl hkey).2 hS
    rw [hl] at h5
    cases h5
  · refine .inr ⟨key, v, kl, y.1, y.2, w', cnt', hkey, (h4 key kl hkey).1 hlk, hv, ?_, hrun, ⟨D, _, hrg, h2, h3, fun x xl hx => ?_⟩, hlt, hgr, hsz, hen⟩
    · have h5 := h3 key kl hkey
      cases hG : G key with
      | none =>
        rw [hG] at h5
        have h6 := (hat (.lit (.bool true))).symm.trans (h5 _)
        have h7 := (hat (.lit (.bool false))).symm.trans (h5 _)
        rw [h6] at h7; cases h7
      | some d =>
        rw [hG] at h5
        rw [← hat .nil, h5]
    · rw [Bool.and_eq_true, h4 x xl hx]
      refine and_congr_right fun _ => ?_
      constructor
      · intro h5 e
        subst e
        have : xl = kl := by rw [hx] at hkey; exact Option.some.inj hkey
        subst this
        rw [WideAt.sameKey_self (K.key hx)] at h5
        cases h5
      · intro h5
        cases hs : xl.sameKey kl with
        | false => rfl
        | true =>
          have := WideAt.sameKey_eq hs
          subst this
          exact absurd (K.inj hx hkey) h5
theorem RangeIs.entry (h : RangeIs w P k R b r n G S cnt) {v : Value} (he : (Instr.entry (.pointer (some ⟨r, 0, none⟩))).run P w = .ok v w) (hb : w'.heap[b]? = w.heap[b]?) (hr : w'.heap[r]? = w.heap[r]?) : (Instr.entry (.pointer (some ⟨r, 0, none⟩))).run P w' = .ok v w' := by
  obtain ⟨D, left, ⟨es, clock, since, seen, c0, h1, h2, h3, h4, h5, h6⟩, h7⟩ := h
  have hb1 := hb.trans h1
  have hr1 := hr.trans h5
  simp only [Instr.entry, getObj, Sem.run_bind, Sem.run, h5, Result.andThen] at he
  simp only [Instr.entry, getObj, Sem.run_bind, Sem.run, hr1, Result.andThen]
  cases hs : seen.back? with
  | none => simp only [hs] at he; cases he
  | some stamp =>
    simp only [hs, Sem.run_bind, Sem.run, h1, Result.andThen] at he
    simp only [hs, Sem.run_bind, Sem.run, hb1, Result.andThen]
    split at he
    · cases he
    · rename_i hc
      rw [if_neg hc]
      cases hf : es.find? (fun x => x.born == stamp) with
      | none => rw [hf] at he; cases he
      | some e =>
        rw [hf] at he
        simp only [Sem.run_pure, Result.ok.injEq, and_true] at he ⊢
        exact he
end
end Av
end Go.Proofs.Ytkdigdnacggknaa
/- Abstract states: maps that the frame holds besides. Generic. -/
namespace Go.Proofs.Ytkdigdnacggknaa
open Go.RowKit Go.Maps
open Go.Maps (Keyed)
namespace Av

/-- All blocks of it. -/
def Ext.all (A : Ext) (b : Nat) : Prop := A.foot b ∨ A.froz b
def Ext.and (A B : Ext) : Ext where
  foot b := A.foot b ∨ B.foot b
  froz b := A.froz b ∨ B.froz b
  holds w := A.holds w ∧ B.holds w ∧ ∀ b, A.all b → ¬ B.all b
  stable h hw := ⟨A.stable (fun b hb => h b (hb.elim (fun h => .inl (.inl h)) (fun h => .inr (.inl h)))) hw.1, B.stable (fun b hb => h b (hb.elim (fun h => .inl (.inr h)) (fun h => .inr (.inr h)))) hw.2.1, hw.2.2⟩
  laid w := A.laid w ∧ B.laid w
  reads R := A.reads R ∧ B.reads R
  rmono h hr := ⟨A.rmono h hr.1, B.rmono h hr.2⟩
theorem Turn.all {A A' : Ext} {w w1 : World} (ht : Turn A w w1 A') {b : Nat} (hb : A'.all b) : A.all b ∨ (w.heap.size ≤ b ∧ b < w1.heap.size) := by
  rcases hb with hb | hb
  · exact (ht.foot b hb).elim (fun h => .inl (.inl h)) .inr
  · exact (ht.froz b hb).elim (fun h => .inl (.inl h)) (fun h => h.elim (fun h => .inl (.inr h)) .inr)
theorem Turn.left {A A' B : Ext} {w w1 : World} (hl : ∀ b, B.all b → b < w.heap.size) (hh : (A.and B).holds w) (ht : Turn A w w1 A') : Turn (A.and B) w w1 (A'.and B) := by
  obtain ⟨_, h2, h3⟩ := hh
  have hk : ∀ b, B.all b → ¬ A.foot b := fun b hb ha => h3 b (.inl ha) hb
  refine ⟨ht.os, ht.tape, ht.output, ht.size, fun k hk' hn => ht.block k hk' (fun ha => hn (.inl ha)), ⟨ht.holds, B.stable (fun b hb => ht.block b (hl b hb) (hk b hb)) h2, fun b ha hb => ?_⟩, fun b hb => ?_, fun b hb => ?_, fun w0 h => ⟨ht.laid w0 h.1, h.2⟩, fun R h => ⟨ht.reads R h.1, h.2⟩⟩
  · rcases ht.all ha with h | h
    · exact h3 b h hb
    · have := hl b hb; omega
  · rcases hb with hb | hb
    · rcases ht.foot b hb with h | h
      · exact .inl (.inl h)
      · exact .inr h
    · exact .inl (.inr hb)
  · rcases hb with hb | hb
    · rcases ht.froz b hb with h | h | h
      · exact .inl (.inl h)
      · exact .inr (.inl (.inl h))
      · exact .inr (.inr h)
    · exact .inr (.inl (.inr hb))
theorem Turn.right {A B B' : Ext} {w w1 : World} (hl : ∀ b, A.all b → b < w.heap.size) (hh : (A.and B).holds w) (ht : Turn B w w1 B') : Turn (A.and B) w w1 (A.and B') := by
  obtain ⟨h1, _, h3⟩ := hh
  have hk : ∀ b, A.all b → ¬ B.foot b := fun b ha hb => h3 b ha (.inl hb)
  refine ⟨ht.os, ht.tape, ht.output, ht.size, fun k hk' hn => ht.block k hk' (fun ha => hn (.inr ha)), ⟨A.stable (fun b hb => ht.block b (hl b hb) (hk b hb)) h1, ht.holds, fun b ha hb => ?_⟩, fun b hb => ?_, fun b hb => ?_, fun w0 h => ⟨h.1, ht.laid w0 h.2⟩, fun R h => ⟨h.1, ht.reads R h.2⟩⟩
  · rcases ht.all hb with h | h
    · exact h3 b ha h
    · have := hl b ha; omega
  · rcases hb with hb | hb
    · exact .inl (.inl hb)
    · rcases ht.foot b hb with h | h
      · exact .inl (.inr h)
      · exact .inr h
  · rcases hb with hb | hb
    · exact .inr (.inl (.inl hb))
    · rcases ht.froz b hb with h | h | h
      · exact .inl (.inr h)
      · exact .inr (.inl (.inr h))
      · exact .inr (.inr h)
/-- Something new besides. -/
theorem Turn.more {A B : Ext} {w w1 : World} (hl : ∀ b, A.all b → b < w.heap.size) (hh : A.holds w) (ht : Turn Ext.nil w w1 B) : Turn A w w1 (A.and B) := by
  have hB : ∀ b, B.all b → w.heap.size ≤ b ∧ b < w1.heap.size := fun b hb => (ht.all hb).resolve_left (fun h => h.elim (fun h => h.elim) (fun h => h.elim))
  refine ⟨ht.os, ht.tape, ht.output, ht.size, fun k hk' _ => ht.block k hk' (fun h => h.elim), ⟨A.stable (fun b hb => ht.block b (hl b hb) (fun h => h.elim)) hh, ht.holds, fun b ha hb => ?_⟩, fun b hb => ?_, fun b hb => ?_, fun w0 h => ⟨h, ht.laid w0 trivial⟩, fun R h => ⟨h, ht.reads R trivial⟩⟩
  · have := hl b ha; have := hB b hb; omega
  · rcases hb with hb | hb
    · exact .inl hb
    · exact .inr (hB b (.inl hb))
  · rcases hb with hb | hb
    · exact .inr (.inl hb)
    · exact .inr (.inr (hB b (.inr hb)))
section
variable {P : Program} {k : TypeId} {R : MReader}
theorem rep_of_ints {R : Reader} : ∀ {xs : List Value}, (∀ x ∈ xs, x.oneCell' = true) → RepL R (xs.map PV.v) xs
  | [], _ => .nil
  | _ :: _, h => .cons (.v _ (h _ List.mem_cons_self)) (rep_of_ints fun x hx => h x (List.mem_cons_of_mem _ hx))
/-- A map. -/
def mapE (P : Program) (k : TypeId) (R : MReader) (b n : Nat) (G : Value → Option (DataW Unit)) : Ext where
  foot x := x = b
  froz _ := False
  holds w := MapIs w P k R b n G
  stable h hw := hw.stable (h b (.inl rfl))
theorem Turn.mapMade (w : World) : Turn Ext.nil w (w.alloc (.map #[] 0)) (mapE P k R w.heap.size 0 fun _ => none) := by
  have hb : Below w.heap.size w (w.alloc (.map #[] 0)) := (Below.refl _ _).alloc (Nat.le_refl _) _
  exact Turn.below hb (MapIs.made w) (fun b hb => .inr (by subst hb; simp)) (fun b hb => hb.elim)
theorem Turn.grown {A B : Ext} {w w1 : World} {b : Nat} (hg : w.grownBy w1 (some b)) (hA : A.foot b) (hB : B.holds w1) (hf : ∀ x, B.foot x → A.foot x) (hz : ∀ x, B.froz x → A.foot x ∨ A.froz x) (hl : ∀ w0, A.laid w0 → B.laid w0 := by intros; repeat' (first | assumption | trivial | constructor)) (hrd : ∀ R, A.reads R → B.reads R := by intros; repeat' (first | assumption | trivial | constructor)) : Turn A w w1 B :=
  ⟨hg.os, hg.tape, hg.output, hg.size, fun j hj hn => hg.block j hj (fun e => hn (by cases e; exact hA)), hB, fun x hx => .inl (hf x hx), fun x hx => (hz x hx).elim .inl (fun h => .inr (.inl h)), hl, hrd⟩
variable {n d : Nat} {σ : St} {o : Oper} {K : St → Prop}
/-- 'make' of a map. -/
theorem hand_makeMap {T : TypeId} (k : TypeId) (R : MReader) (ho : o.op = .makeMap T none) (hd : o.dst = some d) (hdn : d < n) (h : ∀ b, K (({ σ with ext := σ.ext.and (mapE P k R b 0 fun _ => none) } : St).put d (.v (.map (some b))))) : Hand P n σ o K := by
  refine hand_value hd hdn fun F γ a w _ hr => ⟨.v (.map (some w.heap.size)), .map (some w.heap.size), w.alloc (.map #[] 0), _, ?_, Turn.more (fun b hb => (hr.extf b hb).2.1) hr.exth (Turn.mapMade w), rfl, (fun k hk => by cases hk), h _⟩
  simp [execOp, ho, Instr.makeMap]
/-- The operands of a map's operation. -/
theorem eval_raw {F : Fr} {γ : Gh} {a : Act} {w : World} (hr : Rel F σ γ a w) {x : Operand} {v : Value} (h : evo (look σ.slot) x = some (.v v)) : a.eval x = v := (evo_ok hr (fun _ _ _ hy => hy) h).1
theorem eval_aggv {F : Fr} {γ : Gh} {a : Act} {w : World} (hr : Rel F σ γ a w) {x : Operand} {xs : List Value} (h : evo (look σ.slot) x = some (.agg (xs.map PV.v))) : a.eval x = .agg xs.toArray := by
  obtain ⟨us, h1, h2⟩ := (evo_ok hr (fun _ _ _ hy => hy) h).1
  rw [h1, rep_ints h2]
/-- A look-up: 'look' says how one is made in every world in which the map stands. -/
theorem hand_lookup {T e : TypeId} {m x : Operand} {c : Bool} {b nn : Nat} {G : Value → Option (DataW Unit)} {xs : List Value} {kl : Lit} {z : Value} (ho : o.op = .lookup T m x c) (hd : o.dst = some d) (hdn : d < n)
    (hm : evo (look σ.slot) m = some (.v (.map (some b)))) (hx : evo (look σ.slot) x = some (.agg (xs.map PV.v))) (hE : ∀ w, σ.ext.holds w → MapIs w P k R b nn G) (Kk : Keyed P k) (ht : P.underlying T = some (.map k e)) (hz : ∀ w, (zeroValue e).run P w = .ok z w) (hz1 : z.oneCell' = true)
    (hone : ∀ v d ps, R v = some (d, ps) → v.oneCell' = true) (hkey : keyOf P k (.agg xs.toArray) = some kl)
    (hno : G (.agg xs.toArray) = none → K (σ.put d (if c = true then .tup [.c (.v z), .c (.v (.bool false))] else .v z)))
    (hyes : ∀ v dd ps, G (.agg xs.toArray) = some dd → R v = some (dd, ps) → K (σ.put d (if c = true then .tup [.c (.v v), .c (.v (.bool true))] else .v v))) : Hand P n σ o K := by
  refine hand_value hd hdn fun F γ a w _ hr => ?_
  have e1 := eval_raw hr hm
  have e2 := eval_aggv hr hx
  have hsame : Turn σ.ext w w σ.ext := Turn.same hr.exth (fun _ h => h) (fun _ h => .inr h)
  have key : ∀ v y : Value, v.oneCell' = true → y.oneCell' = true → (Instr.lookup T (.map (some b)) (.agg xs.toArray) c).run P w = .ok (if c then .tuple #[v, y] else v) w → K (σ.put d (if c = true then .tup [.c (.v v), .c (.v y)] else .v v)) →
      ∃ X V w1 E, (execOp a.eval o).run P w = .ok (.value V) w1 ∧ Turn σ.ext w w1 E ∧ RepA (rdr F.R0 F.w0.heap.size { σ with ext := E } γ w1) γ.bx X V ∧ (∀ k ∈ X.refs, (look σ.box k).isSome) ∧ K (({ σ with ext := E } : St).put d X) := fun v y hv hy hrun hK => by
    refine ⟨_, if c then .tuple #[v, y] else v, w, σ.ext, ?_, hsame, ?_, ?_, hK⟩
    · simp [execOp, ho, e1, e2, hrun]
    · cases c with
      | false => exact rfl
      | true => exact ⟨[v, y], rfl, .cons (.c (.v _ hv)) (.cons (.c (.v _ hy)) .nil)⟩
    · cases c <;> exact fun k hk => by cases hk
  rcases (hE w hr.exth).look c Kk ht (hz w) hkey with ⟨hG, hrun⟩ | ⟨v, dd, ps, hG, hR, hrun⟩
  · exact key z (.bool false) hz1 rfl hrun (hno hG)
  · exact key v (.bool true) (hone _ _ _ hR) rfl hrun (hyes v dd ps hG hR)
/-- A store: 'hT' says where in what the frame holds the map lies. -/
theorem hand_mapUpdate {T e : TypeId} {m x v : Operand} {b nn : Nat} {G : Value → Option (DataW Unit)} {xs : List Value} {kl : Lit} {val : Value} {dd : DataW Unit} {ps : List MemPlace} {E' : Nat → (Value → Option (DataW Unit)) → Ext} (ho : o.op = .mapUpdate T m x v) (hd : o.dst = none)
    (hm : evo (look σ.slot) m = some (.v (.map (some b)))) (hx : evo (look σ.slot) x = some (.agg (xs.map PV.v))) (hv : evo (look σ.slot) v = some (.v val)) (hE : ∀ w, σ.ext.holds w → MapIs w P k R b nn G) (hn : nn < maxLen) (Kk : Keyed P k) (ht : P.underlying T = some (.map k e)) (hkey : keyOf P k (.agg xs.toArray) = some kl) (hR : R val = some (dd, ps))
    (hT : ∀ w w1 G', (∀ b, σ.ext.all b → b < w.heap.size) → σ.ext.holds w → Turn (mapE P k R b nn G) w w1 (mapE P k R b (nn + 1) G') → Turn σ.ext w w1 (E' (nn + 1) G'))
    (h : ∀ G' : Value → Option (DataW Unit), G' (.agg xs.toArray) = some dd → (∀ y, y ≠ .agg xs.toArray → G' y = G y) → K { σ with ext := E' (nn + 1) G' }) : Hand P n σ o K := by
  classical
  refine hand_skip hd fun F γ a w _ hr => ?_
  have e1 := eval_raw hr hm
  have e2 := eval_aggv hr hx
  have e3 := eval_raw hr hv
  obtain ⟨w1, hrun, h1, hg⟩ := (hE w hr.exth).put Kk ht hn hkey hR
  refine ⟨w1, _, ?_, hT w w1 _ (fun b hb => (hr.extf b hb).2.1) hr.exth (Turn.grown hg rfl h1 (fun _ hx => hx) (fun _ hx => hx.elim)), h _ (if_pos rfl) (fun y hy => if_neg hy)⟩
  simp [execOp, ho, e1, e2, e3, hrun]
/-- An iterator over a map. -/
def rangeE (P : Program) (k : TypeId) (R : MReader) (b r n : Nat) (G : Value → Option (DataW Unit)) (S : Value → Prop) (cnt : Nat) : Ext where
  foot x := x = b ∨ x = r
  froz _ := False
  holds w := RangeIs w P k R b r n G S cnt
  stable h hw := hw.stable (h b (.inl (.inl rfl))) (h r (.inl (.inr rfl)))
/-- An iterator that has just come to an entry. -/
def stepE (P : Program) (k : TypeId) (R : MReader) (b r n : Nat) (G : Value → Option (DataW Unit)) (S : Value → Prop) (cnt : Nat) (key v : Value) : Ext where
  foot x := x = b ∨ x = r
  froz _ := False
  holds w := RangeIs w P k R b r n G S cnt ∧ (Instr.entry (.pointer (some ⟨r, 0, none⟩))).run P w = .ok (.tuple #[key, v]) w
  stable h hw := ⟨hw.1.stable (h b (.inl (.inl rfl))) (h r (.inl (.inr rfl))), hw.1.entry hw.2 (h b (.inl (.inl rfl))) (h r (.inl (.inr rfl)))⟩
theorem hand_range {T e : TypeId} {m : Operand} {b nn : Nat} {G : Value → Option (DataW Unit)} {E' : Nat → Nat → Ext} (ho : o.op = .range T m) (hd : o.dst = some d) (hdn : d < n) (hm : evo (look σ.slot) m = some (.v (.map (some b)))) (hE : ∀ w, σ.ext.holds w → MapIs w P k R b nn G) (Kk : Keyed P k) (ht : P.underlying T = some (.map k e))
    (hT : ∀ w w1 r cnt, (∀ b, σ.ext.all b → b < w.heap.size) → σ.ext.holds w → Turn (mapE P k R b nn G) w w1 (rangeE P k R b r nn G (fun key => (G key).isSome = true) cnt) → Turn σ.ext w w1 (E' r cnt))
    (h : ∀ r cnt, K (({ σ with ext := E' r cnt } : St).put d (.v (.pointer (some ⟨r, 0, none⟩))))) : Hand P n σ o K := by
  refine hand_value hd hdn fun F γ a w _ hr => ?_
  have e1 := eval_raw hr hm
  obtain ⟨w1, cnt, hrun, h1, hg, hs⟩ := (hE w hr.exth).range Kk ht
  refine ⟨.v (.pointer (some ⟨w.heap.size, 0, none⟩)), _, w1, _, ?_, hT w w1 w.heap.size cnt (fun b hb => (hr.extf b hb).2.1) hr.exth ?_, rfl, (fun k hk => by cases hk), h _ _⟩
  · simp [execOp, ho, e1, hrun]
  · exact ⟨hg.os, hg.tape, hg.output, hg.size, fun j hj _ => hg.block j hj (by simp), h1, fun x hx => hx.elim (fun h => .inl h) (fun h => .inr (by omega)), fun x hx => hx.elim, fun _ _ => trivial, fun _ _ => trivial⟩
/-- The step of a range loop. -/
theorem hand_next {it : Operand} {b r nn cnt : Nat} {G : Value → Option (DataW Unit)} {S : Value → Prop} {E' : Nat → Value → Value → Ext} (ho : o.op = .next it false) (hd : o.dst = some d) (hdn : d < n) (hm : evo (look σ.slot) it = some (.v (.pointer (some ⟨r, 0, none⟩)))) (hE : ∀ w, σ.ext.holds w → RangeIs w P k R b r nn G S cnt) (Kk : Keyed P k)
    (hkeys : ∀ key kl, keyOf P k key = some kl → ∃ xs : List Value, key = .agg xs.toArray ∧ ∀ x ∈ xs, x.oneCell' = true) (hone : ∀ v d ps, R v = some (d, ps) → v.oneCell' = true)
    (hT : ∀ w w1 cnt' key v, (∀ b, σ.ext.all b → b < w.heap.size) → σ.ext.holds w → Turn (rangeE P k R b r nn G S cnt) w w1 (stepE P k R b r nn G (fun x => S x ∧ x ≠ key) cnt' key v) → Turn σ.ext w w1 (E' cnt' key v))
    (hno : (∀ key kl, keyOf P k key = some kl → ¬ S key) → K (σ.put d (.tup [.c (.v (.bool false))])))
    (hyes : ∀ (xs : List Value) v kl dd ps cnt', keyOf P k (.agg xs.toArray) = some kl → S (.agg xs.toArray) → R v = some (dd, ps) → G (.agg xs.toArray) = some dd → cnt' < cnt → K (({ σ with ext := E' cnt' (.agg xs.toArray) v } : St).put d (.tup [.c (.v (.bool true)), .g (xs.map PV.v), .c (.v v)]))) : Hand P n σ o K := by
  refine hand_value hd hdn fun F γ a w _ hr => ?_
  have e1 := eval_raw hr hm
  rcases (hE w hr.exth).next Kk o.type with ⟨hS, hrun⟩ | ⟨key, v, kl, dd, ps, w1, cnt', hkey, hS, hR, hG, hrun, h1, hlt, hg, hs, hen⟩
  · refine ⟨.tup [.c (.v (.bool false))], .tuple #[.bool false], w, σ.ext, ?_, Turn.same hr.exth (fun _ h => h) (fun _ h => .inr h), ⟨_, rfl, .cons (.c (.v _ rfl)) .nil⟩, (fun k hk => by cases hk), hno hS⟩
    simp [execOp, ho, e1, hrun]
  · obtain ⟨xs, rfl, hx1⟩ := hkeys key kl hkey
    refine ⟨.tup [.c (.v (.bool true)), .g (xs.map PV.v), .c (.v v)], .tuple #[.bool true, .agg xs.toArray, v], w1, _, ?_, hT w w1 cnt' _ v (fun b hb => (hr.extf b hb).2.1) hr.exth ?_, ⟨[_, _, _], rfl, .cons (.c (.v _ rfl)) (.cons (.g (rep_of_ints hx1)) (.cons (.c (.v _ (hone _ _ _ hR))) .nil))⟩, (fun k hk => by cases hk), hyes xs v kl dd ps cnt' hkey hS hR hG hlt⟩
    · simp [execOp, ho, e1, hrun]
    · exact Turn.grown hg (.inr rfl) ⟨h1, hen⟩ (fun _ hx => hx) (fun _ hx => hx.elim)
/-- A slot's datum, said otherwise. -/
theorem awp_slot {F : Fr} {c : Code} {Q : AX → St → Prop} (t : Nat) (x : AV) (ht : t < F.n) (hx : ∀ γ a w, Rel F σ γ a w → RepA (rdr F.R0 F.w0.heap.size σ γ w) γ.bx x (a.tmps.getD t undef) ∧ ∀ k ∈ x.refs, (look σ.box k).isSome) (h : AWp P F c Q (σ.put t x)) : AWp P F c Q σ := fun γ a w hr => by
  obtain ⟨h1, h2⟩ := hx γ a w hr
  have := hr.put ht h1 h2
  rw [put_same (by rw [hr.size]; exact ht)] at this
  exact h _ a w this
end
end Av
end Go.Proofs.Ytkdigdnacggknaa
/- Abstract states: boxes whose names are their blocks' numbers (and a million): pointers that lie in maps. Generic. -/
namespace Go.Proofs.Ytkdigdnacggknaa
open Go.RowKit Go.Maps
open Go.Maps (Keyed)
namespace Av

def ren1 (kb g k : Nat) : Nat := if k = kb then g else k
def AV.ren (kb g : Nat) : AV → AV
  | .ref k off => .ref (ren1 kb g k) off
  | .clo f caps => .clo f (caps.map fun c => (ren1 kb g c.1, c.2))
  | x => x
/-- Box kb is called g. -/
def St.ren (σ : St) (kb g : Nat) : St := { slot := σ.slot.map fun x => (x.1, x.2.ren kb g), box := σ.box.map fun x => (ren1 kb g x.1, x.2), own := σ.own, ext := σ.ext }
def Gh.ren (γ : Gh) (kb g : Nat) : Gh := { γ with bx := fun j => if j = g then γ.bx kb else γ.bx j }
theorem look_map {α : Type} (f : α → α) : ∀ (l : List (Nat × α)) (t : Nat), look (l.map fun x => (x.1, f x.2)) t = (look l t).map f
  | [], _ => rfl
  | x :: l, t => by
    rw [List.map_cons, look_cons, look_map f l t]
    obtain ⟨k, y⟩ := x
    rw [look_cons]
    split <;> rfl
theorem look_ren {α : Type} {kb g : Nat} (hne : kb ≠ g) : ∀ {l : List (Nat × α)}, look l g = none → ∀ j, look (l.map fun x => (ren1 kb g x.1, x.2)) j = if j = g then look l kb else if j = kb then none else look l j
  | [], _, j => by simp [look]
  | (k, x) :: l, hg, j => by
    rw [look_cons] at hg
    by_cases hkg : k = g
    · rw [if_pos hkg] at hg; cases hg
    · rw [if_neg hkg] at hg
      rw [List.map_cons, look_cons, look_ren hne hg j, look_cons, look_cons]
      unfold ren1
      dsimp only
      by_cases hk : k = kb
      · subst hk
        rw [if_pos rfl, if_pos rfl]
        by_cases hj : j = g
        · subst hj; rw [if_pos rfl, if_pos rfl]
        · rw [if_neg (fun e => hj e.symm), if_neg hj, if_neg hj]
          by_cases hjk : j = k
          · rw [if_pos hjk, if_pos hjk]
          · rw [if_neg hjk, if_neg hjk, if_neg (fun e => hjk e.symm)]
      · rw [if_neg hk, if_neg hk]
        by_cases hj : j = g
        · subst hj; rw [if_neg hkg, if_pos rfl, if_pos rfl]
        · rw [if_neg hj, if_neg hj]
          by_cases hjk : j = kb
          · subst hjk; rw [if_neg hk, if_pos rfl, if_pos rfl]
          · rw [if_neg hjk, if_neg hjk]
section
variable {P : Program} {F : Fr} {σ : St} {γ : Gh} {a : Act} {w : World}
theorem ren_sl {kb g sz : Nat} {rows : List (List PV)} {x : AV} (h : x.ren kb g = .sl sz rows) : x = .sl sz rows := by
  cases x <;> first | exact h | cases h
theorem Rel.ren (h : Rel F σ γ a w) {kb g : Nat} (hk : (look σ.box kb).isSome) (hkb : kb < 1000000) (hg : γ.bx kb = g) (hno : ∀ off, lookL σ.own (.b kb off) = none) : look σ.box (g + 1000000) = none ∧ Rel F (σ.ren kb (g + 1000000)) (γ.ren kb (g + 1000000)) a w := by
  have hnone : look σ.box (g + 1000000) = none := by
    cases hq : look σ.box (g + 1000000) with
    | none => rfl
    | some cs =>
      have h1 := h.dyn (g + 1000000) (by rw [hq]; rfl) (by omega)
      have := h.boxinj kb (g + 1000000) hk (by rw [hq]; rfl) (by rw [h1, hg]; omega)
      omega
  have hne : kb ≠ g + 1000000 := by omega
  have hb := fun j => look_ren (l := σ.box) hne hnone j
  have hbx : ∀ j, look (σ.ren kb (g + 1000000)).box j = if j = g + 1000000 then look σ.box kb else if j = kb then none else look σ.box j := hb
  have hsl : ∀ t, look (σ.ren kb (g + 1000000)).slot t = (look σ.slot t).map (·.ren kb (g + 1000000)) := fun t => look_map _ _ t
  have hγ : ∀ j, (γ.ren kb (g + 1000000)).bx j = if j = g + 1000000 then γ.bx kb else γ.bx j := fun j => rfl
  have hown : ∀ L e, lookL σ.own L = some e → ∀ k off, L = .b k off → k ≠ kb ∧ k ≠ g + 1000000 := fun L e hL k off hLk => by
    subst hLk
    refine ⟨fun e' => (by subst e'; rw [hno] at hL; cases hL), fun e' => ?_⟩
    subst e'
    obtain ⟨rows, v, h1, _⟩ := h.owns _ e.1 e.2 hL
    simp [St.avAt, hnone] at h1
  have hav : ∀ L e, lookL σ.own L = some e → ∀ sz rows, (σ.ren kb (g + 1000000)).avAt L = some (.sl sz rows) ↔ σ.avAt L = some (.sl sz rows) := fun L e hL sz rows => by
    cases L with
    | s t =>
      show look (σ.ren kb (g + 1000000)).slot t = _ ↔ look σ.slot t = _
      rw [hsl]
      constructor
      · intro h1
        obtain ⟨x, h2, h3⟩ := Option.map_eq_some_iff.1 h1
        rw [h2, ren_sl h3]
      · intro h1; rw [h1]; rfl
    | b k off =>
      obtain ⟨h1, h2⟩ := hown _ e hL k off rfl
      simp only [St.avAt, hbx, if_neg h1, if_neg h2]
  have hle : ∀ p v, rdr F.R0 F.w0.heap.size σ γ w p = some v → rdr F.R0 F.w0.heap.size (σ.ren kb (g + 1000000)) (γ.ren kb (g + 1000000)) w p = some v := by
    refine rdr_le fun p v _ hm hc => ⟨fun hm' => hm ?_, hc⟩
    rcases hm' with ⟨j, cs, hj, hp⟩ | ⟨L, e, sz, rows, h1, h2, h3, h4⟩ | hx
    · rw [hbx] at hj
      rw [hγ] at hp
      by_cases hjg : j = g + 1000000
      · rw [if_pos hjg] at hj hp; exact .inl ⟨kb, cs, hj, hp⟩
      · rw [if_neg hjg] at hj hp
        by_cases hjk : j = kb
        · rw [if_pos hjk] at hj; cases hj
        · rw [if_neg hjk] at hj; exact .inl ⟨j, cs, hj, hp⟩
    · exact .inr (.inl ⟨L, e, sz, rows, h1, (hav L _ h1 sz rows).1 h2, h3, h4⟩)
    · exact .inr (.inr hx)
  have hbox : ∀ j, (look (σ.ren kb (g + 1000000)).box j).isSome → ∃ j0, (look σ.box j0).isSome ∧ look (σ.ren kb (g + 1000000)).box j = look σ.box j0 ∧ (γ.ren kb (g + 1000000)).bx j = γ.bx j0 ∧ j0 ≠ g + 1000000 ∧ j = ren1 kb (g + 1000000) j0 := fun j hj => by
    rw [hbx] at hj
    by_cases hjg : j = g + 1000000
    · exact ⟨kb, hk, by rw [hbx, if_pos hjg], by rw [hγ, if_pos hjg], hne, by rw [ren1, if_pos rfl]; exact hjg⟩
    · rw [if_neg hjg] at hj
      by_cases hjk : j = kb
      · rw [if_pos hjk] at hj; cases hj
      · rw [if_neg hjk] at hj
        exact ⟨j, hj, by rw [hbx, if_neg hjg, if_neg hjk], by rw [hγ, if_neg hjg], hjg, by rw [ren1, if_neg hjk]⟩
  have href : ∀ j, (look σ.box j).isSome → (look (σ.ren kb (g + 1000000)).box (ren1 kb (g + 1000000) j)).isSome ∧ (γ.ren kb (g + 1000000)).bx (ren1 kb (g + 1000000) j) = γ.bx j := fun j hj => by
    unfold ren1
    by_cases hjk : j = kb
    · subst hjk; rw [if_pos rfl, hbx, hγ, if_pos rfl, if_pos rfl]; exact ⟨hj, rfl⟩
    · have hjg : j ≠ g + 1000000 := fun e => by subst e; rw [hnone] at hj; cases hj
      rw [if_neg hjk, hbx, hγ, if_neg hjg, if_neg hjk, if_neg hjg]
      exact ⟨hj, rfl⟩
  refine ⟨hnone, h.defers, h.size, h.below, h.r0, fun t x hx => ?_, fun j cs hj => ?_, fun j j' hj hj' he => ?_, fun L e sz hL => ?_, h.rowinj, fun L j g' hL hj hg' => ?_, h.exth, fun b hb' => ?_, h.small, fun j hj hd => ?_, h.laid, σ.ext.rmono hle h.extr⟩
  · rw [hsl] at hx
    obtain ⟨y, hy, rfl⟩ := Option.map_eq_some_iff.1 hx
    obtain ⟨h1, h2⟩ := h.slots t y hy
    cases y with
    | ref j off =>
      obtain ⟨h3, h4⟩ := href j (h2 j (by simp [AV.refs]))
      refine ⟨?_, fun k hk' => by simp [AV.ren, AV.refs] at hk'; subst hk'; exact h3⟩
      show _ = Value.pointer _
      rw [h4]; exact h1
    | clo f caps =>
      refine ⟨?_, fun k hk' => ?_⟩
      · show _ = Value.func _ _ _
        rw [show a.tmps.getD t undef = _ from h1, List.map_map]
        congr 2
        refine List.map_congr_left fun c hc => ?_
        have := (href c.1 (h2 c.1 (List.mem_map_of_mem hc))).2
        simp only [Function.comp]
        rw [this]
      · simp only [AV.ren, AV.refs, List.map_map] at hk'
        obtain ⟨c, hc, rfl⟩ := List.mem_map.1 hk'
        exact (href c.1 (h2 c.1 (List.mem_map_of_mem hc))).1
    | v x => exact ⟨h1, fun k hk' => by cases hk'⟩
    | sl sz rows => exact ⟨RepP.mono hle h1, fun k hk' => by cases hk'⟩
    | agg xs => exact ⟨RepA.mono (x := .agg xs) (bx := γ.bx) hle (fun k hk' => by cases hk') h1, fun k hk' => by cases hk'⟩
    | tup vs => exact ⟨RepA.mono (x := .tup vs) (bx := γ.bx) hle (fun k hk' => by cases hk') h1, fun k hk' => by cases hk'⟩
    | ept row => exact ⟨RepA.mono (x := .ept row) (bx := γ.bx) hle (fun k hk' => by cases hk') h1, fun k hk' => by cases hk'⟩
    | fnv f caps => exact ⟨RepA.mono (x := .fnv f caps) (bx := γ.bx) hle (fun k hk' => by cases hk') h1, fun k hk' => by cases hk'⟩
  · obtain ⟨j0, h1, h2, h3, _⟩ := hbox j (by rw [hj]; rfl)
    rw [h2] at hj
    obtain ⟨us, ty, h4, h5, h6⟩ := h.boxes j0 cs hj
    rw [h3]
    exact ⟨us, ty, h4, h5, h6.mono hle⟩
  · obtain ⟨j0, h1, _, h3, _, h5⟩ := hbox j hj
    obtain ⟨j1, h1', _, h3', _, h5'⟩ := hbox j' hj'
    rw [h3, h3'] at he
    rw [h5, h5', h.boxinj j0 j1 h1 h1' he]
  · obtain ⟨rows, v, h1, h2, h3⟩ := h.owns L e sz hL
    refine ⟨rows, v, (hav L _ hL sz rows).2 h1, ?_, h3⟩
    cases L with
    | s t => exact h2
    | b k off =>
      obtain ⟨h4, h5⟩ := hown _ _ hL k off rfl
      show w.cell? ⟨(γ.ren kb (g + 1000000)).bx k, off, none⟩ = some v
      rw [hγ, if_neg h5]; exact h2
  · obtain ⟨j0, h1, _, h3, _⟩ := hbox j hj
    rw [h3]
    exact h.rowbox L j0 g' hL h1 hg'
  · obtain ⟨h1, h2, h3, h4⟩ := h.extf b hb'
    refine ⟨h1, h2, fun j hj => ?_, h4⟩
    obtain ⟨j0, h5, _, h6, _⟩ := hbox j hj
    rw [h6]; exact h3 j0 h5
  · obtain ⟨j0, h1, _, h3, h4, h5⟩ := hbox j hj
    rw [h3]
    unfold ren1 at h5
    by_cases hjk : j0 = kb
    · rw [if_pos hjk] at h5; rw [hjk, hg, h5]; omega
    · rw [if_neg hjk] at h5; rw [h5] at hd ⊢; exact h.dyn j0 h1 hd
/-- A slice that is nil is owned. -/
theorem Rel.ownNil (h : Rel F σ γ a w) {L0 : Loc} {e0 : TypeId} {sz0 : Nat} (hav0 : σ.avAt L0 = some (.sl sz0 [])) (hval : valAt a w γ L0 = some (.slice none 0 0)) : Rel F { σ with own := (L0, (e0, sz0)) :: delL σ.own L0 } (γ.setRow L0 none) a w := by
  have hlk : ∀ L, lookL ((L0, (e0, sz0)) :: delL σ.own L0) L = if L = L0 then some (e0, sz0) else lookL σ.own L := fun L => by
    rw [lookL_cons, lookL_del]
    by_cases h1 : L = L0
    · rw [if_pos h1.symm, if_pos h1]
    · rw [if_neg (fun e => h1 e.symm), if_neg h1, if_neg h1]
  have hrw : ∀ L, (γ.setRow L0 none).rw L = if L = L0 then none else γ.rw L := fun L => rfl
  have hold : ∀ L g, (lookL ((L0, (e0, sz0)) :: delL σ.own L0) L).isSome → (γ.setRow L0 none).rw L = some g → L ≠ L0 ∧ (lookL σ.own L).isSome ∧ γ.rw L = some g := fun L g hL hg => by
    rw [hrw] at hg
    by_cases h1 : L = L0
    · rw [if_pos h1] at hg; cases hg
    · rw [if_neg h1] at hg
      rw [hlk, if_neg h1] at hL
      exact ⟨h1, hL, hg⟩
  have hle : ∀ p v, rdr F.R0 F.w0.heap.size σ γ w p = some v → rdr F.R0 F.w0.heap.size { σ with own := (L0, (e0, sz0)) :: delL σ.own L0 } (γ.setRow L0 none) w p = some v :=
    rdr_le fun p v _ hm hc => ⟨fun hm' => hm (by
      rcases hm' with hm' | ⟨L, e', sz, rows, h1, h2, h3, h4⟩ | hx
      · exact .inl hm'
      · obtain ⟨h5, h6, h7⟩ := hold L _ (by rw [show lookL _ L = _ from h1]; rfl) h3
        have h8 := h1
        dsimp only at h8
        rw [hlk, if_neg h5] at h8
        exact .inr (.inl ⟨L, e', sz, rows, h8, by cases L <;> exact h2, h7, h4⟩)
      · exact .inr (.inr hx)), hc⟩
  refine ⟨h.defers, h.size, h.below, h.r0, fun t x hx => ?_, fun k cs hk => ?_, h.boxinj, fun L e' sz hL => ?_, fun L L' g hL hL' hg hg' => ?_, fun L k g hL hk hg => ?_, h.exth, fun b hb => ?_, h.small, h.dyn, h.laid, σ.ext.rmono hle h.extr⟩
  · obtain ⟨h1, h2⟩ := h.slots t x hx
    exact ⟨h1.mono hle (fun _ _ => rfl), h2⟩
  · obtain ⟨us, ty, h1, h2, h3⟩ := h.boxes k cs hk
    exact ⟨us, ty, h1, h2, h3.mono hle⟩
  · dsimp only at hL
    rw [hlk] at hL
    by_cases h1 : L = L0
    · rw [if_pos h1] at hL
      cases hL
      subst h1
      exact ⟨[], .slice none 0 0, by cases L <;> exact hav0, by cases L <;> exact hval, by rw [hrw, if_pos rfl]; exact ⟨rfl, rfl⟩⟩
    · rw [if_neg h1] at hL
      obtain ⟨rows, v, h3, h4, h5⟩ := h.owns L e' sz hL
      exact ⟨rows, v, by cases L <;> exact h3, by cases L <;> exact h4, by rw [hrw, if_neg h1]; exact h5⟩
  · obtain ⟨_, h1, h2⟩ := hold L g hL hg
    obtain ⟨_, h3, h4⟩ := hold L' g hL' hg'
    exact h.rowinj L L' g h1 h3 h2 h4
  · obtain ⟨_, h1, h2⟩ := hold L g hL hg
    exact h.rowbox L k g h1 hk h2
  · obtain ⟨h1, h2, h3, h4⟩ := h.extf b hb
    refine ⟨h1, h2, h3, fun L hL e => ?_⟩
    obtain ⟨_, h5, h6⟩ := hold L b hL e
    exact h4 L h5 h6
theorem repL_setNil {R : Reader} {sz : Nat} : ∀ {cs : List PV} {us : List Value} {off : Nat}, RepL R cs us → cs[off]? = some (.v (.slice none 0 0)) → RepL R (setAt cs off [.sl sz []]) us ∧ us[off]? = some (.slice none 0 0)
  | [], _, off, h, hx => by simp at hx
  | c :: cs, _, 0, .cons h1 h2, hx => by
    simp at hx
    subst hx
    cases h1
    refine ⟨?_, rfl⟩
    show RepL R (([] : List PV) ++ [PV.sl sz []] ++ cs) _
    exact .cons (.sl sz [] none 0 (fun _ _ => undef) (fun k row hk => by simp at hk) (.inl rfl) (fun k row _ _ hk => by simp at hk) (Nat.le_refl _)) h2
  | c :: cs, _, off + 1, .cons h1 h2, hx => by
    obtain ⟨h3, h4⟩ := repL_setNil (off := off) (sz := sz) h2 (by simpa using hx)
    refine ⟨?_, by simpa using h4⟩
    have : setAt (c :: cs) (off + 1) [PV.sl sz []] = c :: setAt cs off [PV.sl sz []] := by simp [setAt]
    rw [this]
    exact .cons h1 h3
/-- A nil slice in a box's cell is owned. -/
theorem awp_nilB {c : Code} {Q : AX → St → Prop} (k off sz : Nat) (e : TypeId) {cs : List PV} (hk : look σ.box k = some cs) (hc : cs[off]? = some (.v (.slice none 0 0)))
    (hw : AWp P F c Q { (σ.setBox k (setAt cs off [.sl sz []]) (keepL σ.own k off 1)) with own := (.b k off, (e, sz)) :: delL (keepL σ.own k off 1) (.b k off) }) : AWp P F c Q σ := fun γ a w hr => by
  obtain ⟨us, ty, h1, h2, h3⟩ := hr.boxes k cs hk
  obtain ⟨h4, h5⟩ := repL_setNil (sz := sz) h3 hc
  have hr1 := hr.rebox hk h1 h1 (fun _ _ => rfl) rfl rfl rfl rfl h4 (own' := keepL σ.own k off 1) (fun L x hL => by
    obtain ⟨g1, g2⟩ := lookL_keep hL
    refine ⟨g1, fun o ho => ⟨?_, rfl⟩⟩
    have hlt : off < cs.length := (List.getElem?_eq_some_iff.1 hc).1
    exact setAt_out (by simp; omega) (by simpa using g2 o ho))
  refine hw _ a w (hr1.ownNil (L0 := .b k off) (e0 := e) (sz0 := sz) ?_ ?_)
  · have hlt : off < cs.length := (List.getElem?_eq_some_iff.1 hc).1
    show ((look (σ.setBox k _ _).box k).bind (·[off]?)).map PV.av = _
    have : look (σ.setBox k (setAt cs off [PV.sl sz []]) (keepL σ.own k off 1)).box k = some (setAt cs off [PV.sl sz []]) := by simp [St.setBox, look_cons]
    rw [this]
    simp only [Option.bind_some]
    unfold setAt
    rw [List.append_assoc, List.getElem?_append_right (by simp; omega)]
    simp [Nat.min_eq_left (Nat.le_of_lt hlt)]
    rfl
  · show w.cell? ⟨γ.bx k, off, none⟩ = _
    rw [cell_of_row w _ off _ ty (0, 0) h1]
    simpa using h5
end
end Av
end Go.Proofs.Ytkdigdnacggknaa
/- Abstract states: maps whose elements are pointers to boxes. Generic. -/
namespace Go.Proofs.Ytkdigdnacggknaa
open Go.RowKit Go.Maps
open Go.Maps (Keyed)
namespace Av

/-- How a pointer reads: by its block's number. -/
def ptrR : MReader := fun v => match v with | .pointer (some ⟨g, 0, none⟩) => some (.lit (.int .i64 (g : Int)), []) | _ => none
theorem ptrR_mk (g : Nat) : ptrR (.pointer (some ⟨g, 0, none⟩)) = some (.lit (.int .i64 (g : Int)), []) := rfl
theorem ptrR_inv {v : Value} {d : DataW Unit} {ps : List MemPlace} (h : ptrR v = some (d, ps)) : ∃ g : Nat, v = .pointer (some ⟨g, 0, none⟩) ∧ d = .lit (.int .i64 (g : Int)) := by
  unfold ptrR at h
  split at h
  · rename_i g
    simp only [Option.some.injEq, Prod.mk.injEq] at h
    exact ⟨g, rfl, h.1.symm⟩
  · cases h
theorem ptrR_one {v : Value} {d : DataW Unit} {ps : List MemPlace} (h : ptrR v = some (d, ps)) : v.oneCell' = true := by
  obtain ⟨g, rfl, _⟩ := ptrR_inv h
  rfl
section
variable {P : Program} {k : TypeId} {n d : Nat} {σ : St} {o : Oper} {K : St → Prop}
/-- A look-up of a pointer, in a drawn head: the key is there. -/
theorem handq_lookup_ref {T e : TypeId} {m x : Operand} {b nn g : Nat} {G : Value → Option (DataW Unit)} {xs : List Value} {kl : Lit} {bx0 : Nat → Option (List PV)} (ho : o.op = .lookup T m x false) (hd : o.dst = some d) (hdn : d < n)
    (hm : evo (look σ.slot) m = some (.v (.map (some b)))) (hx : evo (look σ.slot) x = some (.agg (xs.map PV.v))) (hE : ∀ w, σ.ext.holds w → MapIs w P k ptrR b nn G) (Kk : Keyed P k) (ht : P.underlying T = some (.map k e)) (hz : ∀ w, (zeroValue e).run P w = .ok (.pointer none) w)
    (hkey : keyOf P k (.agg xs.toArray) = some kl) (hG : G (.agg xs.toArray) = some (.lit (.int .i64 (g : Int)))) (hbx : (bx0 (g + 1000000)).isSome = true) : HandQ P n bx0 σ o d ⟨.ref (g + 1000000) 0, none, none⟩ := by
  intro F σ1 γ a w hF hr hops hb hext Q
  have h1 : ∀ y v, evo (look σ.slot) y = some v → y ∈ o.op.operands.toList → evo (look σ1.slot) y = some v := fun y v hy hmem => by
    cases y with
    | tmp t => exact hops t v hmem hy
    | _ => exact hy
  have e1 := eval_raw hr (h1 m _ hm (by rw [ho]; simp [Op.operands]))
  have e2 := eval_aggv hr (h1 x _ hx (by rw [ho]; simp [Op.operands]))
  have hh := hE w (by rw [← hext]; exact hr.exth)
  obtain ⟨cs, hcs⟩ := Option.isSome_iff_exists.1 hbx
  have hbox : (look σ1.box (g + 1000000)).isSome := by rw [hb _ _ hcs]; rfl
  rcases hh.look false Kk ht (hz w) hkey with ⟨hno, _⟩ | ⟨v, dd, ps, hG', hR, hrun⟩
  · rw [hG] at hno; cases hno
  · rw [hG] at hG'
    cases hG'
    obtain ⟨g', rfl, hg'⟩ := ptrR_inv hR
    simp only [DataW.lit.injEq, Lit.int.injEq, true_and] at hg'
    have : g' = g := by omega
    subst this
    refine pure_ok hr hd (by rw [hF]; exact hdn) (u := .pointer (some ⟨g', 0, none⟩)) ?_ ?_ (fun j hj => by simp [AV.refs] at hj; subst hj; exact hbox)
    · simp [execOp, ho, e1, e2, hrun]
    · show _ = Value.pointer _
      rw [hr.dyn _ hbox (by omega)]
      simp
/-- A look-up of a pointer: nil, or a box. -/
theorem hand_lookup_ref {T e : TypeId} {m x : Operand} {b nn : Nat} {G : Value → Option (DataW Unit)} {xs : List Value} {kl : Lit} (ho : o.op = .lookup T m x false) (hd : o.dst = some d) (hdn : d < n)
    (hm : evo (look σ.slot) m = some (.v (.map (some b)))) (hx : evo (look σ.slot) x = some (.agg (xs.map PV.v))) (hE : ∀ w, σ.ext.holds w → MapIs w P k ptrR b nn G) (Kk : Keyed P k) (ht : P.underlying T = some (.map k e)) (hz : ∀ w, (zeroValue e).run P w = .ok (.pointer none) w)
    (hkey : keyOf P k (.agg xs.toArray) = some kl) (hbx : ∀ g : Nat, G (.agg xs.toArray) = some (.lit (.int .i64 (g : Int))) → (look σ.box (g + 1000000)).isSome = true)
    (hno : G (.agg xs.toArray) = none → K (σ.put d (.v (.pointer none))))
    (hyes : ∀ g : Nat, G (.agg xs.toArray) = some (.lit (.int .i64 (g : Int))) → K (σ.put d (.ref (g + 1000000) 0))) : Hand P n σ o K := by
  refine hand_value hd hdn fun F γ a w _ hr => ?_
  have e1 := eval_raw hr hm
  have e2 := eval_aggv hr hx
  have hsame : Turn σ.ext w w σ.ext := Turn.same hr.exth (fun _ h => h) (fun _ h => .inr h)
  rcases (hE w hr.exth).look false Kk ht (hz w) hkey with ⟨hG, hrun⟩ | ⟨v, dd, ps, hG, hR, hrun⟩
  · refine ⟨.v (.pointer none), .pointer none, w, σ.ext, ?_, hsame, rfl, (fun k hk => by cases hk), hno hG⟩
    simp [execOp, ho, e1, e2, hrun]
  · obtain ⟨g, rfl, rfl⟩ := ptrR_inv hR
    have hb := hbx g hG
    refine ⟨.ref (g + 1000000) 0, .pointer (some ⟨g, 0, none⟩), w, σ.ext, ?_, hsame, ?_, (fun j hj => by simp [AV.refs] at hj; subst hj; exact hb), hyes g hG⟩
    · simp [execOp, ho, e1, e2, hrun]
    · show _ = Value.pointer _
      rw [hr.dyn _ hb (by omega)]
      simp
/-- Is a pointer nil? -/
theorem hand_isNil {T T' : TypeId} {x : Operand} {u : AV} (ho : o.op = .binOp .eql T x (.const (.pointer none)) T') (hd : o.dst = some d) (hdn : d < n) (hT : P.underlying T = some (.pointer (P.pointee T))) (hx : evo (look σ.slot) x = some u) (hu : ptrB u = true ∨ u = .v (.pointer none))
    (h : K (σ.put d (.v (.bool (!ptrB u))))) : Hand P n σ o K := by
  refine hand_value hd hdn fun F γ a w _ hr => ?_
  have e1 := (evo_ok hr (fun _ _ _ hy => hy) hx).1
  refine ⟨.v (.bool (!ptrB u)), .bool (!ptrB u), w, σ.ext, ?_, Turn.same hr.exth (fun _ h => h) (fun _ h => .inr h), rfl, (fun k hk => by cases hk), h⟩
  have e2 : (ptrB u = true ∧ ∃ p, a.eval x = .pointer (some p)) ∨ (ptrB u = false ∧ a.eval x = .pointer none) := by
    rcases hu with hu | rfl
    · refine .inl ⟨hu, ?_⟩
      cases u with
      | ref k off => exact ⟨_, e1⟩
      | ept row => obtain ⟨b, off, us, e, _⟩ := e1; exact ⟨_, e⟩
      | v y =>
        cases y with
        | pointer q =>
          cases q with
          | some p => exact ⟨p, e1⟩
          | none => cases hu
        | _ => cases hu
      | _ => cases hu
    · exact .inr ⟨rfl, e1⟩
  have e3 : a.eval (.const (.pointer none)) = .pointer none := rfl
  rcases e2 with ⟨h1, p, h2⟩ | ⟨h1, h2⟩
  · rw [h1]
    simp [execOp, ho, h2, e3, eqGuard, binOp, run_equal_pointer_nil w T (some p) hT]
  · rw [h1]
    simp [execOp, ho, h2, e3, eqGuard, binOp, run_equal_pointer_nil w T none hT]
/-- A fresh box is put into the map: from then on its name is its block's number. -/
theorem hand_mapUpdate_ref {T e : TypeId} {m x v : Operand} {b nn kb : Nat} {G : Value → Option (DataW Unit)} {xs : List Value} {kl : Lit} {E' : Nat → (Value → Option (DataW Unit)) → Ext} (ho : o.op = .mapUpdate T m x v) (hd : o.dst = none)
    (hm : evo (look σ.slot) m = some (.v (.map (some b)))) (hx : evo (look σ.slot) x = some (.agg (xs.map PV.v))) (hv : evo (look σ.slot) v = some (.ref kb 0)) (hkb : kb < 1000000) (hno : ∀ off, lookL σ.own (.b kb off) = none) (hE : ∀ w, σ.ext.holds w → MapIs w P k ptrR b nn G) (hn : nn < maxLen) (Kk : Keyed P k) (ht : P.underlying T = some (.map k e)) (hkey : keyOf P k (.agg xs.toArray) = some kl)
    (hT : ∀ w w1 G', (∀ b, σ.ext.all b → b < w.heap.size) → σ.ext.holds w → Turn (mapE P k ptrR b nn G) w w1 (mapE P k ptrR b (nn + 1) G') → Turn σ.ext w w1 (E' (nn + 1) G'))
    (h : ∀ (g : Nat) (G' : Value → Option (DataW Unit)), look σ.box (g + 1000000) = none → G' (.agg xs.toArray) = some (.lit (.int .i64 (g : Int))) → (∀ y, y ≠ .agg xs.toArray → G' y = G y) → K (({ σ with ext := E' (nn + 1) G' } : St).ren kb (g + 1000000))) : Hand P n σ o K := by
  classical
  intro F γ a w _ hr Q
  have e1 := eval_raw hr hm
  have e2 := eval_aggv hr hx
  obtain ⟨e3, e4⟩ := evo_ok hr (fun _ _ _ hy => hy) hv
  have hbox := e4 kb (by simp [AV.refs])
  have e3' : a.eval v = .pointer (some ⟨γ.bx kb, 0, none⟩) := e3
  obtain ⟨w1, hrun, h1, hg⟩ := (hE w hr.exth).put Kk ht hn hkey (ptrR_mk (γ.bx kb))
  have htn := hT w w1 _ (fun b hb => (hr.extf b hb).2.1) hr.exth (Turn.grown hg rfl h1 (fun _ hx => hx) (fun _ hx => hx.elim))
  obtain ⟨hnone, hrel⟩ := (hr.turn htn).ren (kb := kb) hbox hkb rfl hno
  have hex : (execOp a.eval o).run P w = .ok .skip w1 := by simp [execOp, ho, e1, e2, e3', hrun]
  unfold Oper.wp
  rw [hex]
  show ∃ σ' γ', K σ' ∧ Rel F σ' γ' (a.put o.dst undef) w1
  rw [hd]
  exact ⟨_, _, h (γ.bx kb) _ hnone (if_pos rfl) (fun y hy => if_neg hy), hrel⟩
end
end Av
end Go.Proofs.Ytkdigdnacggknaa

import Derived.Deep.MidRow
import Derived.Maps.OwnOps
import Derived.Maps.Views
import Derived.Maps.Range
import Derived.Test.YtkdigdnacggknaaZ3
set_option linter.unusedVariables false
set_option linter.unusedSimpArgs false
/- Walk: Stray of package monitor. -/
namespace Go.Proofs.Ytkdigdnacggknaa
open Go.RowKit
open Nd Rc Mo

theorem Try.infoA : (Try.prog.info? 66).map (fun i => (i.zero, i.size, i.bytes)) = some (some (.agg #[.int .i64 0, .int .i64 0, .int .i64 0, .int .i64 0, .int .i64 0, .int .i64 0, .int .i64 0, .int .i64 0]), 8, 64) := by kernel_rfl
theorem findF_cases (fs : List Fl) (id : Int) : (findF fs id = -1 ∧ fs.find? (fun f => f.id == id) = none) ∨ ∃ (i : Nat) (f : Fl), fs[i]? = some f ∧ findF fs id = (i : Int) ∧ fs.find? (fun f => f.id == id) = some f := by
  rcases idxP_spec (fun f : Fl => f.id == id) fs 0 with ⟨h1, h2⟩ | ⟨i, a, h1, h2, h3, h4⟩
  · refine .inl ⟨h1, List.find?_eq_none.2 fun x hx => ?_⟩
    have := List.all_eq_true.1 h2 x hx
    simpa using this
  · refine .inr ⟨i, a, h1, by unfold findF; rw [h3]; omega, ?_⟩
    obtain ⟨hi, e⟩ := List.getElem?_eq_some_iff.1 h1
    rw [List.find?_eq_some_iff_append]
    refine ⟨h2, fs.take i, fs.drop (i + 1), ?_, fun x hx => ?_⟩
    · rw [← e, List.getElem_cons_drop, List.take_append_drop]
    · exact List.all_eq_true.1 h4 x hx
/-- The strays among the first k attempts. -/
def strayK (fs : List Fl) (al : List Att) (k : Nat) : List Att := (al.take k).filter (fun a => !onWay fs a)
theorem strayK_succ {fs : List Fl} {al : List Att} {k : Nat} {a : Att} (h : al[k]? = some a) : strayK fs al (k + 1) = strayK fs al k ++ (if onWay fs a = true then [] else [a]) := by
  unfold strayK
  rw [take_snoc h, List.filter_append]
  congr 1
  by_cases hw : onWay fs a = true <;> simp [hw]
theorem strayK_len (fs : List Fl) (al : List Att) (k : Nat) : (strayK fs al k).length ≤ al.length := by
  unfold strayK
  have h1 := List.length_filter_le (fun a => !onWay fs a) (al.take k)
  have h2 : (al.take k).length ≤ al.length := by rw [List.length_take]; exact Nat.min_le_right _ _
  omega

set_option maxRecDepth 100000 in
set_option maxHeartbeats 4000000 in
theorem stray_any (fs : List Fl) (r : Rec) (F A D : Option Addr) (cf ca cd : Nat) (w : World) (hF : Lies w w.heap.size 6 F (fs.map Fl.row)) (hf : fs.length ≤ 1000000) (hA : LiesA w w.heap.size A r.al) (hD : LiesD w w.heap.size D r.dl) (hla : r.al.length ≤ 1000000) (hld : r.dl.length ≤ 1000000) :
    Calls Try.prog 25 #[.slice F fs.length cf, .agg #[.int .i64 r.slots, .slice A r.al.length ca, .slice D r.dl.length cd]] w fun e w' => Below w.heap.size w w' ∧ ∃ v, e = .returned (.tuple #[v, .int .i64 (stray fs r).2]) ∧ w'.ownsRow w.heap.size 66 8 v (stray fs r).1.length ((stray fs r).1.flatMap Att.row) := by
  obtain ⟨N, hN⟩ : ∃ N, N = w.heap.size := ⟨_, rfl⟩
  obtain ⟨na, hna⟩ : ∃ n, n = r.al.length := ⟨_, rfl⟩
  obtain ⟨nd, hnd⟩ : ∃ n, n = r.dl.length := ⟨_, rfl⟩
  obtain ⟨m, hm⟩ : ∃ m, m = fs.length := ⟨_, rfl⟩
  obtain ⟨slots, hsl⟩ : ∃ s, s = r.slots := ⟨_, rfl⟩
  obtain ⟨W1, hW1⟩ : ∃ W1, W1 = w.alloc (.cells #[.int .i64 slots, .slice A na ca, .slice D nd cd] 28) := ⟨_, rfl⟩
  have hb1 : Below N w W1 := by rw [hW1, hN]; exact (Below.refl _ _).alloc (Nat.le_refl _) _
  have bR : Blk W1 N 28 [.int .i64 slots, .slice A na ca, .slice D nd cd] := by rw [hW1]; exact Blk.new2 _ [.int .i64 slots, .slice A na ca, .slice D nd cd] hN
  have HW := Lib.hid (fun W (h' : Below W1.heap.size W1 W) => (show Below w.heap.size w W ∧ Row W N [.int .i64 slots, .slice A na ca, .slice D nd cd] from ⟨by rw [← hN]; exact hb1.trans (h'.mono (by have := bR.lt; omega)), (bR.below h' bR.lt).row⟩))
  have HF := Lib.hid (fun W (h' : Below W1.heap.size W1 W) => Lies.later hF (HW.out W h').1)
  have HA := Lib.hid (fun W (h' : Below W1.heap.size W1 W) => (show LiesA W W.heap.size A r.al from (hA.below (HW.out W h').1).more (HW.out W h').1.size))
  have HD := Lib.hid (fun W (h' : Below W1.heap.size W1 W) => (show LiesD W W.heap.size D r.dl from (hD.below (HW.out W h').1).more (HW.out W h').1.size))
  have HRt := Lib.hid (right_any fs r F A D cf ca cd W1 (HF.out _ (Below.refl _ _)) hf (HA.out _ (Below.refl _ _)) (HD.out _ (Below.refl _ _)) hla hld)
  have HFind := Lib.hid (fun (x : Int) W (h' : Below W1.heap.size W1 W) => find_any fs x F cf W (HF.out W h') hf)
  rw [← hna, ← hnd, ← hsl] at HRt ⊢
  rw [← hm] at HRt HFind ⊢
  rw [← hnd] at hld
  rw [← hna] at hla
  have HM := Lib.hid hm
  have HSl := Lib.hid hsl
  have HNd := Lib.hid hnd
  have HNa := Lib.hid hna
  have HW1 := Lib.hid hW1
  have HN := Lib.hid hN
  have hNlt : N < W1.heap.size := bR.lt
  clear hF hA hD hna hnd hm hsl hb1 bR hN hf
  have r1 := (HW.out _ (Below.refl _ _)).2
  unfold Row at r1
  subst hW1
  obtain ⟨i0, hi, hz0, hz1, hz2⟩ := info_parts Try.infoA
  go_enter Try.func25, Try.ntmps25
  clear r1
  go_wp2_with fail
  rw [← HN.out]
  refine HRt.out.mono ?_
  rintro e w2 ⟨rfl, hb2⟩
  clear HRt
  cases hr : right fs r with
  | false =>
    have hl : Hid (stray fs r = ([], 1)) := Lib.hid (by unfold stray; rw [hr]; rfl)
    clear hr
    go_wp2_with fail
    go_ret2
    exact ⟨(HW.out _ hb2).1, _, by rw [hl.out]; rfl, by rw [hl.out]; exact World.ownsRow_nil _ _ _ _⟩
  | true =>
    have hl : Hid (stray fs r = (strayK fs r.al na, 0)) := Lib.hid (by unfold stray strayK; rw [if_pos hr, HNa.out, List.take_of_length_le (Nat.le_refl _)])
    have r2 := (HW.out _ hb2).2
    unfold Row at r2
    have HX := Lib.hid (fun W (h' : Below w2.heap.size w2 W) => (show Below w.heap.size w W ∧ Row W N [.int .i64 slots, .slice A na ca, .slice D nd cd] ∧ Lies W W.heap.size 6 F (fs.map Fl.row) ∧ LiesA W W.heap.size A r.al from ⟨(HW.out _ (hb2.trans (h'.mono hb2.size))).1, (HW.out _ (hb2.trans (h'.mono hb2.size))).2, HF.out _ (hb2.trans (h'.mono hb2.size)), HA.out _ (hb2.trans (h'.mono hb2.size))⟩))
    have HFd := Lib.hid (fun (x : Int) W (h' : Below w2.heap.size w2 W) => HFind.out x W (hb2.trans (h'.mono hb2.size)))
    have hMN : N < w2.heap.size := Nat.lt_of_lt_of_le hNlt hb2.size
    have hw2N : w.heap.size ≤ w2.heap.size := (HW.out _ hb2).1.size
    clear hr HW HF HA HD HFind hb2 HW1
    go_wp2_with fail
    clear r2
    go_loopw [6, 20] (fun s6 i wr => ∃ (k : Nat) (v : Value), v = s6 ∧ k ≤ na ∧ i = .int .i64 k ∧ Below w2.heap.size w2 wr ∧ Hid (wr.ownsRow w2.heap.size 66 8 v (strayK fs r.al k).length ((strayK fs r.al k).flatMap Att.row))) (fun _ i _ => na - (intOf i).toNat)
    case atStart => exact ⟨0, _, rfl, by omega, rfl, Below.refl _ _, Lib.hid (World.ownsRow_nil _ _ _ _)⟩
    case round =>
      obtain ⟨k, v, rfl, hk, rfl, hb, HO⟩ := hrel
      by_cases hlt : k < na
      · obtain ⟨a, hak⟩ := get_of_lt (l := r.al) (k := k) (by rw [← HNa.out]; exact hlt)
        obtain ⟨ab, aoff, rfl, haB, hcs⟩ := (HX.out _ hb).2.2.2.at_ hak
        obtain ⟨c0, c1, c2, c3, c4, c5, c6, c7⟩ := hcs k a hak
        have HSu := Lib.hid (strayK_succ (fs := fs) hak)
        have HLn := Lib.hid (fun k => strayK_len fs r.al k)
        clear hcs hak
        go_upto_region 7 with fail
        clear c0 c1 c2 c3 c4 c5 c6 c7
        obtain ⟨X, hX⟩ : ∃ X, X = wr.heap.size := ⟨_, rfl⟩
        generalize hWa : World.alloc _ _ = Wa
        have bX : Blk Wa X 66 [.int .i64 a.s, .int .i64 a.f, .int .i64 a.cs, .int .i64 a.co, .int .i64 a.cf, .int .i64 a.ct, .int .i64 a.cl, .int .i64 a.o] := by rw [← hWa]; exact Blk.new2 _ [.int .i64 a.s, .int .i64 a.f, .int .i64 a.cs, .int .i64 a.co, .int .i64 a.cf, .int .i64 a.ct, .int .i64 a.cl, .int .i64 a.o] hX
        have hba : Below w2.heap.size w2 Wa := by rw [← hWa]; exact hb.alloc hb.size _
        have HOa : Hid (Wa.ownsRow w2.heap.size 66 8 v (strayK fs r.al k).length ((strayK fs r.al k).flatMap Att.row)) := Lib.hid (by rw [← hWa]; exact HO.out.alloc _)
        have HXv : Hid (v.ownBlock ≠ some X) := Lib.hid (fun e => by have := (HO.out.lt X e).2; omega)
        rw [← hX]
        clear hWa hX HO hb
        have Con := Lib.hid (HFd.out a.cl _ hba)
        have rX := bX.row
        unfold Row at rX
        go_wp2_with fail
        refine Con.out.mono ?_
        rintro e w4 ⟨rfl, hb4⟩
        have hB4 : Below w2.heap.size w2 w4 := hba.trans (hb4.mono hba.size)
        have bX4 : Blk w4 X 66 [.int .i64 a.s, .int .i64 a.f, .int .i64 a.cs, .int .i64 a.co, .int .i64 a.cf, .int .i64 a.ct, .int .i64 a.cl, .int .i64 a.o] := bX.below hb4 bX.lt
        have HO4 : Hid (w4.ownsRow w2.heap.size 66 8 v (strayK fs r.al k).length ((strayK fs r.al k).flatMap Att.row)) := Lib.hid (own_below HOa.out hb4 (Nat.le_refl _))
        clear Con rX bX hba HOa hb4
        rcases findF_cases fs a.cl with ⟨hT, hfn⟩ | ⟨i, f, hfi, hT, hfs⟩
        · have hon : onWay fs a = false := by unfold onWay; rw [hfn]
          rw [hT]
          clear hT hfn
          have hQ : Hid (strayK fs r.al (k + 1) = strayK fs r.al k ++ [a]) := Lib.hid (by rw [HSu.out, if_neg (by rw [hon]; decide)])
          clear hon
          have hl5 := HLn.out k
          have hl6 := HNa.out
          have rX := bX4.row
          unfold Row at rX
          clear hl6
          have hl7 : (strayK fs r.al k).length ≤ 1000000 := by have := HNa.out; omega
          go_wp2_with (at_builtin; refine wpList_append_own_at _ rfl (.tmp 48) (.tmp 50) 23 rfl w2.heap.size 66 i0 (.agg #[.int .i64 0, .int .i64 0, .int .i64 0, .int .i64 0, .int .i64 0, .int .i64 0, .int .i64 0, .int .i64 0]) 8 64 Try.underlying23 hi hz0 hz1 hz2 rfl (by decide) v _ _ rfl (HO4.out.alloc _) ⟨w4.heap.size, 0, none⟩ 1 1 [.int .i64 a.s, .int .i64 a.f, .int .i64 a.cs, .int .i64 a.co, .int .i64 a.cf, .int .i64 a.ct, .int .i64 a.cl, .int .i64 a.o] rfl rfl ?e0 ?e1 ?e2 ?e3 ?e4 ?_)
          case e0 => exact (Blk.new2 66 [.int .i64 a.s, .int .i64 a.f, .int .i64 a.cs, .int .i64 a.co, .int .i64 a.cf, .int .i64 a.ct, .int .i64 a.cl, .int .i64 a.o] rfl).news2
          case e1 => intro u hu; simp only [List.mem_cons, List.not_mem_nil, or_false] at hu; rcases hu with rfl | rfl | rfl | rfl | rfl | rfl | rfl | rfl <;> rfl
          case e2 => unfold maxLen; omega
          case e3 => omega
          case e4 => simp; have := hB4.size; omega
          intro v7 w7 ho7 hg7 hnil7 hat7
          clear hnil7 hat7
          have hB6 : Below w2.heap.size w2 (w4.alloc (.cells #[.int .i64 a.s, .int .i64 a.f, .int .i64 a.cs, .int .i64 a.co, .int .i64 a.cf, .int .i64 a.ct, .int .i64 a.cl, .int .i64 a.o] 66)) := hB4.alloc hB4.size _
          have hB7 : Below w2.heap.size w2 w7 := hB6.grown hg7 hB6.size (fun j hj => (HO4.out.lt j hj).1)
          have HO7 : Hid (w7.ownsRow w2.heap.size 66 8 v7 (strayK fs r.al (k + 1)).length ((strayK fs r.al (k + 1)).flatMap Att.row)) := Lib.hid (by rw [hQ.out]; simpa [Rc.Att.row] using ho7)
          obtain ⟨A7, c7, hv7⟩ := own_form2 ho7
          clear ho7 hg7 hB6 rX hl5
          subst hv7
          go_wp2_with fail
          go_roundw
          case rel => exact ⟨k + 1, _, rfl, by omega, by go_num, hB7, HO7⟩
          case measure => simp [intOf]; omega
        · obtain ⟨fb, foff, hFe, hfB, hcs⟩ := (HX.out _ hB4).2.2.1.at_ hfi
          have him : i < m := by rw [HM.out]; exact (List.getElem?_eq_some_iff.1 hfi).1
          have hi0 : decide ((0 : Int) ≤ (i : Int)) = true := decide_eq_true (by omega)
          have q0 := hcs i f hfi 0 _ rfl
          have q1 := hcs i f hfi 1 _ rfl
          have q2 := hcs i f hfi 2 _ rfl
          have q3 := hcs i f hfi 3 _ rfl
          have q4 := hcs i f hfi 4 _ rfl
          have q5 := hcs i f hfi 5 _ rfl
          simp only [Nat.add_zero] at q0 q1 q2 q3 q4 q5
          have hon0 : onWay fs a = ((cur f a.s).2 && (cur f a.s).1 == a.f) := by unfold onWay; rw [hfs]
          rw [hT]
          obtain ⟨wd, hwd⟩ : ∃ wd, wd = w4.drew := ⟨_, rfl⟩
          have hbd : Below w4.heap.size w4 wd := by rw [hwd]; exact (Below.refl _ _).drew
          have Con := Lib.hid (current_any f a.s wd)
          obtain ⟨T5, hT5⟩ : ∃ T5, T5 = cur f a.s := ⟨_, rfl⟩
          rw [← hT5] at Con hon0
          have bXd : Blk wd X 66 [.int .i64 a.s, .int .i64 a.f, .int .i64 a.cs, .int .i64 a.co, .int .i64 a.cf, .int .i64 a.ct, .int .i64 a.cl, .int .i64 a.o] := by rw [hwd]; exact bX4.drew
          have hXl : X < w4.heap.size := bX4.lt
          have HDZ : Hid (w4.heap.size = wd.heap.size) := Lib.hid (by rw [hwd]; rfl)
          have hBd : Below w2.heap.size w2 wd := hB4.trans (hbd.mono hB4.size)
          have HOd : Hid (wd.ownsRow w2.heap.size 66 8 v (strayK fs r.al k).length ((strayK fs r.al k).flatMap Att.row)) := Lib.hid (own_below HO4.out hbd (Nat.le_refl _))
          subst hFe
          clear hcs hfi hT hfs hT5
          go_upto_region 9 with fail
          refine wp_region_rough (w4.heap.size) 12 [] #[false, false, false, false, false, false, false, false, false, false, false, false] (by kernel_rfl) rfl rfl ?_
          rw [← hwd]
          clear hwd
          have y0 : ∀ (x' : ExtW w4.heap.size wd), x'.val.cell? ⟨fb, foff + i * 6, none⟩ = some (.int .i64 f.id) := fun x' => (x'.cell _ hfB).trans ((hbd.cell (p := ⟨fb, foff + i * 6, none⟩) hfB).trans q0)
          have y1 : ∀ (x' : ExtW w4.heap.size wd), x'.val.cell? ⟨fb, foff + i * 6 + 1, none⟩ = some (.int .i64 f.fr) := fun x' => (x'.cell _ hfB).trans ((hbd.cell (p := ⟨fb, foff + i * 6 + 1, none⟩) hfB).trans q1)
          have y2 : ∀ (x' : ExtW w4.heap.size wd), x'.val.cell? ⟨fb, foff + i * 6 + 2, none⟩ = some (.int .i64 f.tn) := fun x' => (x'.cell _ hfB).trans ((hbd.cell (p := ⟨fb, foff + i * 6 + 2, none⟩) hfB).trans q2)
          have y3 : ∀ (x' : ExtW w4.heap.size wd), x'.val.cell? ⟨fb, foff + i * 6 + 3, none⟩ = some (.int .i64 f.pe) := fun x' => (x'.cell _ hfB).trans ((hbd.cell (p := ⟨fb, foff + i * 6 + 3, none⟩) hfB).trans q3)
          have y4 : ∀ (x' : ExtW w4.heap.size wd), x'.val.cell? ⟨fb, foff + i * 6 + 4, none⟩ = some (.int .i64 f.ph) := fun x' => (x'.cell _ hfB).trans ((hbd.cell (p := ⟨fb, foff + i * 6 + 4, none⟩) hfB).trans q4)
          have y5 : ∀ (x' : ExtW w4.heap.size wd), x'.val.cell? ⟨fb, foff + i * 6 + 5, none⟩ = some (.int .i64 f.dl) := fun x' => (x'.cell _ hfB).trans ((hbd.cell (p := ⟨fb, foff + i * 6 + 5, none⟩) hfB).trans q5)
          have ya : ∀ (x' : ExtW w4.heap.size wd), x'.val.cell? ⟨X, 0, none⟩ = some (.int .i64 a.s) := fun x' => (x'.cell _ hXl).trans (bXd.row 0)
          clear q0 q1 q2 q3 q4 q5
          refine anyR_take0 0 _ (nth0) rfl (by kernel_rfl) (by kernel_rfl) (by kernel_rfl) (l' := #[true, false, false, false, false, false, false, false, false, false, false, false]) rfl rfl ?_; intro K hK; go_big_quiet_op; go_big_quiet_on
          refine anyR_take0 1 _ (nthS (nth0)) rfl (by kernel_rfl) (by kernel_rfl) (by kernel_rfl) (l' := #[true, true, false, false, false, false, false, false, false, false, false, false]) rfl rfl ?_; intro K hK; go_big_quiet_op; go_big_quiet_on
          refine anyR_take0 2 _ (nthS (nthS (nth0))) rfl (by kernel_rfl) (by kernel_rfl) (by kernel_rfl) (l' := #[true, true, true, false, false, false, false, false, false, false, false, false]) rfl rfl ?_; intro K hK; go_big_quiet_op; go_big_quiet_on
          refine anyR_take 3 _ (nthS (nthS (nthS (nth0)))) rfl (by kernel_rfl) (by kernel_rfl) (by kernel_rfl) (by kernel_rfl) (l' := #[true, true, true, true, false, false, false, false, false, false, false, false]) rfl rfl ?_; intro K hK; go_big_quiet_op; go_big_quiet_on
          refine anyR_take0 4 _ (nthS (nthS (nthS (nthS (nth0))))) rfl (by kernel_rfl) (by kernel_rfl) (by kernel_rfl) (l' := #[true, true, true, true, true, false, false, false, false, false, false, false]) rfl rfl ?_; intro K hK; go_big_quiet_op; go_big_quiet_on
          refine anyR_take 5 _ (nthS (nthS (nthS (nthS (nthS (nth0)))))) rfl (by kernel_rfl) (by kernel_rfl) (by kernel_rfl) (by kernel_rfl) (l' := #[true, true, true, true, true, true, false, false, false, false, false, false]) rfl rfl ?_; intro K hK; go_big_quiet_op; go_big_quiet_on
          refine anyR_one 6 _ (nthS (nthS (nthS (nthS (nthS (nthS (nth0))))))) (by kernel_rfl) (l' := #[true, true, true, true, true, true, true, false, false, false, false, false]) rfl ?_
          clear y0 y1 y2 y3 y4 y5 ya
          go_wp2_with fail
          refine Con.out.mono ?_
          rintro e w5 ⟨rfl, hb5⟩
          clear Con
          go_wp2_with fail
          refine OneR_mk (hb5.mono (Nat.le_of_eq HDZ.out)) ?_
          refine anyR_take0 7 _ (nthS (nthS (nthS (nthS (nthS (nthS (nthS (nth0)))))))) rfl (by kernel_rfl) (by kernel_rfl) (by kernel_rfl) (l' := #[true, true, true, true, true, true, true, true, false, false, false, false]) rfl rfl ?_; intro K hK; go_big_quiet_op; go_big_quiet_on
          refine anyR_take0 8 _ (nthS (nthS (nthS (nthS (nthS (nthS (nthS (nthS (nth0))))))))) rfl (by kernel_rfl) (by kernel_rfl) (by kernel_rfl) (l' := #[true, true, true, true, true, true, true, true, true, false, false, false]) rfl rfl ?_; intro K hK; go_big_quiet_op; go_big_quiet_on
          refine anyR_take0 9 _ (nthS (nthS (nthS (nthS (nthS (nthS (nthS (nthS (nthS (nth0)))))))))) rfl (by kernel_rfl) (by kernel_rfl) (by kernel_rfl) (l' := #[true, true, true, true, true, true, true, true, true, true, false, false]) rfl rfl ?_; intro K hK; go_big_quiet_op; go_big_quiet_on
          refine anyR_take0 10 _ (nthS (nthS (nthS (nthS (nthS (nthS (nthS (nthS (nthS (nthS (nth0))))))))))) rfl (by kernel_rfl) (by kernel_rfl) (by kernel_rfl) (l' := #[true, true, true, true, true, true, true, true, true, true, true, false]) rfl rfl ?_; intro K hK; go_big_quiet_op; go_big_quiet_on
          refine anyR_take0 11 _ (nthS (nthS (nthS (nthS (nthS (nthS (nthS (nthS (nthS (nthS (nthS (nth0)))))))))))) rfl (by kernel_rfl) (by kernel_rfl) (by kernel_rfl) (l' := #[true, true, true, true, true, true, true, true, true, true, true, true]) rfl rfl ?_; intro K hK; go_big_quiet_op; go_big_quiet_on
          refine anyR_end (by kernel_rfl) ?_
          have hB5 : Below w2.heap.size w2 w5 := hBd.trans (hb5.mono hBd.size)
          have bX5 : Blk w5 X 66 [.int .i64 a.s, .int .i64 a.f, .int .i64 a.cs, .int .i64 a.co, .int .i64 a.cf, .int .i64 a.ct, .int .i64 a.cl, .int .i64 a.o] := bXd.below hb5 bXd.lt
          have HO5 : Hid (w5.ownsRow w2.heap.size 66 8 v (strayK fs r.al k).length ((strayK fs r.al k).flatMap Att.row)) := Lib.hid (own_below HOd.out hb5 (Nat.le_refl _))
          clear HOd bXd hBd HDZ hb5 HO4 bX4 hB4 hXl hbd
          have x1 := bX5.row 1
          simp only [List.getElem?_cons_succ, List.getElem?_cons_zero] at x1
          cases h2 : T5.2 with
          | false =>
            have hon : onWay fs a = false := by rw [hon0, h2]; rfl
            clear hon0 h2
            have hQ : Hid (strayK fs r.al (k + 1) = strayK fs r.al k ++ [a]) := Lib.hid (by rw [HSu.out, if_neg (by rw [hon]; decide)])
            clear hon
            have hl5 := HLn.out k
            have hl6 := HNa.out
            have rX := bX5.row
            unfold Row at rX
            clear hl6
            have hl7 : (strayK fs r.al k).length ≤ 1000000 := by have := HNa.out; omega
            go_wp2_with (at_builtin; refine wpList_append_own_at _ rfl (.tmp 48) (.tmp 50) 23 rfl w2.heap.size 66 i0 (.agg #[.int .i64 0, .int .i64 0, .int .i64 0, .int .i64 0, .int .i64 0, .int .i64 0, .int .i64 0, .int .i64 0]) 8 64 Try.underlying23 hi hz0 hz1 hz2 rfl (by decide) v _ _ rfl (HO5.out.alloc _) ⟨w5.heap.size, 0, none⟩ 1 1 [.int .i64 a.s, .int .i64 a.f, .int .i64 a.cs, .int .i64 a.co, .int .i64 a.cf, .int .i64 a.ct, .int .i64 a.cl, .int .i64 a.o] rfl rfl ?e0 ?e1 ?e2 ?e3 ?e4 ?_)
            case e0 => exact (Blk.new2 66 [.int .i64 a.s, .int .i64 a.f, .int .i64 a.cs, .int .i64 a.co, .int .i64 a.cf, .int .i64 a.ct, .int .i64 a.cl, .int .i64 a.o] rfl).news2
            case e1 => intro u hu; simp only [List.mem_cons, List.not_mem_nil, or_false] at hu; rcases hu with rfl | rfl | rfl | rfl | rfl | rfl | rfl | rfl <;> rfl
            case e2 => unfold maxLen; omega
            case e3 => omega
            case e4 => simp; have := hB5.size; omega
            intro v7 w7 ho7 hg7 hnil7 hat7
            clear hnil7 hat7
            have hB6 : Below w2.heap.size w2 (w5.alloc (.cells #[.int .i64 a.s, .int .i64 a.f, .int .i64 a.cs, .int .i64 a.co, .int .i64 a.cf, .int .i64 a.ct, .int .i64 a.cl, .int .i64 a.o] 66)) := hB5.alloc hB5.size _
            have hB7 : Below w2.heap.size w2 w7 := hB6.grown hg7 hB6.size (fun j hj => (HO5.out.lt j hj).1)
            have HO7 : Hid (w7.ownsRow w2.heap.size 66 8 v7 (strayK fs r.al (k + 1)).length ((strayK fs r.al (k + 1)).flatMap Att.row)) := Lib.hid (by rw [hQ.out]; simpa [Rc.Att.row] using ho7)
            obtain ⟨A7, c7, hv7⟩ := own_form2 ho7
            clear ho7 hg7 hB6 rX hl5
            subst hv7
            go_wp2_with fail
            go_roundw
            case rel => exact ⟨k + 1, _, rfl, by omega, by go_num, hB7, HO7⟩
            case measure => simp [intOf]; omega
          | true =>
            cases h3 : (T5.1 == a.f) with
            | true =>
              have hon : onWay fs a = true := by rw [hon0, h2, h3]; rfl
              clear hon0 h2
              have hQ : Hid (strayK fs r.al (k + 1) = strayK fs r.al k) := Lib.hid (by rw [HSu.out, if_pos hon]; simp)
              clear hon
              go_wp2_with fail
              go_roundw
              case rel => exact ⟨k + 1, v, rfl, by omega, by go_num, hB5, Lib.hid (by rw [hQ.out]; exact HO5.out)⟩
              case measure => simp [intOf]; omega
            | false =>
              have hon : onWay fs a = false := by rw [hon0, h2, h3]; rfl
              clear hon0 h2
              have hQ : Hid (strayK fs r.al (k + 1) = strayK fs r.al k ++ [a]) := Lib.hid (by rw [HSu.out, if_neg (by rw [hon]; decide)])
              clear hon
              have hl5 := HLn.out k
              have hl6 := HNa.out
              have rX := bX5.row
              unfold Row at rX
              clear hl6
              have hl7 : (strayK fs r.al k).length ≤ 1000000 := by have := HNa.out; omega
              go_wp2_with (at_builtin; refine wpList_append_own_at _ rfl (.tmp 48) (.tmp 50) 23 rfl w2.heap.size 66 i0 (.agg #[.int .i64 0, .int .i64 0, .int .i64 0, .int .i64 0, .int .i64 0, .int .i64 0, .int .i64 0, .int .i64 0]) 8 64 Try.underlying23 hi hz0 hz1 hz2 rfl (by decide) v _ _ rfl (HO5.out.alloc _) ⟨w5.heap.size, 0, none⟩ 1 1 [.int .i64 a.s, .int .i64 a.f, .int .i64 a.cs, .int .i64 a.co, .int .i64 a.cf, .int .i64 a.ct, .int .i64 a.cl, .int .i64 a.o] rfl rfl ?e0 ?e1 ?e2 ?e3 ?e4 ?_)
              case e0 => exact (Blk.new2 66 [.int .i64 a.s, .int .i64 a.f, .int .i64 a.cs, .int .i64 a.co, .int .i64 a.cf, .int .i64 a.ct, .int .i64 a.cl, .int .i64 a.o] rfl).news2
              case e1 => intro u hu; simp only [List.mem_cons, List.not_mem_nil, or_false] at hu; rcases hu with rfl | rfl | rfl | rfl | rfl | rfl | rfl | rfl <;> rfl
              case e2 => unfold maxLen; omega
              case e3 => omega
              case e4 => simp; have := hB5.size; omega
              intro v7 w7 ho7 hg7 hnil7 hat7
              clear hnil7 hat7
              have hB6 : Below w2.heap.size w2 (w5.alloc (.cells #[.int .i64 a.s, .int .i64 a.f, .int .i64 a.cs, .int .i64 a.co, .int .i64 a.cf, .int .i64 a.ct, .int .i64 a.cl, .int .i64 a.o] 66)) := hB5.alloc hB5.size _
              have hB7 : Below w2.heap.size w2 w7 := hB6.grown hg7 hB6.size (fun j hj => (HO5.out.lt j hj).1)
              have HO7 : Hid (w7.ownsRow w2.heap.size 66 8 v7 (strayK fs r.al (k + 1)).length ((strayK fs r.al (k + 1)).flatMap Att.row)) := Lib.hid (by rw [hQ.out]; simpa [Rc.Att.row] using ho7)
              obtain ⟨A7, c7, hv7⟩ := own_form2 ho7
              clear ho7 hg7 hB6 rX hl5
              subst hv7
              go_wp2_with fail
              go_roundw
              case rel => exact ⟨k + 1, _, rfl, by omega, by go_num, hB7, HO7⟩
              case measure => simp [intOf]; omega
      · have h1 : k = na := by omega
        subst h1
        obtain ⟨A7, c7, hv7⟩ := own_form2 HO.out
        subst hv7
        go_wp2_with fail
        go_ret2
        exact ⟨(HX.out _ hb).1, _, by rw [hl.out]; rfl, by rw [hl.out]; exact own_base HO.out hw2N⟩
end Go.Proofs.Ytkdigdnacggknaa
/- Sets of frames: a map from frames to truth values that the call makes. (After the text NodM.) -/
namespace Go.Proofs.Ytkdigdnacggknaa
open Go.RowKit Go.WideMaps
open Go.Maps (Keyed)
theorem Try.bZero (w : World) : (zeroValue 4).run Try.prog w = .ok (.bool false) w := by kernel_rfl

theorem plainElem_bool_inv {H : Type} {P : Program} {e : TypeId} (he : P.underlying e = some .bool) {v : Value} {z : DataW H × List MemPlace} (h : plainElem P e v = some z) : ∃ a, v = .bool a ∧ z = (.lit (.bool a), []) := by
  unfold plainElem at h
  rw [he] at h
  cases v <;> simp_all

/-- Block b is a map that holds true at the pairs of S and nothing else that is true. -/
def OwnsSet (w : World) (b n : Nat) (S : List (Int × Int)) : Prop :=
  ∃ D : DataW Unit, w.ownsMap Try.prog 93 (plainElem Try.prog 4) b n D ∧ Go.Maps.IsMap D ∧ (∀ p ∈ S, Num64 p.1 ∧ Num64 p.2) ∧ ∀ a c, Num64 a → Num64 c → D.atKey (frKey a c) (.lit (.bool false)) = .lit (.bool (decide ((a, c) ∈ S)))

theorem OwnsSet.made (w : World) : OwnsSet (w.alloc (.map #[] 0)) w.heap.size 0 [] :=
  ⟨.map [], World.ownsMap_made w _ _ _, Go.Maps.isMap_empty, fun _ h => by simp at h, fun a c _ _ => by simp [DataW.atKey]⟩
theorem OwnsSet.kept {w w' : World} {b n : Nat} {S : List (Int × Int)} {row : Option Nat} (h : OwnsSet w b n S) (hg : w.grownBy w' row) (hne : some b ≠ row) : OwnsSet w' b n S := by
  obtain ⟨D, h1, h2⟩ := h
  exact ⟨D, h1.kept hg hne, h2⟩
theorem OwnsSet.below {w w' : World} {b n N : Nat} {S : List (Int × Int)} (h : OwnsSet w b n S) (hb : Below N w w') (hN : b < N) : OwnsSet w' b n S := by
  obtain ⟨D, ⟨es, clock, hb1, F, hs, hD⟩, h2⟩ := h
  exact ⟨D, ⟨es, clock, (hb.block b hN).trans hb1, F, hs, hD⟩, h2⟩
theorem OwnsSet.lt {w : World} {b n : Nat} {S : List (Int × Int)} (h : OwnsSet w b n S) : b < w.heap.size := by
  obtain ⟨D, h1, _⟩ := h
  exact h1.lt
theorem OwnsSet.look {w : World} {b n : Nat} {S : List (Int × Int)} (h : OwnsSet w b n S) {a c : Int} (ha : Num64 a) (hc : Num64 c) : (Instr.lookup 116 (.map (some b)) (.agg #[.int .i64 a, .int .i64 c]) false).run Try.prog w = .ok (.bool (decide ((a, c) ∈ S))) w := by
  obtain ⟨D, h1, _, _, h3⟩ := h
  obtain ⟨v, ps, hrun, hv⟩ := h1.lookup Try.kKeyed Try.underlying116 (Try.bZero w) (plainElem_bool Try.underlying4 false) (keyOf_fr ha hc)
  obtain ⟨x, rfl, hx⟩ := plainElem_bool_inv Try.underlying4 hv
  rw [h3 a c ha hc] at hx
  simp only [Prod.mk.injEq] at hx
  rw [hrun]
  simpa using hx.1.symm
theorem OwnsSet.put {w : World} {b n : Nat} {S : List (Int × Int)} (h : OwnsSet w b n S) (hn : n < maxLen) {a c : Int} (ha : Num64 a) (hc : Num64 c) :
    ∃ w', (Instr.mapUpdate 116 (.map (some b)) (.agg #[.int .i64 a, .int .i64 c]) (.bool true)).run Try.prog w = .ok () w' ∧ OwnsSet w' b (n + 1) ((a, c) :: S) ∧ w.grownBy w' (some b) := by
  obtain ⟨D, h1, h2, h4, h3⟩ := h
  obtain ⟨w', hrun, r1, r2⟩ := h1.update Try.kKeyed Try.underlying116 hn (keyOf_fr ha hc) (plainElem_bool (H := Unit) Try.underlying4 true)
  refine ⟨w', hrun, ⟨_, r1, h2.put _ _, ?_, ?_⟩, r2⟩
  · intro p hp
    rcases List.mem_cons.1 hp with rfl | hp
    · exact ⟨ha, hc⟩
    · exact h4 p hp
  · intro a' c' ha' hc'
    by_cases e : frKey a' c' = frKey a c
    · obtain ⟨e1, e2⟩ := frKey_inj ha' hc' ha hc e
      subst e1 e2
      rw [Go.Maps.atKey_put_same h2 (by trivial)]
      simp
    · rw [Go.Maps.atKey_put_other e, h3 a' c' ha' hc']
      have hne : ¬ (a' = a ∧ c' = c) := fun ⟨e1, e2⟩ => e (by rw [e1, e2])
      simp [hne]
theorem OwnsSet.mono {w : World} {b n n' : Nat} {S : List (Int × Int)} (h : OwnsSet w b n S) (hn : n ≤ n') : OwnsSet w b n' S := by
  obtain ⟨D, h1, h2⟩ := h
  exact ⟨D, h1.mono hn, h2⟩
/-- A store into the map leaves every row of cells as it was. -/
theorem OwnsSet.cell {w w' : World} {b n : Nat} {S : List (Int × Int)} (h : OwnsSet w b n S) (hg : w.grownBy w' (some b)) {p : Addr} {u : Value} (hp : p.block < w.heap.size) (hc : w.cell? p = some u) : w'.cell? p = some u := by
  obtain ⟨D, ⟨es, clock, hb, _⟩, _⟩ := h
  have hne : p.block ≠ b := fun e => by
    subst e
    simp [World.cell?, hb] at hc
  have := hg.block p.block hp (fun e => hne (by injection e))
  unfold World.cell? at hc ⊢
  rw [this]
  exact hc
/-- The map's block is no row of cells. -/
theorem OwnsSet.notRow {w : World} {b n : Nat} {S : List (Int × Int)} (h : OwnsSet w b n S) {base s k : Nat} {e : TypeId} {v : Value} {xs : List Value} (ho : w.ownsRow base e s v k xs) : v.ownBlock = some b → False := fun hb => by
  obtain ⟨D, ⟨es, clock, hb1, _⟩, _⟩ := h
  rcases ho.2 with ⟨rfl, _⟩ | ⟨g, cap, cur, rfl, _, hg, _⟩
  · cases hb
  · simp only [Value.ownBlock, Option.some.injEq] at hb
    subst hb
    rw [hb1] at hg
    cases hg
end Go.Proofs.Ytkdigdnacggknaa
/- Walk: Twice of package monitor. -/
namespace Go.Proofs.Ytkdigdnacggknaa
open Go.RowKit
open Nd Rc Mo

theorem Try.infoD : (Try.prog.info? 54).map (fun i => (i.zero, i.size, i.bytes)) = some (some (.agg #[.int .i64 0, .int .i64 0, .int .i64 0]), 3, 24) := by kernel_rfl
theorem twGo_len : ∀ (l S : List Dlv), (twGo S l).length ≤ l.length
  | [], _ => Nat.le_refl _
  | d :: l, S => by
    unfold twGo
    have := twGo_len l (S ++ [d])
    split <;> simp <;> omega
/-- The frames of some deliveries. -/
def frs (l : List Dlv) : List (Int × Int) := l.map (fun d => (d.fl, d.fr))
theorem mem_frs (l : List Dlv) (d : Dlv) : decide ((d.fl, d.fr) ∈ frs l) = l.any (sameFr d) := by
  rw [Bool.eq_iff_iff, decide_eq_true_eq, List.any_eq_true]
  constructor
  · intro h
    obtain ⟨x, hx, e⟩ := List.mem_map.1 h
    simp only [Prod.mk.injEq] at e
    exact ⟨x, hx, by simp [sameFr, e.1, e.2]⟩
  · rintro ⟨x, hx, e⟩
    rw [sameFr, Bool.and_eq_true, beq_iff_eq, beq_iff_eq] at e
    exact List.mem_map.2 ⟨x, hx, by rw [e.1, e.2]⟩
theorem OwnsSet.same {w : World} {b n : Nat} {S S' : List (Int × Int)} (h : OwnsSet w b n S) (hs : ∀ p, p ∈ S ↔ p ∈ S') : OwnsSet w b n S' := by
  obtain ⟨D, h1, h2, h3, h4⟩ := h
  refine ⟨D, h1, h2, fun p hp => h3 p ((hs p).2 hp), fun a c ha hc => ?_⟩
  rw [h4 a c ha hc]
  have : decide ((a, c) ∈ S) = decide ((a, c) ∈ S') := decide_eq_decide.2 (hs _)
  rw [this]

set_option maxRecDepth 100000 in
set_option maxHeartbeats 4000000 in
theorem twice_any (r : Rec) (A D : Option Addr) (ca cd : Nat) (w : World) (hA : LiesA w w.heap.size A r.al) (hD : LiesD w w.heap.size D r.dl) (hla : r.al.length ≤ 1000000) (hld : r.dl.length ≤ 1000000) :
    Calls Try.prog 19 #[.agg #[.int .i64 r.slots, .slice A r.al.length ca, .slice D r.dl.length cd]] w fun e w' => Below w.heap.size w w' ∧ ∃ v, e = .returned (.tuple #[v, .int .i64 (twice r).2]) ∧ w'.ownsRow w.heap.size 54 3 v (twice r).1.length ((twice r).1.flatMap Dlv.row) := by
  obtain ⟨i0, hi, hz0, hz1, hz2⟩ := info_parts Try.infoD
  obtain ⟨N, hN⟩ : ∃ N, N = w.heap.size := ⟨_, rfl⟩
  obtain ⟨na, hna⟩ : ∃ n, n = r.al.length := ⟨_, rfl⟩
  obtain ⟨nd, hnd⟩ : ∃ n, n = r.dl.length := ⟨_, rfl⟩
  obtain ⟨slots, hsl⟩ : ∃ s, s = r.slots := ⟨_, rfl⟩
  obtain ⟨W1, hW1⟩ : ∃ W1, W1 = w.alloc (.cells #[.int .i64 slots, .slice A na ca, .slice D nd cd] 28) := ⟨_, rfl⟩
  have hb1 : Below N w W1 := by rw [hW1, hN]; exact (Below.refl _ _).alloc (Nat.le_refl _) _
  have bR : Blk W1 N 28 [.int .i64 slots, .slice A na ca, .slice D nd cd] := by rw [hW1]; exact Blk.new2 _ [.int .i64 slots, .slice A na ca, .slice D nd cd] hN
  have HW := Lib.hid (fun W (h' : Below W1.heap.size W1 W) => (show Below w.heap.size w W ∧ Row W N [.int .i64 slots, .slice A na ca, .slice D nd cd] from ⟨by rw [← hN]; exact hb1.trans (h'.mono (by have := bR.lt; omega)), (bR.below h' bR.lt).row⟩))
  have HA := Lib.hid (fun W (h' : Below W1.heap.size W1 W) => (show LiesA W W.heap.size A r.al from (hA.below (HW.out W h').1).more (HW.out W h').1.size))
  have HD := Lib.hid (fun W (h' : Below W1.heap.size W1 W) => (show LiesD W W.heap.size D r.dl from (hD.below (HW.out W h').1).more (HW.out W h').1.size))
  have HRt := Lib.hid (check_any r A D ca cd W1 (HA.out _ (Below.refl _ _)) (HD.out _ (Below.refl _ _)) (by omega) (by omega))
  rw [← hna, ← hnd, ← hsl] at HRt ⊢
  rw [← hnd] at hld
  have HSl := Lib.hid hsl
  have HNd := Lib.hid hnd
  have HNa := Lib.hid hna
  have HW1 := Lib.hid hW1
  have HN := Lib.hid hN
  have hNlt : N < W1.heap.size := bR.lt
  clear hA hD hna hnd hsl hb1 bR hN hla
  have r1 := (HW.out _ (Below.refl _ _)).2
  unfold Row at r1
  have hmm := @run_makeMap Try.prog
  obtain ⟨E, hE⟩ : ∃ E, E = checkE r := ⟨_, rfl⟩
  have HE : Hid ((good r = true ∧ E = 0) ∨ (good r = false ∧ E = 1)) := Lib.hid (by rw [hE]; unfold checkE; cases good r <;> simp)
  rw [← hE] at HRt
  clear hE
  subst hW1
  go_enter Try.func19, Try.ntmps19
  clear r1
  go_wp2_with fail
  rw [← HN.out]
  refine HRt.out.mono ?_
  rintro e w2 ⟨rfl, hb2⟩
  clear HRt
  rcases HE.out with ⟨hr, rfl⟩ | ⟨hr, rfl⟩
  case inr =>
    have hl : Hid (twice r = ([], 1)) := Lib.hid (by unfold twice; rw [hr]; rfl)
    clear hr HE
    go_wp2_with fail
    go_ret2
    exact ⟨(HW.out _ hb2).1, _, by rw [hl.out]; rfl, by rw [hl.out]; exact World.ownsRow_nil _ _ _ _⟩
  have hl : Hid (twice r = (twGo [] r.dl, 0)) := Lib.hid (by unfold twice; rw [if_pos hr])
  have HNum := Lib.hid (fun d (hd : d ∈ r.dl) => (by
    obtain ⟨a1, a2, a3, a4, a5, a6⟩ := good_dlv hr hd
    exact ⟨num_small (by omega), num_small (by omega)⟩ : Num64 d.fl ∧ Num64 d.fr))
  have r2 := (HW.out _ hb2).2
  unfold Row at r2
  obtain ⟨B, hB⟩ : ∃ B, B = w2.heap.size := ⟨_, rfl⟩
  have HB := Lib.hid hB
  have HS := Lib.hid (show OwnsSet (w2.alloc (.map #[] 0)) B 0 [] from by rw [hB]; exact OwnsSet.made w2)
  have HX := Lib.hid (fun W (h' : Below w2.heap.size w2 W) => (show Below w.heap.size w W ∧ Row W N [.int .i64 slots, .slice A na ca, .slice D nd cd] ∧ LiesD W W.heap.size D r.dl from ⟨(HW.out _ (hb2.trans (h'.mono hb2.size))).1, (HW.out _ (hb2.trans (h'.mono hb2.size))).2, HD.out _ (hb2.trans (h'.mono hb2.size))⟩))
  have hMN : N < w2.heap.size := Nat.lt_of_lt_of_le hNlt hb2.size
  have hw2N : w.heap.size ≤ w2.heap.size := (HW.out _ hb2).1.size
  clear hr HW HA HD hb2 HW1 HE
  go_wp2_with fail
  rw [← hB]
  clear r2 hB
  go_loopw [4, 17] (fun s4 i wr => ∃ (k : Nat) (v : Value) (acc : List Dlv), v = s4 ∧ k ≤ nd ∧ i = .int .i64 k ∧ Below w2.heap.size w2 wr ∧ B < wr.heap.size ∧ Hid (OwnsSet wr B k (frs (r.dl.take k))) ∧ Hid (wr.ownsRow w2.heap.size 54 3 v acc.length (acc.flatMap Dlv.row)) ∧ Hid (twGo [] r.dl = acc ++ twGo (r.dl.take k) (r.dl.drop k))) (fun _ i _ => nd - (intOf i).toNat)
  case atStart => exact ⟨0, _, [], rfl, by omega, rfl, (Below.refl _ _).alloc (Nat.le_refl _) _, by have := HB.out; simp; omega, HS, Lib.hid (World.ownsRow_nil _ _ _ _), Lib.hid rfl⟩
  case round =>
    clear HS
    obtain ⟨k, v, acc, rfl, hk, rfl, hb, hBw, HSt, HO, HT⟩ := hrel
    by_cases hlt : k < nd
    · obtain ⟨a, hak⟩ := get_of_lt (l := r.dl) (k := k) (by rw [← HNd.out]; exact hlt)
      obtain ⟨ab, aoff, rfl, haB, hcs⟩ := (HX.out _ hb).2.2.at_ hak
      obtain ⟨c0, c1, c2⟩ := hcs k a hak
      obtain ⟨n1, n2⟩ := HNum.out a (List.mem_of_getElem? hak)
      have HT' : Hid (twGo [] r.dl = acc ++ (if (r.dl.take k).any (sameFr a) = true then a :: twGo (r.dl.take (k + 1)) (r.dl.drop (k + 1)) else twGo (r.dl.take (k + 1)) (r.dl.drop (k + 1)))) := Lib.hid (by rw [HT.out, drop_of_get hak, take_snoc hak]; rfl)
      have HFr : Hid (frs (r.dl.take (k + 1)) = frs (r.dl.take k) ++ [(a.fl, a.fr)]) := Lib.hid (by rw [take_snoc hak]; simp [frs])
      have HAcl : Hid (acc.length ≤ 1000000) := Lib.hid (by
        have h1 := congrArg List.length HT.out
        rw [List.length_append] at h1
        have h2 := twGo_len r.dl []
        have := HNd.out
        omega)
      clear hcs hak HT
      go_upto_region 9 with fail
      clear c0 c1 c2
      obtain ⟨X, hX⟩ : ∃ X, X = wr.heap.size := ⟨_, rfl⟩
      generalize hWa : World.alloc _ _ = Wa
      have b1 : Blk Wa X 54 [.int .i64 a.fl, .int .i64 a.fr, .int .i64 a.sl] := by rw [← hWa]; exact Blk.alloc (Blk.new2 _ [.int .i64 a.fl, .int .i64 a.fr, .int .i64 a.sl] hX) _
      have b2 : Blk Wa (X + 1) 93 [.int .i64 a.fl, .int .i64 a.fr] := by rw [← hWa]; exact Blk.new2 _ [.int .i64 a.fl, .int .i64 a.fr] (by simp [hX])
      have hbw : Below wr.heap.size wr Wa := by rw [← hWa]; exact ((Below.refl _ _).alloc (Nat.le_refl _) _).alloc (by simp) _
      have hba : Below w2.heap.size w2 Wa := hb.trans (hbw.mono hb.size)
      have HOa : Hid (Wa.ownsRow w2.heap.size 54 3 v acc.length (acc.flatMap Dlv.row)) := Lib.hid (own_below HO.out hbw (Nat.le_refl _))
      have HSa : Hid (OwnsSet Wa B k (frs (r.dl.take k))) := Lib.hid (HSt.out.below hbw hBw)
      have hBa : B < Wa.heap.size := Nat.lt_of_lt_of_le hBw hbw.size
      have HvX : Hid (∀ g, v.ownBlock = some g → g < X) := Lib.hid (fun g hg => by have := (HO.out.lt g hg).2; omega)
      rw [← hX]
      clear hWa hX HO hb HSt hBw hbw
      have hlook := HSa.out.look n1 n2
      rw [mem_frs] at hlook
      have rX := b1.row
      have rY := b2.row
      unfold Row at rX rY
      cases hq : (r.dl.take k).any (sameFr a) with
      | false =>
        have HT2 : Hid (twGo [] r.dl = acc ++ twGo (r.dl.take (k + 1)) (r.dl.drop (k + 1))) := Lib.hid (by rw [HT'.out, hq]; rfl)
        rw [hq] at hlook
        clear hq HT'
        obtain ⟨w3, hput, hS3, hg3⟩ := HSa.out.put (by unfold maxLen; omega) n1 n2
        have hb3 : Below w2.heap.size w2 w3 := hba.grown hg3 hba.size (fun j hj => by injection hj with hj; have := HB.out; omega)
        have HS3 : Hid (OwnsSet w3 B (k + 1) (frs (r.dl.take (k + 1)))) := Lib.hid (hS3.same (fun p => by rw [HFr.out]; simp [or_comm]))
        have HO3 : Hid (w3.ownsRow w2.heap.size 54 3 v acc.length (acc.flatMap Dlv.row)) := Lib.hid (HOa.out.kept hg3 (by
          cases hvb : v.ownBlock with
          | none => exact .inl rfl
          | some g =>
            refine .inr (fun e => ?_)
            injection e with e
            subst e
            exact HSa.out.notRow HOa.out hvb))
        have hB3 : B < w3.heap.size := Nat.lt_of_lt_of_le hBa hg3.size
        clear hS3 hg3 HSa HOa HFr b1 b2 hba
        go_wp2_with fail
        go_roundw
        case rel => exact ⟨k + 1, v, acc, rfl, by omega, by go_num, hb3, hB3, HS3, HO3, HT2⟩
        case measure => simp [intOf]; omega
      | true =>
        have HT2 : Hid (twGo [] r.dl = (acc ++ [a]) ++ twGo (r.dl.take (k + 1)) (r.dl.drop (k + 1))) := Lib.hid (by rw [HT'.out, hq, List.append_assoc]; rfl)
        rw [hq] at hlook
        clear hq HT'
        have hl7 := HAcl.out
        go_wp2_with (at_builtin; refine wpList_append_own_at _ rfl (.tmp 29) (.tmp 31) 24 rfl w2.heap.size 54 i0 (.agg #[.int .i64 0, .int .i64 0, .int .i64 0]) 3 24 Try.underlying24 hi hz0 hz1 hz2 rfl (by decide) v _ _ rfl (HOa.out.alloc _) ⟨Wa.heap.size, 0, none⟩ 1 1 [.int .i64 a.fl, .int .i64 a.fr, .int .i64 a.sl] rfl rfl ?e0 ?e1 ?e2 ?e3 ?e4 ?_)
        case e0 => exact (Blk.new2 54 [.int .i64 a.fl, .int .i64 a.fr, .int .i64 a.sl] rfl).news2
        case e1 => intro u hu; simp only [List.mem_cons, List.not_mem_nil, or_false] at hu; rcases hu with rfl | rfl | rfl <;> rfl
        case e2 => unfold maxLen; omega
        case e3 => omega
        case e4 => simp; have := hba.size; omega
        intro v7 w7 ho7 hg7 hnil7 hat7
        clear hnil7 hat7
        have hB6 : Below w2.heap.size w2 (Wa.alloc (.cells #[.int .i64 a.fl, .int .i64 a.fr, .int .i64 a.sl] 54)) := hba.alloc hba.size _
        have hB7 : Below w2.heap.size w2 w7 := hB6.grown hg7 hB6.size (fun j hj => (HOa.out.lt j hj).1)
        have hne : ∀ g, v.ownBlock = some g → g ≠ B := fun g hg e => by subst e; exact HSa.out.notRow HOa.out hg
        have HS7 : OwnsSet w7 B k (frs (r.dl.take k)) := (HSa.out.below ((Below.refl _ _).alloc (Nat.le_refl _) (.cells #[.int .i64 a.fl, .int .i64 a.fr, .int .i64 a.sl] 54)) hBa).kept hg7 (fun e => hne B e.symm rfl)
        have b7 : Blk w7 (X + 1) 93 [.int .i64 a.fl, .int .i64 a.fr] := (hg7.block (X + 1) (by have := b2.lt; simp; omega) (fun e => by have := HvX.out _ e.symm; omega)).trans (b2.alloc _)
        obtain ⟨w8, hput, hS8, hg8⟩ := HS7.put (by unfold maxLen; omega) n1 n2
        have hb8 : Below w2.heap.size w2 w8 := hB7.grown hg8 hB7.size (fun j hj => by injection hj with hj; have := HB.out; omega)
        have HS8 : Hid (OwnsSet w8 B (k + 1) (frs (r.dl.take (k + 1)))) := Lib.hid (hS8.same (fun p => by rw [HFr.out]; simp [or_comm]))
        have ho7' : w7.ownsRow w2.heap.size 54 3 v7 (acc ++ [a]).length ((acc ++ [a]).flatMap Dlv.row) := by simpa [Rc.Dlv.row] using ho7
        have HO8 : Hid (w8.ownsRow w2.heap.size 54 3 v7 (acc ++ [a]).length ((acc ++ [a]).flatMap Dlv.row)) := Lib.hid (ho7'.kept hg8 (by
          cases hvb : v7.ownBlock with
          | none => exact .inl rfl
          | some g =>
            refine .inr (fun e => ?_)
            injection e with e
            subst e
            exact HS7.notRow ho7' hvb))
        have hB8 : B < w8.heap.size := Nat.lt_of_lt_of_le hBa (Nat.le_trans (by simp) (Nat.le_trans hg7.size hg8.size))
        obtain ⟨A7, c7, hv7⟩ := own_form2 ho7'
        have rZ := b7.row
        unfold Row at rZ
        clear hS8 hg8 HSa HOa HFr b1 b2 hba ho7 ho7' hg7 HS7 hB6 hB7 hne b7 rX rY
        subst hv7
        go_wp2_with fail
        go_roundw
        case rel => exact ⟨k + 1, _, acc ++ [a], by simp, by omega, by go_num, hb8, hB8, HS8, HO8, HT2⟩
        case measure => simp [intOf]; omega
    · have h1 : k = nd := by omega
      subst h1
      have hto : r.dl.drop k = [] := List.drop_of_length_le (by rw [← HNd.out]; exact Nat.le_refl _)
      have hf : Hid (twGo [] r.dl = acc) := Lib.hid (by rw [HT.out, hto]; simp [twGo])
      obtain ⟨A7, c7, hv7⟩ := own_form2 HO.out
      subst hv7
      go_wp2_with fail
      go_ret2
      exact ⟨(HX.out _ hb).1, _, by rw [hl.out]; rfl, by rw [hl.out]; dsimp only; rw [hf.out]; exact own_base HO.out hw2N⟩
end Go.Proofs.Ytkdigdnacggknaa
/- Rows of structs that are changed in place: what stands where, exchanges. Generic: no program's numbers. -/
namespace Go.Proofs.Ytkdigdnacggknaa
open Go.RowKit

/-- Block g holds the rows, one behind the other. -/
def RowsAt (w : World) (g : Nat) (t : TypeId) (S : Nat) (rows : List (List Value)) : Prop :=
  (∀ r ∈ rows, r.length = S) ∧ ∃ cur : Array Value, w.heap[g]? = some (.cells cur t (0, 0)) ∧ ∀ k row, rows[k]? = some row → ∀ j u, row[j]? = some u → cur[k * S + j]? = some u

theorem setCells_heap (t : TypeId) (g : Nat) : ∀ (us : List Value) (o : Nat) (w : World) (cur : Array Value), w.heap[g]? = some (.cells cur t (0, 0)) →
    ∃ cur' : Array Value, (World.setCells w g o us).heap[g]? = some (.cells cur' t (0, 0)) ∧ cur'.size = cur.size ∧ (∀ i, (i < o ∨ o + us.length ≤ i) → cur'[i]? = cur[i]?) ∧ (∀ j u, us[j]? = some u → o + j < cur.size → cur'[o + j]? = some u)
  | [], o, w, cur, h => ⟨cur, h, rfl, fun _ _ => rfl, fun j u hu => by simp at hu⟩
  | u :: us, o, w, cur, h => by
    have h1 := heap_setCell_same w g o cur t u h
    obtain ⟨cur', h2, h3, h4, h5⟩ := setCells_heap t g us (o + 1) (w.setCell ⟨g, o, none⟩ u) _ h1
    refine ⟨cur', h2, by rw [h3]; simp, fun i hi => ?_, fun j v hv hs => ?_⟩
    · rw [List.length_cons] at hi
      rw [h4 i (by omega)]
      have : o ≠ i := by omega
      simp [this]
    · cases j with
      | zero =>
        rw [h4 (o + 0) (by omega)]
        simp at hv
        subst hv
        simp [Array.getElem?_setIfInBounds]
        omega
      | succ j =>
        have := h5 j v (by simpa using hv) (by simp; omega)
        rw [show o + (j + 1) = o + 1 + j by omega]
        exact this

theorem RowsAt.put {w : World} {g S : Nat} {t : TypeId} {rows : List (List Value)} (h : RowsAt w g t S rows) {i : Nat} {row : List Value} (hi : i < rows.length) (hr : row.length = S) : RowsAt (World.setCells w g (i * S) row) g t S (rows.set i row) := by
  obtain ⟨hl, cur, hg, hc⟩ := h
  obtain ⟨cur', h2, h3, h4, h5⟩ := setCells_heap t g row (i * S) w cur hg
  have hl' : ∀ r ∈ rows.set i row, r.length = S := fun r hm => by
    rcases List.mem_or_eq_of_mem_set hm with hm | rfl
    · exact hl r hm
    · exact hr
  refine ⟨hl', cur', h2, fun k r hk j u hu => ?_⟩
  have hjS : j < S := by
    have := (List.getElem?_eq_some_iff.1 hu).1
    rw [hl' r (List.mem_of_getElem? hk)] at this
    exact this
  by_cases hki : i = k
  · subst hki
    rw [List.getElem?_set_self hi] at hk
    obtain rfl : row = r := by simpa using hk
    have hold : rows[i]? = some rows[i] := List.getElem?_eq_getElem hi
    obtain ⟨v, hv⟩ : ∃ v, rows[i][j]? = some v := ⟨_, List.getElem?_eq_getElem (by rw [hl _ (List.getElem_mem hi)]; exact hjS)⟩
    have := hc i _ hold j v hv
    exact h5 j u hu (Array.getElem?_eq_some_iff.1 this).1
  · rw [List.getElem?_set_ne hki] at hk
    rw [h4 _ (by rcases Nat.lt_or_gt_of_ne hki with q | q
                 · right; rw [hr]; have := Nat.mul_le_mul_right S (show i + 1 ≤ k by omega); rw [Nat.succ_mul] at this; omega
                 · left; have := Nat.mul_le_mul_right S (show k + 1 ≤ i by omega); rw [Nat.succ_mul] at this; omega)]
    exact hc k r hk j u hu

theorem RowsAt.lt {w : World} {g S : Nat} {t : TypeId} {rows : List (List Value)} (h : RowsAt w g t S rows) : g < w.heap.size := by
  obtain ⟨_, cur, hg, _⟩ := h
  exact heap_lt hg
theorem RowsAt.keep {w w' : World} {g S : Nat} {t : TypeId} {rows : List (List Value)} (h : RowsAt w g t S rows) (he : w'.heap[g]? = w.heap[g]?) : RowsAt w' g t S rows := by
  obtain ⟨hl, cur, hg, hc⟩ := h
  exact ⟨hl, cur, he.trans hg, hc⟩
theorem RowsAt.cell {w : World} {g S : Nat} {t : TypeId} {rows : List (List Value)} (h : RowsAt w g t S rows) {k j : Nat} {row : List Value} {u : Value} (hk : rows[k]? = some row) (hu : row[j]? = some u) : w.cell? ⟨g, k * S + j, none⟩ = some u := by
  obtain ⟨_, cur, hg, hc⟩ := h
  rw [cell_of_row w g _ cur t (0, 0) hg]
  exact hc k row hk j u hu
theorem RowsAt.frozen {w : World} {g S : Nat} {t : TypeId} {rows : List (List Value)} (h : RowsAt w g t S rows) (j : Nat) : w.frozen? ⟨g, j, none⟩ = false := by
  obtain ⟨_, cur, hg, _⟩ := h
  exact frozen_of_row w g j cur t hg
/-- The rows of block g are those of l, in some order; else nothing that there was has changed. -/
def Perms {α : Type} (f : α → List Value) (t : TypeId) (S : Nat) (w0 : World) (g : Nat) (l0 : List α) (w : World) : Prop :=
  w0.grownBy w (some g) ∧ ∃ l : List α, l.Perm l0 ∧ RowsAt w g t S (l.map f)

theorem grown_refl (w : World) (r : Option Nat) : w.grownBy w r := ⟨rfl, rfl, rfl, Nat.le_refl _, fun _ _ _ => rfl⟩
theorem grown_trans {a b c : World} {r : Option Nat} (h : a.grownBy b r) (k : b.grownBy c r) : a.grownBy c r := ⟨k.os.trans h.os, k.tape.trans h.tape, k.output.trans h.output, Nat.le_trans h.size k.size, fun x hx hr => (k.block x (Nat.lt_of_lt_of_le hx h.size) hr).trans (h.block x hx hr)⟩
theorem grown_below {w w' : World} (h : Below w.heap.size w w') (r : Option Nat) : w.grownBy w' r := ⟨h.os, h.tape, h.output, h.size, fun x hx _ => h.block x hx⟩
theorem grown_put (g : Nat) : ∀ (us : List Value) (o : Nat) (w : World), w.grownBy (World.setCells w g o us) (some g)
  | [], _, w => grown_refl w _
  | u :: us, o, w => grown_trans (b := w.setCell ⟨g, o, none⟩ u) ⟨rfl, rfl, rfl, by simp [World.setCell], fun x _ hx => Below.heap_setCell w ⟨g, o, none⟩ u x (fun e => hx (by rw [e]))⟩ (grown_put g us (o + 1) _)
theorem Perms.start {α : Type} {f : α → List Value} {t : TypeId} {S : Nat} {w : World} {g : Nat} {l : List α} (h : RowsAt w g t S (l.map f)) : Perms f t S w g l w := ⟨grown_refl _ _, l, .refl _, h⟩
theorem Perms.below {α : Type} {f : α → List Value} {t : TypeId} {S : Nat} {w0 w w' : World} {g : Nat} {l : List α} (h : Perms f t S w0 g l w) (hb : Below w.heap.size w w') : Perms f t S w0 g l w' := by
  obtain ⟨hg, l', hp, hr⟩ := h
  exact ⟨grown_trans hg (grown_below hb _), l', hp, hr.keep (hb.block g hr.lt)⟩
theorem Perms.trans {α : Type} {f : α → List Value} {t : TypeId} {S : Nat} {w0 w w' : World} {g : Nat} {l l' : List α} (h : w0.grownBy w (some g)) (hp : l'.Perm l) (k : Perms f t S w g l' w') : Perms f t S w0 g l w' := by
  obtain ⟨hg, l2, hp2, hr⟩ := k
  exact ⟨grown_trans h hg, l2, hp2.trans hp, hr⟩
end Go.Proofs.Ytkdigdnacggknaa
/- Walk: Serve of package monitor. -/
namespace Go.Proofs.Ytkdigdnacggknaa
open Go.RowKit
open Nd Rc Mo

theorem filter_one {α : Type} (p : α → Bool) (a : α) : (List.filter p [a]).length = if p a = true then 1 else 0 := by
  by_cases h : p a = true <;> simp [List.filter, h]
theorem cntAtt_succ {al : List Att} {k : Nat} {a : Att} (h : al[k]? = some a) (id : Int) : cntAtt (al.take (k + 1)) id = cntAtt (al.take k) id + (if (a.cl == id && !(a.o == 4)) = true then 1 else 0) := by
  unfold cntAtt
  rw [take_snoc h, List.filter_append, List.length_append, filter_one]
  split <;> simp
theorem cntLost_succ {al : List Att} {k : Nat} {a : Att} (h : al[k]? = some a) (id : Int) : cntLost (al.take (k + 1)) id = cntLost (al.take k) id + (if (a.cl == id && !(a.o == 4) && !(a.o == 1)) = true then 1 else 0) := by
  unfold cntLost
  rw [take_snoc h, List.filter_append, List.length_append, filter_one]
  split <;> simp
theorem cnt_bounds (al : List Att) (id : Int) (k : Nat) : 0 ≤ cntAtt (al.take k) id ∧ cntAtt (al.take k) id ≤ k ∧ 0 ≤ cntLost (al.take k) id ∧ cntLost (al.take k) id ≤ k := by
  unfold cntAtt cntLost
  have h0 := List.length_take_le k al
  have h1 := List.length_filter_le (fun a : Att => a.cl == id && !(a.o == 4)) (al.take k)
  have h2 := List.length_filter_le (fun a : Att => a.cl == id && !(a.o == 4) && !(a.o == 1)) (al.take k)
  omega
theorem arr_bounds (f : Fl) (n : Int) (l : List Int) (h : (arrival f n l).2 = true) : rel f n ≤ (arrival f n l).1 ∧ (arrival f n l).1 ≤ rel f n + f.dl - 1 := by
  unfold arrival at h ⊢
  revert h
  generalize (-1 : Int) = late
  induction l generalizing late with
  | nil => intro hq; cases hq
  | cons s l ih2 =>
    unfold arrGo
    split
    · rename_i hh; intro _; exact hh
    · split
      · exact ih2 _
      · exact ih2 _

/-- A change of a block that is neither the map nor a row of numbers. -/
theorem OwnsGr.grown {w w' : World} {base b n : Nat} {G : Int → Int → List Int} (h : OwnsGr w base b n G) {X : Nat} {t : TypeId} {cs : List Value} (hg : w.grownBy w' (some X)) (bX : Blk w X t cs) (ht : t ≠ 3) : OwnsGr w' base b n G := by
  obtain ⟨D, h1, h2⟩ := h
  obtain ⟨es, clock, hb, F, hs, hD, hbb, hlen, hap⟩ := h1
  refine ⟨D, World.ownsGroups.kept ⟨es, clock, hb, F, hs, hD, hbb, hlen, hap⟩ hg (fun e => ?_) (fun es' clock' hb' x hx => ?_), h2⟩
  · injection e with e
    subst e
    unfold Blk at bX
    rw [hb] at bX
    cases bX
  · cases hv : x.val.ownBlock with
    | none => exact .inl rfl
    | some g =>
      refine .inr (fun e => ?_)
      injection e with e
      subst e
      rw [hb] at hb'
      obtain ⟨rfl, rfl⟩ : es = es' ∧ clock = clock' := by simpa using hb'
      obtain ⟨y, hy⟩ := F.reads x hx
      obtain ⟨z, hz, _⟩ := Go.WideElems.rd_val hy
      obtain ⟨zs, hoi, _⟩ := rowElem_inv hz
      exact ht (own_type2 hoi.1 hv.symm bX)
theorem OwnsGr.cells {w : World} {base b n : Nat} {G : Int → Int → List Int} (h : OwnsGr w base b n G) {X : Nat} {t : TypeId} {cs : List Value} (bX : Blk w X t cs) (ht : t ≠ 3) (us : List Value) (o : Nat) : OwnsGr (w.setCells X o us) base b n G :=
  h.grown (grown_put X us o w) bX ht
/-- What has been counted behind n frames, and the numbers' bounds. -/
theorem sv_bounds {f : Fl} (hf : fault f = 0) (dl : List Dlv) (k : Nat) : 0 ≤ (svGo f dl k).1 ∧ (svGo f dl k).1 ≤ k ∧ 0 ≤ (svGo f dl k).2.1 ∧ (svGo f dl k).2.1 ≤ 512 ∧ 0 ≤ (svGo f dl k).2.2 ∧ (svGo f dl k).2.2 ≤ 512 := by
  obtain ⟨ln, h1, _, h3, h4, h5⟩ := svGo_inv hf dl k
  obtain ⟨_, _, _, hp, hq, hdl, _⟩ := fault_zero hf
  by_cases hk : ln < k
  · obtain ⟨a1, a2, a3⟩ := h4 hk
    omega
  · obtain ⟨a1, a2⟩ := h5 (by omega)
    omega
theorem svGo_succ (f : Fl) (dl : List Dlv) (k : Nat) : svGo f dl (k + 1) = svStep f dl (svGo f dl k) k := by
  unfold svGo
  rw [List.range_succ, List.foldl_append]
  rfl
end Go.Proofs.Ytkdigdnacggknaa
/- Walk: Serve of package monitor. -/
namespace Go.Proofs.Ytkdigdnacggknaa
open Go.RowKit
open Nd Rc Mo

/-- A service as Go's memory holds it. -/
def Mo.Sv.cells (s : Sv) : List Value := [.int .i64 s.fr, .int .i64 s.late, .int .i64 s.least, .int .i64 s.most, .int .i64 s.att, .int .i64 s.lost]
set_option maxRecDepth 100000 in
set_option maxHeartbeats 4000000 in
theorem serve_any (fs : List Fl) (r : Rec) (x : Int) (F A D : Option Addr) (cf ca cd : Nat) (w : World) (hF : Lies w w.heap.size 6 F (fs.map Fl.row)) (hf : fs.length ≤ 1000000) (hA : LiesA w w.heap.size A r.al) (hD : LiesD w w.heap.size D r.dl) (hla : r.al.length ≤ 1000000) (hld : r.dl.length ≤ 1000000) :
    Calls Try.prog 23 #[.slice F fs.length cf, .agg #[.int .i64 r.slots, .slice A r.al.length ca, .slice D r.dl.length cd], .int .i64 x] w fun e w' => Below w.heap.size w w' ∧ e = .returned (.tuple #[.agg (Mo.serve fs r x).1.cells.toArray, .int .i64 (Mo.serve fs r x).2]) := by
  obtain ⟨N, hN⟩ : ∃ N, N = w.heap.size := ⟨_, rfl⟩
  obtain ⟨na, hna⟩ : ∃ n, n = r.al.length := ⟨_, rfl⟩
  obtain ⟨nd, hnd⟩ : ∃ n, n = r.dl.length := ⟨_, rfl⟩
  obtain ⟨m, hm⟩ : ∃ m, m = fs.length := ⟨_, rfl⟩
  obtain ⟨slots, hsl⟩ : ∃ s, s = r.slots := ⟨_, rfl⟩
  obtain ⟨W1, hW1⟩ : ∃ W1, W1 = (w.alloc (.cells #[.int .i64 slots, .slice A na ca, .slice D nd cd] 28)).alloc (.cells #[.int .i64 0, .int .i64 0, .int .i64 0, .int .i64 0, .int .i64 0, .int .i64 0] 57) := ⟨_, rfl⟩
  have hb1 : Below N w W1 := by rw [hW1, hN]; exact ((Below.refl _ _).alloc (Nat.le_refl _) _).alloc (by simp) _
  have bR : Blk W1 N 28 [.int .i64 slots, .slice A na ca, .slice D nd cd] := by rw [hW1]; exact Blk.alloc (Blk.new2 _ [.int .i64 slots, .slice A na ca, .slice D nd cd] hN) _
  have bO : Blk W1 (N + 1) 57 [.int .i64 0, .int .i64 0, .int .i64 0, .int .i64 0, .int .i64 0, .int .i64 0] := by rw [hW1]; exact Blk.new2 _ [.int .i64 0, .int .i64 0, .int .i64 0, .int .i64 0, .int .i64 0, .int .i64 0] (by simp [hN])
  have HW := Lib.hid (fun W (h' : Below W1.heap.size W1 W) => (show Below w.heap.size w W ∧ Row W N [.int .i64 slots, .slice A na ca, .slice D nd cd] ∧ Blk W (N + 1) 57 [.int .i64 0, .int .i64 0, .int .i64 0, .int .i64 0, .int .i64 0, .int .i64 0] from ⟨by rw [← hN]; exact hb1.trans (h'.mono (by have := bR.lt; omega)), (bR.below h' bR.lt).row, bO.below h' bO.lt⟩))
  have HF := Lib.hid (fun W (h' : Below W1.heap.size W1 W) => Lies.later hF (HW.out W h').1)
  have HA := Lib.hid (fun W (h' : Below W1.heap.size W1 W) => (show LiesA W W.heap.size A r.al from (hA.below (HW.out W h').1).more (HW.out W h').1.size))
  have HD := Lib.hid (fun W (h' : Below W1.heap.size W1 W) => (show LiesD W W.heap.size D r.dl from (hD.below (HW.out W h').1).more (HW.out W h').1.size))
  have HRt := Lib.hid (right_any fs r F A D cf ca cd W1 (HF.out _ (Below.refl _ _)) hf (HA.out _ (Below.refl _ _)) (HD.out _ (Below.refl _ _)) hla hld)
  have HFind := Lib.hid (fun W (h' : Below W1.heap.size W1 W) => find_any fs x F cf W (HF.out W h') hf)
  have HAr := Lib.hid (fun (hg : good r = true) W (h' : Below W1.heap.size W1 W) => arrivals_any r A D ca cd W (HD.out W h') hld (fun d hd => by
    obtain ⟨a1, a2, a3, a4, a5, a6⟩ := good_dlv hg hd
    have := (good_slots hg).2
    exact ⟨num_small (by omega), num_small (by omega), num_small (by omega)⟩))
  rw [← hna, ← hnd, ← hsl] at HRt HAr ⊢
  rw [← hm] at HRt HFind ⊢
  rw [← hnd] at hld
  rw [← hna] at hla
  have HM := Lib.hid hm
  have HSl := Lib.hid hsl
  have HNd := Lib.hid hnd
  have HNa := Lib.hid hna
  have HW1 := Lib.hid hW1
  have HN := Lib.hid hN
  have hNlt : N + 1 < W1.heap.size := bO.lt
  obtain ⟨G, hG⟩ : ∃ G, G = Mo.serve fs r x := ⟨_, rfl⟩
  rw [← hG]
  have HG := Lib.hid hG
  clear hF hA hD hna hnd hm hsl hb1 bR hN hf bO hG
  have r1 : Row ((w.alloc (.cells #[.int .i64 slots, .slice A na ca, .slice D nd cd] 28)).alloc (.cells #[.int .i64 0, .int .i64 0, .int .i64 0, .int .i64 0, .int .i64 0, .int .i64 0] 57)) N [.int .i64 slots, .slice A na ca, .slice D nd cd] := by rw [← hW1]; exact (HW.out _ (Below.refl _ _)).2.1
  have hNw : Hid (N = w.heap.size) := HN
  rw [HN.out] at r1
  unfold Row at r1
  clear hW1
  go_enter Try.func23, Try.ntmps23
  clear r1
  go_wp2_with fail
  rw [← HW1.out, ← HN.out]
  refine HRt.out.mono ?_
  rintro e w2 ⟨rfl, hb2⟩
  clear HRt
  cases hr : right fs r with
  | false =>
    have hl : Hid (G = (Sv.zero, 1)) := Lib.hid (by rw [HG.out]; unfold Mo.serve; rw [hr]; rfl)
    clear hr HAr HFind
    have b5 := (HW.out _ hb2).2.2
    have cb5 := b5.row
    have fb5 := b5.frozen
    unfold Row at cb5
    have b6 := ((((((b5.set_ 0 (.int .i64 0)).set_ 1 (.int .i64 0)).set_ 2 (.int .i64 0)).set_ 3 (.int .i64 0)).set_ 4 (.int .i64 0)).set_ 5 (.int .i64 0))
    simp only [List.set_cons_zero, List.set_cons_succ] at b6
    have C6 := Lib.hid b6.row
    have HB6 : Hid (Below w.heap.size w ((((((w2.setCell ⟨N + 1, 0, none⟩ (.int .i64 0)).setCell ⟨N + 1, 1, none⟩ (.int .i64 0)).setCell ⟨N + 1, 2, none⟩ (.int .i64 0)).setCell ⟨N + 1, 3, none⟩ (.int .i64 0)).setCell ⟨N + 1, 4, none⟩ (.int .i64 0)).setCell ⟨N + 1, 5, none⟩ (.int .i64 0))) := Lib.hid (((((((HW.out _ hb2).1.setCell (p := ⟨N + 1, 0, none⟩) (by dsimp only; have := HN.out; omega) (.int .i64 0)).setCell (p := ⟨N + 1, 1, none⟩) (by dsimp only; have := HN.out; omega) (.int .i64 0)).setCell (p := ⟨N + 1, 2, none⟩) (by dsimp only; have := HN.out; omega) (.int .i64 0)).setCell (p := ⟨N + 1, 3, none⟩) (by dsimp only; have := HN.out; omega) (.int .i64 0)).setCell (p := ⟨N + 1, 4, none⟩) (by dsimp only; have := HN.out; omega) (.int .i64 0)).setCell (p := ⟨N + 1, 5, none⟩) (by dsimp only; have := HN.out; omega) (.int .i64 0))
    clear b6
    go_wp2_with fail
    have c6 := C6.out
    unfold Row at c6
    refine bodyPost_ret (v := .tuple #[.agg #[.int .i64 0, .int .i64 0, .int .i64 0, .int .i64 0, .int .i64 0, .int .i64 0], .int .i64 1]) (by simp [results, Try.results23, go_sem, c6]) rfl ?_
    exact ⟨HB6.out, by rw [hl.out]; rfl⟩
  | true =>
    obtain ⟨hc, hg⟩ := right_inv hr
    obtain ⟨hfa, _, hm16⟩ := chkF_ok hc
    obtain ⟨hs0, hs1⟩ := good_slots hg
    have HFa := Lib.hid hfa
    have HAr := Lib.hid (HAr.out hg)
    have HR := Lib.hid hr
    rw [← HSl.out] at hs0 hs1
    clear hc hg hfa hr hm16
    go_wp2_with fail
    refine (HFind.out _ hb2).mono ?_
    rintro e w3 ⟨rfl, hb3'⟩
    have hb3 : Below W1.heap.size W1 w3 := hb2.trans (hb3'.mono hb2.size)
    clear HFind hb3'
    rcases findF_cases fs x with ⟨hT, hfn⟩ | ⟨i, f, hfi, hT, hfs⟩
    · have hl : Hid (G = (Sv.zero, 7)) := Lib.hid (by rw [HG.out]; unfold Mo.serve; rw [if_pos HR.out, hfn])
      rw [hT]
      clear hT hfn HAr
      have b5 := (HW.out _ hb3).2.2
      have cb5 := b5.row
      have fb5 := b5.frozen
      unfold Row at cb5
      have b6 := ((((((b5.set_ 0 (.int .i64 0)).set_ 1 (.int .i64 0)).set_ 2 (.int .i64 0)).set_ 3 (.int .i64 0)).set_ 4 (.int .i64 0)).set_ 5 (.int .i64 0))
      simp only [List.set_cons_zero, List.set_cons_succ] at b6
      have C6 := Lib.hid b6.row
      have HB6 : Hid (Below w.heap.size w ((((((w3.setCell ⟨N + 1, 0, none⟩ (.int .i64 0)).setCell ⟨N + 1, 1, none⟩ (.int .i64 0)).setCell ⟨N + 1, 2, none⟩ (.int .i64 0)).setCell ⟨N + 1, 3, none⟩ (.int .i64 0)).setCell ⟨N + 1, 4, none⟩ (.int .i64 0)).setCell ⟨N + 1, 5, none⟩ (.int .i64 0))) := Lib.hid (((((((HW.out _ hb3).1.setCell (p := ⟨N + 1, 0, none⟩) (by dsimp only; have := HN.out; omega) (.int .i64 0)).setCell (p := ⟨N + 1, 1, none⟩) (by dsimp only; have := HN.out; omega) (.int .i64 0)).setCell (p := ⟨N + 1, 2, none⟩) (by dsimp only; have := HN.out; omega) (.int .i64 0)).setCell (p := ⟨N + 1, 3, none⟩) (by dsimp only; have := HN.out; omega) (.int .i64 0)).setCell (p := ⟨N + 1, 4, none⟩) (by dsimp only; have := HN.out; omega) (.int .i64 0)).setCell (p := ⟨N + 1, 5, none⟩) (by dsimp only; have := HN.out; omega) (.int .i64 0))
      clear b6
      go_wp2_with fail
      have c6 := C6.out
      unfold Row at c6
      refine bodyPost_ret (v := .tuple #[.agg #[.int .i64 0, .int .i64 0, .int .i64 0, .int .i64 0, .int .i64 0, .int .i64 0], .int .i64 7]) (by simp [results, Try.results23, go_sem, c6]) rfl ?_
      exact ⟨HB6.out, by rw [hl.out]; rfl⟩
    · obtain ⟨fb, foff, hFe, hfB, hcs⟩ := (HF.out _ hb3).at_ hfi
      have him : i < m := by rw [HM.out]; exact (List.getElem?_eq_some_iff.1 hfi).1
      have hi0 : decide ((i : Int) < 0) = false := decide_eq_false (by omega)
      have hi1 : ¬ (i : Int) < 0 := by omega
      have hff := HFa.out f (List.mem_of_getElem? hfi)
      have hfx : f.id = x := by have := List.find?_some hfs; simpa using this
      have HFx := Lib.hid hfx
      clear hfx
      have hl : Hid (G = (serveF f r, 0)) := Lib.hid (by rw [HG.out]; unfold Mo.serve; rw [if_pos HR.out, hfs])
      have q0 := hcs i f hfi 0 _ rfl
      have q1 := hcs i f hfi 1 _ rfl
      have q2 := hcs i f hfi 2 _ rfl
      have q3 := hcs i f hfi 3 _ rfl
      have q4 := hcs i f hfi 4 _ rfl
      have q5 := hcs i f hfi 5 _ rfl
      simp only [Nat.add_zero] at q0 q1 q2 q3 q4 q5
      rw [hT]
      obtain ⟨wd, hwd⟩ : ∃ wd, wd = w3.drew := ⟨_, rfl⟩
      have hbd : Below w3.heap.size w3 wd := by rw [hwd]; exact (Below.refl _ _).drew
      have hB_wd : Below W1.heap.size W1 wd := hb3.trans (hbd.mono hb3.size)
      have hX_wd : Below w3.heap.size w3 wd := hbd
      have hNl3 : N < w3.heap.size := by have := hb3.size; omega
      have rN := (HW.out _ hb3).2.1
      subst hFe
      clear hcs hfi hT hfs HR HG
      go_upto_region 6 with fail
      go_cut [9, 10] (fun s9 s10 W => ∃ (X b : Nat), s9 = .pointer (some ⟨X, 0, none⟩) ∧ s10 = .map (some b) ∧ Below W1.heap.size W1 W ∧ W1.heap.size ≤ X ∧ Hid (Blk W X 37 [.int .i64 f.id, .int .i64 f.fr, .int .i64 f.tn, .int .i64 f.pe, .int .i64 f.ph, .int .i64 f.dl]) ∧ Hid (OwnsGr W (b + 1) b nd (slotsOf r.dl)))
      case first =>
        refine wp_region_rough (w3.heap.size) 9 [] #[false, false, false, false, false, false, false, false, false] (by kernel_rfl) rfl rfl ?_
        rw [← hwd]
        clear hwd
        have y0 : ∀ (x' : ExtW w3.heap.size wd), x'.val.cell? ⟨fb, foff + i * 6, none⟩ = some (.int .i64 f.id) := fun x' => (x'.cell _ hfB).trans ((hbd.cell (p := ⟨fb, foff + i * 6, none⟩) hfB).trans q0)
        have y1 : ∀ (x' : ExtW w3.heap.size wd), x'.val.cell? ⟨fb, foff + i * 6 + 1, none⟩ = some (.int .i64 f.fr) := fun x' => (x'.cell _ hfB).trans ((hbd.cell (p := ⟨fb, foff + i * 6 + 1, none⟩) hfB).trans q1)
        have y2 : ∀ (x' : ExtW w3.heap.size wd), x'.val.cell? ⟨fb, foff + i * 6 + 2, none⟩ = some (.int .i64 f.tn) := fun x' => (x'.cell _ hfB).trans ((hbd.cell (p := ⟨fb, foff + i * 6 + 2, none⟩) hfB).trans q2)
        have y3 : ∀ (x' : ExtW w3.heap.size wd), x'.val.cell? ⟨fb, foff + i * 6 + 3, none⟩ = some (.int .i64 f.pe) := fun x' => (x'.cell _ hfB).trans ((hbd.cell (p := ⟨fb, foff + i * 6 + 3, none⟩) hfB).trans q3)
        have y4 : ∀ (x' : ExtW w3.heap.size wd), x'.val.cell? ⟨fb, foff + i * 6 + 4, none⟩ = some (.int .i64 f.ph) := fun x' => (x'.cell _ hfB).trans ((hbd.cell (p := ⟨fb, foff + i * 6 + 4, none⟩) hfB).trans q4)
        have y5 : ∀ (x' : ExtW w3.heap.size wd), x'.val.cell? ⟨fb, foff + i * 6 + 5, none⟩ = some (.int .i64 f.dl) := fun x' => (x'.cell _ hfB).trans ((hbd.cell (p := ⟨fb, foff + i * 6 + 5, none⟩) hfB).trans q5)
        have yN : ∀ (x' : ExtW w3.heap.size wd) (j : Nat), x'.val.cell? ⟨N, j, none⟩ = _ := fun x' j => (x'.cell _ hNl3).trans ((hbd.cell (p := ⟨N, j, none⟩) hNl3).trans (rN j))
        clear q0 q1 q2 q3 q4 q5 rN
        refine anyR_take0 0 _ (nth0) rfl (by kernel_rfl) (by kernel_rfl) (by kernel_rfl) (l' := #[true, false, false, false, false, false, false, false, false]) rfl rfl ?_; intro K hK; go_big_quiet_op; go_big_quiet_on
        refine anyR_take0 1 _ (nthS (nth0)) rfl (by kernel_rfl) (by kernel_rfl) (by kernel_rfl) (l' := #[true, true, false, false, false, false, false, false, false]) rfl rfl ?_; intro K hK; go_big_quiet_op; go_big_quiet_on
        refine anyR_take0 2 _ (nthS (nthS (nth0))) rfl (by kernel_rfl) (by kernel_rfl) (by kernel_rfl) (l' := #[true, true, true, false, false, false, false, false, false]) rfl rfl ?_; intro K hK; go_big_quiet_op; go_big_quiet_on
        refine anyR_take 3 _ (nthS (nthS (nthS (nth0)))) rfl (by kernel_rfl) (by kernel_rfl) (by kernel_rfl) (by kernel_rfl) (l' := #[true, true, true, true, false, false, false, false, false]) rfl rfl ?_; intro K hK; go_big_quiet_op; go_big_quiet_on
        refine anyR_take 4 _ (nthS (nthS (nthS (nthS (nth0))))) rfl (by kernel_rfl) (by kernel_rfl) (by kernel_rfl) (by kernel_rfl) (l' := #[true, true, true, true, true, false, false, false, false]) rfl rfl ?_; intro K hK; go_big_quiet_op; go_big_quiet_on
        refine anyR_two 5 6 _ _ (nthS (nthS (nthS (nthS (nthS (nth0)))))) (nthS (nthS (nthS (nthS (nthS (nthS (nth0))))))) (by kernel_rfl) (l1 := #[true, true, true, true, true, true, false, false, false]) (l2 := #[true, true, true, true, true, false, true, false, false]) rfl rfl ?_ ?_
        · clear y0 y1 y2 y3 y4 y5 yN
          go_wp2_with fail
          refine (HAr.out _ hB_wd).mono ?_
          rintro e V1 ⟨hsV1, b, rfl, hbb, hO⟩
          have HGr := Lib.hid hO
          clear hO
          go_wp2_with fail
          have hB_V1 : Below W1.heap.size W1 V1 := hB_wd.trans (hsV1.mono hB_wd.size)
          have hX_V1 : Below w3.heap.size w3 V1 := hX_wd.trans (hsV1.mono hX_wd.size)
          refine OneR_mk (hsV1.mono hX_wd.size) ?_
          refine anyR_one 6 _ (nthS (nthS (nthS (nthS (nthS (nthS (nth0))))))) (by kernel_rfl) (l' := #[true, true, true, true, true, true, true, false, false]) rfl ?_
          go_wp2_with fail
          generalize hWa : World.alloc _ _ = Wa
          obtain ⟨X, hX⟩ : ∃ X, X = V1.heap.size := ⟨_, rfl⟩
          have hsWa : Below V1.heap.size V1 Wa := by rw [← hWa]; exact (Below.refl _ _).alloc (Nat.le_refl _) _
          have bXa : Blk Wa X 37 [.int .i64 0, .int .i64 0, .int .i64 0, .int .i64 0, .int .i64 0, .int .i64 0] := by rw [← hWa]; exact Blk.new2 37 [.int .i64 0, .int .i64 0, .int .i64 0, .int .i64 0, .int .i64 0, .int .i64 0] hX
          have hXM : W1.heap.size ≤ X := by rw [hX]; exact hB_V1.size
          have hX3 : w3.heap.size ≤ X := by rw [hX]; exact hX_V1.size
          rw [← hX]
          clear hWa hX
          have hB_Wa : Below W1.heap.size W1 Wa := hB_V1.trans (hsWa.mono hB_V1.size)
          have hX_Wa : Below w3.heap.size w3 Wa := hX_V1.trans (hsWa.mono hX_V1.size)
          have bXV : Blk Wa X 37 [.int .i64 0, .int .i64 0, .int .i64 0, .int .i64 0, .int .i64 0, .int .i64 0] := bXa
          have HGr2 : Hid (OwnsGr Wa (b + 1) b nd (slotsOf r.dl)) := Lib.hid (HGr.out.below hsWa)
          clear HGr
          have HGr := HGr2
          clear HGr2
          refine OneR_mk (hsWa.mono hX_V1.size) ?_
          refine anyR_one 7 _ (nthS (nthS (nthS (nthS (nthS (nthS (nthS (nth0)))))))) (by kernel_rfl) (l' := #[true, true, true, true, true, true, true, true, false]) rfl ?_
          have cb5 := bXV.row
          have fb5 := bXV.frozen
          unfold Row at cb5
          have b6 := ((((((bXV.set_ 0 (.int .i64 f.id)).set_ 1 (.int .i64 f.fr)).set_ 2 (.int .i64 f.tn)).set_ 3 (.int .i64 f.pe)).set_ 4 (.int .i64 f.ph)).set_ 5 (.int .i64 f.dl))
          simp only [List.set_cons_zero, List.set_cons_succ] at b6
          have HG6 := Lib.hid (OwnsGr.cells HGr.out bXV (by decide) [.int .i64 f.id, .int .i64 f.fr, .int .i64 f.tn, .int .i64 f.pe, .int .i64 f.ph, .int .i64 f.dl] 0)
          have B6 := Lib.hid b6
          clear b6
          go_wp2_with fail
          generalize hW6 : World.setCell _ _ _ = W6'
          have hbe : Below w3.heap.size Wa W6' := by rw [← hW6]; exact (((((((Below.refl _ Wa).setCell (p := ⟨X, 0, none⟩) hX3 (.int .i64 f.id)).setCell (p := ⟨X, 1, none⟩) hX3 (.int .i64 f.fr)).setCell (p := ⟨X, 2, none⟩) hX3 (.int .i64 f.tn)).setCell (p := ⟨X, 3, none⟩) hX3 (.int .i64 f.pe)).setCell (p := ⟨X, 4, none⟩) hX3 (.int .i64 f.ph)).setCell (p := ⟨X, 5, none⟩) hX3 (.int .i64 f.dl))
          have HB6 : Hid (Below W1.heap.size W1 W6') := Lib.hid (by rw [← hW6]; exact ((((((hB_Wa.setCell (p := ⟨X, 0, none⟩) hXM (.int .i64 f.id)).setCell (p := ⟨X, 1, none⟩) hXM (.int .i64 f.fr)).setCell (p := ⟨X, 2, none⟩) hXM (.int .i64 f.tn)).setCell (p := ⟨X, 3, none⟩) hXM (.int .i64 f.pe)).setCell (p := ⟨X, 4, none⟩) hXM (.int .i64 f.ph)).setCell (p := ⟨X, 5, none⟩) hXM (.int .i64 f.dl)))
          have B7 : Hid (Blk W6' X 37 [.int .i64 f.id, .int .i64 f.fr, .int .i64 f.tn, .int .i64 f.pe, .int .i64 f.ph, .int .i64 f.dl]) := Lib.hid (by rw [← hW6]; exact B6.out)
          have HG7 : Hid (OwnsGr W6' (b + 1) b nd (slotsOf r.dl)) := Lib.hid (by rw [← hW6]; exact HG6.out)
          clear hW6 B6 HG6 cb5 fb5
          refine OneR_mk (hbe) ?_
          refine anyR_take0 8 _ (nthS (nthS (nthS (nthS (nthS (nthS (nthS (nthS (nth0))))))))) rfl (by kernel_rfl) (by kernel_rfl) (by kernel_rfl) (l' := #[true, true, true, true, true, true, true, true, true]) rfl rfl ?_; intro K hK; go_big_quiet_op; go_big_quiet_on
          refine anyR_end (by kernel_rfl) ?_
          go_wp2_with fail
          go_meet
          exact ⟨X, b, rfl, rfl, HB6.out, hXM, B7, HG7⟩
        · clear y0 y1 y2 y3 y4 y5 yN
          go_wp2_with fail
          generalize hWa : World.alloc _ _ = Wa
          obtain ⟨X, hX⟩ : ∃ X, X = wd.heap.size := ⟨_, rfl⟩
          have hsWa : Below wd.heap.size wd Wa := by rw [← hWa]; exact (Below.refl _ _).alloc (Nat.le_refl _) _
          have bXa : Blk Wa X 37 [.int .i64 0, .int .i64 0, .int .i64 0, .int .i64 0, .int .i64 0, .int .i64 0] := by rw [← hWa]; exact Blk.new2 37 [.int .i64 0, .int .i64 0, .int .i64 0, .int .i64 0, .int .i64 0, .int .i64 0] hX
          have hXM : W1.heap.size ≤ X := by rw [hX]; exact hB_wd.size
          have hX3 : w3.heap.size ≤ X := by rw [hX]; exact hX_wd.size
          rw [← hX]
          clear hWa hX
          have hB_Wa : Below W1.heap.size W1 Wa := hB_wd.trans (hsWa.mono hB_wd.size)
          have hX_Wa : Below w3.heap.size w3 Wa := hX_wd.trans (hsWa.mono hX_wd.size)
          refine OneR_mk (hsWa.mono hX_wd.size) ?_
          refine anyR_one 5 _ (nthS (nthS (nthS (nthS (nthS (nth0)))))) (by kernel_rfl) (l' := #[true, true, true, true, true, true, true, false, false]) rfl ?_
          go_wp2_with fail
          refine (HAr.out _ hB_Wa).mono ?_
          rintro e V1 ⟨hsV1, b, rfl, hbb, hO⟩
          have HGr := Lib.hid hO
          clear hO
          go_wp2_with fail
          have hB_V1 : Below W1.heap.size W1 V1 := hB_Wa.trans (hsV1.mono hB_Wa.size)
          have hX_V1 : Below w3.heap.size w3 V1 := hX_Wa.trans (hsV1.mono hX_Wa.size)
          have bXV : Blk V1 X 37 [.int .i64 0, .int .i64 0, .int .i64 0, .int .i64 0, .int .i64 0, .int .i64 0] := bXa.below hsV1 bXa.lt
          refine OneR_mk (hsV1.mono hX_Wa.size) ?_
          refine anyR_one 7 _ (nthS (nthS (nthS (nthS (nthS (nthS (nthS (nth0)))))))) (by kernel_rfl) (l' := #[true, true, true, true, true, true, true, true, false]) rfl ?_
          have cb5 := bXV.row
          have fb5 := bXV.frozen
          unfold Row at cb5
          have b6 := ((((((bXV.set_ 0 (.int .i64 f.id)).set_ 1 (.int .i64 f.fr)).set_ 2 (.int .i64 f.tn)).set_ 3 (.int .i64 f.pe)).set_ 4 (.int .i64 f.ph)).set_ 5 (.int .i64 f.dl))
          simp only [List.set_cons_zero, List.set_cons_succ] at b6
          have HG6 := Lib.hid (OwnsGr.cells HGr.out bXV (by decide) [.int .i64 f.id, .int .i64 f.fr, .int .i64 f.tn, .int .i64 f.pe, .int .i64 f.ph, .int .i64 f.dl] 0)
          have B6 := Lib.hid b6
          clear b6
          go_wp2_with fail
          generalize hW6 : World.setCell _ _ _ = W6'
          have hbe : Below w3.heap.size V1 W6' := by rw [← hW6]; exact (((((((Below.refl _ V1).setCell (p := ⟨X, 0, none⟩) hX3 (.int .i64 f.id)).setCell (p := ⟨X, 1, none⟩) hX3 (.int .i64 f.fr)).setCell (p := ⟨X, 2, none⟩) hX3 (.int .i64 f.tn)).setCell (p := ⟨X, 3, none⟩) hX3 (.int .i64 f.pe)).setCell (p := ⟨X, 4, none⟩) hX3 (.int .i64 f.ph)).setCell (p := ⟨X, 5, none⟩) hX3 (.int .i64 f.dl))
          have HB6 : Hid (Below W1.heap.size W1 W6') := Lib.hid (by rw [← hW6]; exact ((((((hB_V1.setCell (p := ⟨X, 0, none⟩) hXM (.int .i64 f.id)).setCell (p := ⟨X, 1, none⟩) hXM (.int .i64 f.fr)).setCell (p := ⟨X, 2, none⟩) hXM (.int .i64 f.tn)).setCell (p := ⟨X, 3, none⟩) hXM (.int .i64 f.pe)).setCell (p := ⟨X, 4, none⟩) hXM (.int .i64 f.ph)).setCell (p := ⟨X, 5, none⟩) hXM (.int .i64 f.dl)))
          have B7 : Hid (Blk W6' X 37 [.int .i64 f.id, .int .i64 f.fr, .int .i64 f.tn, .int .i64 f.pe, .int .i64 f.ph, .int .i64 f.dl]) := Lib.hid (by rw [← hW6]; exact B6.out)
          have HG7 : Hid (OwnsGr W6' (b + 1) b nd (slotsOf r.dl)) := Lib.hid (by rw [← hW6]; exact HG6.out)
          clear hW6 B6 HG6 cb5 fb5
          refine OneR_mk (hbe) ?_
          refine anyR_take0 8 _ (nthS (nthS (nthS (nthS (nthS (nthS (nthS (nthS (nth0))))))))) rfl (by kernel_rfl) (by kernel_rfl) (by kernel_rfl) (l' := #[true, true, true, true, true, true, true, true, true]) rfl rfl ?_; intro K hK; go_big_quiet_op; go_big_quiet_on
          refine anyR_end (by kernel_rfl) ?_
          go_wp2_with fail
          go_meet
          exact ⟨X, b, rfl, rfl, HB6.out, hXM, B7, HG7⟩
      case rest =>
        obtain ⟨X, b, rfl, rfl, hBc, hXM, HXc, HGc⟩ := hcut
        have hcb := complete_bounds hff hs1
        obtain ⟨cn, hcn⟩ : ∃ cn : Nat, complete f slots = (cn : Int) := ⟨(complete f slots).toNat, by omega⟩
        have HCN : Hid (complete f r.slots = (cn : Int)) := Lib.hid (by rw [← HSl.out, hcn])
        have hcn4 : cn ≤ 4096 := by omega
        have Con := Lib.hid (complete_any f slots (.slice A na ca) (.slice D nd cd) hff hs0 hs1 rfl rfl wc)
        rw [hcn] at Con
        have rX := HXc.out.row
        have rN := (HW.out _ hBc).2.1
        unfold Row at rX rN
        clear hcb hcn
        go_wp2_with fail
        refine Con.out.mono ?_
        rintro e w4 ⟨rfl, hb4⟩
        have hB4 : Below W1.heap.size W1 w4 := hBc.trans (hb4.mono hBc.size)
        have HX4 : Hid (Blk w4 X 37 [.int .i64 f.id, .int .i64 f.fr, .int .i64 f.tn, .int .i64 f.pe, .int .i64 f.ph, .int .i64 f.dl]) := Lib.hid (HXc.out.below hb4 HXc.out.lt)
        have HG4 : Hid (OwnsGr w4 (b + 1) b nd (slotsOf r.dl)) := Lib.hid (HGc.out.below hb4)
        clear Con rX rN HXc HGc hBc hb4
        go_upto_region 8 with fail
        obtain ⟨Y, hY⟩ : ∃ Y, Y = w4.heap.size := ⟨_, rfl⟩
        generalize hWs : World.alloc _ _ = Ws
        have HY0 : Hid (Blk Ws Y 57 [.int .i64 (cn : Int), .int .i64 (svGo f r.dl 0).1, .int .i64 (svGo f r.dl 0).2.1, .int .i64 (svGo f r.dl 0).2.2, .int .i64 0, .int .i64 0]) := Lib.hid (by rw [← hWs]; exact Blk.new2 57 [.int .i64 (cn : Int), .int .i64 0, .int .i64 0, .int .i64 0, .int .i64 0, .int .i64 0] hY)
        have hbs : Below w4.heap.size w4 Ws := by rw [← hWs]; exact (Below.refl _ _).alloc (Nat.le_refl _) _
        have hBs : Below W1.heap.size W1 Ws := hB4.trans (hbs.mono hB4.size)
        have HXs : Hid (Blk Ws X 37 [.int .i64 f.id, .int .i64 f.fr, .int .i64 f.tn, .int .i64 f.pe, .int .i64 f.ph, .int .i64 f.dl]) := Lib.hid (HX4.out.below hbs HX4.out.lt)
        have HGs : Hid (OwnsGr Ws (b + 1) b nd (slotsOf r.dl)) := Lib.hid (HG4.out.below hbs)
        have hXY : X < Y := by rw [hY]; exact HX4.out.lt
        have hYM : W1.heap.size ≤ Y := by rw [hY]; exact hB4.size
        rw [← hY]
        have rY := HY0.out.row
        unfold Row at rY
        clear hWs hY hB4 HX4 HG4 hbs
        go_wp2_with fail
        clear rY
        go_loopw [41] (fun i wr => ∃ (n : Nat), n ≤ cn ∧ i = .int .i64 n ∧ Below W1.heap.size W1 wr ∧ Hid (Blk wr X 37 [.int .i64 f.id, .int .i64 f.fr, .int .i64 f.tn, .int .i64 f.pe, .int .i64 f.ph, .int .i64 f.dl]) ∧ Hid (Blk wr Y 57 [.int .i64 (cn : Int), .int .i64 (svGo f r.dl n).1, .int .i64 (svGo f r.dl n).2.1, .int .i64 (svGo f r.dl n).2.2, .int .i64 0, .int .i64 0]) ∧ Hid (OwnsGr wr (b + 1) b nd (slotsOf r.dl))) (fun i _ => cn - (intOf i).toNat)
        case atStart => exact ⟨0, by omega, rfl, hBs, HXs, HY0, HGs⟩
        case round =>
          clear HXs HGs HY0 hBs
          obtain ⟨n, hn, rfl, hb, HXb, HYb, HGb⟩ := hrel
          by_cases hlt2 : n < cn
          · obtain ⟨wd, hwd⟩ : ∃ wd, wd = wr.drew := ⟨_, rfl⟩
            have hbd : Below wr.heap.size wr wd := by rw [hwd]; exact (Below.refl _ _).drew
            obtain ⟨u5, hlook', hoi⟩ := (HGb.out.below hbd).look (by unfold maxLen; omega) (a := x) (c := (n : Int)) (num_small (by rw [← HFx.out]; obtain ⟨h1, _⟩ := fault_zero hff; omega)) (num_small (by omega))
            obtain ⟨A5, c5, hu5⟩ := own_form2 hoi.1
            have hl5 : (slotsOf r.dl x (n : Int)).length ≤ 1000000 := by
              have h1 : (slotsOf r.dl x (n : Int)).length ≤ r.dl.length := by unfold slotsOf; rw [List.length_map]; exact List.length_filter_le _ _
              have := HNd.out
              omega
            have hI5 : LiesI wd wd.heap.size A5 (slotsOf r.dl x (n : Int)) := by
              have h1 := hoi.1
              rw [hu5] at h1
              exact own_I (by rw [flatI_map]; exact h1)
            have Con := Lib.hid (arrival_any f n (slotsOf r.dl x (n : Int)) A5 c5 wd hff (by omega) (by omega) hI5 hl5)
            rw [hu5] at hlook'
            obtain ⟨T5, hT5⟩ : ∃ T5, T5 = arrival f n (slotsOf r.dl x (n : Int)) := ⟨_, rfl⟩
            have HAb : Hid (T5.2 = true → rel f n ≤ T5.1 ∧ T5.1 ≤ rel f n + f.dl - 1) := Lib.hid (by rw [hT5]; exact arr_bounds f n _)
            have HT5 : Hid (svGo f r.dl (n + 1) = if T5.2 = true then ((svGo f r.dl n).1, if (svGo f r.dl n).2.1 = 0 ∨ T5.1 - rel f n + 1 < (svGo f r.dl n).2.1 then T5.1 - rel f n + 1 else (svGo f r.dl n).2.1, max (svGo f r.dl n).2.2 (T5.1 - rel f n + 1)) else ((svGo f r.dl n).1 + 1, (svGo f r.dl n).2.1, (svGo f r.dl n).2.2)) := Lib.hid (by rw [svGo_succ, hT5, ← HFx.out]; rfl)
            rw [← hT5] at Con
            obtain ⟨q5, hq5⟩ : ∃ q, q = (slotsOf r.dl x (n : Int)).length := ⟨_, rfl⟩
            rw [← hq5] at Con hlook'
            have HXd : Hid (Blk wd X 37 [.int .i64 f.id, .int .i64 f.fr, .int .i64 f.tn, .int .i64 f.pe, .int .i64 f.ph, .int .i64 f.dl]) := Lib.hid (by rw [hwd]; exact HXb.out.drew)
            have hXl : X < wr.heap.size := HXb.out.lt
            have HDZ : Hid (wr.heap.size = wd.heap.size) := Lib.hid (by rw [hwd]; rfl)
            have hBd : Below W1.heap.size W1 wd := hb.trans (hbd.mono hb.size)
            have HYd : Hid (Blk wd Y 57 [.int .i64 (cn : Int), .int .i64 (svGo f r.dl n).1, .int .i64 (svGo f r.dl n).2.1, .int .i64 (svGo f r.dl n).2.2, .int .i64 0, .int .i64 0]) := Lib.hid (by rw [hwd]; exact HYb.out.drew)
            have HGd : Hid (OwnsGr wd (b + 1) b nd (slotsOf r.dl)) := Lib.hid (HGb.out.below hbd)
            have hSb := sv_bounds hff r.dl n
            obtain ⟨S, hS⟩ : ∃ S, S = svGo f r.dl n := ⟨_, rfl⟩
            rw [← hS] at HYd HT5 hSb
            clear hoi hu5 hI5 hl5 hT5 hq5 hbd hS HXb HYb HGb
            go_upto_region 11 with fail
            refine wp_region_rough (wr.heap.size) 13 [] #[false, false, false, false, false, false, false, false, false, false, false, false, false] (by kernel_rfl) rfl rfl ?_
            rw [← hwd]
            clear hwd
            have y0 : ∀ (x' : ExtW wr.heap.size wd), x'.val.cell? ⟨X, 0, none⟩ = some (.int .i64 f.id) := fun x' => (x'.cell _ hXl).trans (HXd.out.row 0)
            have y1 : ∀ (x' : ExtW wr.heap.size wd), x'.val.cell? ⟨X, 1, none⟩ = some (.int .i64 f.fr) := fun x' => (x'.cell _ hXl).trans (HXd.out.row 1)
            have y2 : ∀ (x' : ExtW wr.heap.size wd), x'.val.cell? ⟨X, 2, none⟩ = some (.int .i64 f.tn) := fun x' => (x'.cell _ hXl).trans (HXd.out.row 2)
            have y3 : ∀ (x' : ExtW wr.heap.size wd), x'.val.cell? ⟨X, 3, none⟩ = some (.int .i64 f.pe) := fun x' => (x'.cell _ hXl).trans (HXd.out.row 3)
            have y4 : ∀ (x' : ExtW wr.heap.size wd), x'.val.cell? ⟨X, 4, none⟩ = some (.int .i64 f.ph) := fun x' => (x'.cell _ hXl).trans (HXd.out.row 4)
            have y5 : ∀ (x' : ExtW wr.heap.size wd), x'.val.cell? ⟨X, 5, none⟩ = some (.int .i64 f.dl) := fun x' => (x'.cell _ hXl).trans (HXd.out.row 5)
            refine anyR_take 0 _ (nth0) rfl (by kernel_rfl) (by kernel_rfl) (by kernel_rfl) (by kernel_rfl) (l' := #[true, false, false, false, false, false, false, false, false, false, false, false, false]) rfl rfl ?_; intro K hK; go_big_quiet_op; go_big_quiet_on
            refine anyR_take0 1 _ (nthS (nth0)) rfl (by kernel_rfl) (by kernel_rfl) (by kernel_rfl) (l' := #[true, true, false, false, false, false, false, false, false, false, false, false, false]) rfl rfl ?_; intro K hK; go_big_quiet_op; go_big_quiet_on
            refine anyR_take0 2 _ (nthS (nthS (nth0))) rfl (by kernel_rfl) (by kernel_rfl) (by kernel_rfl) (l' := #[true, true, true, false, false, false, false, false, false, false, false, false, false]) rfl rfl ?_; intro K hK; go_big_quiet_op; go_big_quiet_on
            refine anyR_take0 3 _ (nthS (nthS (nthS (nth0)))) rfl (by kernel_rfl) (by kernel_rfl) (by kernel_rfl) (l' := #[true, true, true, true, false, false, false, false, false, false, false, false, false]) rfl rfl ?_; intro K hK; go_big_quiet_op; go_big_quiet_on
            refine anyR_take0 4 _ (nthS (nthS (nthS (nthS (nth0))))) rfl (by kernel_rfl) (by kernel_rfl) (by kernel_rfl) (l' := #[true, true, true, true, true, false, false, false, false, false, false, false, false]) rfl rfl ?_; intro K hK; go_big_quiet_op; go_big_quiet_on
            refine anyR_take0 5 _ (nthS (nthS (nthS (nthS (nthS (nth0)))))) rfl (by kernel_rfl) (by kernel_rfl) (by kernel_rfl) (l' := #[true, true, true, true, true, true, false, false, false, false, false, false, false]) rfl rfl ?_; intro K hK; go_big_quiet_op; go_big_quiet_on
            refine anyR_one 6 _ (nthS (nthS (nthS (nthS (nthS (nthS (nth0))))))) (by kernel_rfl) (l' := #[true, true, true, true, true, true, true, false, false, false, false, false, false]) rfl ?_
            clear y0 y1 y2 y3 y4 y5
            go_wp2_with fail
            clear hlook'
            refine OneR_mk (Below.refl _ _) ?_
            refine anyR_one 7 _ (nthS (nthS (nthS (nthS (nthS (nthS (nthS (nth0)))))))) (by kernel_rfl) (l' := #[true, true, true, true, true, true, true, true, false, false, false, false, false]) rfl ?_
            go_wp2_with fail
            refine Con.out.mono ?_
            rintro e w5 ⟨rfl, hb5⟩
            clear Con
            go_wp2_with fail
            refine OneR_mk (hb5.mono (Nat.le_of_eq HDZ.out)) ?_
            refine anyR_take0 8 _ (nthS (nthS (nthS (nthS (nthS (nthS (nthS (nthS (nth0))))))))) rfl (by kernel_rfl) (by kernel_rfl) (by kernel_rfl) (l' := #[true, true, true, true, true, true, true, true, true, false, false, false, false]) rfl rfl ?_; intro K hK; go_big_quiet_op; go_big_quiet_on
            refine anyR_take0 9 _ (nthS (nthS (nthS (nthS (nthS (nthS (nthS (nthS (nthS (nth0)))))))))) rfl (by kernel_rfl) (by kernel_rfl) (by kernel_rfl) (l' := #[true, true, true, true, true, true, true, true, true, true, false, false, false]) rfl rfl ?_; intro K hK; go_big_quiet_op; go_big_quiet_on
            refine anyR_take0 10 _ (nthS (nthS (nthS (nthS (nthS (nthS (nthS (nthS (nthS (nthS (nth0))))))))))) rfl (by kernel_rfl) (by kernel_rfl) (by kernel_rfl) (l' := #[true, true, true, true, true, true, true, true, true, true, true, false, false]) rfl rfl ?_; intro K hK; go_big_quiet_op; go_big_quiet_on
            refine anyR_take0 11 _ (nthS (nthS (nthS (nthS (nthS (nthS (nthS (nthS (nthS (nthS (nthS (nth0)))))))))))) rfl (by kernel_rfl) (by kernel_rfl) (by kernel_rfl) (l' := #[true, true, true, true, true, true, true, true, true, true, true, true, false]) rfl rfl ?_; intro K hK; go_big_quiet_op; go_big_quiet_on
            refine anyR_take0 12 _ (nthS (nthS (nthS (nthS (nthS (nthS (nthS (nthS (nthS (nthS (nthS (nthS (nth0))))))))))))) rfl (by kernel_rfl) (by kernel_rfl) (by kernel_rfl) (l' := #[true, true, true, true, true, true, true, true, true, true, true, true, true]) rfl rfl ?_; intro K hK; go_big_quiet_op; go_big_quiet_on
            refine anyR_end (by kernel_rfl) ?_
            have hB5 : Below W1.heap.size W1 w5 := hBd.trans (hb5.mono hBd.size)
            have HX5 : Hid (Blk w5 X 37 [.int .i64 f.id, .int .i64 f.fr, .int .i64 f.tn, .int .i64 f.pe, .int .i64 f.ph, .int .i64 f.dl]) := Lib.hid (HXd.out.below hb5 HXd.out.lt)
            have HY5 : Hid (Blk w5 Y 57 [.int .i64 (cn : Int), .int .i64 S.1, .int .i64 S.2.1, .int .i64 S.2.2, .int .i64 0, .int .i64 0]) := Lib.hid (HYd.out.below hb5 HYd.out.lt)
            have HG5 : Hid (OwnsGr w5 (b + 1) b nd (slotsOf r.dl)) := Lib.hid (HGd.out.below hb5)
            clear HXd HYd HGd hBd HDZ hb5 hb hXl
            cases hok : T5.2 with
            | false =>
              have hQ : Hid (svGo f r.dl (n + 1) = (S.1 + 1, S.2.1, S.2.2)) := Lib.hid (by rw [HT5.out, hok]; rfl)
              have hw1 : IntKind.i64.wrap (S.1 + 1) = S.1 + 1 := by rw [IntKind.wrap_i64]; omega
              clear hok HAb HT5
              have hB6 : Hid (Below W1.heap.size W1 (w5.setCell ⟨Y, 1, none⟩ (.int .i64 (S.1 + 1)))) := Lib.hid (hB5.setCell (p := ⟨Y, 1, none⟩) hYM (.int .i64 (S.1 + 1)))
              have HX6 : Hid (Blk (w5.setCell ⟨Y, 1, none⟩ (.int .i64 (S.1 + 1))) X 37 [.int .i64 f.id, .int .i64 f.fr, .int .i64 f.tn, .int .i64 f.pe, .int .i64 f.ph, .int .i64 f.dl]) := Lib.hid (HX5.out.far (p := ⟨Y, 1, none⟩) (by dsimp only; omega) (.int .i64 (S.1 + 1)))
              have bY6 := (HY5.out.set_ 1 (.int .i64 (S.1 + 1)))
              simp only [List.set_cons_zero, List.set_cons_succ] at bY6
              have HY6 : Hid (Blk (w5.setCell ⟨Y, 1, none⟩ (.int .i64 (S.1 + 1))) Y 57 [.int .i64 (cn : Int), .int .i64 (S.1 + 1), .int .i64 S.2.1, .int .i64 S.2.2, .int .i64 0, .int .i64 0]) := Lib.hid bY6
              have HG6 : Hid (OwnsGr (w5.setCell ⟨Y, 1, none⟩ (.int .i64 (S.1 + 1))) (b + 1) b nd (slotsOf r.dl)) := Lib.hid (OwnsGr.cells HG5.out HY5.out (by decide) [.int .i64 (S.1 + 1)] 1)
              have rY := HY5.out.row
              have fY := HY5.out.frozen
              have rX := HX5.out.row
              unfold Row at rY rX
              clear bY6 HY5 HG5 HX5 hB5
              go_wp2_with fail
              go_roundw
              case rel => exact ⟨n + 1, by omega, by go_num, hB6.out, HX6, Lib.hid (by rw [hQ.out]; exact HY6.out), HG6⟩
              case measure => simp [intOf]; omega
            | true =>
              obtain ⟨hq1, hq2⟩ := HAb.out hok
              have hQ : Hid (svGo f r.dl (n + 1) = (S.1, if S.2.1 = 0 ∨ T5.1 - rel f n + 1 < S.2.1 then T5.1 - rel f n + 1 else S.2.1, max S.2.2 (T5.1 - rel f n + 1))) := Lib.hid (by rw [HT5.out, if_pos hok])
              obtain ⟨mm, hmm⟩ : ∃ mm, mm = (n : Int) * f.pe := ⟨_, rfl⟩
              have hrel : rel f n = f.ph + mm := by rw [hmm]; rfl
              rw [hrel] at hQ hq1 hq2
              obtain ⟨_, _, _, hpe, hph, hdl, _⟩ := fault_zero hff
              have hm0 : 0 ≤ mm := by rw [hmm]; exact Int.mul_nonneg (by omega) (by omega)
              have hm1 : mm ≤ 1000000 * f.pe := by rw [hmm]; exact Int.mul_le_mul_of_nonneg_right (by omega) (by omega)
              have hw1 : IntKind.i64.wrap ((n : Int) * f.pe) = mm := by rw [← hmm, IntKind.wrap_i64]; omega
              have hw2 : IntKind.i64.wrap (T5.1 - f.ph) = T5.1 - f.ph := by rw [IntKind.wrap_i64]; omega
              have hw3 : IntKind.i64.wrap (T5.1 - f.ph - mm) = T5.1 - f.ph - mm := by rw [IntKind.wrap_i64]; omega
              obtain ⟨q, hq⟩ : ∃ q, q = T5.1 - f.ph - mm + 1 := ⟨_, rfl⟩
              have hw4 : IntKind.i64.wrap (T5.1 - f.ph - mm + 1) = q := by rw [← hq, IntKind.wrap_i64]; omega
              have hqe : T5.1 - (f.ph + mm) + 1 = q := by rw [hq]; omega
              rw [hqe] at hQ
              have HMM := Lib.hid hmm.symm
              clear HAb HT5 hrel hmm hok hq1 hq2 hq hqe hm0 hm1
              obtain ⟨mx, hmx⟩ : ∃ mx, mx = max S.2.2 q := ⟨_, rfl⟩
              have hmx' : (if S.2.2 < q then q else S.2.2) = mx := by rw [hmx, Int.max_def]; split <;> split <;> omega
              rw [← hmx] at hQ
              have b3 := HY5.out.set_ 3 (.int .i64 mx)
              simp only [List.set_cons_zero, List.set_cons_succ] at b3
              have hx3 := HX5.out.far (p := ⟨Y, 3, none⟩) (by dsimp only; omega) (.int .i64 mx)
              have hg3 := OwnsGr.cells HG5.out HY5.out (by decide) [.int .i64 mx] 3
              have hB3 := hB5.setCell (p := ⟨Y, 3, none⟩) hYM (.int .i64 mx)
              have HP3 := Lib.hid (And.intro b3 (And.intro hx3 (And.intro hg3 hB3)))
              have HMX := Lib.hid hmx'
              have rY := HY5.out.row
              have fY := HY5.out.frozen
              have rX := HX5.out.row
              unfold Row at rY rX
              clear b3 hx3 hg3 hB3 hmx hmx'
              go_upto_region 16 with fail
              rw [HMX.out]
              generalize hW3 : World.setCell _ _ _ = W3
              have HP : Hid (Blk W3 Y 57 [.int .i64 (cn : Int), .int .i64 S.1, .int .i64 S.2.1, .int .i64 mx, .int .i64 0, .int .i64 0] ∧ Blk W3 X 37 [.int .i64 f.id, .int .i64 f.fr, .int .i64 f.tn, .int .i64 f.pe, .int .i64 f.ph, .int .i64 f.dl] ∧ OwnsGr W3 (b + 1) b nd (slotsOf r.dl) ∧ Below W1.heap.size W1 W3) := Lib.hid (by rw [← hW3]; exact HP3.out)
              clear hW3 HP3 rY fY rX HY5 HX5 HG5 hB5 HMX
              have rY := HP.out.1.row
              have fY := HP.out.1.frozen
              unfold Row at rY
              by_cases e1 : S.2.1 = 0 ∨ q < S.2.1
              · have hQ2 : Hid (svGo f r.dl (n + 1) = (S.1, q, mx)) := Lib.hid (by rw [hQ.out, if_pos e1])
                have b4 := HP.out.1.set_ 2 (.int .i64 q)
                simp only [List.set_cons_zero, List.set_cons_succ] at b4
                have HP4 := Lib.hid (And.intro b4 (And.intro (HP.out.2.1.far (p := ⟨Y, 2, none⟩) (by dsimp only; omega) (.int .i64 q)) (And.intro (OwnsGr.cells HP.out.2.2.1 HP.out.1 (by decide) [.int .i64 q] 2) (HP.out.2.2.2.setCell (p := ⟨Y, 2, none⟩) hYM (.int .i64 q)))))
                clear b4
                by_cases e2 : S.2.1 = 0
                · have d1 : (S.2.1 == 0) = true := by simpa using e2
                  clear e1 e2 hQ
                  go_wp2_with fail
                  go_roundw
                  case rel => exact ⟨n + 1, by omega, by go_num, HP4.out.2.2.2, Lib.hid HP4.out.2.1, Lib.hid (by rw [hQ2.out]; exact HP4.out.1), Lib.hid HP4.out.2.2.1⟩
                  case measure => simp [intOf]; omega
                · have d1 : (S.2.1 == 0) = false := by simpa using e2
                  have d2 : decide (q < S.2.1) = true := decide_eq_true (by omega)
                  clear e1 e2 hQ
                  go_wp2_with fail
                  go_roundw
                  case rel => exact ⟨n + 1, by omega, by go_num, HP4.out.2.2.2, Lib.hid HP4.out.2.1, Lib.hid (by rw [hQ2.out]; exact HP4.out.1), Lib.hid HP4.out.2.2.1⟩
                  case measure => simp [intOf]; omega
              · have hQ2 : Hid (svGo f r.dl (n + 1) = (S.1, S.2.1, mx)) := Lib.hid (by rw [hQ.out, if_neg e1])
                have d1 : (S.2.1 == 0) = false := by
                  rw [beq_eq_false_iff_ne]
                  exact fun h => e1 (.inl h)
                have d2 : decide (q < S.2.1) = false := decide_eq_false (fun h => e1 (.inr h))
                clear e1 hQ
                go_wp2_with fail
                go_roundw
                case rel => exact ⟨n + 1, by omega, by go_num, HP.out.2.2.2, Lib.hid HP.out.2.1, Lib.hid (by rw [hQ2.out]; exact HP.out.1), Lib.hid HP.out.2.2.1⟩
                case measure => simp [intOf]; omega
          · have h1 : n = cn := by omega
            subst h1
            have hS1 := sv_bounds hff r.dl n
            obtain ⟨S, hS⟩ : ∃ S, S = svGo f r.dl n := ⟨_, rfl⟩
            rw [← hS] at HYb
            have HS := Lib.hid hS
            have rN := (HW.out _ hb).2.1
            unfold Row at rN
            have HY0 : Hid (Blk wr Y 57 [.int .i64 (n : Int), .int .i64 S.1, .int .i64 S.2.1, .int .i64 S.2.2, .int .i64 (cntAtt (r.al.take 0) x), .int .i64 (cntLost (r.al.take 0) x)]) := Lib.hid (by simpa [cntAtt, cntLost] using HYb.out)
            clear HGb HXb hS HYb
            go_wp2_with fail
            clear rN
            obtain ⟨wo, hwo⟩ : ∃ wo : World, wo = wr := ⟨_, rfl⟩
            subst hwo
            go_loopw [92] (fun i wr => ∃ (k : Nat), k ≤ na ∧ i = .int .i64 k ∧ Below W1.heap.size W1 wr ∧ Hid (Blk wr Y 57 [.int .i64 (n : Int), .int .i64 S.1, .int .i64 S.2.1, .int .i64 S.2.2, .int .i64 (cntAtt (r.al.take k) x), .int .i64 (cntLost (r.al.take k) x)])) (fun i _ => na - (intOf i).toNat)
            case atStart => exact ⟨0, by omega, rfl, hb, HY0⟩
            case round =>
              clear HY0 hb
              obtain ⟨k, hk, rfl, hb, HYb⟩ := hrel
              by_cases hlt3 : k < na
              · obtain ⟨a, hak⟩ := get_of_lt (l := r.al) (k := k) (by rw [← HNa.out]; exact hlt3)
                obtain ⟨ab, aoff, rfl, haB, hcs⟩ := (HA.out _ hb).at_ hak
                obtain ⟨c0, c1, c2, c3, c4, c5, c6, c7⟩ := hcs k a hak
                have HCt := Lib.hid (And.intro (cntAtt_succ hak x) (cntLost_succ hak x))
                obtain ⟨k1, k2, k3, k4⟩ := cnt_bounds r.al x k
                obtain ⟨A0, hA0⟩ : ∃ A0, A0 = cntAtt (r.al.take k) x := ⟨_, rfl⟩
                obtain ⟨L0, hL0⟩ : ∃ L0, L0 = cntLost (r.al.take k) x := ⟨_, rfl⟩
                rw [← hA0, ← hL0] at HCt HYb
                rw [← hA0] at k1 k2
                rw [← hL0] at k3 k4
                have hw1 : IntKind.i64.wrap (A0 + 1) = A0 + 1 := by rw [IntKind.wrap_i64]; omega
                have hw2 : IntKind.i64.wrap (L0 + 1) = L0 + 1 := by rw [IntKind.wrap_i64]; omega
                clear hcs hak hA0 hL0
                go_upto_region 22 with fail
                clear c0 c1 c2 c3 c4 c5 c6 c7
                obtain ⟨Z, hZ⟩ : ∃ Z, Z = wr.heap.size := ⟨_, rfl⟩
                generalize hWa : World.alloc _ _ = Wa
                have bZ : Blk Wa Z 66 [.int .i64 a.s, .int .i64 a.f, .int .i64 a.cs, .int .i64 a.co, .int .i64 a.cf, .int .i64 a.ct, .int .i64 a.cl, .int .i64 a.o] := by rw [← hWa]; exact Blk.new2 _ [.int .i64 a.s, .int .i64 a.f, .int .i64 a.cs, .int .i64 a.co, .int .i64 a.cf, .int .i64 a.ct, .int .i64 a.cl, .int .i64 a.o] hZ
                have hBa : Below W1.heap.size W1 Wa := by rw [← hWa]; exact hb.alloc hb.size _
                have HYa : Hid (Blk Wa Y 57 [.int .i64 (n : Int), .int .i64 S.1, .int .i64 S.2.1, .int .i64 S.2.2, .int .i64 A0, .int .i64 L0]) := Lib.hid (by rw [← hWa]; exact HYb.out.alloc _)
                have hYZ : Y < Z := by rw [hZ]; exact HYb.out.lt
                rw [← hZ]
                have rZ := bZ.row
                have rY := HYa.out.row
                unfold Row at rZ rY
                clear hWa hZ hb HYb bZ
                cases hc : (a.cl == x) with
                | false =>
                  have b6 := HYa.out
                  have HY6 : Hid (Blk Wa Y 57 [.int .i64 (n : Int), .int .i64 S.1, .int .i64 S.2.1, .int .i64 S.2.2, .int .i64 A0, .int .i64 L0]) := Lib.hid b6
                  have hB6 : Hid (Below W1.heap.size W1 Wa) := Lib.hid hBa
                  have HN6 : Hid (cntAtt (r.al.take (k + 1)) x = A0 ∧ cntLost (r.al.take (k + 1)) x = L0) := Lib.hid (by obtain ⟨e1, e2⟩ := HCt.out; rw [e1, e2]; simp [hc])
                  have fY := HYa.out.frozen
                  clear b6 HYa HCt
                  go_wp2_with fail
                  go_roundw
                  case rel => exact ⟨k + 1, by omega, by go_num, hB6.out, Lib.hid (by rw [HN6.out.1, HN6.out.2]; exact HY6.out)⟩
                  case measure => simp [intOf]; omega
                | true =>
                  cases ho : (a.o == 4) with
                  | true =>
                    have ho' : (a.o != 4) = false := by simpa using ho
                    have b6 := HYa.out
                    have HY6 : Hid (Blk Wa Y 57 [.int .i64 (n : Int), .int .i64 S.1, .int .i64 S.2.1, .int .i64 S.2.2, .int .i64 A0, .int .i64 L0]) := Lib.hid b6
                    have hB6 : Hid (Below W1.heap.size W1 Wa) := Lib.hid hBa
                    have HN6 : Hid (cntAtt (r.al.take (k + 1)) x = A0 ∧ cntLost (r.al.take (k + 1)) x = L0) := Lib.hid (by obtain ⟨e1, e2⟩ := HCt.out; rw [e1, e2]; simp [hc, ho])
                    have fY := HYa.out.frozen
                    clear b6 HYa HCt
                    go_wp2_with fail
                    go_roundw
                    case rel => exact ⟨k + 1, by omega, by go_num, hB6.out, Lib.hid (by rw [HN6.out.1, HN6.out.2]; exact HY6.out)⟩
                    case measure => simp [intOf]; omega
                  | false =>
                    have ho' : (a.o != 4) = true := by simpa using ho
                    cases h1 : (a.o == 1) with
                    | true =>
                      have h1' : (a.o != 1) = false := by simpa using h1
                      have b6 := (HYa.out.set_ 4 (.int .i64 (A0 + 1)))
                      simp only [List.set_cons_zero, List.set_cons_succ] at b6
                      have HY6 : Hid (Blk (Wa.setCell ⟨Y, 4, none⟩ (.int .i64 (A0 + 1))) Y 57 [.int .i64 (n : Int), .int .i64 S.1, .int .i64 S.2.1, .int .i64 S.2.2, .int .i64 (A0 + 1), .int .i64 L0]) := Lib.hid b6
                      have hB6 : Hid (Below W1.heap.size W1 (Wa.setCell ⟨Y, 4, none⟩ (.int .i64 (A0 + 1)))) := Lib.hid (hBa.setCell (p := ⟨Y, 4, none⟩) hYM (.int .i64 (A0 + 1)))
                      have HN6 : Hid (cntAtt (r.al.take (k + 1)) x = (A0 + 1) ∧ cntLost (r.al.take (k + 1)) x = L0) := Lib.hid (by obtain ⟨e1, e2⟩ := HCt.out; rw [e1, e2]; simp [hc, ho, h1])
                      have fY := HYa.out.frozen
                      clear b6 HYa HCt
                      go_wp2_with fail
                      go_roundw
                      case rel => exact ⟨k + 1, by omega, by go_num, hB6.out, Lib.hid (by rw [HN6.out.1, HN6.out.2]; exact HY6.out)⟩
                      case measure => simp [intOf]; omega
                    | false =>
                      have h1' : (a.o != 1) = true := by simpa using h1
                      have b6 := ((HYa.out.set_ 4 (.int .i64 (A0 + 1))).set_ 5 (.int .i64 (L0 + 1)))
                      simp only [List.set_cons_zero, List.set_cons_succ] at b6
                      have HY6 : Hid (Blk ((Wa.setCell ⟨Y, 4, none⟩ (.int .i64 (A0 + 1))).setCell ⟨Y, 5, none⟩ (.int .i64 (L0 + 1))) Y 57 [.int .i64 (n : Int), .int .i64 S.1, .int .i64 S.2.1, .int .i64 S.2.2, .int .i64 (A0 + 1), .int .i64 (L0 + 1)]) := Lib.hid b6
                      have hB6 : Hid (Below W1.heap.size W1 ((Wa.setCell ⟨Y, 4, none⟩ (.int .i64 (A0 + 1))).setCell ⟨Y, 5, none⟩ (.int .i64 (L0 + 1)))) := Lib.hid ((hBa.setCell (p := ⟨Y, 4, none⟩) hYM (.int .i64 (A0 + 1))).setCell (p := ⟨Y, 5, none⟩) hYM (.int .i64 (L0 + 1)))
                      have HN6 : Hid (cntAtt (r.al.take (k + 1)) x = (A0 + 1) ∧ cntLost (r.al.take (k + 1)) x = (L0 + 1)) := Lib.hid (by obtain ⟨e1, e2⟩ := HCt.out; rw [e1, e2]; simp [hc, ho, h1])
                      have fY := HYa.out.frozen
                      clear b6 HYa HCt
                      go_wp2_with fail
                      go_roundw
                      case rel => exact ⟨k + 1, by omega, by go_num, hB6.out, Lib.hid (by rw [HN6.out.1, HN6.out.2]; exact HY6.out)⟩
                      case measure => simp [intOf]; omega
              · have h1 : k = na := by omega
                subst h1
                have hto : r.al.take k = r.al := List.take_of_length_le (by rw [← HNa.out]; exact Nat.le_refl _)
                rw [hto] at HYb
                have hfin : Hid ((Mo.serveF f r).cells = [.int .i64 (n : Int), .int .i64 S.1, .int .i64 S.2.1, .int .i64 S.2.2, .int .i64 (cntAtt r.al x), .int .i64 (cntLost r.al x)]) := Lib.hid (by
                  have hcc := HCN.out
                  unfold Mo.serveF Mo.Sv.cells
                  dsimp only
                  rw [HFx.out, hcc, Int.toNat_natCast, ← HS.out])
                have rY := HYb.out.row
                unfold Row at rY
                clear hlt3 hto
                have b5 := (HW.out _ hb).2.2
                have cb5 := b5.row
                have fb5 := b5.frozen
                unfold Row at cb5
                have b6 := ((((((b5.set_ 0 (.int .i64 (n : Int))).set_ 1 (.int .i64 S.1)).set_ 2 (.int .i64 S.2.1)).set_ 3 (.int .i64 S.2.2)).set_ 4 (.int .i64 (cntAtt r.al x))).set_ 5 (.int .i64 (cntLost r.al x)))
                simp only [List.set_cons_zero, List.set_cons_succ] at b6
                have C6 := Lib.hid b6.row
                have HB6 : Hid (Below w.heap.size w ((((((wr.setCell ⟨N + 1, 0, none⟩ (.int .i64 (n : Int))).setCell ⟨N + 1, 1, none⟩ (.int .i64 S.1)).setCell ⟨N + 1, 2, none⟩ (.int .i64 S.2.1)).setCell ⟨N + 1, 3, none⟩ (.int .i64 S.2.2)).setCell ⟨N + 1, 4, none⟩ (.int .i64 (cntAtt r.al x))).setCell ⟨N + 1, 5, none⟩ (.int .i64 (cntLost r.al x)))) := Lib.hid (((((((HW.out _ hb).1.setCell (p := ⟨N + 1, 0, none⟩) (by dsimp only; have := HN.out; omega) (.int .i64 (n : Int))).setCell (p := ⟨N + 1, 1, none⟩) (by dsimp only; have := HN.out; omega) (.int .i64 S.1)).setCell (p := ⟨N + 1, 2, none⟩) (by dsimp only; have := HN.out; omega) (.int .i64 S.2.1)).setCell (p := ⟨N + 1, 3, none⟩) (by dsimp only; have := HN.out; omega) (.int .i64 S.2.2)).setCell (p := ⟨N + 1, 4, none⟩) (by dsimp only; have := HN.out; omega) (.int .i64 (cntAtt r.al x))).setCell (p := ⟨N + 1, 5, none⟩) (by dsimp only; have := HN.out; omega) (.int .i64 (cntLost r.al x)))
                clear b6
                go_wp2_with fail
                have c6 := C6.out
                unfold Row at c6
                refine bodyPost_ret (v := .tuple #[.agg #[.int .i64 (n : Int), .int .i64 S.1, .int .i64 S.2.1, .int .i64 S.2.2, .int .i64 (cntAtt r.al x), .int .i64 (cntLost r.al x)], .int .i64 0]) (by simp [results, Try.results23, go_sem, c6]) rfl ?_
                exact ⟨HB6.out, by rw [hl.out]; dsimp only; rw [hfin.out]⟩
end Go.Proofs.Ytkdigdnacggknaa
/- Abstract data: records, flows, late frames. -/
namespace Go.Proofs.Ytkdigdnacggknaa
open Go.RowKit
open Nd Rc Mo
open Av
set_option maxRecDepth 100000
set_option linter.unusedSimpArgs false

abbrev iv (n : Int) : AV := .v (.int .i64 n)
abbrev ip (n : Int) : PV := .v (.int .i64 n)
abbrev bv (b : Bool) : AV := .v (.bool b)
def Rc.Att.pv (a : Att) : List PV := [ip a.s, ip a.f, ip a.cs, ip a.co, ip a.cf, ip a.ct, ip a.cl, ip a.o]
def Rc.Dlv.pv (d : Dlv) : List PV := [ip d.fl, ip d.fr, ip d.sl]
def Nd.Fl.pv (f : Fl) : List PV := [ip f.id, ip f.fr, ip f.tn, ip f.pe, ip f.ph, ip f.dl]
def Mo.Lt.pv (x : Lt) : List PV := [ip x.fl, ip x.fr, ip x.sl]
def Rc.Rec.pv (r : Rec) : List PV := [ip r.slots, .sl 8 (r.al.map Att.pv), .sl 3 (r.dl.map Dlv.pv)]
theorem map_pv {α : Type} {f : α → List PV} {g : α → List Value} (h : ∀ x, f x = (g x).map PV.v) (l : List α) : l.map f = (l.map g).map fun row => row.map PV.v := by
  rw [List.map_map]
  exact List.map_congr_left fun x _ => h x
theorem att_pv (l : List Att) : l.map Att.pv = (l.map Att.row).map fun row => row.map PV.v := map_pv (f := Att.pv) (g := Att.row) (fun _ => rfl) l
theorem dlv_pv (l : List Dlv) : l.map Dlv.pv = (l.map Dlv.row).map fun row => row.map PV.v := map_pv (f := Dlv.pv) (g := Dlv.row) (fun _ => rfl) l
theorem fl_pv (l : List Fl) : l.map Fl.pv = (l.map Fl.row).map fun row => row.map PV.v := map_pv (f := Fl.pv) (g := Fl.row) (fun _ => rfl) l
theorem lt_pv (l : List Lt) : l.map Lt.pv = (l.map Lt.row).map fun row => row.map PV.v := map_pv (f := Lt.pv) (g := Lt.row) (fun _ => rfl) l
theorem rec_rep {w : World} {R : Reader} {bx : Nat → Nat} {r : Rec} {u : Value} (hR : ∀ p v, R p = some v → w.cell? p = some v) (h : RepA R bx (.agg r.pv) u) :
    ∃ A D ca cd, u = .agg #[.int .i64 r.slots, .slice A r.al.length ca, .slice D r.dl.length cd] ∧ LiesA w w.heap.size A r.al ∧ LiesD w w.heap.size D r.dl := by
  obtain ⟨us, rfl, h⟩ := h
  cases h with
  | cons h1 h =>
    cases h with
    | cons h2 h =>
      cases h with
      | cons h3 h =>
        cases h
        cases h1
        rw [att_pv] at h2
        rw [dlv_pv] at h3
        obtain ⟨A, ca, rfl, hA⟩ := lies_of_rep hR (by decide) h2
        obtain ⟨D, cd, rfl, hD⟩ := lies_of_rep hR (by decide) h3
        rw [List.length_map, List.length_map]
        exact ⟨A, D, ca, cd, rfl, hA, hD⟩
theorem fls_rep {w : World} {R : Reader} {bx : Nat → Nat} {fs : List Fl} {u : Value} (hR : ∀ p v, R p = some v → w.cell? p = some v) (h : RepA R bx (.sl 6 (fs.map Fl.pv)) u) :
    ∃ A c, u = .slice A fs.length c ∧ Lies w w.heap.size 6 A (fs.map Fl.row) := by
  have h' : RepP R (.sl 6 (fs.map Fl.pv)) u := h
  rw [fl_pv] at h'
  obtain ⟨A, c, rfl, hA⟩ := lies_of_rep hR (by decide) h'
  rw [List.length_map]
  exact ⟨A, c, rfl, hA⟩
/-- A result that is a value, or values. -/
theorem res_v {R : Reader} {w w' : World} {x : Value} : ResRep R w w' ⟨.v x, none⟩ x := ⟨rfl, rfl⟩
theorem res_rows {R : Reader} {w w' : World} {e : TypeId} {sz : Nat} {v : Value} {xs : List (List Value)} {n : Int} (hs : 0 < sz) (h : w'.ownsRow w.heap.size e sz v xs.length xs.flatten) (hl : ∀ row ∈ xs, row.length = sz) (h1 : ∀ row ∈ xs, ∀ x ∈ row, x.oneCell' = true) :
    ResRep R w w' ⟨.tup [.c (.sl sz (xs.map fun row => row.map PV.v)), .c (ip n)], none⟩ (.tuple #[v, .int .i64 n]) := by
  obtain ⟨q, _, h2⟩ := owns_rep (R := R) hs h hl h1
  have h3 := h2 none (.inl rfl)
  refine ⟨rfl, [v, .int .i64 n], rfl, .cons (.c (h3.mono fun p y hp => ?_)) (.cons (.c (.v _ rfl)) .nil)⟩
  unfold fresh at hp ⊢
  split at hp
  · rename_i hb; rw [if_pos hb]; exact hp
  · rename_i hb
    rw [if_neg hb, if_neg (by rintro ⟨h4, _⟩; cases h4)]
    split at hp
    · cases hp
    · exact hp
end Go.Proofs.Ytkdigdnacggknaa
/- Sizes and zero values of types. -/
namespace Go.Proofs.Ytkdigdnacggknaa
open Go.RowKit
open Nd Rc Mo
open Av
set_option maxRecDepth 100000
set_option linter.unusedSimpArgs false
theorem all_arr {α : Type} {l : List α} {p : α → Bool} {n : Nat} (h : n = l.length) : l.toArray.all p 0 n = l.all p := by subst h; simp
theorem loc_ss (a b : Nat) : (Loc.s a == Loc.s b) = (a == b) := by rw [Bool.eq_iff_iff, beq_iff_eq, beq_iff_eq, Loc.s.injEq]
theorem loc_sb (a b c : Nat) : (Loc.s a == Loc.b b c) = false := by rw [beq_eq_false_iff_ne]; exact fun h => by cases h
theorem loc_bs (a b c : Nat) : (Loc.b b c == Loc.s a) = false := by rw [beq_eq_false_iff_ne]; exact fun h => by cases h
theorem loc_bb (a b c d : Nat) : (Loc.b a b == Loc.b c d) = (a == c && b == d) := by rw [Bool.eq_iff_iff, Bool.and_eq_true, beq_iff_eq, beq_iff_eq, beq_iff_eq, Loc.b.injEq]
theorem arr_two {α : Type} (a b c : α) : ((#[a, b] : Array α) = #[c]) = False := eq_false fun h => by have := congrArg Array.size h; simp at this
theorem rg1 : List.range 1 = [0] := by decide
theorem rg2 : List.range 2 = [0, 1] := by decide
theorem rg3 : List.range 3 = [0, 1, 2] := by decide
theorem rg4 : List.range 4 = [0, 1, 2, 3] := by decide
theorem rg5 : List.range 5 = [0, 1, 2, 3, 4] := by decide
theorem rg6 : List.range 6 = [0, 1, 2, 3, 4, 5] := by decide
theorem rg7 : List.range 7 = [0, 1, 2, 3, 4, 5, 6] := by decide
theorem rg8 : List.range 8 = [0, 1, 2, 3, 4, 5, 6, 7] := by decide
theorem arr_one {α : Type} (a b : α) : ((#[a] : Array α) = #[b]) = (a = b) := by simp
theorem Try.sz3 : (Try.prog.info? 3).map (·.size) = some 1 := by kernel_rfl
theorem Try.zr3 : (Try.prog.info? 3).map (·.zero) = some (some (.int .i64 0)) := by kernel_rfl
theorem Try.pl3 (k : Nat) : (Try.prog.info? 3).map (fun t => (k, t.size)) = some (k, 1) := by
  have h := Try.sz3
  cases hi : Try.prog.info? 3 with
  | none => rw [hi] at h; cases h
  | some i => rw [hi] at h; simp only [Option.map_some, Option.some.injEq] at h ⊢; rw [h]
theorem Try.is3 : (Try.prog.info? 3).isSome = true := by kernel_rfl
theorem Try.by3 : (Try.prog.info? 3).map (fun j => decide (j.bytes ≤ 1000000)) = some true := by kernel_rfl
theorem Try.sz4 : (Try.prog.info? 4).map (·.size) = some 1 := by kernel_rfl
theorem Try.zr4 : (Try.prog.info? 4).map (·.zero) = some (some (.bool false)) := by kernel_rfl
theorem Try.pl4 (k : Nat) : (Try.prog.info? 4).map (fun t => (k, t.size)) = some (k, 1) := by
  have h := Try.sz4
  cases hi : Try.prog.info? 4 with
  | none => rw [hi] at h; cases h
  | some i => rw [hi] at h; simp only [Option.map_some, Option.some.injEq] at h ⊢; rw [h]
theorem Try.is4 : (Try.prog.info? 4).isSome = true := by kernel_rfl
theorem Try.by4 : (Try.prog.info? 4).map (fun j => decide (j.bytes ≤ 1000000)) = some true := by kernel_rfl
theorem Try.sz32 : (Try.prog.info? 32).map (·.size) = some 1 := by kernel_rfl
theorem Try.zr32 : (Try.prog.info? 32).map (·.zero) = some (some (.int .i64 0)) := by kernel_rfl
theorem Try.pl32 (k : Nat) : (Try.prog.info? 32).map (fun t => (k, t.size)) = some (k, 1) := by
  have h := Try.sz32
  cases hi : Try.prog.info? 32 with
  | none => rw [hi] at h; cases h
  | some i => rw [hi] at h; simp only [Option.map_some, Option.some.injEq] at h ⊢; rw [h]
theorem Try.is32 : (Try.prog.info? 32).isSome = true := by kernel_rfl
theorem Try.by32 : (Try.prog.info? 32).map (fun j => decide (j.bytes ≤ 1000000)) = some true := by kernel_rfl
theorem Try.sz28 : (Try.prog.info? 28).map (·.size) = some 3 := by kernel_rfl
theorem Try.zr28 : (Try.prog.info? 28).map (·.zero) = some (some (.agg #[.int .i64 0, .slice none 0 0, .slice none 0 0])) := by kernel_rfl
theorem Try.pl28 (k : Nat) : (Try.prog.info? 28).map (fun t => (k, t.size)) = some (k, 3) := by
  have h := Try.sz28
  cases hi : Try.prog.info? 28 with
  | none => rw [hi] at h; cases h
  | some i => rw [hi] at h; simp only [Option.map_some, Option.some.injEq] at h ⊢; rw [h]
theorem Try.is28 : (Try.prog.info? 28).isSome = true := by kernel_rfl
theorem Try.by28 : (Try.prog.info? 28).map (fun j => decide (j.bytes ≤ 1000000)) = some true := by kernel_rfl
theorem Try.sz26 : (Try.prog.info? 26).map (·.size) = some 2 := by kernel_rfl
theorem Try.zr26 : (Try.prog.info? 26).map (·.zero) = some (some (.agg #[.slice none 0 0, .slice none 0 0])) := by kernel_rfl
theorem Try.pl26 (k : Nat) : (Try.prog.info? 26).map (fun t => (k, t.size)) = some (k, 2) := by
  have h := Try.sz26
  cases hi : Try.prog.info? 26 with
  | none => rw [hi] at h; cases h
  | some i => rw [hi] at h; simp only [Option.map_some, Option.some.injEq] at h ⊢; rw [h]
theorem Try.is26 : (Try.prog.info? 26).isSome = true := by kernel_rfl
theorem Try.by26 : (Try.prog.info? 26).map (fun j => decide (j.bytes ≤ 1000000)) = some true := by kernel_rfl
theorem Try.sz37 : (Try.prog.info? 37).map (·.size) = some 6 := by kernel_rfl
theorem Try.zr37 : (Try.prog.info? 37).map (·.zero) = some (some (.agg #[.int .i64 0, .int .i64 0, .int .i64 0, .int .i64 0, .int .i64 0, .int .i64 0])) := by kernel_rfl
theorem Try.pl37 (k : Nat) : (Try.prog.info? 37).map (fun t => (k, t.size)) = some (k, 6) := by
  have h := Try.sz37
  cases hi : Try.prog.info? 37 with
  | none => rw [hi] at h; cases h
  | some i => rw [hi] at h; simp only [Option.map_some, Option.some.injEq] at h ⊢; rw [h]
theorem Try.is37 : (Try.prog.info? 37).isSome = true := by kernel_rfl
theorem Try.by37 : (Try.prog.info? 37).map (fun j => decide (j.bytes ≤ 1000000)) = some true := by kernel_rfl
theorem Try.sz68 : (Try.prog.info? 68).map (·.size) = some 3 := by kernel_rfl
theorem Try.zr68 : (Try.prog.info? 68).map (·.zero) = some (some (.agg #[.int .i64 0, .int .i64 0, .int .i64 0])) := by kernel_rfl
theorem Try.pl68 (k : Nat) : (Try.prog.info? 68).map (fun t => (k, t.size)) = some (k, 3) := by
  have h := Try.sz68
  cases hi : Try.prog.info? 68 with
  | none => rw [hi] at h; cases h
  | some i => rw [hi] at h; simp only [Option.map_some, Option.some.injEq] at h ⊢; rw [h]
theorem Try.is68 : (Try.prog.info? 68).isSome = true := by kernel_rfl
theorem Try.by68 : (Try.prog.info? 68).map (fun j => decide (j.bytes ≤ 1000000)) = some true := by kernel_rfl
theorem Try.sz57 : (Try.prog.info? 57).map (·.size) = some 6 := by kernel_rfl
theorem Try.zr57 : (Try.prog.info? 57).map (·.zero) = some (some (.agg #[.int .i64 0, .int .i64 0, .int .i64 0, .int .i64 0, .int .i64 0, .int .i64 0])) := by kernel_rfl
theorem Try.pl57 (k : Nat) : (Try.prog.info? 57).map (fun t => (k, t.size)) = some (k, 6) := by
  have h := Try.sz57
  cases hi : Try.prog.info? 57 with
  | none => rw [hi] at h; cases h
  | some i => rw [hi] at h; simp only [Option.map_some, Option.some.injEq] at h ⊢; rw [h]
theorem Try.is57 : (Try.prog.info? 57).isSome = true := by kernel_rfl
theorem Try.by57 : (Try.prog.info? 57).map (fun j => decide (j.bytes ≤ 1000000)) = some true := by kernel_rfl
theorem Try.sz70 : (Try.prog.info? 70).map (·.size) = some 5 := by kernel_rfl
theorem Try.zr70 : (Try.prog.info? 70).map (·.zero) = some (some (.agg #[.int .i64 0, .int .i64 0, .int .i64 0, .int .i64 0, .slice none 0 0])) := by kernel_rfl
theorem Try.pl70 (k : Nat) : (Try.prog.info? 70).map (fun t => (k, t.size)) = some (k, 5) := by
  have h := Try.sz70
  cases hi : Try.prog.info? 70 with
  | none => rw [hi] at h; cases h
  | some i => rw [hi] at h; simp only [Option.map_some, Option.some.injEq] at h ⊢; rw [h]
theorem Try.is70 : (Try.prog.info? 70).isSome = true := by kernel_rfl
theorem Try.by70 : (Try.prog.info? 70).map (fun j => decide (j.bytes ≤ 1000000)) = some true := by kernel_rfl
theorem Try.sz54 : (Try.prog.info? 54).map (·.size) = some 3 := by kernel_rfl
theorem Try.zr54 : (Try.prog.info? 54).map (·.zero) = some (some (.agg #[.int .i64 0, .int .i64 0, .int .i64 0])) := by kernel_rfl
theorem Try.pl54 (k : Nat) : (Try.prog.info? 54).map (fun t => (k, t.size)) = some (k, 3) := by
  have h := Try.sz54
  cases hi : Try.prog.info? 54 with
  | none => rw [hi] at h; cases h
  | some i => rw [hi] at h; simp only [Option.map_some, Option.some.injEq] at h ⊢; rw [h]
theorem Try.is54 : (Try.prog.info? 54).isSome = true := by kernel_rfl
theorem Try.by54 : (Try.prog.info? 54).map (fun j => decide (j.bytes ≤ 1000000)) = some true := by kernel_rfl
theorem Try.sz66 : (Try.prog.info? 66).map (·.size) = some 8 := by kernel_rfl
theorem Try.zr66 : (Try.prog.info? 66).map (·.zero) = some (some (.agg #[.int .i64 0, .int .i64 0, .int .i64 0, .int .i64 0, .int .i64 0, .int .i64 0, .int .i64 0, .int .i64 0])) := by kernel_rfl
theorem Try.pl66 (k : Nat) : (Try.prog.info? 66).map (fun t => (k, t.size)) = some (k, 8) := by
  have h := Try.sz66
  cases hi : Try.prog.info? 66 with
  | none => rw [hi] at h; cases h
  | some i => rw [hi] at h; simp only [Option.map_some, Option.some.injEq] at h ⊢; rw [h]
theorem Try.is66 : (Try.prog.info? 66).isSome = true := by kernel_rfl
theorem Try.by66 : (Try.prog.info? 66).map (fun j => decide (j.bytes ≤ 1000000)) = some true := by kernel_rfl
theorem Try.sz64 : (Try.prog.info? 64).map (·.size) = some 5 := by kernel_rfl
theorem Try.zr64 : (Try.prog.info? 64).map (·.zero) = some (some (.agg #[.int .i64 0, .int .i64 0, .int .i64 0, .int .i64 0, .int .i64 0])) := by kernel_rfl
theorem Try.pl64 (k : Nat) : (Try.prog.info? 64).map (fun t => (k, t.size)) = some (k, 5) := by
  have h := Try.sz64
  cases hi : Try.prog.info? 64 with
  | none => rw [hi] at h; cases h
  | some i => rw [hi] at h; simp only [Option.map_some, Option.some.injEq] at h ⊢; rw [h]
theorem Try.is64 : (Try.prog.info? 64).isSome = true := by kernel_rfl
theorem Try.by64 : (Try.prog.info? 64).map (fun j => decide (j.bytes ≤ 1000000)) = some true := by kernel_rfl
theorem Try.sz73 : (Try.prog.info? 73).map (·.size) = some 3 := by kernel_rfl
theorem Try.zr73 : (Try.prog.info? 73).map (·.zero) = some (some (.agg #[.int .i64 0, .int .i64 0, .int .i64 0])) := by kernel_rfl
theorem Try.pl73 (k : Nat) : (Try.prog.info? 73).map (fun t => (k, t.size)) = some (k, 3) := by
  have h := Try.sz73
  cases hi : Try.prog.info? 73 with
  | none => rw [hi] at h; cases h
  | some i => rw [hi] at h; simp only [Option.map_some, Option.some.injEq] at h ⊢; rw [h]
theorem Try.is73 : (Try.prog.info? 73).isSome = true := by kernel_rfl
theorem Try.by73 : (Try.prog.info? 73).map (fun j => decide (j.bytes ≤ 1000000)) = some true := by kernel_rfl
theorem Try.sz102 : (Try.prog.info? 102).map (·.size) = some 2 := by kernel_rfl
theorem Try.zr102 : (Try.prog.info? 102).map (·.zero) = some (some (.agg #[.int .i64 0, .int .i64 0])) := by kernel_rfl
theorem Try.pl102 (k : Nat) : (Try.prog.info? 102).map (fun t => (k, t.size)) = some (k, 2) := by
  have h := Try.sz102
  cases hi : Try.prog.info? 102 with
  | none => rw [hi] at h; cases h
  | some i => rw [hi] at h; simp only [Option.map_some, Option.some.injEq] at h ⊢; rw [h]
theorem Try.is102 : (Try.prog.info? 102).isSome = true := by kernel_rfl
theorem Try.by102 : (Try.prog.info? 102).map (fun j => decide (j.bytes ≤ 1000000)) = some true := by kernel_rfl
theorem Try.sz105 : (Try.prog.info? 105).map (·.size) = some 4 := by kernel_rfl
theorem Try.zr105 : (Try.prog.info? 105).map (·.zero) = some (some (.agg #[.int .i64 0, .int .i64 0, .int .i64 0, .int .i64 0])) := by kernel_rfl
theorem Try.pl105 (k : Nat) : (Try.prog.info? 105).map (fun t => (k, t.size)) = some (k, 4) := by
  have h := Try.sz105
  cases hi : Try.prog.info? 105 with
  | none => rw [hi] at h; cases h
  | some i => rw [hi] at h; simp only [Option.map_some, Option.some.injEq] at h ⊢; rw [h]
theorem Try.is105 : (Try.prog.info? 105).isSome = true := by kernel_rfl
theorem Try.by105 : (Try.prog.info? 105).map (fun j => decide (j.bytes ≤ 1000000)) = some true := by kernel_rfl
theorem Try.sz44 : (Try.prog.info? 44).map (·.size) = some 6 := by kernel_rfl
theorem Try.zr44 : (Try.prog.info? 44).map (·.zero) = some (some (.agg #[.int .i64 0, .slice none 0 0, .int .i64 0, .int .i64 0, .slice none 0 0, .slice none 0 0])) := by kernel_rfl
theorem Try.pl44 (k : Nat) : (Try.prog.info? 44).map (fun t => (k, t.size)) = some (k, 6) := by
  have h := Try.sz44
  cases hi : Try.prog.info? 44 with
  | none => rw [hi] at h; cases h
  | some i => rw [hi] at h; simp only [Option.map_some, Option.some.injEq] at h ⊢; rw [h]
theorem Try.is44 : (Try.prog.info? 44).isSome = true := by kernel_rfl
theorem Try.by44 : (Try.prog.info? 44).map (fun j => decide (j.bytes ≤ 1000000)) = some true := by kernel_rfl
theorem Try.sz22 : (Try.prog.info? 22).map (·.size) = some 1 := by kernel_rfl
theorem Try.zr22 : (Try.prog.info? 22).map (·.zero) = some (some (.slice none 0 0)) := by kernel_rfl
theorem Try.pl22 (k : Nat) : (Try.prog.info? 22).map (fun t => (k, t.size)) = some (k, 1) := by
  have h := Try.sz22
  cases hi : Try.prog.info? 22 with
  | none => rw [hi] at h; cases h
  | some i => rw [hi] at h; simp only [Option.map_some, Option.some.injEq] at h ⊢; rw [h]
theorem Try.is22 : (Try.prog.info? 22).isSome = true := by kernel_rfl
theorem Try.by22 : (Try.prog.info? 22).map (fun j => decide (j.bytes ≤ 1000000)) = some true := by kernel_rfl
theorem Try.sz31 : (Try.prog.info? 31).map (·.size) = some 1 := by kernel_rfl
theorem Try.zr31 : (Try.prog.info? 31).map (·.zero) = some (some (.slice none 0 0)) := by kernel_rfl
theorem Try.pl31 (k : Nat) : (Try.prog.info? 31).map (fun t => (k, t.size)) = some (k, 1) := by
  have h := Try.sz31
  cases hi : Try.prog.info? 31 with
  | none => rw [hi] at h; cases h
  | some i => rw [hi] at h; simp only [Option.map_some, Option.some.injEq] at h ⊢; rw [h]
theorem Try.is31 : (Try.prog.info? 31).isSome = true := by kernel_rfl
theorem Try.by31 : (Try.prog.info? 31).map (fun j => decide (j.bytes ≤ 1000000)) = some true := by kernel_rfl
theorem Try.sz23 : (Try.prog.info? 23).map (·.size) = some 1 := by kernel_rfl
theorem Try.zr23 : (Try.prog.info? 23).map (·.zero) = some (some (.slice none 0 0)) := by kernel_rfl
theorem Try.pl23 (k : Nat) : (Try.prog.info? 23).map (fun t => (k, t.size)) = some (k, 1) := by
  have h := Try.sz23
  cases hi : Try.prog.info? 23 with
  | none => rw [hi] at h; cases h
  | some i => rw [hi] at h; simp only [Option.map_some, Option.some.injEq] at h ⊢; rw [h]
theorem Try.is23 : (Try.prog.info? 23).isSome = true := by kernel_rfl
theorem Try.by23 : (Try.prog.info? 23).map (fun j => decide (j.bytes ≤ 1000000)) = some true := by kernel_rfl
theorem Try.sz24 : (Try.prog.info? 24).map (·.size) = some 1 := by kernel_rfl
theorem Try.zr24 : (Try.prog.info? 24).map (·.zero) = some (some (.slice none 0 0)) := by kernel_rfl
theorem Try.pl24 (k : Nat) : (Try.prog.info? 24).map (fun t => (k, t.size)) = some (k, 1) := by
  have h := Try.sz24
  cases hi : Try.prog.info? 24 with
  | none => rw [hi] at h; cases h
  | some i => rw [hi] at h; simp only [Option.map_some, Option.some.injEq] at h ⊢; rw [h]
theorem Try.is24 : (Try.prog.info? 24).isSome = true := by kernel_rfl
theorem Try.by24 : (Try.prog.info? 24).map (fun j => decide (j.bytes ≤ 1000000)) = some true := by kernel_rfl
theorem Try.sz46 : (Try.prog.info? 46).map (·.size) = some 1 := by kernel_rfl
theorem Try.zr46 : (Try.prog.info? 46).map (·.zero) = some (some (.slice none 0 0)) := by kernel_rfl
theorem Try.pl46 (k : Nat) : (Try.prog.info? 46).map (fun t => (k, t.size)) = some (k, 1) := by
  have h := Try.sz46
  cases hi : Try.prog.info? 46 with
  | none => rw [hi] at h; cases h
  | some i => rw [hi] at h; simp only [Option.map_some, Option.some.injEq] at h ⊢; rw [h]
theorem Try.is46 : (Try.prog.info? 46).isSome = true := by kernel_rfl
theorem Try.by46 : (Try.prog.info? 46).map (fun j => decide (j.bytes ≤ 1000000)) = some true := by kernel_rfl
theorem Try.sz41 : (Try.prog.info? 41).map (·.size) = some 1 := by kernel_rfl
theorem Try.zr41 : (Try.prog.info? 41).map (·.zero) = some (some (.slice none 0 0)) := by kernel_rfl
theorem Try.pl41 (k : Nat) : (Try.prog.info? 41).map (fun t => (k, t.size)) = some (k, 1) := by
  have h := Try.sz41
  cases hi : Try.prog.info? 41 with
  | none => rw [hi] at h; cases h
  | some i => rw [hi] at h; simp only [Option.map_some, Option.some.injEq] at h ⊢; rw [h]
theorem Try.is41 : (Try.prog.info? 41).isSome = true := by kernel_rfl
theorem Try.by41 : (Try.prog.info? 41).map (fun j => decide (j.bytes ≤ 1000000)) = some true := by kernel_rfl
theorem Try.sz42 : (Try.prog.info? 42).map (·.size) = some 1 := by kernel_rfl
theorem Try.zr42 : (Try.prog.info? 42).map (·.zero) = some (some (.slice none 0 0)) := by kernel_rfl
theorem Try.pl42 (k : Nat) : (Try.prog.info? 42).map (fun t => (k, t.size)) = some (k, 1) := by
  have h := Try.sz42
  cases hi : Try.prog.info? 42 with
  | none => rw [hi] at h; cases h
  | some i => rw [hi] at h; simp only [Option.map_some, Option.some.injEq] at h ⊢; rw [h]
theorem Try.is42 : (Try.prog.info? 42).isSome = true := by kernel_rfl
theorem Try.by42 : (Try.prog.info? 42).map (fun j => decide (j.bytes ≤ 1000000)) = some true := by kernel_rfl
theorem Try.sz40 : (Try.prog.info? 40).map (·.size) = some 1 := by kernel_rfl
theorem Try.zr40 : (Try.prog.info? 40).map (·.zero) = some (some (.slice none 0 0)) := by kernel_rfl
theorem Try.pl40 (k : Nat) : (Try.prog.info? 40).map (fun t => (k, t.size)) = some (k, 1) := by
  have h := Try.sz40
  cases hi : Try.prog.info? 40 with
  | none => rw [hi] at h; cases h
  | some i => rw [hi] at h; simp only [Option.map_some, Option.some.injEq] at h ⊢; rw [h]
theorem Try.is40 : (Try.prog.info? 40).isSome = true := by kernel_rfl
theorem Try.by40 : (Try.prog.info? 40).map (fun j => decide (j.bytes ≤ 1000000)) = some true := by kernel_rfl
theorem Try.it68 : Av.intT Try.prog 8 68 = some 3 := by kernel_rfl
theorem Try.eg68 : Try.prog.eqGuardType Try.prog.depth 68 = false := by kernel_rfl
theorem Try.it54 : Av.intT Try.prog 8 54 = some 3 := by kernel_rfl
theorem Try.eg54 : Try.prog.eqGuardType Try.prog.depth 54 = false := by kernel_rfl
theorem Try.it66 : Av.intT Try.prog 8 66 = some 8 := by kernel_rfl
theorem Try.eg66 : Try.prog.eqGuardType Try.prog.depth 66 = false := by kernel_rfl
theorem Try.it57 : Av.intT Try.prog 8 57 = some 6 := by kernel_rfl
theorem Try.eg57 : Try.prog.eqGuardType Try.prog.depth 57 = false := by kernel_rfl
theorem Try.it37 : Av.intT Try.prog 8 37 = some 6 := by kernel_rfl
theorem Try.eg37 : Try.prog.eqGuardType Try.prog.depth 37 = false := by kernel_rfl
theorem Try.it73 : Av.intT Try.prog 8 73 = some 3 := by kernel_rfl
theorem Try.eg73 : Try.prog.eqGuardType Try.prog.depth 73 = false := by kernel_rfl
end Go.Proofs.Ytkdigdnacggknaa
/- Contracts that were proved over memory, lifted: flows, records, the monitor. -/
namespace Go.Proofs.Ytkdigdnacggknaa
open Go.RowKit
open Nd Rc Mo
open Av
set_option maxRecDepth 100000
set_option linter.unusedSimpArgs false

theorem late_ok (fs : List Fl) (r : Rec) (hf : fs.length ≤ 1000000) (hla : r.al.length ≤ 1000000) (hld : r.dl.length ≤ 1000000) : FnOK Try.prog 11 [.sl 6 (fs.map Fl.pv), .agg r.pv] ⟨.tup [.c (.sl 3 ((late fs r).1.map Lt.pv)), .c (ip (late fs r).2)], none⟩ := fn_of ⟨Try.f11, _, Try.func11, by kernel_rfl, rfl⟩ fun w R hR us hus => by
  cases hus with | cons h0 _ hus =>
  cases hus with | cons h1 _ hus =>
  cases hus
  obtain ⟨F, cf, rfl, hF⟩ := fls_rep hR h0
  obtain ⟨A, D, ca, cd, rfl, hA, hD⟩ := rec_rep hR h1
  refine (late_any fs r F A D cf ca cd w hF hf hA hD hla hld).mono ?_
  rintro e w' ⟨hb, v, rfl, hown⟩
  refine ⟨_, rfl, hb, ?_⟩
  rw [lt_pv]
  rw [List.flatMap_def, ← List.length_map (f := Lt.row)] at hown
  exact res_rows (by decide) hown (fun row hr => by obtain ⟨x, _, rfl⟩ := List.mem_map.1 hr; rfl) (fun row hr x hx => by obtain ⟨y, _, rfl⟩ := List.mem_map.1 hr; simp only [Lt.row, List.mem_cons, List.not_mem_nil, or_false] at hx; rcases hx with rfl | rfl | rfl <;> rfl)

theorem stray_ok (fs : List Fl) (r : Rec) (hf : fs.length ≤ 1000000) (hla : r.al.length ≤ 1000000) (hld : r.dl.length ≤ 1000000) : FnOK Try.prog 25 [.sl 6 (fs.map Fl.pv), .agg r.pv] ⟨.tup [.c (.sl 8 ((stray fs r).1.map Att.pv)), .c (ip (stray fs r).2)], none⟩ := fn_of ⟨Try.f25, _, Try.func25, by kernel_rfl, rfl⟩ fun w R hR us hus => by
  cases hus with | cons h0 _ hus =>
  cases hus with | cons h1 _ hus =>
  cases hus
  obtain ⟨F, cf, rfl, hF⟩ := fls_rep hR h0
  obtain ⟨A, D, ca, cd, rfl, hA, hD⟩ := rec_rep hR h1
  refine (stray_any fs r F A D cf ca cd w hF hf hA hD hla hld).mono ?_
  rintro e w' ⟨hb, v, rfl, hown⟩
  refine ⟨_, rfl, hb, ?_⟩
  rw [att_pv]
  rw [List.flatMap_def, ← List.length_map (f := Att.row)] at hown
  exact res_rows (by decide) hown (fun row hr => by obtain ⟨x, _, rfl⟩ := List.mem_map.1 hr; rfl) (fun row hr x hx => by obtain ⟨y, _, rfl⟩ := List.mem_map.1 hr; simp only [Att.row, List.mem_cons, List.not_mem_nil, or_false] at hx; rcases hx with rfl | rfl | rfl | rfl | rfl | rfl | rfl | rfl <;> rfl)

theorem twice_ok (r : Rec) (hla : r.al.length ≤ 1000000) (hld : r.dl.length ≤ 1000000) : FnOK Try.prog 19 [.agg r.pv] ⟨.tup [.c (.sl 3 ((twice r).1.map Dlv.pv)), .c (ip (twice r).2)], none⟩ := fn_of ⟨Try.f19, _, Try.func19, by kernel_rfl, rfl⟩ fun w R hR us hus => by
  cases hus with | cons h0 _ hus =>
  cases hus
  obtain ⟨A, D, ca, cd, rfl, hA, hD⟩ := rec_rep hR h0
  refine (twice_any r A D ca cd w hA hD hla hld).mono ?_
  rintro e w' ⟨hb, v, rfl, hown⟩
  refine ⟨_, rfl, hb, ?_⟩
  rw [dlv_pv]
  rw [List.flatMap_def, ← List.length_map (f := Dlv.row)] at hown
  exact res_rows (by decide) hown (fun row hr => by obtain ⟨x, _, rfl⟩ := List.mem_map.1 hr; rfl) (fun row hr x hx => by obtain ⟨y, _, rfl⟩ := List.mem_map.1 hr; simp only [Dlv.row, List.mem_cons, List.not_mem_nil, or_false] at hx; rcases hx with rfl | rfl | rfl <;> rfl)

def Mo.Sv.pv (s : Sv) : List PV := [ip s.fr, ip s.late, ip s.least, ip s.most, ip s.att, ip s.lost]

theorem serve_ok (fs : List Fl) (r : Rec) (x : Int) (hf : fs.length ≤ 1000000) (hla : r.al.length ≤ 1000000) (hld : r.dl.length ≤ 1000000) : FnOK Try.prog 23 [.sl 6 (fs.map Fl.pv), .agg r.pv, iv x] ⟨.tup [.g (Mo.serve fs r x).1.pv, .c (ip (Mo.serve fs r x).2)], none⟩ := fn_of ⟨Try.f23, _, Try.func23, by kernel_rfl, rfl⟩ fun w R hR us hus => by
  cases hus with | cons h0 _ hus =>
  cases hus with | cons h1 _ hus =>
  cases hus with | cons h2 _ hus =>
  cases hus
  obtain ⟨F, cf, rfl, hF⟩ := fls_rep hR h0
  obtain ⟨A, D, ca, cd, rfl, hA, hD⟩ := rec_rep hR h1
  rw [h2]
  refine (serve_any fs r x F A D cf ca cd w hF hf hA hD hla hld).mono ?_
  rintro e w' ⟨hb, rfl⟩
  refine ⟨_, rfl, hb, rfl, _, rfl, .cons (.g ?_) (.cons (.c (.v _ rfl)) .nil)⟩
  exact .cons (.v _ rfl) (.cons (.v _ rfl) (.cons (.v _ rfl) (.cons (.v _ rfl) (.cons (.v _ rfl) (.cons (.v _ rfl) .nil)))))

theorem check_ok (r : Rec) (hla : r.al.length ≤ 1000000) (hld : r.dl.length ≤ 1000000) : FnOK Try.prog 50 [.agg r.pv] ⟨iv (checkE r), none⟩ := fn_of ⟨Try.f50, _, Try.func50, by kernel_rfl, rfl⟩ fun w R hR us hus => by
  cases hus with | cons h0 _ hus =>
  cases hus
  obtain ⟨A, D, ca, cd, rfl, hA, hD⟩ := rec_rep hR h0
  refine (check_any r A D ca cd w hA hD (by omega) (by omega)).mono ?_
  rintro e w' ⟨rfl, hb⟩
  exact ⟨_, rfl, hb, res_v⟩

end Go.Proofs.Ytkdigdnacggknaa
/- Abstract states: what else a frame holds: how it changes; operations by hand. Generic. -/
namespace Go.Proofs.Ytkdigdnacggknaa
open Go.RowKit
namespace Av

/-- From w to w1 only blocks of E0 have changed, and new ones have come; E holds there, of E0's blocks and new ones. -/
structure Turn (E0 : Ext) (w w1 : World) (E : Ext) : Prop where
  os : w1.os = w.os
  tape : w1.tape = w.tape
  output : w1.output = w.output
  size : w.heap.size ≤ w1.heap.size
  block : ∀ k, k < w.heap.size → ¬ E0.foot k → w1.heap[k]? = w.heap[k]?
  holds : E.holds w1
  foot : ∀ b, E.foot b → E0.foot b ∨ (w.heap.size ≤ b ∧ b < w1.heap.size)
  froz : ∀ b, E.froz b → E0.foot b ∨ E0.froz b ∨ (w.heap.size ≤ b ∧ b < w1.heap.size)
  laid : ∀ w0, E0.laid w0 → E.laid w0 := by intros; repeat' (first | assumption | trivial | constructor)
  reads : ∀ R, E0.reads R → E.reads R := by intros; repeat' (first | assumption | trivial | constructor)
theorem Turn.same {E0 E : Ext} {w : World} (h : E.holds w) (hf : ∀ b, E.foot b → E0.foot b) (hz : ∀ b, E.froz b → E0.foot b ∨ E0.froz b) (hl : ∀ w0, E0.laid w0 → E.laid w0 := by intros; repeat' (first | assumption | trivial | constructor)) (hrd : ∀ R, E0.reads R → E.reads R := by intros; repeat' (first | assumption | trivial | constructor)) : Turn E0 w w E := ⟨rfl, rfl, rfl, Nat.le_refl _, fun _ _ _ => rfl, h, fun b hb => .inl (hf b hb), fun b hb => (hz b hb).elim .inl (fun h => .inr (.inl h)), hl, hrd⟩
theorem Turn.below {E0 E : Ext} {w w1 : World} (hb : Below w.heap.size w w1) (h : E.holds w1) (hf : ∀ b, E.foot b → E0.foot b ∨ (w.heap.size ≤ b ∧ b < w1.heap.size)) (hz : ∀ b, E.froz b → E0.foot b ∨ E0.froz b ∨ (w.heap.size ≤ b ∧ b < w1.heap.size)) (hl : ∀ w0, E0.laid w0 → E.laid w0 := by intros; repeat' (first | assumption | trivial | constructor)) (hrd : ∀ R, E0.reads R → E.reads R := by intros; repeat' (first | assumption | trivial | constructor)) : Turn E0 w w1 E := ⟨hb.os, hb.tape, hb.output, hb.size, fun k hk _ => hb.block k hk, h, hf, hz, hl, hrd⟩
section
variable {P : Program} {F : Fr} {σ : St} {γ : Gh} {a : Act} {w w1 : World} {E : Ext}
theorem Rel.turn_le (h : Rel F σ γ a w) (ht : Turn σ.ext w w1 E) : ∀ p v, rdr F.R0 F.w0.heap.size σ γ w p = some v → rdr F.R0 F.w0.heap.size { σ with ext := E } γ w1 p = some v := by
  refine rdr_le fun p v hB hm hc => ?_
  have hlt := Rel.cell_lt hc
  have hne : ¬ σ.ext.foot p.block := fun hx => hm (.inr (.inr hx))
  refine ⟨fun hm' => ?_, (World.cell?_of_block (w := w) (ht.block p.block hlt hne)).trans hc⟩
  rcases hm' with hm' | ⟨L, e, sz, rows, h1, h2, h3, h4⟩ | hx
  · exact hm (.inl hm')
  · exact hm (.inr (.inl ⟨L, e, sz, rows, h1, by cases L <;> exact h2, h3, h4⟩))
  · rcases ht.foot _ hx with h1 | h1
    · exact hne h1
    · omega
/-- What else the frame holds has changed. -/
theorem Rel.turn (h : Rel F σ γ a w) (ht : Turn σ.ext w w1 E) : Rel F { σ with ext := E } γ a w1 := by
  have hle := h.turn_le ht
  have hboxb : ∀ k, (look σ.box k).isSome → w1.heap[γ.bx k]? = w.heap[γ.bx k]? := fun k hk => ht.block _ (h.box_lt hk).1 (fun hx => (h.extf _ (.inl hx)).2.2.1 k hk rfl)
  have hrowb : ∀ L g, (lookL σ.own L).isSome → γ.rw L = some g → w1.heap[g]? = w.heap[g]? := fun L g hL hg => ht.block _ (h.row_lt hL hg).1 (fun hx => (h.extf _ (.inl hx)).2.2.2 L hL hg)
  refine ⟨h.defers, h.size, h.below.trans ⟨ht.os, ht.tape, ht.output, ht.size, fun i hi => ht.block i (Nat.lt_of_lt_of_le hi h.base) (fun hx => by have := (h.extf _ (.inl hx)).1; omega)⟩, h.r0, fun t x hx => ?_, fun k cs hk => ?_, h.boxinj, fun L e sz hL => ?_, h.rowinj, h.rowbox, ht.holds, fun b hb => ?_, h.small, h.dyn, ht.laid _ h.laid, ht.reads _ (σ.ext.rmono hle h.extr)⟩
  · obtain ⟨h1, h2⟩ := h.slots t x hx
    exact ⟨h1.mono hle (fun _ _ => rfl), h2⟩
  · obtain ⟨us, ty, h1, h2, h3⟩ := h.boxes k cs hk
    exact ⟨us, ty, (hboxb k (by rw [show look σ.box k = _ from hk]; rfl)).trans h1, h2, h3.mono hle⟩
  · obtain ⟨rows, v, h1, h2, h3⟩ := h.owns L e sz hL
    have hs : (lookL σ.own L).isSome := by rw [show lookL σ.own L = _ from hL]; rfl
    refine ⟨rows, v, by cases L <;> exact h1, ?_, h3.keep fun g hg => hrowb L g hs hg⟩
    cases L with
    | s t => exact h2
    | b k off =>
      have hk : (look σ.box k).isSome := by
        cases hq : look σ.box k with
        | none => simp [St.avAt, hq] at h1
        | some _ => rfl
      exact (World.cell?_of_block (w := w) (a := ⟨γ.bx k, off, none⟩) (hboxb k hk)).trans h2
  · have hb' : (σ.ext.foot b ∨ σ.ext.froz b) ∨ (w.heap.size ≤ b ∧ b < w1.heap.size) := by
      rcases hb with hb | hb
      · exact (ht.foot b hb).elim (fun h => .inl (.inl h)) .inr
      · exact (ht.froz b hb).elim (fun h => .inl (.inl h)) (fun h => h.elim (fun h => .inl (.inr h)) .inr)
    rcases hb' with h1 | ⟨h1, h2⟩
    · obtain ⟨h3, h4, h5, h6⟩ := h.extf b h1
      exact ⟨h3, Nat.lt_of_lt_of_le h4 ht.size, h5, h6⟩
    · have := h.base
      refine ⟨by omega, h2, fun k hk e => ?_, fun L hL e => ?_⟩
      · have := (h.box_lt hk).1; omega
      · have := (h.row_lt hL e).1; omega
/-- An operation by hand that yields a value. -/
theorem hand_value {n : Nat} {o : Oper} {d : Nat} {K : St → Prop} (hd : o.dst = some d) (hdn : d < n)
    (h : ∀ (F : Fr) (γ : Gh) (a : Act) (w : World), F.n = n → Rel F σ γ a w → ∃ x v w1 E, (execOp a.eval o).run P w = .ok (.value v) w1 ∧ Turn σ.ext w w1 E ∧ RepA (rdr F.R0 F.w0.heap.size { σ with ext := E } γ w1) γ.bx x v ∧ (∀ k ∈ x.refs, (look σ.box k).isSome) ∧ K (({ σ with ext := E } : St).put d x)) : Hand P n σ o K := by
  intro F γ a w hF hr Q
  obtain ⟨x, v, w1, E, hrun, ht, hx, href, hK⟩ := h F γ a w hF hr
  unfold Oper.wp
  rw [hrun]
  show ∃ σ' γ', K σ' ∧ Rel F σ' γ' (a.put o.dst v) w1
  rw [hd]
  exact ⟨_, γ, hK, (hr.turn ht).put (by rw [hF]; exact hdn) hx href⟩
/-- An operation by hand that yields none. -/
theorem hand_skip {n : Nat} {o : Oper} {K : St → Prop} (hd : o.dst = none)
    (h : ∀ (F : Fr) (γ : Gh) (a : Act) (w : World), F.n = n → Rel F σ γ a w → ∃ w1 E, (execOp a.eval o).run P w = .ok .skip w1 ∧ Turn σ.ext w w1 E ∧ K { σ with ext := E }) : Hand P n σ o K := by
  intro F γ a w hF hr Q
  obtain ⟨w1, E, hrun, ht, hK⟩ := h F γ a w hF hr
  unfold Oper.wp
  rw [hrun]
  show ∃ σ' γ', K σ' ∧ Rel F σ' γ' (a.put o.dst undef) w1
  rw [hd]
  exact ⟨_, γ, hK, hr.turn ht⟩
/-- What else the frame holds, said otherwise: some blocks may be set free, and can be read from then on. -/
theorem awp_turn {c : Code} {Q : AX → St → Prop} (h : ∀ w, σ.ext.holds w → E.holds w) (hf : ∀ b, E.foot b → σ.ext.foot b) (hz : ∀ b, E.froz b → σ.ext.foot b ∨ σ.ext.froz b) (hw : AWp P F c Q { σ with ext := E }) (hl : ∀ w0, σ.ext.laid w0 → E.laid w0 := by intros; repeat' (first | assumption | trivial | constructor)) (hrd : ∀ R, σ.ext.reads R → E.reads R := by intros; repeat' (first | assumption | trivial | constructor)) : AWp P F c Q σ := fun γ a w hr =>
  hw γ a w (hr.turn (Turn.same (h w hr.exth) hf hz hl hrd))
/-- A slot's value. -/
theorem Rel.val (h : Rel F σ γ a w) {t : Nat} {v : Value} (ht : look σ.slot t = some (.v v)) : a.tmps.getD t undef = v := (h.slots t _ ht).1
theorem Rel.agg (h : Rel F σ γ a w) {t : Nat} {xs : List PV} (ht : look σ.slot t = some (.agg xs)) : ∃ us, a.tmps.getD t undef = .agg us.toArray ∧ RepL (rdr F.R0 F.w0.heap.size σ γ w) xs us := (h.slots t _ ht).1
theorem rep_ints {R : Reader} : ∀ {xs : List Value} {us : List Value}, RepL R (xs.map PV.v) us → us = xs
  | [], _, h => by cases h; rfl
  | x :: xs, _, h => by
    cases h with
    | cons h1 h2 =>
      cases h1
      rw [rep_ints h2]
end
end Av
end Go.Proofs.Ytkdigdnacggknaa
/- Maps that a call makes, by what they hold at each key. Generic. -/
namespace Go.Proofs.Ytkdigdnacggknaa
open Go.RowKit Go.Maps
open Go.Maps (Keyed)
namespace Av

abbrev MReader := Value → Option (DataW Unit × List MemPlace)
/-- Block b is a map of at most n entries; at a key it holds what reads as G says. -/
def MapIs (w : World) (P : Program) (k : TypeId) (R : MReader) (b n : Nat) (G : Value → Option (DataW Unit)) : Prop :=
  ∃ D, w.ownsMap P k R b n D ∧ IsMap D ∧ ∀ key kl, keyOf P k key = some kl → match G key with | some d => ∀ z, D.atKey kl z = d | none => ∀ z, D.atKey kl z = z
section
variable {P : Program} {k : TypeId} {R : MReader} {b n : Nat} {G : Value → Option (DataW Unit)} {w w' : World}
theorem MapIs.made (w : World) : MapIs (w.alloc (.map #[] 0)) P k R w.heap.size 0 (fun _ => none) :=
  ⟨.map [], World.ownsMap_made w _ _ _, isMap_empty, fun _ _ _ _ => by simp [DataW.atKey]⟩
theorem MapIs.stable (h : MapIs w P k R b n G) (hb : w'.heap[b]? = w.heap[b]?) : MapIs w' P k R b n G := by
  obtain ⟨D, ⟨es, clock, h1, h2⟩, h3⟩ := h
  exact ⟨D, ⟨es, clock, hb.trans h1, h2⟩, h3⟩
theorem MapIs.lt (h : MapIs w P k R b n G) : b < w.heap.size := by
  obtain ⟨D, h1, _⟩ := h
  exact h1.lt
theorem MapIs.mono (h : MapIs w P k R b n G) {n' : Nat} (hn : n ≤ n') : MapIs w P k R b n' G := by
  obtain ⟨D, h1, h2⟩ := h
  exact ⟨D, h1.mono hn, h2⟩
theorem MapIs.look (h : MapIs w P k R b n G) (c : Bool) (K : Keyed P k) {t e : TypeId} (ht : P.underlying t = some (.map k e)) {z : Value} (hz : (zeroValue e).run P w = .ok z w) {key : Value} {kl : Lit} (hkey : keyOf P k key = some kl) :
    (G key = none ∧ (Instr.lookup t (.map (some b)) key c).run P w = .ok (if c then .tuple #[z, .bool false] else z) w) ∨
    ∃ v d ps, G key = some d ∧ R v = some (d, ps) ∧ (Instr.lookup t (.map (some b)) key c).run P w = .ok (if c then .tuple #[v, .bool true] else v) w := by
  obtain ⟨D, ⟨es, clock, hb, F, _, rfl⟩, _, h3⟩ := h
  have h4 := h3 key kl hkey
  rcases fit_look c K ht hz hb F hkey with ⟨hrun, _, hat⟩ | ⟨e0, y, _, _, hrun, hRv, hat, _⟩
  · refine .inl ⟨?_, hrun⟩
    cases hG : G key with
    | none => rfl
    | some d =>
      rw [hG] at h4
      have h5 := (hat (.lit (.bool true))).symm.trans (h4 _)
      have h6 := (hat (.lit (.bool false))).symm.trans (h4 _)
      rw [← h6] at h5
      cases h5
  · refine .inr ?_
    cases hG : G key with
    | none =>
      rw [hG] at h4
      have h5 := (hat (.lit (.bool true))).symm.trans (h4 _)
      have h6 := (hat (.lit (.bool false))).symm.trans (h4 _)
      rw [h5] at h6
      cases h6
    | some d =>
      rw [hG] at h4
      have h5 : y.1 = d := (hat .nil).symm.trans (h4 _)
      exact ⟨e0.val, d, y.2, rfl, by rw [hRv, ← h5], hrun⟩
open Classical in
theorem MapIs.put (h : MapIs w P k R b n G) (K : Keyed P k) {t e : TypeId} (ht : P.underlying t = some (.map k e)) (hn : n < maxLen) {key val : Value} {kl : Lit} {d : DataW Unit} {ps : List MemPlace} (hkey : keyOf P k key = some kl) (hv : R val = some (d, ps)) :
    ∃ w', (Instr.mapUpdate t (.map (some b)) key val).run P w = .ok () w' ∧ MapIs w' P k R b (n + 1) (fun x => if x = key then some d else G x) ∧ w.grownBy w' (some b) := by
  obtain ⟨D, h1, h2, h3⟩ := h
  obtain ⟨w', hrun, r1, r2⟩ := h1.update K ht hn hkey hv
  refine ⟨w', hrun, ⟨_, r1, h2.put _ _, fun x xl hx => ?_⟩, r2⟩
  show match (if x = key then some d else G x) with | some d => ∀ z, _ = d | none => ∀ z, _ = z
  by_cases e : x = key
  · subst e
    have : xl = kl := by rw [hx] at hkey; exact Option.some.inj hkey
    subst this
    rw [if_pos rfl]
    exact fun z => atKey_put_same h2 (K.key hkey) _ _
  · rw [if_neg e]
    have hne : xl ≠ kl := fun e' => e (K.inj hx (by rw [e']; exact hkey))
    have h4 := h3 x xl hx
    cases hG : G x with
    | none =>
      rw [hG] at h4
      exact fun z => (atKey_put_other hne _ _).trans (h4 z)
    | some d' =>
      rw [hG] at h4
      exact fun z => (atKey_put_other hne _ _).trans (h4 z)
end
end Av
end Go.Proofs.Ytkdigdnacggknaa

import Derived.Deep.MidRow
import Derived.Test.YtkdigdnacggknaaZ3
set_option linter.unusedVariables false
set_option linter.unusedSimpArgs false
/- Walk: Late of package monitor. -/
namespace Go.Proofs.Ytkdigdnacggknaa
open Go.RowKit
open Nd Rc Mo

def Mo.Lt.row (x : Lt) : List Value := [.int .i64 x.fl, .int .i64 x.fr, .int .i64 x.sl]
theorem Try.infoL : (Try.prog.info? 68).map (fun i => (i.zero, i.size, i.bytes)) = some (some (.agg #[.int .i64 0, .int .i64 0, .int .i64 0]), 3, 24) := by kernel_rfl
theorem lateN_len (f : Fl) (dl : List Dlv) (n : Nat) : (lateN f dl n).length ≤ 1 := by unfold lateN; split <;> simp
theorem range_len (f : Fl) (dl : List Dlv) : ∀ n : Nat, ((List.range n).flatMap (lateN f dl)).length ≤ n
  | 0 => by simp
  | n + 1 => by
    rw [List.range_succ, List.flatMap_append, List.length_append]
    have := range_len f dl n
    have h := lateN_len f dl n
    simp only [List.flatMap_cons, List.flatMap_nil, List.append_nil]
    omega
theorem late_len {r : Rec} (hs : r.slots ≤ 4096) : ∀ (l : List Fl), (∀ f ∈ l, fault f = 0) → (l.flatMap (fun f => lateF f r)).length ≤ l.length * 4096
  | [], _ => by simp
  | f :: l, h => by
    rw [List.flatMap_cons, List.length_append, List.length_cons]
    have h1 := late_len hs l (fun g hg => h g (List.mem_cons_of_mem _ hg))
    have h2 := range_len f r.dl (complete f r.slots).toNat
    have h3 := complete_bounds (h f List.mem_cons_self) hs
    have : (lateF f r).length ≤ 4096 := by unfold lateF; omega
    omega
theorem take_snoc {α : Type} {l : List α} {k : Nat} {a : α} (h : l[k]? = some a) : l.take (k + 1) = l.take k ++ [a] := by
  obtain ⟨hk, rfl⟩ := List.getElem?_eq_some_iff.1 h
  rw [List.take_succ_eq_append_getElem hk]
/-- What has been found behind n frames of flow k. -/
def lateQ (fs : List Fl) (r : Rec) (k : Nat) (f : Fl) (n : Nat) : List Lt := (fs.take k).flatMap (fun f => lateF f r) ++ (List.range n).flatMap (lateN f r.dl)
theorem lateQ_succ (fs : List Fl) (r : Rec) (k : Nat) (f : Fl) (n : Nat) : lateQ fs r k f (n + 1) = lateQ fs r k f n ++ lateN f r.dl n := by
  unfold lateQ
  rw [List.range_succ, List.flatMap_append, ← List.append_assoc]
  simp
theorem lateQ_end {fs : List Fl} {r : Rec} {k : Nat} {f : Fl} (h : fs[k]? = some f) : lateQ fs r k f (complete f r.slots).toNat = (fs.take (k + 1)).flatMap (fun f => lateF f r) := by
  unfold lateQ
  rw [take_snoc h, List.flatMap_append]
  simp [lateF]
theorem num_small {a : Int} (h : 0 ≤ a ∧ a ≤ 1000000000) : Num64 a := num64_of (by omega)

set_option maxRecDepth 100000 in
set_option maxHeartbeats 4000000 in
theorem late_any (fs : List Fl) (r : Rec) (F A D : Option Addr) (cf ca cd : Nat) (w : World) (hF : Lies w w.heap.size 6 F (fs.map Fl.row)) (hf : fs.length ≤ 1000000) (hA : LiesA w w.heap.size A r.al) (hD : LiesD w w.heap.size D r.dl) (hla : r.al.length ≤ 1000000) (hld : r.dl.length ≤ 1000000) :
    Calls Try.prog 11 #[.slice F fs.length cf, .agg #[.int .i64 r.slots, .slice A r.al.length ca, .slice D r.dl.length cd]] w fun e w' => Below w.heap.size w w' ∧ ∃ v, e = .returned (.tuple #[v, .int .i64 (late fs r).2]) ∧ w'.ownsRow w.heap.size 68 3 v (late fs r).1.length ((late fs r).1.flatMap Lt.row) := by
  obtain ⟨i0, hi, hz0, hz1, hz2⟩ := info_parts Try.infoL
  obtain ⟨N, hN⟩ : ∃ N, N = w.heap.size := ⟨_, rfl⟩
  obtain ⟨na, hna⟩ : ∃ n, n = r.al.length := ⟨_, rfl⟩
  obtain ⟨nd, hnd⟩ : ∃ n, n = r.dl.length := ⟨_, rfl⟩
  obtain ⟨m, hm⟩ : ∃ m, m = fs.length := ⟨_, rfl⟩
  obtain ⟨slots, hsl⟩ : ∃ s, s = r.slots := ⟨_, rfl⟩
  obtain ⟨W1, hW1⟩ : ∃ W1, W1 = w.alloc (.cells #[.int .i64 slots, .slice A na ca, .slice D nd cd] 28) := ⟨_, rfl⟩
  have hb1 : Below N w W1 := by rw [hW1, hN]; exact (Below.refl _ _).alloc (Nat.le_refl _) _
  have bR : Blk W1 N 28 [.int .i64 slots, .slice A na ca, .slice D nd cd] := by rw [hW1]; exact Blk.new2 _ [.int .i64 slots, .slice A na ca, .slice D nd cd] hN
  have HW := Lib.hid (fun W (h' : Below W1.heap.size W1 W) => (show Below w.heap.size w W ∧ Row W N [.int .i64 slots, .slice A na ca, .slice D nd cd] from ⟨by rw [← hN]; exact hb1.trans (h'.mono (by have := bR.lt; omega)), (bR.below h' bR.lt).row⟩))
  have HF := Lib.hid (fun W (h' : Below W1.heap.size W1 W) => Lies.later hF (HW.out W h').1)
  have HRt := Lib.hid (right_any fs r F A D cf ca cd W1 (HF.out _ (Below.refl _ _)) hf ((hA.below (HW.out _ (Below.refl _ _)).1).more (HW.out _ (Below.refl _ _)).1.size) ((hD.below (HW.out _ (Below.refl _ _)).1).more (HW.out _ (Below.refl _ _)).1.size) hla hld)
  have HAr := Lib.hid (fun (hg : good r = true) W (h' : Below W1.heap.size W1 W) => arrivals_any r A D ca cd W ((hD.below (HW.out W h').1).more (HW.out W h').1.size) hld (fun d hd => by
    obtain ⟨a1, a2, a3, a4, a5, a6⟩ := good_dlv hg hd
    have := (good_slots hg).2
    exact ⟨num_small (by omega), num_small (by omega), num_small (by omega)⟩))
  rw [← hna, ← hnd, ← hsl] at HRt HAr ⊢
  rw [← hm] at HRt ⊢
  rw [← hnd] at hld
  have HM := Lib.hid hm
  have HSl := Lib.hid hsl
  have HNd := Lib.hid hnd
  have HW1 := Lib.hid hW1
  have HN := Lib.hid hN
  have hNlt : N < W1.heap.size := bR.lt
  clear hF hA hD hna hnd hm hsl hb1 bR hN hf hla
  have r1 := (HW.out _ (Below.refl _ _)).2
  unfold Row at r1
  subst hW1
  go_enter Try.func11, Try.ntmps11
  clear r1
  go_wp2_with fail
  rw [← HN.out]
  refine HRt.out.mono ?_
  rintro e w2 ⟨rfl, hb2⟩
  clear HRt
  cases hr : right fs r with
  | false =>
    have hl : Hid (late fs r = ([], 1)) := Lib.hid (by unfold late; rw [hr]; rfl)
    clear hr HAr
    go_wp2_with fail
    go_ret2
    exact ⟨(HW.out _ hb2).1, _, by rw [hl.out]; rfl, by rw [hl.out]; exact World.ownsRow_nil _ _ _ _⟩
  | true =>
    have hl : Hid (late fs r = (fs.flatMap (fun f => lateF f r), 0)) := Lib.hid (by unfold late; rw [if_pos hr])
    obtain ⟨hc, hg⟩ := right_inv hr
    obtain ⟨hfa, _, hm16⟩ := chkF_ok hc
    obtain ⟨hs0, hs1⟩ := good_slots hg
    have HFa := Lib.hid hfa
    have HAr := Lib.hid (HAr.out hg _ hb2)
    rw [← HSl.out] at hs0 hs1
    have hm16' : m ≤ 16 := by rw [HM.out]; exact hm16
    have r2 := (HW.out _ hb2).2
    unfold Row at r2
    clear hc hg hfa hr hm16
    go_wp2_with fail
    refine HAr.out.mono ?_
    rintro e w3 ⟨hb3, b, rfl, hbb, hO⟩
    clear HAr r2
    have hB3 : Below (World.heap (w.alloc (.cells #[.int .i64 slots, .slice A na ca, .slice D nd cd] 28))).size (w.alloc (.cells #[.int .i64 slots, .slice A na ca, .slice D nd cd] 28)) w3 := hb2.trans (hb3.mono hb2.size)
    have HG := Lib.hid (fun W (h' : Below w3.heap.size w3 W) => (show OwnsGr W (b + 1) b nd (slotsOf r.dl) from hO.below h'))
    have HX := Lib.hid (fun W (h' : Below w3.heap.size w3 W) => (show Below w.heap.size w W ∧ Row W N [.int .i64 slots, .slice A na ca, .slice D nd cd] ∧ Lies W W.heap.size 6 F (fs.map Fl.row) ∧ w3.heap.size ≤ W.heap.size from ⟨(HW.out _ (hB3.trans (h'.mono hB3.size))).1, (HW.out _ (hB3.trans (h'.mono hB3.size))).2, HF.out _ (hB3.trans (h'.mono hB3.size)), h'.size⟩))
    have hMN : N < w3.heap.size := Nat.lt_of_lt_of_le hNlt hB3.size
    have hbM : b < w3.heap.size := by
      obtain ⟨D0, h1, _⟩ := hO
      obtain ⟨es, clock, hb0, _⟩ := h1
      exact (Array.getElem?_eq_some_iff.1 hb0).1
    clear hO hb3 hb2 HW HF hbb
    go_wp2_with fail
    go_loopw [7, 21] (fun s7 i wr => ∃ (k : Nat) (v : Value), v = s7 ∧ k ≤ m ∧ i = .int .i64 k ∧ Below w3.heap.size w3 wr ∧ Hid (wr.ownsRow w3.heap.size 68 3 v ((fs.take k).flatMap (fun f => lateF f r)).length (((fs.take k).flatMap (fun f => lateF f r)).flatMap Lt.row))) (fun _ i _ => m - (intOf i).toNat)
    case atStart => exact ⟨0, _, rfl, by omega, rfl, Below.refl _ _, Lib.hid (World.ownsRow_nil _ _ _ _)⟩
    case round =>
      obtain ⟨k, v, rfl, hk, rfl, hb, HO⟩ := hrel
      by_cases hlt : k < m
      · obtain ⟨f, hfk⟩ := get_of_lt (l := fs) (k := k) (by rw [← HM.out]; exact hlt)
        have hff := HFa.out f (List.mem_of_getElem? hfk)
        obtain ⟨fb, foff, rfl, hfB, hcs⟩ := (HX.out _ hb).2.2.1.at_ hfk
        have c0 := hcs k f hfk 0 _ rfl
        have c1 := hcs k f hfk 1 _ rfl
        have c2 := hcs k f hfk 2 _ rfl
        have c3 := hcs k f hfk 3 _ rfl
        have c4 := hcs k f hfk 4 _ rfl
        have c5 := hcs k f hfk 5 _ rfl
        simp only [Nat.add_zero] at c0 c1 c2 c3 c4 c5
        have HFk := Lib.hid hfk
        clear hcs
        go_upto_region 8 with fail
        clear c0 c1 c2 c3 c4 c5 hfk
        obtain ⟨X, hX⟩ : ∃ X, X = wr.heap.size := ⟨_, rfl⟩
        generalize hWa : World.alloc _ _ = Wa
        have bX : Blk Wa X 37 [.int .i64 f.id, .int .i64 f.fr, .int .i64 f.tn, .int .i64 f.pe, .int .i64 f.ph, .int .i64 f.dl] := by rw [← hWa]; exact Blk.new2 _ [.int .i64 f.id, .int .i64 f.fr, .int .i64 f.tn, .int .i64 f.pe, .int .i64 f.ph, .int .i64 f.dl] hX
        have hba : Below w3.heap.size w3 Wa := by rw [← hWa]; exact hb.alloc hb.size _
        have HOa : Hid (Wa.ownsRow w3.heap.size 68 3 v ((fs.take k).flatMap (fun f => lateF f r)).length (((fs.take k).flatMap (fun f => lateF f r)).flatMap Lt.row)) := Lib.hid (by rw [← hWa]; exact HO.out.alloc _)
        rw [← hX]
        have hXM : w3.heap.size ≤ X := by rw [hX]; exact hb.size
        clear hWa hX HO hb
        have Con := Lib.hid (complete_any f slots (.slice A na ca) (.slice D nd cd) hff hs0 hs1 rfl rfl Wa)
        have hcb := complete_bounds hff hs1
        obtain ⟨cn, hcn⟩ : ∃ cn : Nat, complete f slots = (cn : Int) := ⟨(complete f slots).toNat, by omega⟩
        have HCN : Hid (cn = (complete f r.slots).toNat) := Lib.hid (by rw [← HSl.out, hcn]; rfl)
        have hcn4 : cn ≤ 4096 := by omega
        rw [hcn] at Con
        have rX := bX.row
        have r3 := (HX.out _ hba).2.1
        unfold Row at rX r3
        clear hcb hcn
        go_wp2_with fail
        refine Con.out.mono ?_
        rintro e w4 ⟨rfl, hb4⟩
        have hB4 : Below w3.heap.size w3 w4 := hba.trans (hb4.mono hba.size)
        have HX4 : Hid (Blk w4 X 37 [.int .i64 f.id, .int .i64 f.fr, .int .i64 f.tn, .int .i64 f.pe, .int .i64 f.ph, .int .i64 f.dl]) := Lib.hid (bX.below hb4 bX.lt)
        have HO4 : Hid (w4.ownsRow w3.heap.size 68 3 v (lateQ fs r k f 0).length ((lateQ fs r k f 0).flatMap Lt.row)) := Lib.hid (by have := own_below HOa.out hb4 (Nat.le_refl _); unfold lateQ; simpa using this)
        have HQl : Hid (∀ n, n ≤ 4096 → (lateQ fs r k f n).length ≤ 100000) := Lib.hid (fun n hn => by
          unfold lateQ
          rw [List.length_append]
          have h1 := late_len (r := r) (by rw [← HSl.out]; exact hs1) (fs.take k) (fun g hg => HFa.out g (List.mem_of_mem_take hg))
          have h2 := range_len f r.dl n
          have h3 := List.length_take_le k fs
          rw [List.length_take] at h1
          have h4 : min k fs.length ≤ 16 := by omega
          omega)
        clear Con rX r3 bX hba HOa hb4
        go_wp2_with fail
        go_loopw [7, 28] (fun s7 j wr => ∃ (n : Nat) (v : Value), v = s7 ∧ n ≤ cn ∧ j = .int .i64 n ∧ Below w3.heap.size w3 wr ∧ Hid (Blk wr X 37 [.int .i64 f.id, .int .i64 f.fr, .int .i64 f.tn, .int .i64 f.pe, .int .i64 f.ph, .int .i64 f.dl]) ∧ Hid (wr.ownsRow w3.heap.size 68 3 v (lateQ fs r k f n).length ((lateQ fs r k f n).flatMap Lt.row))) (fun _ j _ => cn - (intOf j).toNat)
        case atStart => exact ⟨0, _, rfl, by omega, rfl, hB4, HX4, HO4⟩
        case round =>
          clear HX4 HO4 hB4
          obtain ⟨n, v2, rfl, hn, rfl, hb, HXb, HO⟩ := hrel
          by_cases hlt2 : n < cn
          · obtain ⟨wd, hwd⟩ : ∃ wd, wd = wr.drew := ⟨_, rfl⟩
            have hbd : Below wr.heap.size wr wd := by rw [hwd]; exact (Below.refl _ _).drew
            obtain ⟨u5, hlook', hoi⟩ := (HG.out wd (hb.trans (hbd.mono hb.size))).look (by unfold maxLen; omega) (a := f.id) (c := (n : Int)) (num_small (by obtain ⟨h1, _⟩ := fault_zero hff; omega)) (num_small (by omega))
            obtain ⟨A5, c5, hu5⟩ := own_form2 hoi.1
            have hl5 : (slotsOf r.dl f.id (n : Int)).length ≤ 1000000 := by
              have h1 : (slotsOf r.dl f.id (n : Int)).length ≤ r.dl.length := by unfold slotsOf; rw [List.length_map]; exact List.length_filter_le _ _
              have := HNd.out
              omega
            have hI5 : LiesI wd wd.heap.size A5 (slotsOf r.dl f.id (n : Int)) := by
              have h1 := hoi.1
              rw [hu5] at h1
              exact own_I (by rw [flatI_map]; exact h1)
            have Con := Lib.hid (arrival_any f n (slotsOf r.dl f.id (n : Int)) A5 c5 wd hff (by omega) (by omega) hI5 hl5)
            rw [hu5] at hlook'
            obtain ⟨T5, hT5⟩ : ∃ T5, T5 = arrival f n (slotsOf r.dl f.id (n : Int)) := ⟨_, rfl⟩
            rw [← hT5] at Con
            have HT5 : Hid (lateN f r.dl n = if T5.2 = true then [] else [⟨f.id, n, T5.1⟩]) := Lib.hid (by unfold lateN; rw [← hT5])
            obtain ⟨q5, hq5⟩ : ∃ q, q = (slotsOf r.dl f.id (n : Int)).length := ⟨_, rfl⟩
            rw [← hq5] at Con hlook'
            have HXd : Hid (Blk wd X 37 [.int .i64 f.id, .int .i64 f.fr, .int .i64 f.tn, .int .i64 f.pe, .int .i64 f.ph, .int .i64 f.dl]) := Lib.hid (by rw [hwd]; exact HXb.out.drew)
            have hXl : X < wr.heap.size := HXb.out.lt
            have HDZ : Hid (wr.heap.size = wd.heap.size) := Lib.hid (by rw [hwd]; rfl)
            have hBd : Below w3.heap.size w3 wd := hb.trans (hbd.mono hb.size)
            have HOd : Hid (wd.ownsRow w3.heap.size 68 3 v2 (lateQ fs r k f n).length ((lateQ fs r k f n).flatMap Lt.row)) := Lib.hid (own_below HO.out hbd (Nat.le_refl _))
            have hn6 : (n : Int) ≤ 1000000 := by omega
            clear hoi hu5 hI5 hl5 hT5 hq5 hbd
            go_upto_region 11 with fail
            refine wp_region_rough (wr.heap.size) 14 [] #[false, false, false, false, false, false, false, false, false, false, false, false, false, false] (by kernel_rfl) rfl rfl ?_
            rw [← hwd]
            clear hwd
            have y0 : ∀ (x' : ExtW wr.heap.size wd), x'.val.cell? ⟨X, 0, none⟩ = some (.int .i64 f.id) := fun x' => (x'.cell _ hXl).trans (HXd.out.row 0)
            have y1 : ∀ (x' : ExtW wr.heap.size wd), x'.val.cell? ⟨X, 1, none⟩ = some (.int .i64 f.fr) := fun x' => (x'.cell _ hXl).trans (HXd.out.row 1)
            have y2 : ∀ (x' : ExtW wr.heap.size wd), x'.val.cell? ⟨X, 2, none⟩ = some (.int .i64 f.tn) := fun x' => (x'.cell _ hXl).trans (HXd.out.row 2)
            have y3 : ∀ (x' : ExtW wr.heap.size wd), x'.val.cell? ⟨X, 3, none⟩ = some (.int .i64 f.pe) := fun x' => (x'.cell _ hXl).trans (HXd.out.row 3)
            have y4 : ∀ (x' : ExtW wr.heap.size wd), x'.val.cell? ⟨X, 4, none⟩ = some (.int .i64 f.ph) := fun x' => (x'.cell _ hXl).trans (HXd.out.row 4)
            have y5 : ∀ (x' : ExtW wr.heap.size wd), x'.val.cell? ⟨X, 5, none⟩ = some (.int .i64 f.dl) := fun x' => (x'.cell _ hXl).trans (HXd.out.row 5)
            refine anyR_take 0 _ (nth0) rfl (by kernel_rfl) (by kernel_rfl) (by kernel_rfl) (by kernel_rfl) (l' := #[true, false, false, false, false, false, false, false, false, false, false, false, false, false]) rfl rfl ?_; intro K hK; go_big_quiet_op; go_big_quiet_on
            refine anyR_take0 1 _ (nthS (nth0)) rfl (by kernel_rfl) (by kernel_rfl) (by kernel_rfl) (l' := #[true, true, false, false, false, false, false, false, false, false, false, false, false, false]) rfl rfl ?_; intro K hK; go_big_quiet_op; go_big_quiet_on
            refine anyR_take0 2 _ (nthS (nthS (nth0))) rfl (by kernel_rfl) (by kernel_rfl) (by kernel_rfl) (l' := #[true, true, true, false, false, false, false, false, false, false, false, false, false, false]) rfl rfl ?_; intro K hK; go_big_quiet_op; go_big_quiet_on
            refine anyR_take0 3 _ (nthS (nthS (nthS (nth0)))) rfl (by kernel_rfl) (by kernel_rfl) (by kernel_rfl) (l' := #[true, true, true, true, false, false, false, false, false, false, false, false, false, false]) rfl rfl ?_; intro K hK; go_big_quiet_op; go_big_quiet_on
            refine anyR_take 4 _ (nthS (nthS (nthS (nthS (nth0))))) rfl (by kernel_rfl) (by kernel_rfl) (by kernel_rfl) (by kernel_rfl) (l' := #[true, true, true, true, true, false, false, false, false, false, false, false, false, false]) rfl rfl ?_; intro K hK; go_big_quiet_op; go_big_quiet_on
            refine anyR_take0 5 _ (nthS (nthS (nthS (nthS (nthS (nth0)))))) rfl (by kernel_rfl) (by kernel_rfl) (by kernel_rfl) (l' := #[true, true, true, true, true, true, false, false, false, false, false, false, false, false]) rfl rfl ?_; intro K hK; go_big_quiet_op; go_big_quiet_on
            refine anyR_take0 6 _ (nthS (nthS (nthS (nthS (nthS (nthS (nth0))))))) rfl (by kernel_rfl) (by kernel_rfl) (by kernel_rfl) (l' := #[true, true, true, true, true, true, true, false, false, false, false, false, false, false]) rfl rfl ?_; intro K hK; go_big_quiet_op; go_big_quiet_on
            refine anyR_one 7 _ (nthS (nthS (nthS (nthS (nthS (nthS (nthS (nth0)))))))) (by kernel_rfl) (l' := #[true, true, true, true, true, true, true, true, false, false, false, false, false, false]) rfl ?_
            clear y0 y1 y2 y3 y4 y5
            go_wp2_with fail
            clear hlook'
            refine OneR_mk (Below.refl _ _) ?_
            refine anyR_one 8 _ (nthS (nthS (nthS (nthS (nthS (nthS (nthS (nthS (nth0))))))))) (by kernel_rfl) (l' := #[true, true, true, true, true, true, true, true, true, false, false, false, false, false]) rfl ?_
            go_wp2_with fail
            refine Con.out.mono ?_
            rintro e w5 ⟨rfl, hb5⟩
            clear Con
            go_wp2_with fail
            refine OneR_mk (hb5.mono (Nat.le_of_eq HDZ.out)) ?_
            refine anyR_take0 9 _ (nthS (nthS (nthS (nthS (nthS (nthS (nthS (nthS (nthS (nth0)))))))))) rfl (by kernel_rfl) (by kernel_rfl) (by kernel_rfl) (l' := #[true, true, true, true, true, true, true, true, true, true, false, false, false, false]) rfl rfl ?_; intro K hK; go_big_quiet_op; go_big_quiet_on
            refine anyR_take0 10 _ (nthS (nthS (nthS (nthS (nthS (nthS (nthS (nthS (nthS (nthS (nth0))))))))))) rfl (by kernel_rfl) (by kernel_rfl) (by kernel_rfl) (l' := #[true, true, true, true, true, true, true, true, true, true, true, false, false, false]) rfl rfl ?_; intro K hK; go_big_quiet_op; go_big_quiet_on
            refine anyR_take0 11 _ (nthS (nthS (nthS (nthS (nthS (nthS (nthS (nthS (nthS (nthS (nthS (nth0)))))))))))) rfl (by kernel_rfl) (by kernel_rfl) (by kernel_rfl) (l' := #[true, true, true, true, true, true, true, true, true, true, true, true, false, false]) rfl rfl ?_; intro K hK; go_big_quiet_op; go_big_quiet_on
            refine anyR_take0 12 _ (nthS (nthS (nthS (nthS (nthS (nthS (nthS (nthS (nthS (nthS (nthS (nthS (nth0))))))))))))) rfl (by kernel_rfl) (by kernel_rfl) (by kernel_rfl) (l' := #[true, true, true, true, true, true, true, true, true, true, true, true, true, false]) rfl rfl ?_; intro K hK; go_big_quiet_op; go_big_quiet_on
            refine anyR_take0 13 _ (nthS (nthS (nthS (nthS (nthS (nthS (nthS (nthS (nthS (nthS (nthS (nthS (nthS (nth0)))))))))))))) rfl (by kernel_rfl) (by kernel_rfl) (by kernel_rfl) (l' := #[true, true, true, true, true, true, true, true, true, true, true, true, true, true]) rfl rfl ?_; intro K hK; go_big_quiet_op; go_big_quiet_on
            refine anyR_end (by kernel_rfl) ?_
            have hB5 : Below w3.heap.size w3 w5 := hBd.trans (hb5.mono hBd.size)
            have HX5 : Hid (Blk w5 X 37 [.int .i64 f.id, .int .i64 f.fr, .int .i64 f.tn, .int .i64 f.pe, .int .i64 f.ph, .int .i64 f.dl]) := Lib.hid (HXd.out.below hb5 HXd.out.lt)
            have HO5 : Hid (w5.ownsRow w3.heap.size 68 3 v2 (lateQ fs r k f n).length ((lateQ fs r k f n).flatMap Lt.row)) := Lib.hid (own_below HOd.out hb5 (Nat.le_refl _))
            clear HOd HXd hBd HDZ hb5 HO HXb hb hXl hn6
            cases hok : T5.2 with
            | true =>
              have hQ : Hid (lateQ fs r k f (n + 1) = lateQ fs r k f n) := Lib.hid (by rw [lateQ_succ, HT5.out, hok]; simp)
              clear hok
              go_wp2_with fail
              go_roundw
              case rel => exact ⟨n + 1, v2, rfl, by omega, by go_num, hB5, HX5, Lib.hid (by rw [hQ.out]; exact HO5.out)⟩
              case measure => simp [intOf]; omega
            | false =>
              have hQ : Hid (lateQ fs r k f (n + 1) = lateQ fs r k f n ++ [⟨f.id, n, T5.1⟩]) := Lib.hid (by rw [lateQ_succ, HT5.out, hok]; simp)
              clear hok
              have hl5 := HQl.out n (by omega)
              have rX := HX5.out.row
              unfold Row at rX
              go_wp2_with (at_builtin; refine wpList_append_own_at _ rfl (.tmp 45) (.tmp 51) 31 rfl w3.heap.size 68 i0 (.agg #[.int .i64 0, .int .i64 0, .int .i64 0]) 3 24 Try.underlying31 hi hz0 hz1 hz2 rfl (by decide) v2 _ _ rfl (HO5.out.alloc _) ⟨w5.heap.size, 0, none⟩ 1 1 [.int .i64 f.id, .int .i64 (n : Int), .int .i64 T5.1] rfl rfl ?e0 ?e1 ?e2 ?e3 ?e4 ?_)
              case e0 => exact (Blk.new2 68 [.int .i64 f.id, .int .i64 (n : Int), .int .i64 T5.1] rfl).news2
              case e1 => intro u hu; simp only [List.mem_cons, List.not_mem_nil, or_false] at hu; rcases hu with rfl | rfl | rfl <;> rfl
              case e2 => unfold maxLen; omega
              case e3 => omega
              case e4 => simp; have := hB5.size; omega
              intro v7 w7 ho7 hg7 hnil7 hat7
              clear hnil7 hat7
              have hB6 : Below w3.heap.size w3 (w5.alloc (.cells #[.int .i64 f.id, .int .i64 (n : Int), .int .i64 T5.1] 68)) := hB5.alloc hB5.size _
              have hB7 : Below w3.heap.size w3 w7 := hB6.grown hg7 hB6.size (fun j hj => (HO5.out.lt j hj).1)
              have HX7 : Hid (Blk w7 X 37 [.int .i64 f.id, .int .i64 f.fr, .int .i64 f.tn, .int .i64 f.pe, .int .i64 f.ph, .int .i64 f.dl]) := Lib.hid ((hg7.block X (by have := HX5.out.lt; simp; omega) (fun e => by have := own_type2 HO5.out e HX5.out; revert this; decide)).trans (HX5.out.alloc _))
              have HO7 : Hid (w7.ownsRow w3.heap.size 68 3 v7 (lateQ fs r k f (n + 1)).length ((lateQ fs r k f (n + 1)).flatMap Lt.row)) := Lib.hid (by rw [hQ.out]; simpa [Mo.Lt.row] using ho7)
              obtain ⟨A7, c7, hv7⟩ := own_form2 ho7
              clear ho7 hg7 hB6 rX hl5
              subst hv7
              go_wp2_with fail
              go_roundw
              case rel => exact ⟨n + 1, _, rfl, by omega, by go_num, hB7, HX7, HO7⟩
              case measure => simp [intOf]; omega
          · have h1 : n = cn := by omega
            subst h1
            have HOn : Hid (wr.ownsRow w3.heap.size 68 3 v2 ((fs.take (k + 1)).flatMap (fun f => lateF f r)).length (((fs.take (k + 1)).flatMap (fun f => lateF f r)).flatMap Lt.row)) := Lib.hid (by rw [← lateQ_end HFk.out, ← HCN.out]; exact HO.out)
            clear HO HXb
            go_wp2_with fail
            go_roundw
            case rel => exact ⟨k + 1, v2, rfl, by omega, by go_num, hb, HOn⟩
            case measure => simp [intOf]; omega
      · have h1 : k = m := by omega
        subst h1
        have hto : fs.take k = fs := List.take_of_length_le (by rw [← HM.out]; exact Nat.le_refl _)
        rw [hto] at HO
        obtain ⟨A7, c7, hv7⟩ := own_form2 HO.out
        subst hv7
        go_wp2_with fail
        go_ret2
        exact ⟨(HX.out _ hb).1, _, by rw [hl.out]; rfl, by rw [hl.out]; exact own_base HO.out (by have := HN.out; omega)⟩
end Go.Proofs.Ytkdigdnacggknaa
/- Walk: Stray of package monitor. -/
namespace Go.Proofs.Ytkdigdnacggknaa
open Go.RowKit
open Nd Rc Mo

theorem Try.infoA : (Try.prog.info? 66).map (fun i => (i.zero, i.size, i.bytes)) = some (some (.agg #[.int .i64 0, .int .i64 0, .int .i64 0, .int .i64 0, .int .i64 0, .int .i64 0, .int .i64 0, .int .i64 0]), 8, 64) := by kernel_rfl
theorem findF_cases (fs : List Fl) (id : Int) : (findF fs id = -1 ∧ fs.find? (fun f => f.id == id) = none) ∨ ∃ (i : Nat) (f : Fl), fs[i]? = some f ∧ findF fs id = (i : Int) ∧ fs.find? (fun f => f.id == id) = some f := by
  rcases idxP_spec (fun f : Fl => f.id == id) fs 0 with ⟨h1, h2⟩ | ⟨i, a, h1, h2, h3, h4⟩
  · refine .inl ⟨h1, List.find?_eq_none.2 fun x hx => ?_⟩
    have := List.all_eq_true.1 h2 x hx
    simpa using this
  · refine .inr ⟨i, a, h1, by unfold findF; rw [h3]; omega, ?_⟩
    obtain ⟨hi, e⟩ := List.getElem?_eq_some_iff.1 h1
    rw [List.find?_eq_some_iff_append]
    refine ⟨h2, fs.take i, fs.drop (i + 1), ?_, fun x hx => ?_⟩
    · rw [← e, List.getElem_cons_drop, List.take_append_drop]
    · exact List.all_eq_true.1 h4 x hx
/-- The strays among the first k attempts. -/
def strayK (fs : List Fl) (al : List Att) (k : Nat) : List Att := (al.take k).filter (fun a => !onWay fs a)
theorem strayK_succ {fs : List Fl} {al : List Att} {k : Nat} {a : Att} (h : al[k]? = some a) : strayK fs al (k + 1) = strayK fs al k ++ (if onWay fs a = true then [] else [a]) := by
  unfold strayK
  rw [take_snoc h, List.filter_append]
  congr 1
  by_cases hw : onWay fs a = true <;> simp [hw]
theorem strayK_len (fs : List Fl) (al : List Att) (k : Nat) : (strayK fs al k).length ≤ al.length := by
  unfold strayK
  have h1 := List.length_filter_le (fun a => !onWay fs a) (al.take k)
  have h2 : (al.take k).length ≤ al.length := by rw [List.length_take]; exact Nat.min_le_right _ _
  omega

set_option maxRecDepth 100000 in
set_option maxHeartbeats 4000000 in
theorem stray_any (fs : List Fl) (r : Rec) (F A D : Option Addr) (cf ca cd : Nat) (w : World) (hF : Lies w w.heap.size 6 F (fs.map Fl.row)) (hf : fs.length ≤ 1000000) (hA : LiesA w w.heap.size A r.al) (hD : LiesD w w.heap.size D r.dl) (hla : r.al.length ≤ 1000000) (hld : r.dl.length ≤ 1000000) :
    Calls Try.prog 25 #[.slice F fs.length cf, .agg #[.int .i64 r.slots, .slice A r.al.length ca, .slice D r.dl.length cd]] w fun e w' => Below w.heap.size w w' ∧ ∃ v, e = .returned (.tuple #[v, .int .i64 (stray fs r).2]) ∧ w'.ownsRow w.heap.size 66 8 v (stray fs r).1.length ((stray fs r).1.flatMap Att.row) := by
  obtain ⟨N, hN⟩ : ∃ N, N = w.heap.size := ⟨_, rfl⟩
  obtain ⟨na, hna⟩ : ∃ n, n = r.al.length := ⟨_, rfl⟩
  obtain ⟨nd, hnd⟩ : ∃ n, n = r.dl.length := ⟨_, rfl⟩
  obtain ⟨m, hm⟩ : ∃ m, m = fs.length := ⟨_, rfl⟩
  obtain ⟨slots, hsl⟩ : ∃ s, s = r.slots := ⟨_, rfl⟩
  obtain ⟨W1, hW1⟩ : ∃ W1, W1 = w.alloc (.cells #[.int .i64 slots, .slice A na ca, .slice D nd cd] 28) := ⟨_, rfl⟩
  have hb1 : Below N w W1 := by rw [hW1, hN]; exact (Below.refl _ _).alloc (Nat.le_refl _) _
  have bR : Blk W1 N 28 [.int .i64 slots, .slice A na ca, .slice D nd cd] := by rw [hW1]; exact Blk.new2 _ [.int .i64 slots, .slice A na ca, .slice D nd cd] hN
  have HW := Lib.hid (fun W (h' : Below W1.heap.size W1 W) => (show Below w.heap.size w W ∧ Row W N [.int .i64 slots, .slice A na ca, .slice D nd cd] from ⟨by rw [← hN]; exact hb1.trans (h'.mono (by have := bR.lt; omega)), (bR.below h' bR.lt).row⟩))
  have HF := Lib.hid (fun W (h' : Below W1.heap.size W1 W) => Lies.later hF (HW.out W h').1)
  have HA := Lib.hid (fun W (h' : Below W1.heap.size W1 W) => (show LiesA W W.heap.size A r.al from (hA.below (HW.out W h').1).more (HW.out W h').1.size))
  have HD := Lib.hid (fun W (h' : Below W1.heap.size W1 W) => (show LiesD W W.heap.size D r.dl from (hD.below (HW.out W h').1).more (HW.out W h').1.size))
  have HRt := Lib.hid (right_any fs r F A D cf ca cd W1 (HF.out _ (Below.refl _ _)) hf (HA.out _ (Below.refl _ _)) (HD.out _ (Below.refl _ _)) hla hld)
  have HFind := Lib.hid (fun (x : Int) W (h' : Below W1.heap.size W1 W) => find_any fs x F cf W (HF.out W h') hf)
  rw [← hna, ← hnd, ← hsl] at HRt ⊢
  rw [← hm] at HRt HFind ⊢
  rw [← hnd] at hld
  rw [← hna] at hla
  have HM := Lib.hid hm
  have HSl := Lib.hid hsl
  have HNd := Lib.hid hnd
  have HNa := Lib.hid hna
  have HW1 := Lib.hid hW1
  have HN := Lib.hid hN
  have hNlt : N < W1.heap.size := bR.lt
  clear hF hA hD hna hnd hm hsl hb1 bR hN hf
  have r1 := (HW.out _ (Below.refl _ _)).2
  unfold Row at r1
  subst hW1
  obtain ⟨i0, hi, hz0, hz1, hz2⟩ := info_parts Try.infoA
  go_enter Try.func25, Try.ntmps25
  clear r1
  go_wp2_with fail
  rw [← HN.out]
  refine HRt.out.mono ?_
  rintro e w2 ⟨rfl, hb2⟩
  clear HRt
  cases hr : right fs r with
  | false =>
    have hl : Hid (stray fs r = ([], 1)) := Lib.hid (by unfold stray; rw [hr]; rfl)
    clear hr
    go_wp2_with fail
    go_ret2
    exact ⟨(HW.out _ hb2).1, _, by rw [hl.out]; rfl, by rw [hl.out]; exact World.ownsRow_nil _ _ _ _⟩
  | true =>
    have hl : Hid (stray fs r = (strayK fs r.al na, 0)) := Lib.hid (by unfold stray strayK; rw [if_pos hr, HNa.out, List.take_of_length_le (Nat.le_refl _)])
    have r2 := (HW.out _ hb2).2
    unfold Row at r2
    have HX := Lib.hid (fun W (h' : Below w2.heap.size w2 W) => (show Below w.heap.size w W ∧ Row W N [.int .i64 slots, .slice A na ca, .slice D nd cd] ∧ Lies W W.heap.size 6 F (fs.map Fl.row) ∧ LiesA W W.heap.size A r.al from ⟨(HW.out _ (hb2.trans (h'.mono hb2.size))).1, (HW.out _ (hb2.trans (h'.mono hb2.size))).2, HF.out _ (hb2.trans (h'.mono hb2.size)), HA.out _ (hb2.trans (h'.mono hb2.size))⟩))
    have HFd := Lib.hid (fun (x : Int) W (h' : Below w2.heap.size w2 W) => HFind.out x W (hb2.trans (h'.mono hb2.size)))
    have hMN : N < w2.heap.size := Nat.lt_of_lt_of_le hNlt hb2.size
    have hw2N : w.heap.size ≤ w2.heap.size := (HW.out _ hb2).1.size
    clear hr HW HF HA HD HFind hb2 HW1
    go_wp2_with fail
    clear r2
    go_loopw [6, 20] (fun s6 i wr => ∃ (k : Nat) (v : Value), v = s6 ∧ k ≤ na ∧ i = .int .i64 k ∧ Below w2.heap.size w2 wr ∧ Hid (wr.ownsRow w2.heap.size 66 8 v (strayK fs r.al k).length ((strayK fs r.al k).flatMap Att.row))) (fun _ i _ => na - (intOf i).toNat)
    case atStart => exact ⟨0, _, rfl, by omega, rfl, Below.refl _ _, Lib.hid (World.ownsRow_nil _ _ _ _)⟩
    case round =>
      obtain ⟨k, v, rfl, hk, rfl, hb, HO⟩ := hrel
      by_cases hlt : k < na
      · obtain ⟨a, hak⟩ := get_of_lt (l := r.al) (k := k) (by rw [← HNa.out]; exact hlt)
        obtain ⟨ab, aoff, rfl, haB, hcs⟩ := (HX.out _ hb).2.2.2.at_ hak
        obtain ⟨c0, c1, c2, c3, c4, c5, c6, c7⟩ := hcs k a hak
        have HSu := Lib.hid (strayK_succ (fs := fs) hak)
        have HLn := Lib.hid (fun k => strayK_len fs r.al k)
        clear hcs hak
        go_upto_region 7 with fail
        clear c0 c1 c2 c3 c4 c5 c6 c7
        obtain ⟨X, hX⟩ : ∃ X, X = wr.heap.size := ⟨_, rfl⟩
        generalize hWa : World.alloc _ _ = Wa
        have bX : Blk Wa X 66 [.int .i64 a.s, .int .i64 a.f, .int .i64 a.cs, .int .i64 a.co, .int .i64 a.cf, .int .i64 a.ct, .int .i64 a.cl, .int .i64 a.o] := by rw [← hWa]; exact Blk.new2 _ [.int .i64 a.s, .int .i64 a.f, .int .i64 a.cs, .int .i64 a.co, .int .i64 a.cf, .int .i64 a.ct, .int .i64 a.cl, .int .i64 a.o] hX
        have hba : Below w2.heap.size w2 Wa := by rw [← hWa]; exact hb.alloc hb.size _
        have HOa : Hid (Wa.ownsRow w2.heap.size 66 8 v (strayK fs r.al k).length ((strayK fs r.al k).flatMap Att.row)) := Lib.hid (by rw [← hWa]; exact HO.out.alloc _)
        have HXv : Hid (v.ownBlock ≠ some X) := Lib.hid (fun e => by have := (HO.out.lt X e).2; omega)
        rw [← hX]
        clear hWa hX HO hb
        have Con := Lib.hid (HFd.out a.cl _ hba)
        have rX := bX.row
        unfold Row at rX
        go_wp2_with fail
        refine Con.out.mono ?_
        rintro e w4 ⟨rfl, hb4⟩
        have hB4 : Below w2.heap.size w2 w4 := hba.trans (hb4.mono hba.size)
        have bX4 : Blk w4 X 66 [.int .i64 a.s, .int .i64 a.f, .int .i64 a.cs, .int .i64 a.co, .int .i64 a.cf, .int .i64 a.ct, .int .i64 a.cl, .int .i64 a.o] := bX.below hb4 bX.lt
        have HO4 : Hid (w4.ownsRow w2.heap.size 66 8 v (strayK fs r.al k).length ((strayK fs r.al k).flatMap Att.row)) := Lib.hid (own_below HOa.out hb4 (Nat.le_refl _))
        clear Con rX bX hba HOa hb4
        rcases findF_cases fs a.cl with ⟨hT, hfn⟩ | ⟨i, f, hfi, hT, hfs⟩
        · have hon : onWay fs a = false := by unfold onWay; rw [hfn]
          rw [hT]
          clear hT hfn
          have hQ : Hid (strayK fs r.al (k + 1) = strayK fs r.al k ++ [a]) := Lib.hid (by rw [HSu.out, if_neg (by rw [hon]; decide)])
          clear hon
          have hl5 := HLn.out k
          have hl6 := HNa.out
          have rX := bX4.row
          unfold Row at rX
          clear hl6
          have hl7 : (strayK fs r.al k).length ≤ 1000000 := by have := HNa.out; omega
          go_wp2_with (at_builtin; refine wpList_append_own_at _ rfl (.tmp 48) (.tmp 50) 23 rfl w2.heap.size 66 i0 (.agg #[.int .i64 0, .int .i64 0, .int .i64 0, .int .i64 0, .int .i64 0, .int .i64 0, .int .i64 0, .int .i64 0]) 8 64 Try.underlying23 hi hz0 hz1 hz2 rfl (by decide) v _ _ rfl (HO4.out.alloc _) ⟨w4.heap.size, 0, none⟩ 1 1 [.int .i64 a.s, .int .i64 a.f, .int .i64 a.cs, .int .i64 a.co, .int .i64 a.cf, .int .i64 a.ct, .int .i64 a.cl, .int .i64 a.o] rfl rfl ?e0 ?e1 ?e2 ?e3 ?e4 ?_)
          case e0 => exact (Blk.new2 66 [.int .i64 a.s, .int .i64 a.f, .int .i64 a.cs, .int .i64 a.co, .int .i64 a.cf, .int .i64 a.ct, .int .i64 a.cl, .int .i64 a.o] rfl).news2
          case e1 => intro u hu; simp only [List.mem_cons, List.not_mem_nil, or_false] at hu; rcases hu with rfl | rfl | rfl | rfl | rfl | rfl | rfl | rfl <;> rfl
          case e2 => unfold maxLen; omega
          case e3 => omega
          case e4 => simp; have := hB4.size; omega
          intro v7 w7 ho7 hg7 hnil7 hat7
          clear hnil7 hat7
          have hB6 : Below w2.heap.size w2 (w4.alloc (.cells #[.int .i64 a.s, .int .i64 a.f, .int .i64 a.cs, .int .i64 a.co, .int .i64 a.cf, .int .i64 a.ct, .int .i64 a.cl, .int .i64 a.o] 66)) := hB4.alloc hB4.size _
          have hB7 : Below w2.heap.size w2 w7 := hB6.grown hg7 hB6.size (fun j hj => (HO4.out.lt j hj).1)
          have HO7 : Hid (w7.ownsRow w2.heap.size 66 8 v7 (strayK fs r.al (k + 1)).length ((strayK fs r.al (k + 1)).flatMap Att.row)) := Lib.hid (by rw [hQ.out]; simpa [Rc.Att.row] using ho7)
          obtain ⟨A7, c7, hv7⟩ := own_form2 ho7
          clear ho7 hg7 hB6 rX hl5
          subst hv7
          go_wp2_with fail
          go_roundw
          case rel => exact ⟨k + 1, _, rfl, by omega, by go_num, hB7, HO7⟩
          case measure => simp [intOf]; omega
        · obtain ⟨fb, foff, hFe, hfB, hcs⟩ := (HX.out _ hB4).2.2.1.at_ hfi
          have him : i < m := by rw [HM.out]; exact (List.getElem?_eq_some_iff.1 hfi).1
          have hi0 : decide ((0 : Int) ≤ (i : Int)) = true := decide_eq_true (by omega)
          have q0 := hcs i f hfi 0 _ rfl
          have q1 := hcs i f hfi 1 _ rfl
          have q2 := hcs i f hfi 2 _ rfl
          have q3 := hcs i f hfi 3 _ rfl
          have q4 := hcs i f hfi 4 _ rfl
          have q5 := hcs i f hfi 5 _ rfl
          simp only [Nat.add_zero] at q0 q1 q2 q3 q4 q5
          have hon0 : onWay fs a = ((cur f a.s).2 && (cur f a.s).1 == a.f) := by unfold onWay; rw [hfs]
          rw [hT]
          obtain ⟨wd, hwd⟩ : ∃ wd, wd = w4.drew := ⟨_, rfl⟩
          have hbd : Below w4.heap.size w4 wd := by rw [hwd]; exact (Below.refl _ _).drew
          have Con := Lib.hid (current_any f a.s wd)
          obtain ⟨T5, hT5⟩ : ∃ T5, T5 = cur f a.s := ⟨_, rfl⟩
          rw [← hT5] at Con hon0
          have bXd : Blk wd X 66 [.int .i64 a.s, .int .i64 a.f, .int .i64 a.cs, .int .i64 a.co, .int .i64 a.cf, .int .i64 a.ct, .int .i64 a.cl, .int .i64 a.o] := by rw [hwd]; exact bX4.drew
          have hXl : X < w4.heap.size := bX4.lt
          have HDZ : Hid (w4.heap.size = wd.heap.size) := Lib.hid (by rw [hwd]; rfl)
          have hBd : Below w2.heap.size w2 wd := hB4.trans (hbd.mono hB4.size)
          have HOd : Hid (wd.ownsRow w2.heap.size 66 8 v (strayK fs r.al k).length ((strayK fs r.al k).flatMap Att.row)) := Lib.hid (own_below HO4.out hbd (Nat.le_refl _))
          subst hFe
          clear hcs hfi hT hfs hT5
          go_upto_region 9 with fail
          refine wp_region_rough (w4.heap.size) 12 [] #[false, false, false, false, false, false, false, false, false, false, false, false] (by kernel_rfl) rfl rfl ?_
          rw [← hwd]
          clear hwd
          have y0 : ∀ (x' : ExtW w4.heap.size wd), x'.val.cell? ⟨fb, foff + i * 6, none⟩ = some (.int .i64 f.id) := fun x' => (x'.cell _ hfB).trans ((hbd.cell (p := ⟨fb, foff + i * 6, none⟩) hfB).trans q0)
          have y1 : ∀ (x' : ExtW w4.heap.size wd), x'.val.cell? ⟨fb, foff + i * 6 + 1, none⟩ = some (.int .i64 f.fr) := fun x' => (x'.cell _ hfB).trans ((hbd.cell (p := ⟨fb, foff + i * 6 + 1, none⟩) hfB).trans q1)
          have y2 : ∀ (x' : ExtW w4.heap.size wd), x'.val.cell? ⟨fb, foff + i * 6 + 2, none⟩ = some (.int .i64 f.tn) := fun x' => (x'.cell _ hfB).trans ((hbd.cell (p := ⟨fb, foff + i * 6 + 2, none⟩) hfB).trans q2)
          have y3 : ∀ (x' : ExtW w4.heap.size wd), x'.val.cell? ⟨fb, foff + i * 6 + 3, none⟩ = some (.int .i64 f.pe) := fun x' => (x'.cell _ hfB).trans ((hbd.cell (p := ⟨fb, foff + i * 6 + 3, none⟩) hfB).trans q3)
          have y4 : ∀ (x' : ExtW w4.heap.size wd), x'.val.cell? ⟨fb, foff + i * 6 + 4, none⟩ = some (.int .i64 f.ph) := fun x' => (x'.cell _ hfB).trans ((hbd.cell (p := ⟨fb, foff + i * 6 + 4, none⟩) hfB).trans q4)
          have y5 : ∀ (x' : ExtW w4.heap.size wd), x'.val.cell? ⟨fb, foff + i * 6 + 5, none⟩ = some (.int .i64 f.dl) := fun x' => (x'.cell _ hfB).trans ((hbd.cell (p := ⟨fb, foff + i * 6 + 5, none⟩) hfB).trans q5)
          have ya : ∀ (x' : ExtW w4.heap.size wd), x'.val.cell? ⟨X, 0, none⟩ = some (.int .i64 a.s) := fun x' => (x'.cell _ hXl).trans (bXd.row 0)
          clear q0 q1 q2 q3 q4 q5
          refine anyR_take0 0 _ (nth0) rfl (by kernel_rfl) (by kernel_rfl) (by kernel_rfl) (l' := #[true, false, false, false, false, false, false, false, false, false, false, false]) rfl rfl ?_; intro K hK; go_big_quiet_op; go_big_quiet_on
          refine anyR_take0 1 _ (nthS (nth0)) rfl (by kernel_rfl) (by kernel_rfl) (by kernel_rfl) (l' := #[true, true, false, false, false, false, false, false, false, false, false, false]) rfl rfl ?_; intro K hK; go_big_quiet_op; go_big_quiet_on
          refine anyR_take0 2 _ (nthS (nthS (nth0))) rfl (by kernel_rfl) (by kernel_rfl) (by kernel_rfl) (l' := #[true, true, true, false, false, false, false, false, false, false, false, false]) rfl rfl ?_; intro K hK; go_big_quiet_op; go_big_quiet_on
          refine anyR_take 3 _ (nthS (nthS (nthS (nth0)))) rfl (by kernel_rfl) (by kernel_rfl) (by kernel_rfl) (by kernel_rfl) (l' := #[true, true, true, true, false, false, false, false, false, false, false, false]) rfl rfl ?_; intro K hK; go_big_quiet_op; go_big_quiet_on
          refine anyR_take0 4 _ (nthS (nthS (nthS (nthS (nth0))))) rfl (by kernel_rfl) (by kernel_rfl) (by kernel_rfl) (l' := #[true, true, true, true, true, false, false, false, false, false, false, false]) rfl rfl ?_; intro K hK; go_big_quiet_op; go_big_quiet_on
          refine anyR_take 5 _ (nthS (nthS (nthS (nthS (nthS (nth0)))))) rfl (by kernel_rfl) (by kernel_rfl) (by kernel_rfl) (by kernel_rfl) (l' := #[true, true, true, true, true, true, false, false, false, false, false, false]) rfl rfl ?_; intro K hK; go_big_quiet_op; go_big_quiet_on
          refine anyR_one 6 _ (nthS (nthS (nthS (nthS (nthS (nthS (nth0))))))) (by kernel_rfl) (l' := #[true, true, true, true, true, true, true, false, false, false, false, false]) rfl ?_
          clear y0 y1 y2 y3 y4 y5 ya
          go_wp2_with fail
          refine Con.out.mono ?_
          rintro e w5 ⟨rfl, hb5⟩
          clear Con
          go_wp2_with fail
          refine OneR_mk (hb5.mono (Nat.le_of_eq HDZ.out)) ?_
          refine anyR_take0 7 _ (nthS (nthS (nthS (nthS (nthS (nthS (nthS (nth0)))))))) rfl (by kernel_rfl) (by kernel_rfl) (by kernel_rfl) (l' := #[true, true, true, true, true, true, true, true, false, false, false, false]) rfl rfl ?_; intro K hK; go_big_quiet_op; go_big_quiet_on
          refine anyR_take0 8 _ (nthS (nthS (nthS (nthS (nthS (nthS (nthS (nthS (nth0))))))))) rfl (by kernel_rfl) (by kernel_rfl) (by kernel_rfl) (l' := #[true, true, true, true, true, true, true, true, true, false, false, false]) rfl rfl ?_; intro K hK; go_big_quiet_op; go_big_quiet_on
          refine anyR_take0 9 _ (nthS (nthS (nthS (nthS (nthS (nthS (nthS (nthS (nthS (nth0)))))))))) rfl (by kernel_rfl) (by kernel_rfl) (by kernel_rfl) (l' := #[true, true, true, true, true, true, true, true, true, true, false, false]) rfl rfl ?_; intro K hK; go_big_quiet_op; go_big_quiet_on
          refine anyR_take0 10 _ (nthS (nthS (nthS (nthS (nthS (nthS (nthS (nthS (nthS (nthS (nth0))))))))))) rfl (by kernel_rfl) (by kernel_rfl) (by kernel_rfl) (l' := #[true, true, true, true, true, true, true, true, true, true, true, false]) rfl rfl ?_; intro K hK; go_big_quiet_op; go_big_quiet_on
          refine anyR_take0 11 _ (nthS (nthS (nthS (nthS (nthS (nthS (nthS (nthS (nthS (nthS (nthS (nth0)))))))))))) rfl (by kernel_rfl) (by kernel_rfl) (by kernel_rfl) (l' := #[true, true, true, true, true, true, true, true, true, true, true, true]) rfl rfl ?_; intro K hK; go_big_quiet_op; go_big_quiet_on
          refine anyR_end (by kernel_rfl) ?_
          have hB5 : Below w2.heap.size w2 w5 := hBd.trans (hb5.mono hBd.size)
          have bX5 : Blk w5 X 66 [.int .i64 a.s, .int .i64 a.f, .int .i64 a.cs, .int .i64 a.co, .int .i64 a.cf, .int .i64 a.ct, .int .i64 a.cl, .int .i64 a.o] := bXd.below hb5 bXd.lt
          have HO5 : Hid (w5.ownsRow w2.heap.size 66 8 v (strayK fs r.al k).length ((strayK fs r.al k).flatMap Att.row)) := Lib.hid (own_below HOd.out hb5 (Nat.le_refl _))
          clear HOd bXd hBd HDZ hb5 HO4 bX4 hB4 hXl hbd
          have x1 := bX5.row 1
          simp only [List.getElem?_cons_succ, List.getElem?_cons_zero] at x1
          cases h2 : T5.2 with
          | false =>
            have hon : onWay fs a = false := by rw [hon0, h2]; rfl
            clear hon0 h2
            have hQ : Hid (strayK fs r.al (k + 1) = strayK fs r.al k ++ [a]) := Lib.hid (by rw [HSu.out, if_neg (by rw [hon]; decide)])
            clear hon
            have hl5 := HLn.out k
            have hl6 := HNa.out
            have rX := bX5.row
            unfold Row at rX
            clear hl6
            have hl7 : (strayK fs r.al k).length ≤ 1000000 := by have := HNa.out; omega
            go_wp2_with (at_builtin; refine wpList_append_own_at _ rfl (.tmp 48) (.tmp 50) 23 rfl w2.heap.size 66 i0 (.agg #[.int .i64 0, .int .i64 0, .int .i64 0, .int .i64 0, .int .i64 0, .int .i64 0, .int .i64 0, .int .i64 0]) 8 64 Try.underlying23 hi hz0 hz1 hz2 rfl (by decide) v _ _ rfl (HO5.out.alloc _) ⟨w5.heap.size, 0, none⟩ 1 1 [.int .i64 a.s, .int .i64 a.f, .int .i64 a.cs, .int .i64 a.co, .int .i64 a.cf, .int .i64 a.ct, .int .i64 a.cl, .int .i64 a.o] rfl rfl ?e0 ?e1 ?e2 ?e3 ?e4 ?_)
            case e0 => exact (Blk.new2 66 [.int .i64 a.s, .int .i64 a.f, .int .i64 a.cs, .int .i64 a.co, .int .i64 a.cf, .int .i64 a.ct, .int .i64 a.cl, .int .i64 a.o] rfl).news2
            case e1 => intro u hu; simp only [List.mem_cons, List.not_mem_nil, or_false] at hu; rcases hu with rfl | rfl | rfl | rfl | rfl | rfl | rfl | rfl <;> rfl
            case e2 => unfold maxLen; omega
            case e3 => omega
            case e4 => simp; have := hB5.size; omega
            intro v7 w7 ho7 hg7 hnil7 hat7
            clear hnil7 hat7
            have hB6 : Below w2.heap.size w2 (w5.alloc (.cells #[.int .i64 a.s, .int .i64 a.f, .int .i64 a.cs, .int .i64 a.co, .int .i64 a.cf, .int .i64 a.ct, .int .i64 a.cl, .int .i64 a.o] 66)) := hB5.alloc hB5.size _
            have hB7 : Below w2.heap.size w2 w7 := hB6.grown hg7 hB6.size (fun j hj => (HO5.out.lt j hj).1)
            have HO7 : Hid (w7.ownsRow w2.heap.size 66 8 v7 (strayK fs r.al (k + 1)).length ((strayK fs r.al (k + 1)).flatMap Att.row)) := Lib.hid (by rw [hQ.out]; simpa [Rc.Att.row] using ho7)
            obtain ⟨A7, c7, hv7⟩ := own_form2 ho7
            clear ho7 hg7 hB6 rX hl5
            subst hv7
            go_wp2_with fail
            go_roundw
            case rel => exact ⟨k + 1, _, rfl, by omega, by go_num, hB7, HO7⟩
            case measure => simp [intOf]; omega
          | true =>
            cases h3 : (T5.1 == a.f) with
            | true =>
              have hon : onWay fs a = true := by rw [hon0, h2, h3]; rfl
              clear hon0 h2
              have hQ : Hid (strayK fs r.al (k + 1) = strayK fs r.al k) := Lib.hid (by rw [HSu.out, if_pos hon]; simp)
              clear hon
              go_wp2_with fail
              go_roundw
              case rel => exact ⟨k + 1, v, rfl, by omega, by go_num, hB5, Lib.hid (by rw [hQ.out]; exact HO5.out)⟩
              case measure => simp [intOf]; omega
            | false =>
              have hon : onWay fs a = false := by rw [hon0, h2, h3]; rfl
              clear hon0 h2
              have hQ : Hid (strayK fs r.al (k + 1) = strayK fs r.al k ++ [a]) := Lib.hid (by rw [HSu.out, if_neg (by rw [hon]; decide)])
              clear hon
              have hl5 := HLn.out k
              have hl6 := HNa.out
              have rX := bX5.row
              unfold Row at rX
              clear hl6
              have hl7 : (strayK fs r.al k).length ≤ 1000000 := by have := HNa.out; omega
              go_wp2_with (at_builtin; refine wpList_append_own_at _ rfl (.tmp 48) (.tmp 50) 23 rfl w2.heap.size 66 i0 (.agg #[.int .i64 0, .int .i64 0, .int .i64 0, .int .i64 0, .int .i64 0, .int .i64 0, .int .i64 0, .int .i64 0]) 8 64 Try.underlying23 hi hz0 hz1 hz2 rfl (by decide) v _ _ rfl (HO5.out.alloc _) ⟨w5.heap.size, 0, none⟩ 1 1 [.int .i64 a.s, .int .i64 a.f, .int .i64 a.cs, .int .i64 a.co, .int .i64 a.cf, .int .i64 a.ct, .int .i64 a.cl, .int .i64 a.o] rfl rfl ?e0 ?e1 ?e2 ?e3 ?e4 ?_)
              case e0 => exact (Blk.new2 66 [.int .i64 a.s, .int .i64 a.f, .int .i64 a.cs, .int .i64 a.co, .int .i64 a.cf, .int .i64 a.ct, .int .i64 a.cl, .int .i64 a.o] rfl).news2
              case e1 => intro u hu; simp only [List.mem_cons, List.not_mem_nil, or_false] at hu; rcases hu with rfl | rfl | rfl | rfl | rfl | rfl | rfl | rfl <;> rfl
              case e2 => unfold maxLen; omega
              case e3 => omega
              case e4 => simp; have := hB5.size; omega
              intro v7 w7 ho7 hg7 hnil7 hat7
              clear hnil7 hat7
              have hB6 : Below w2.heap.size w2 (w5.alloc (.cells #[.int .i64 a.s, .int .i64 a.f, .int .i64 a.cs, .int .i64 a.co, .int .i64 a.cf, .int .i64 a.ct, .int .i64 a.cl, .int .i64 a.o] 66)) := hB5.alloc hB5.size _
              have hB7 : Below w2.heap.size w2 w7 := hB6.grown hg7 hB6.size (fun j hj => (HO5.out.lt j hj).1)
              have HO7 : Hid (w7.ownsRow w2.heap.size 66 8 v7 (strayK fs r.al (k + 1)).length ((strayK fs r.al (k + 1)).flatMap Att.row)) := Lib.hid (by rw [hQ.out]; simpa [Rc.Att.row] using ho7)
              obtain ⟨A7, c7, hv7⟩ := own_form2 ho7
              clear ho7 hg7 hB6 rX hl5
              subst hv7
              go_wp2_with fail
              go_roundw
              case rel => exact ⟨k + 1, _, rfl, by omega, by go_num, hB7, HO7⟩
              case measure => simp [intOf]; omega
      · have h1 : k = na := by omega
        subst h1
        obtain ⟨A7, c7, hv7⟩ := own_form2 HO.out
        subst hv7
        go_wp2_with fail
        go_ret2
        exact ⟨(HX.out _ hb).1, _, by rw [hl.out]; rfl, by rw [hl.out]; exact own_base HO.out hw2N⟩
end Go.Proofs.Ytkdigdnacggknaa
/- Sets of frames: a map from frames to truth values that the call makes. (After the text NodM.) -/
namespace Go.Proofs.Ytkdigdnacggknaa
open Go.RowKit Go.WideMaps
open Go.Maps (Keyed)
theorem Try.bZero (w : World) : (zeroValue 4).run Try.prog w = .ok (.bool false) w := by kernel_rfl

theorem plainElem_bool_inv {H : Type} {P : Program} {e : TypeId} (he : P.underlying e = some .bool) {v : Value} {z : DataW H × List MemPlace} (h : plainElem P e v = some z) : ∃ a, v = .bool a ∧ z = (.lit (.bool a), []) := by
  unfold plainElem at h
  rw [he] at h
  cases v <;> simp_all

/-- Block b is a map that holds true at the pairs of S and nothing else that is true. -/
def OwnsSet (w : World) (b n : Nat) (S : List (Int × Int)) : Prop :=
  ∃ D : DataW Unit, w.ownsMap Try.prog 93 (plainElem Try.prog 4) b n D ∧ Go.Maps.IsMap D ∧ (∀ p ∈ S, Num64 p.1 ∧ Num64 p.2) ∧ ∀ a c, Num64 a → Num64 c → D.atKey (frKey a c) (.lit (.bool false)) = .lit (.bool (decide ((a, c) ∈ S)))

theorem OwnsSet.made (w : World) : OwnsSet (w.alloc (.map #[] 0)) w.heap.size 0 [] :=
  ⟨.map [], World.ownsMap_made w _ _ _, Go.Maps.isMap_empty, fun _ h => by simp at h, fun a c _ _ => by simp [DataW.atKey]⟩
theorem OwnsSet.kept {w w' : World} {b n : Nat} {S : List (Int × Int)} {row : Option Nat} (h : OwnsSet w b n S) (hg : w.grownBy w' row) (hne : some b ≠ row) : OwnsSet w' b n S := by
  obtain ⟨D, h1, h2⟩ := h
  exact ⟨D, h1.kept hg hne, h2⟩
theorem OwnsSet.below {w w' : World} {b n N : Nat} {S : List (Int × Int)} (h : OwnsSet w b n S) (hb : Below N w w') (hN : b < N) : OwnsSet w' b n S := by
  obtain ⟨D, ⟨es, clock, hb1, F, hs, hD⟩, h2⟩ := h
  exact ⟨D, ⟨es, clock, (hb.block b hN).trans hb1, F, hs, hD⟩, h2⟩
theorem OwnsSet.lt {w : World} {b n : Nat} {S : List (Int × Int)} (h : OwnsSet w b n S) : b < w.heap.size := by
  obtain ⟨D, h1, _⟩ := h
  exact h1.lt
theorem OwnsSet.look {w : World} {b n : Nat} {S : List (Int × Int)} (h : OwnsSet w b n S) {a c : Int} (ha : Num64 a) (hc : Num64 c) : (Instr.lookup 116 (.map (some b)) (.agg #[.int .i64 a, .int .i64 c]) false).run Try.prog w = .ok (.bool (decide ((a, c) ∈ S))) w := by
  obtain ⟨D, h1, _, _, h3⟩ := h
  obtain ⟨v, ps, hrun, hv⟩ := h1.lookup Try.kKeyed Try.underlying116 (Try.bZero w) (plainElem_bool Try.underlying4 false) (keyOf_fr ha hc)
  obtain ⟨x, rfl, hx⟩ := plainElem_bool_inv Try.underlying4 hv
  rw [h3 a c ha hc] at hx
  simp only [Prod.mk.injEq] at hx
  rw [hrun]
  simpa using hx.1.symm
theorem OwnsSet.put {w : World} {b n : Nat} {S : List (Int × Int)} (h : OwnsSet w b n S) (hn : n < maxLen) {a c : Int} (ha : Num64 a) (hc : Num64 c) :
    ∃ w', (Instr.mapUpdate 116 (.map (some b)) (.agg #[.int .i64 a, .int .i64 c]) (.bool true)).run Try.prog w = .ok () w' ∧ OwnsSet w' b (n + 1) ((a, c) :: S) ∧ w.grownBy w' (some b) := by
  obtain ⟨D, h1, h2, h4, h3⟩ := h
  obtain ⟨w', hrun, r1, r2⟩ := h1.update Try.kKeyed Try.underlying116 hn (keyOf_fr ha hc) (plainElem_bool (H := Unit) Try.underlying4 true)
  refine ⟨w', hrun, ⟨_, r1, h2.put _ _, ?_, ?_⟩, r2⟩
  · intro p hp
    rcases List.mem_cons.1 hp with rfl | hp
    · exact ⟨ha, hc⟩
    · exact h4 p hp
  · intro a' c' ha' hc'
    by_cases e : frKey a' c' = frKey a c
    · obtain ⟨e1, e2⟩ := frKey_inj ha' hc' ha hc e
      subst e1 e2
      rw [Go.Maps.atKey_put_same h2 (by trivial)]
      simp
    · rw [Go.Maps.atKey_put_other e, h3 a' c' ha' hc']
      have hne : ¬ (a' = a ∧ c' = c) := fun ⟨e1, e2⟩ => e (by rw [e1, e2])
      simp [hne]
theorem OwnsSet.mono {w : World} {b n n' : Nat} {S : List (Int × Int)} (h : OwnsSet w b n S) (hn : n ≤ n') : OwnsSet w b n' S := by
  obtain ⟨D, h1, h2⟩ := h
  exact ⟨D, h1.mono hn, h2⟩
/-- A store into the map leaves every row of cells as it was. -/
theorem OwnsSet.cell {w w' : World} {b n : Nat} {S : List (Int × Int)} (h : OwnsSet w b n S) (hg : w.grownBy w' (some b)) {p : Addr} {u : Value} (hp : p.block < w.heap.size) (hc : w.cell? p = some u) : w'.cell? p = some u := by
  obtain ⟨D, ⟨es, clock, hb, _⟩, _⟩ := h
  have hne : p.block ≠ b := fun e => by
    subst e
    simp [World.cell?, hb] at hc
  have := hg.block p.block hp (fun e => hne (by injection e))
  unfold World.cell? at hc ⊢
  rw [this]
  exact hc
/-- The map's block is no row of cells. -/
theorem OwnsSet.notRow {w : World} {b n : Nat} {S : List (Int × Int)} (h : OwnsSet w b n S) {base s k : Nat} {e : TypeId} {v : Value} {xs : List Value} (ho : w.ownsRow base e s v k xs) : v.ownBlock = some b → False := fun hb => by
  obtain ⟨D, ⟨es, clock, hb1, _⟩, _⟩ := h
  rcases ho.2 with ⟨rfl, _⟩ | ⟨g, cap, cur, rfl, _, hg, _⟩
  · cases hb
  · simp only [Value.ownBlock, Option.some.injEq] at hb
    subst hb
    rw [hb1] at hg
    cases hg
end Go.Proofs.Ytkdigdnacggknaa
/- Walk: Twice of package monitor. -/
namespace Go.Proofs.Ytkdigdnacggknaa
open Go.RowKit
open Nd Rc Mo

theorem Try.infoD : (Try.prog.info? 54).map (fun i => (i.zero, i.size, i.bytes)) = some (some (.agg #[.int .i64 0, .int .i64 0, .int .i64 0]), 3, 24) := by kernel_rfl
theorem twGo_len : ∀ (l S : List Dlv), (twGo S l).length ≤ l.length
  | [], _ => Nat.le_refl _
  | d :: l, S => by
    unfold twGo
    have := twGo_len l (S ++ [d])
    split <;> simp <;> omega
/-- The frames of some deliveries. -/
def frs (l : List Dlv) : List (Int × Int) := l.map (fun d => (d.fl, d.fr))
theorem mem_frs (l : List Dlv) (d : Dlv) : decide ((d.fl, d.fr) ∈ frs l) = l.any (sameFr d) := by
  rw [Bool.eq_iff_iff, decide_eq_true_eq, List.any_eq_true]
  constructor
  · intro h
    obtain ⟨x, hx, e⟩ := List.mem_map.1 h
    simp only [Prod.mk.injEq] at e
    exact ⟨x, hx, by simp [sameFr, e.1, e.2]⟩
  · rintro ⟨x, hx, e⟩
    rw [sameFr, Bool.and_eq_true, beq_iff_eq, beq_iff_eq] at e
    exact List.mem_map.2 ⟨x, hx, by rw [e.1, e.2]⟩
theorem OwnsSet.same {w : World} {b n : Nat} {S S' : List (Int × Int)} (h : OwnsSet w b n S) (hs : ∀ p, p ∈ S ↔ p ∈ S') : OwnsSet w b n S' := by
  obtain ⟨D, h1, h2, h3, h4⟩ := h
  refine ⟨D, h1, h2, fun p hp => h3 p ((hs p).2 hp), fun a c ha hc => ?_⟩
  rw [h4 a c ha hc]
  have : decide ((a, c) ∈ S) = decide ((a, c) ∈ S') := decide_eq_decide.2 (hs _)
  rw [this]

set_option maxRecDepth 100000 in
set_option maxHeartbeats 4000000 in
theorem twice_any (r : Rec) (A D : Option Addr) (ca cd : Nat) (w : World) (hA : LiesA w w.heap.size A r.al) (hD : LiesD w w.heap.size D r.dl) (hla : r.al.length ≤ 1000000) (hld : r.dl.length ≤ 1000000) :
    Calls Try.prog 19 #[.agg #[.int .i64 r.slots, .slice A r.al.length ca, .slice D r.dl.length cd]] w fun e w' => Below w.heap.size w w' ∧ ∃ v, e = .returned (.tuple #[v, .int .i64 (twice r).2]) ∧ w'.ownsRow w.heap.size 54 3 v (twice r).1.length ((twice r).1.flatMap Dlv.row) := by
  obtain ⟨i0, hi, hz0, hz1, hz2⟩ := info_parts Try.infoD
  obtain ⟨N, hN⟩ : ∃ N, N = w.heap.size := ⟨_, rfl⟩
  obtain ⟨na, hna⟩ : ∃ n, n = r.al.length := ⟨_, rfl⟩
  obtain ⟨nd, hnd⟩ : ∃ n, n = r.dl.length := ⟨_, rfl⟩
  obtain ⟨slots, hsl⟩ : ∃ s, s = r.slots := ⟨_, rfl⟩
  obtain ⟨W1, hW1⟩ : ∃ W1, W1 = w.alloc (.cells #[.int .i64 slots, .slice A na ca, .slice D nd cd] 28) := ⟨_, rfl⟩
  have hb1 : Below N w W1 := by rw [hW1, hN]; exact (Below.refl _ _).alloc (Nat.le_refl _) _
  have bR : Blk W1 N 28 [.int .i64 slots, .slice A na ca, .slice D nd cd] := by rw [hW1]; exact Blk.new2 _ [.int .i64 slots, .slice A na ca, .slice D nd cd] hN
  have HW := Lib.hid (fun W (h' : Below W1.heap.size W1 W) => (show Below w.heap.size w W ∧ Row W N [.int .i64 slots, .slice A na ca, .slice D nd cd] from ⟨by rw [← hN]; exact hb1.trans (h'.mono (by have := bR.lt; omega)), (bR.below h' bR.lt).row⟩))
  have HA := Lib.hid (fun W (h' : Below W1.heap.size W1 W) => (show LiesA W W.heap.size A r.al from (hA.below (HW.out W h').1).more (HW.out W h').1.size))
  have HD := Lib.hid (fun W (h' : Below W1.heap.size W1 W) => (show LiesD W W.heap.size D r.dl from (hD.below (HW.out W h').1).more (HW.out W h').1.size))
  have HRt := Lib.hid (check_any r A D ca cd W1 (HA.out _ (Below.refl _ _)) (HD.out _ (Below.refl _ _)) (by omega) (by omega))
  rw [← hna, ← hnd, ← hsl] at HRt ⊢
  rw [← hnd] at hld
  have HSl := Lib.hid hsl
  have HNd := Lib.hid hnd
  have HNa := Lib.hid hna
  have HW1 := Lib.hid hW1
  have HN := Lib.hid hN
  have hNlt : N < W1.heap.size := bR.lt
  clear hA hD hna hnd hsl hb1 bR hN hla
  have r1 := (HW.out _ (Below.refl _ _)).2
  unfold Row at r1
  have hmm := @run_makeMap Try.prog
  obtain ⟨E, hE⟩ : ∃ E, E = checkE r := ⟨_, rfl⟩
  have HE : Hid ((good r = true ∧ E = 0) ∨ (good r = false ∧ E = 1)) := Lib.hid (by rw [hE]; unfold checkE; cases good r <;> simp)
  rw [← hE] at HRt
  clear hE
  subst hW1
  go_enter Try.func19, Try.ntmps19
  clear r1
  go_wp2_with fail
  rw [← HN.out]
  refine HRt.out.mono ?_
  rintro e w2 ⟨rfl, hb2⟩
  clear HRt
  rcases HE.out with ⟨hr, rfl⟩ | ⟨hr, rfl⟩
  case inr =>
    have hl : Hid (twice r = ([], 1)) := Lib.hid (by unfold twice; rw [hr]; rfl)
    clear hr HE
    go_wp2_with fail
    go_ret2
    exact ⟨(HW.out _ hb2).1, _, by rw [hl.out]; rfl, by rw [hl.out]; exact World.ownsRow_nil _ _ _ _⟩
  have hl : Hid (twice r = (twGo [] r.dl, 0)) := Lib.hid (by unfold twice; rw [if_pos hr])
  have HNum := Lib.hid (fun d (hd : d ∈ r.dl) => (by
    obtain ⟨a1, a2, a3, a4, a5, a6⟩ := good_dlv hr hd
    exact ⟨num_small (by omega), num_small (by omega)⟩ : Num64 d.fl ∧ Num64 d.fr))
  have r2 := (HW.out _ hb2).2
  unfold Row at r2
  obtain ⟨B, hB⟩ : ∃ B, B = w2.heap.size := ⟨_, rfl⟩
  have HB := Lib.hid hB
  have HS := Lib.hid (show OwnsSet (w2.alloc (.map #[] 0)) B 0 [] from by rw [hB]; exact OwnsSet.made w2)
  have HX := Lib.hid (fun W (h' : Below w2.heap.size w2 W) => (show Below w.heap.size w W ∧ Row W N [.int .i64 slots, .slice A na ca, .slice D nd cd] ∧ LiesD W W.heap.size D r.dl from ⟨(HW.out _ (hb2.trans (h'.mono hb2.size))).1, (HW.out _ (hb2.trans (h'.mono hb2.size))).2, HD.out _ (hb2.trans (h'.mono hb2.size))⟩))
  have hMN : N < w2.heap.size := Nat.lt_of_lt_of_le hNlt hb2.size
  have hw2N : w.heap.size ≤ w2.heap.size := (HW.out _ hb2).1.size
  clear hr HW HA HD hb2 HW1 HE
  go_wp2_with fail
  rw [← hB]
  clear r2 hB
  go_loopw [4, 17] (fun s4 i wr => ∃ (k : Nat) (v : Value) (acc : List Dlv), v = s4 ∧ k ≤ nd ∧ i = .int .i64 k ∧ Below w2.heap.size w2 wr ∧ B < wr.heap.size ∧ Hid (OwnsSet wr B k (frs (r.dl.take k))) ∧ Hid (wr.ownsRow w2.heap.size 54 3 v acc.length (acc.flatMap Dlv.row)) ∧ Hid (twGo [] r.dl = acc ++ twGo (r.dl.take k) (r.dl.drop k))) (fun _ i _ => nd - (intOf i).toNat)
  case atStart => exact ⟨0, _, [], rfl, by omega, rfl, (Below.refl _ _).alloc (Nat.le_refl _) _, by have := HB.out; simp; omega, HS, Lib.hid (World.ownsRow_nil _ _ _ _), Lib.hid rfl⟩
  case round =>
    clear HS
    obtain ⟨k, v, acc, rfl, hk, rfl, hb, hBw, HSt, HO, HT⟩ := hrel
    by_cases hlt : k < nd
    · obtain ⟨a, hak⟩ := get_of_lt (l := r.dl) (k := k) (by rw [← HNd.out]; exact hlt)
      obtain ⟨ab, aoff, rfl, haB, hcs⟩ := (HX.out _ hb).2.2.at_ hak
      obtain ⟨c0, c1, c2⟩ := hcs k a hak
      obtain ⟨n1, n2⟩ := HNum.out a (List.mem_of_getElem? hak)
      have HT' : Hid (twGo [] r.dl = acc ++ (if (r.dl.take k).any (sameFr a) = true then a :: twGo (r.dl.take (k + 1)) (r.dl.drop (k + 1)) else twGo (r.dl.take (k + 1)) (r.dl.drop (k + 1)))) := Lib.hid (by rw [HT.out, drop_of_get hak, take_snoc hak]; rfl)
      have HFr : Hid (frs (r.dl.take (k + 1)) = frs (r.dl.take k) ++ [(a.fl, a.fr)]) := Lib.hid (by rw [take_snoc hak]; simp [frs])
      have HAcl : Hid (acc.length ≤ 1000000) := Lib.hid (by
        have h1 := congrArg List.length HT.out
        rw [List.length_append] at h1
        have h2 := twGo_len r.dl []
        have := HNd.out
        omega)
      clear hcs hak HT
      go_upto_region 9 with fail
      clear c0 c1 c2
      obtain ⟨X, hX⟩ : ∃ X, X = wr.heap.size := ⟨_, rfl⟩
      generalize hWa : World.alloc _ _ = Wa
      have b1 : Blk Wa X 54 [.int .i64 a.fl, .int .i64 a.fr, .int .i64 a.sl] := by rw [← hWa]; exact Blk.alloc (Blk.new2 _ [.int .i64 a.fl, .int .i64 a.fr, .int .i64 a.sl] hX) _
      have b2 : Blk Wa (X + 1) 93 [.int .i64 a.fl, .int .i64 a.fr] := by rw [← hWa]; exact Blk.new2 _ [.int .i64 a.fl, .int .i64 a.fr] (by simp [hX])
      have hbw : Below wr.heap.size wr Wa := by rw [← hWa]; exact ((Below.refl _ _).alloc (Nat.le_refl _) _).alloc (by simp) _
      have hba : Below w2.heap.size w2 Wa := hb.trans (hbw.mono hb.size)
      have HOa : Hid (Wa.ownsRow w2.heap.size 54 3 v acc.length (acc.flatMap Dlv.row)) := Lib.hid (own_below HO.out hbw (Nat.le_refl _))
      have HSa : Hid (OwnsSet Wa B k (frs (r.dl.take k))) := Lib.hid (HSt.out.below hbw hBw)
      have hBa : B < Wa.heap.size := Nat.lt_of_lt_of_le hBw hbw.size
      have HvX : Hid (∀ g, v.ownBlock = some g → g < X) := Lib.hid (fun g hg => by have := (HO.out.lt g hg).2; omega)
      rw [← hX]
      clear hWa hX HO hb HSt hBw hbw
      have hlook := HSa.out.look n1 n2
      rw [mem_frs] at hlook
      have rX := b1.row
      have rY := b2.row
      unfold Row at rX rY
      cases hq : (r.dl.take k).any (sameFr a) with
      | false =>
        have HT2 : Hid (twGo [] r.dl = acc ++ twGo (r.dl.take (k + 1)) (r.dl.drop (k + 1))) := Lib.hid (by rw [HT'.out, hq]; rfl)
        rw [hq] at hlook
        clear hq HT'
        obtain ⟨w3, hput, hS3, hg3⟩ := HSa.out.put (by unfold maxLen; omega) n1 n2
        have hb3 : Below w2.heap.size w2 w3 := hba.grown hg3 hba.size (fun j hj => by injection hj with hj; have := HB.out; omega)
        have HS3 : Hid (OwnsSet w3 B (k + 1) (frs (r.dl.take (k + 1)))) := Lib.hid (hS3.same (fun p => by rw [HFr.out]; simp [or_comm]))
        have HO3 : Hid (w3.ownsRow w2.heap.size 54 3 v acc.length (acc.flatMap Dlv.row)) := Lib.hid (HOa.out.kept hg3 (by
          cases hvb : v.ownBlock with
          | none => exact .inl rfl
          | some g =>
            refine .inr (fun e => ?_)
            injection e with e
            subst e
            exact HSa.out.notRow HOa.out hvb))
        have hB3 : B < w3.heap.size := Nat.lt_of_lt_of_le hBa hg3.size
        clear hS3 hg3 HSa HOa HFr b1 b2 hba
        go_wp2_with fail
        go_roundw
        case rel => exact ⟨k + 1, v, acc, rfl, by omega, by go_num, hb3, hB3, HS3, HO3, HT2⟩
        case measure => simp [intOf]; omega
      | true =>
        have HT2 : Hid (twGo [] r.dl = (acc ++ [a]) ++ twGo (r.dl.take (k + 1)) (r.dl.drop (k + 1))) := Lib.hid (by rw [HT'.out, hq, List.append_assoc]; rfl)
        rw [hq] at hlook
        clear hq HT'
        have hl7 := HAcl.out
        go_wp2_with (at_builtin; refine wpList_append_own_at _ rfl (.tmp 29) (.tmp 31) 24 rfl w2.heap.size 54 i0 (.agg #[.int .i64 0, .int .i64 0, .int .i64 0]) 3 24 Try.underlying24 hi hz0 hz1 hz2 rfl (by decide) v _ _ rfl (HOa.out.alloc _) ⟨Wa.heap.size, 0, none⟩ 1 1 [.int .i64 a.fl, .int .i64 a.fr, .int .i64 a.sl] rfl rfl ?e0 ?e1 ?e2 ?e3 ?e4 ?_)
        case e0 => exact (Blk.new2 54 [.int .i64 a.fl, .int .i64 a.fr, .int .i64 a.sl] rfl).news2
        case e1 => intro u hu; simp only [List.mem_cons, List.not_mem_nil, or_false] at hu; rcases hu with rfl | rfl | rfl <;> rfl
        case e2 => unfold maxLen; omega
        case e3 => omega
        case e4 => simp; have := hba.size; omega
        intro v7 w7 ho7 hg7 hnil7 hat7
        clear hnil7 hat7
        have hB6 : Below w2.heap.size w2 (Wa.alloc (.cells #[.int .i64 a.fl, .int .i64 a.fr, .int .i64 a.sl] 54)) := hba.alloc hba.size _
        have hB7 : Below w2.heap.size w2 w7 := hB6.grown hg7 hB6.size (fun j hj => (HOa.out.lt j hj).1)
        have hne : ∀ g, v.ownBlock = some g → g ≠ B := fun g hg e => by subst e; exact HSa.out.notRow HOa.out hg
        have HS7 : OwnsSet w7 B k (frs (r.dl.take k)) := (HSa.out.below ((Below.refl _ _).alloc (Nat.le_refl _) (.cells #[.int .i64 a.fl, .int .i64 a.fr, .int .i64 a.sl] 54)) hBa).kept hg7 (fun e => hne B e.symm rfl)
        have b7 : Blk w7 (X + 1) 93 [.int .i64 a.fl, .int .i64 a.fr] := (hg7.block (X + 1) (by have := b2.lt; simp; omega) (fun e => by have := HvX.out _ e.symm; omega)).trans (b2.alloc _)
        obtain ⟨w8, hput, hS8, hg8⟩ := HS7.put (by unfold maxLen; omega) n1 n2
        have hb8 : Below w2.heap.size w2 w8 := hB7.grown hg8 hB7.size (fun j hj => by injection hj with hj; have := HB.out; omega)
        have HS8 : Hid (OwnsSet w8 B (k + 1) (frs (r.dl.take (k + 1)))) := Lib.hid (hS8.same (fun p => by rw [HFr.out]; simp [or_comm]))
        have ho7' : w7.ownsRow w2.heap.size 54 3 v7 (acc ++ [a]).length ((acc ++ [a]).flatMap Dlv.row) := by simpa [Rc.Dlv.row] using ho7
        have HO8 : Hid (w8.ownsRow w2.heap.size 54 3 v7 (acc ++ [a]).length ((acc ++ [a]).flatMap Dlv.row)) := Lib.hid (ho7'.kept hg8 (by
          cases hvb : v7.ownBlock with
          | none => exact .inl rfl
          | some g =>
            refine .inr (fun e => ?_)
            injection e with e
            subst e
            exact HS7.notRow ho7' hvb))
        have hB8 : B < w8.heap.size := Nat.lt_of_lt_of_le hBa (Nat.le_trans (by simp) (Nat.le_trans hg7.size hg8.size))
        obtain ⟨A7, c7, hv7⟩ := own_form2 ho7'
        have rZ := b7.row
        unfold Row at rZ
        clear hS8 hg8 HSa HOa HFr b1 b2 hba ho7 ho7' hg7 HS7 hB6 hB7 hne b7 rX rY
        subst hv7
        go_wp2_with fail
        go_roundw
        case rel => exact ⟨k + 1, _, acc ++ [a], by simp, by omega, by go_num, hb8, hB8, HS8, HO8, HT2⟩
        case measure => simp [intOf]; omega
    · have h1 : k = nd := by omega
      subst h1
      have hto : r.dl.drop k = [] := List.drop_of_length_le (by rw [← HNd.out]; exact Nat.le_refl _)
      have hf : Hid (twGo [] r.dl = acc) := Lib.hid (by rw [HT.out, hto]; simp [twGo])
      obtain ⟨A7, c7, hv7⟩ := own_form2 HO.out
      subst hv7
      go_wp2_with fail
      go_ret2
      exact ⟨(HX.out _ hb).1, _, by rw [hl.out]; rfl, by rw [hl.out]; dsimp only; rw [hf.out]; exact own_base HO.out hw2N⟩
end Go.Proofs.Ytkdigdnacggknaa
/- Walks: in, attempt, keys, less of the reference. -/
namespace Go.Proofs.Ytkdigdnacggknaa
open Go.RowKit
open Rc

theorem in_any (n lo hi : Int) (w : World) : Calls Try.prog 83 #[.int .i64 n, .int .i64 lo, .int .i64 hi] w fun e w' => e = .returned (.bool (inB n lo hi)) ∧ w = w' := by
  go_enter Try.func83, Try.ntmps83
  by_cases h : lo ≤ n
  · go_wp2
    go_ret
    simp [h, inB]
  · go_wp2
    go_ret
    simp [inB]; omega

set_option maxHeartbeats 1000000 in
theorem rattempt_any (slots : Int) (x1 x2 : Value) (a : Att) (w : World) (h0 : 0 ≤ slots) (h1 : slots ≤ 4096) : Calls Try.prog 84 #[.agg #[.int .i64 slots, x1, x2], .agg #[.int .i64 a.s, .int .i64 a.f, .int .i64 a.cs, .int .i64 a.co, .int .i64 a.cf, .int .i64 a.ct, .int .i64 a.cl, .int .i64 a.o]] w fun e w' => e = .returned (.bool (attR slots a)) ∧ Below w.heap.size w w' := by
  obtain ⟨s, f, cs, co, cf, ct, cl, o⟩ := a
  go_enter Try.func84, Try.ntmps84
  go_wp2_with (go_at_call 83; refine (in_any _ _ _ _).mono ?_; rintro e w' ⟨rfl, rfl⟩)
  all_goals
    go_ret
    exact ⟨ret_bool (by first | (simp [attR, *]; done) | (simp [attR, bne, *]; done)), by repeat (first | exact Below.refl _ _ | refine Below.alloc ?_ (by simp; try omega) _ )⟩

theorem keys_any (a : Att) (w : World) : Calls Try.prog 111 #[.agg #[.int .i64 a.s, .int .i64 a.f, .int .i64 a.cs, .int .i64 a.co, .int .i64 a.cf, .int .i64 a.ct, .int .i64 a.cl, .int .i64 a.o]] w fun e w' => e = .returned (.agg #[.int .i64 a.s, .int .i64 a.cs, .int .i64 a.co, .int .i64 a.cf, .int .i64 a.ct, .int .i64 a.cl]) ∧ Below w.heap.size w w' := by
  obtain ⟨s, f, cs, co, cf, ct, cl, o⟩ := a
  go_enter Try.func111, Try.ntmps111
  go_wp2
  exact bodyPost_ret (v := .agg #[.int .i64 s, .int .i64 cs, .int .i64 co, .int .i64 cf, .int .i64 ct, .int .i64 cl]) (by simp [results, Try.results111, go_sem]) rfl ⟨rfl, ((Below.refl _ _).alloc (Nat.le_refl _) _).alloc (by simp) _⟩

def fl50 : Nat → Option (Tmp × Obj)
  | 4 => some (5, .cells #[.int .i64 0, .int .i64 0, .int .i64 0, .int .i64 0, .int .i64 0, .int .i64 0] 152)
  | 5 => some (6, .cells #[.int .i64 0, .int .i64 0, .int .i64 0, .int .i64 0, .int .i64 0, .int .i64 0] 152)
  | _ => none
set_option maxRecDepth 100000 in
set_option maxHeartbeats 2000000 in
theorem less_any (x y : Att) (w : World) : Calls Try.prog 85 #[.agg #[.int .i64 x.s, .int .i64 x.f, .int .i64 x.cs, .int .i64 x.co, .int .i64 x.cf, .int .i64 x.ct, .int .i64 x.cl, .int .i64 x.o], .agg #[.int .i64 y.s, .int .i64 y.f, .int .i64 y.cs, .int .i64 y.co, .int .i64 y.cf, .int .i64 y.ct, .int .i64 y.cl, .int .i64 y.o]] w
    fun e w' => e = .returned (.bool (lessA x y)) ∧ Below w.heap.size w w' := by
  have kx := fun W => keys_any x W
  have ky := fun W => keys_any y W
  have Kx := Lib.hid kx
  have Ky := Lib.hid ky
  clear kx ky
  go_enter Try.func85, Try.ntmps85
  go_upto_region 1 with fail
  generalize hW1 : World.alloc _ _ = W1
  have hb1 : Below w.heap.size w W1 := by rw [← hW1]; exact ((Below.refl _ _).alloc (Nat.le_refl _) _).alloc (by simp) _
  have r2 : Row W1 w.heap.size [.int .i64 x.s, .int .i64 x.f, .int .i64 x.cs, .int .i64 x.co, .int .i64 x.cf, .int .i64 x.ct, .int .i64 x.cl, .int .i64 x.o] := by rw [← hW1]; exact (Row.new _ _ _).alloc (by simp) _
  have r3 : Row W1 (w.heap.size + 1) [.int .i64 y.s, .int .i64 y.f, .int .i64 y.cs, .int .i64 y.co, .int .i64 y.cf, .int .i64 y.ct, .int .i64 y.cl, .int .i64 y.o] := by rw [← hW1]; exact Row.new' _ _ (by simp)
  have hz1 : w.heap.size + 2 ≤ W1.heap.size := by rw [← hW1]; simp
  clear hW1
  go_cut [5, 6] (fun s5 s6 W => ∃ g5 g6 : Nat, s5 = .pointer (some ⟨g5, 0, none⟩) ∧ s6 = .pointer (some ⟨g6, 0, none⟩) ∧ Below W1.heap.size W1 W ∧ Row W g5 [.int .i64 x.s, .int .i64 x.cs, .int .i64 x.co, .int .i64 x.cf, .int .i64 x.ct, .int .i64 x.cl] ∧ Row W g6 [.int .i64 y.s, .int .i64 y.cs, .int .i64 y.co, .int .i64 y.cf, .int .i64 y.ct, .int .i64 y.cl])
  case first =>
    have c2 := r2
    have c3 := r3
    unfold Row at c2 c3
    --GEN
    have x2 : ∀ (x : ExtW W1.heap.size W1.drew) (i : Nat), x.val.cell? ⟨w.heap.size, i, none⟩ = _ := (r2.drew).ext (by omega)
    have x3 : ∀ (x : ExtW W1.heap.size W1.drew) (i : Nat), x.val.cell? ⟨w.heap.size + 1, i, none⟩ = _ := (r3.drew).ext (by omega)
    refine wp_region_float (W1.heap.size) 6 #[false, false, false, false, false, false, false, false] fl50 (by kernel_rfl) (Nat.le_refl _) ⟨by kernel_rfl, by kernel_rfl, by kernel_rfl, by decide, fun i d ob h => by unfold fl50 at h; split at h <;> first | (cases h; exact ⟨_, rfl, rfl, rfl, fun _ _ => by kernel_rfl⟩) | cases h⟩ rfl ?_; intro Hok
    refine FS_plain 0 _ (nth0) rfl Hok (by kernel_rfl) (by kernel_rfl) (l' := #[true, false, false, false, false, false, false, false]) rfl rfl (by decide) rfl ?_; intro K hK; go_big_quiet_op; go_big_quiet_on
    refine FS_call 1 _ (nthS (nth0)) Hok (Nat.le_refl _) (by kernel_rfl) (by kernel_rfl) (l' := #[true, true, false, false, false, false, false, false]) rfl rfl (by decide) rfl (fun _ => by kernel_rfl) (fun x => Kx.out x.val) ?_; simp only [Act.put, List.setIfInBounds_toArray, List.set_cons_succ, List.set_cons_zero]
    refine FS_plain 2 _ (nthS (nthS (nth0))) rfl Hok (by kernel_rfl) (by kernel_rfl) (l' := #[true, true, true, false, false, false, false, false]) rfl rfl (by decide) rfl ?_; intro K hK; go_big_quiet_op; go_big_quiet_on
    refine FS_call 3 _ (nthS (nthS (nthS (nth0)))) Hok (Nat.le_refl _) (by kernel_rfl) (by kernel_rfl) (l' := #[true, true, true, true, false, false, false, false]) rfl rfl (by decide) rfl (fun _ => by kernel_rfl) (fun x => Ky.out x.val) ?_; simp only [Act.put, List.setIfInBounds_toArray, List.set_cons_succ, List.set_cons_zero]
    refine FS_float2 4 5 5 6 _ _ (by kernel_rfl) (l1 := #[true, true, true, true, true, false, false, false]) (l2 := #[true, true, true, true, false, true, false, false]) rfl rfl rfl rfl (by decide) (by decide) ?_ ?_
    · intro g5 hg5 _
      refine FS_float 5 6 _ (by kernel_rfl) (l' := #[true, true, true, true, true, true, false, false]) rfl rfl (by decide) ?_
      intro g6 hg6 hne
      refine FS_end (by kernel_rfl) ?_
      intro W hW hG
      simp only [Act.put, List.setIfInBounds_toArray, List.set_cons_succ, List.set_cons_zero, List.drop_succ_cons, List.drop_zero]
      have b5 : Blk W g5 152 [.int .i64 0, .int .i64 0, .int .i64 0, .int .i64 0, .int .i64 0, .int .i64 0] := hG _ _ (by simp)
      have b6 : Blk W g6 152 [.int .i64 0, .int .i64 0, .int .i64 0, .int .i64 0, .int .i64 0, .int .i64 0] := hG _ _ (by simp)
      have hne' : g5 ≠ g6 := by exact fun h => hne g5 _ (List.mem_cons_self) h.symm
      clear hne hG Hok x2 x3 c2 c3
      have e5 := b5.row
      have e6 := b6.row
      have q5 := b5.frozen
      have q6 := b6.frozen
      unfold Row at e5 e6
      have hne2 : ¬ g6 = g5 := fun h => hne' h.symm
      go_wp2_with fail
      go_meet
      exact ⟨g5, g6, rfl, rfl, (((((((((((((((Below.refl _ _).drew).trans hW).setCell (p := ⟨_, 0, none⟩) hg5 _).setCell (p := ⟨_, 1, none⟩) hg5 _).setCell (p := ⟨_, 2, none⟩) hg5 _).setCell (p := ⟨_, 3, none⟩) hg5 _).setCell (p := ⟨_, 4, none⟩) hg5 _).setCell (p := ⟨_, 5, none⟩) hg5 _).setCell (p := ⟨_, 0, none⟩) hg6 _).setCell (p := ⟨_, 1, none⟩) hg6 _).setCell (p := ⟨_, 2, none⟩) hg6 _).setCell (p := ⟨_, 3, none⟩) hg6 _).setCell (p := ⟨_, 4, none⟩) hg6 _).setCell (p := ⟨_, 5, none⟩) hg6 _), ((((((((((((b5.set_ 0 _).set_ 1 _).set_ 2 _).set_ 3 _).set_ 4 _).set_ 5 _).far (p := ⟨_, 0, none⟩) hne' _).far (p := ⟨_, 1, none⟩) hne' _).far (p := ⟨_, 2, none⟩) hne' _).far (p := ⟨_, 3, none⟩) hne' _).far (p := ⟨_, 4, none⟩) hne' _).far (p := ⟨_, 5, none⟩) hne' _).row, ((((((((((((b6.far (p := ⟨_, 0, none⟩) hne2 _).far (p := ⟨_, 1, none⟩) hne2 _).far (p := ⟨_, 2, none⟩) hne2 _).far (p := ⟨_, 3, none⟩) hne2 _).far (p := ⟨_, 4, none⟩) hne2 _).far (p := ⟨_, 5, none⟩) hne2 _).set_ 0 _).set_ 1 _).set_ 2 _).set_ 3 _).set_ 4 _).set_ 5 _).row⟩
    · intro g6 hg6 _
      refine FS_float 4 5 _ (by kernel_rfl) (l' := #[true, true, true, true, true, true, false, false]) rfl rfl (by decide) ?_
      intro g5 hg5 hne
      refine FS_end (by kernel_rfl) ?_
      intro W hW hG
      simp only [Act.put, List.setIfInBounds_toArray, List.set_cons_succ, List.set_cons_zero, List.drop_succ_cons, List.drop_zero]
      have b5 : Blk W g5 152 [.int .i64 0, .int .i64 0, .int .i64 0, .int .i64 0, .int .i64 0, .int .i64 0] := hG _ _ (by simp)
      have b6 : Blk W g6 152 [.int .i64 0, .int .i64 0, .int .i64 0, .int .i64 0, .int .i64 0, .int .i64 0] := hG _ _ (by simp)
      have hne' : g5 ≠ g6 := by exact hne g6 _ (List.mem_cons_self)
      clear hne hG Hok x2 x3 c2 c3
      have e5 := b5.row
      have e6 := b6.row
      have q5 := b5.frozen
      have q6 := b6.frozen
      unfold Row at e5 e6
      have hne2 : ¬ g6 = g5 := fun h => hne' h.symm
      go_wp2_with fail
      go_meet
      exact ⟨g5, g6, rfl, rfl, (((((((((((((((Below.refl _ _).drew).trans hW).setCell (p := ⟨_, 0, none⟩) hg5 _).setCell (p := ⟨_, 1, none⟩) hg5 _).setCell (p := ⟨_, 2, none⟩) hg5 _).setCell (p := ⟨_, 3, none⟩) hg5 _).setCell (p := ⟨_, 4, none⟩) hg5 _).setCell (p := ⟨_, 5, none⟩) hg5 _).setCell (p := ⟨_, 0, none⟩) hg6 _).setCell (p := ⟨_, 1, none⟩) hg6 _).setCell (p := ⟨_, 2, none⟩) hg6 _).setCell (p := ⟨_, 3, none⟩) hg6 _).setCell (p := ⟨_, 4, none⟩) hg6 _).setCell (p := ⟨_, 5, none⟩) hg6 _), ((((((((((((b5.set_ 0 _).set_ 1 _).set_ 2 _).set_ 3 _).set_ 4 _).set_ 5 _).far (p := ⟨_, 0, none⟩) hne' _).far (p := ⟨_, 1, none⟩) hne' _).far (p := ⟨_, 2, none⟩) hne' _).far (p := ⟨_, 3, none⟩) hne' _).far (p := ⟨_, 4, none⟩) hne' _).far (p := ⟨_, 5, none⟩) hne' _).row, ((((((((((((b6.far (p := ⟨_, 0, none⟩) hne2 _).far (p := ⟨_, 1, none⟩) hne2 _).far (p := ⟨_, 2, none⟩) hne2 _).far (p := ⟨_, 3, none⟩) hne2 _).far (p := ⟨_, 4, none⟩) hne2 _).far (p := ⟨_, 5, none⟩) hne2 _).set_ 0 _).set_ 1 _).set_ 2 _).set_ 3 _).set_ 4 _).set_ 5 _).row⟩
  case rest =>
    obtain ⟨g5, g6, rfl, rfl, hb2, r5, r6⟩ := hcut
    have q5 : ∀ k v, (keysA x)[k]? = some v → wc.cell? ⟨g5, k, none⟩ = some (.int .i64 v) := fun k v hv => (r5 k).trans (ints_get hv)
    have q6 : ∀ k v, (keysA y)[k]? = some v → wc.cell? ⟨g6, k, none⟩ = some (.int .i64 v) := fun k v hv => (r6 k).trans (ints_get hv)
    have Q5 := Lib.hid q5
    have Q6 := Lib.hid q6
    have hbw : Below w.heap.size w wc := hb1.trans (hb2.mono (by omega))
    clear q5 q6 r5 r6 r2 r3
    go_wp2_with fail
    go_loopw [4, 7] (fun s4 i wr => ∃ (k m : Nat), k ≤ 6 ∧ i = .int .i64 k ∧ s4 = .bool false ∧ wr = wc.drewN m ∧ Hid (lessA x y = lessL ((keysA x).drop k) ((keysA y).drop k))) (fun _ i _ => 6 - (intOf i).toNat)
    case atStart => exact ⟨0, 0, by omega, rfl, rfl, rfl, Lib.hid rfl⟩
    case round =>
      obtain ⟨k, m, hk, rfl, rfl, rfl, hst⟩ := hrel
      by_cases hlt : k < 6
      · obtain ⟨vx, hx⟩ := get_of_lt (l := keysA x) (k := k) (by simpa [keysA] using hlt)
        obtain ⟨vy, hy⟩ := get_of_lt (l := keysA y) (k := k) (by simpa [keysA] using hlt)
        have cx := Q5.out k vx hx
        have cy := Q6.out k vy hy
        have hst' := hst.out
        rw [drop_of_get hx, drop_of_get hy] at hst'
        simp only [lessL] at hst'
        have hki : (k : Int) < 6 := by omega
        by_cases he : vx = vy
        · rw [if_pos he] at hst'
          have hf := Lib.hid hst'
          clear hst' hx hy
          subst he
          go_wp2_with fail
          go_quiet (fail)
          go_wp2_with fail
          go_roundw
          case rel => exact ⟨k + 1, m + nq, by omega, by go_num, rfl, by simp, hf⟩
          case measure => simp [intOf]; omega
        · rw [if_neg he] at hst'
          have hf := Lib.hid hst'
          have hne : (vx == vy) = false := by simpa using he
          have hne2 : (vx != vy) = true := by simpa using he
          clear hst' hx hy
          go_wp2_with fail
          go_quiet (fail)
          go_wp2_with fail
          go_quiet (fail)
          go_wp2_with fail
          go_ret
          exact ⟨ret_bool (by rw [hf.out]), below_drewN (below_drewN (below_drewN hbw _) _) _⟩
      · have hk6 : k = 6 := by omega
        subst hk6
        go_wp2_with fail
        go_ret
        exact ⟨ret_bool (by rw [hst.out]; simp [keysA, lessL]), below_drewN hbw _⟩

end Go.Proofs.Ytkdigdnacggknaa
/- The reference's Check, in plain Lean. -/
namespace Go.Proofs.Ytkdigdnacggknaa
namespace Rc

def notLess (rev : List Att) (a : Att) : Bool :=
  match rev with
  | p :: _ => !lessA p a
  | [] => false
def sameFrom : List Att → Att → Bool
  | [], _ => false
  | p :: r, a => if p.s = a.s then (if p.cf = a.cf then true else sameFrom r a) else false
def attsRGo (slots : Int) : List Att → List Att → Bool
  | _, [] => true
  | rev, a :: l => if (!attR slots a || notLess rev a) = true then false else if sameFrom rev a = true then false else attsRGo slots (a :: rev) l
def dlvR (slots : Int) (d : Dlv) : Bool := inB d.sl 0 (slots - 1) && (inB d.fl 0 255 && inB d.fr 0 1048575)
def backD (p d : Dlv) : Bool := decide (d.sl < p.sl) || ((d.sl == p.sl) && decide (d.fl ≤ p.fl))
def backO (p : Option Dlv) (d : Dlv) : Bool :=
  match p with
  | some q => backD q d
  | none => false
def dlvsRGo (slots : Int) : Option Dlv → List Dlv → Bool
  | _, [] => true
  | p, d :: l => if dlvR slots d = false then false else if backO p d = true then false else dlvsRGo slots (some d) l
def goodR (r : Rec) : Bool := inB r.slots 0 4096 && (decide (r.al.length ≤ 65536) && (decide (r.dl.length ≤ 65536) && (attsRGo r.slots [] r.al && dlvsRGo r.slots none r.dl)))
def rcheckE (r : Rec) : Int := if goodR r then 0 else 1

/-! ### the two agree -/
theorem belowB_inB (n m : Int) : belowB n m = inB n 0 (m - 1) := by
  unfold belowB inB
  congr 1
  rw [Bool.eq_iff_iff]; simp; omega

theorem attB_attR (a : Att) (slots : Int) : attB a slots = attR slots a := by
  unfold attB attR
  simp only [belowB_inB]
  simp [inB]

theorem lessL_orI : ∀ (xs ys : List Int), xs.length = ys.length → lessL xs ys = decide (orI (List.zipWith cmpI xs ys) < 0)
  | [], [], _ => by simp [lessL, orI]
  | x :: xs, y :: ys, h => by
    have ih := lessL_orI xs ys (by simpa using h)
    simp only [lessL, List.zipWith_cons_cons, orI]
    by_cases hxy : x = y
    · subst hxy
      simp [cmpI, ih]
    · rw [if_neg hxy]
      unfold cmpI
      by_cases h1 : x < y
      · simp [h1]
      · have h2 : y < x := by omega
        simp [h1, h2]

theorem lessA_cmpA (p a : Att) : lessA p a = decide (cmpA p a < 0) := lessL_orI _ _ rfl

theorem prevBad_notLess (rev : List Att) (a : Att) : prevBad rev.head? a = notLess rev a := by
  cases rev with
  | nil => rfl
  | cons p r =>
    simp only [prevBad, notLess, List.head?_cons, lessA_cmpA]
    rw [Bool.eq_iff_iff]; simp

/-- the senders of the slot of the last attempt -/
def sendersOf : List Att → Int → List Int
  | [], _ => []
  | p :: r, s => if p.s = s then p.cf :: sendersOf r s else []

theorem sameFrom_senders : ∀ (rev : List Att) (a : Att), sameFrom rev a = decide (a.cf ∈ sendersOf rev a.s)
  | [], a => by simp [sameFrom, sendersOf]
  | p :: r, a => by
    have ih := sameFrom_senders r a
    rw [Bool.eq_iff_iff] at ih ⊢
    rw [decide_eq_true_iff] at ih ⊢
    by_cases h : p.s = a.s
    · have hs : sendersOf (p :: r) a.s = p.cf :: sendersOf r a.s := by simp [sendersOf, h]
      rw [hs]
      simp only [sameFrom, h, if_true, List.mem_cons]
      by_cases h2 : p.cf = a.cf
      · simp [h2]
      · have : ¬ a.cf = p.cf := fun e => h2 e.symm
        simp [h2, this, ih]
    · have hs : sendersOf (p :: r) a.s = [] := by simp [sendersOf, h]
      rw [hs]
      simp [sameFrom, h]

theorem attsGo_attsRGo (slots : Int) : ∀ (l rev : List Att) (S : List Int) (at_ : Int), S = sendersOf rev at_ → (∀ p, rev.head? = some p → p.s = at_) → (rev = [] → ∀ a, attB a slots = true → a.s ≠ at_) →
    attsGo slots rev.head? S at_ l = attsRGo slots rev l
  | [], _, _, _, _, _, _ => by simp [attsGo, attsRGo]
  | a :: l, rev, S, at_, hS, hat, hno => by
    simp only [attsGo, attsRGo]
    rw [prevBad_notLess, attB_attR]
    by_cases hb : (!attR slots a || notLess rev a) = true
    · rw [if_pos hb, if_pos hb]
    · rw [if_neg hb, if_neg hb]
      have hga : attB a slots = true := by
        rw [attB_attR]
        revert hb
        cases attR slots a <;> simp
      by_cases hs : a.s = at_
      · subst hs
        rw [if_pos rfl, sameFrom_senders, hS]
        by_cases hin : a.cf ∈ sendersOf rev a.s
        · simp [hin]
        · simp only [hin, if_false, decide_false, Bool.false_eq_true]
          exact attsGo_attsRGo slots l (a :: rev) _ _ (by simp [sendersOf]) (by simp) (by simp)
      · rw [if_neg hs]
        have hsf : sameFrom rev a = false := by
          rw [sameFrom_senders]
          cases rev with
          | nil => simp [sendersOf]
          | cons p r =>
            have : ¬ p.s = a.s := by rw [hat p rfl]; exact fun e => hs e.symm
            simp [sendersOf, this]
        rw [hsf]
        simp only [Bool.false_eq_true, if_false]
        refine attsGo_attsRGo slots l (a :: rev) _ _ ?_ (by simp) (by simp)
        cases rev with
        | nil => simp [sendersOf]
        | cons p r =>
          have : ¬ p.s = a.s := by rw [hat p rfl]; exact fun e => hs e.symm
          simp [sendersOf, this]

theorem attB_slot {a : Att} {slots : Int} (h : attB a slots = true) : a.s ≠ -1 := by
  simp [attB, belowB] at h
  omega

theorem attsB_attsR (l : List Att) (slots : Int) : attsB l slots = attsRGo slots [] l :=
  attsGo_attsRGo slots l [] [] (-1) rfl (by simp) (fun _ _ h => attB_slot h)

theorem dlvB_dlvR (d : Dlv) (slots : Int) : dlvB d slots = dlvR slots d := by
  unfold dlvB dlvR
  simp only [belowB_inB]
  simp [inB, Bool.and_comm, Bool.and_left_comm]

theorem cmpD_backD (p d : Dlv) : decide (0 ≤ cmpD p d) = backD p d := by
  unfold cmpD backD orI orI orI cmpI
  rw [Bool.eq_iff_iff]
  simp
  by_cases h1 : p.sl < d.sl
  · simp [h1]; omega
  · by_cases h2 : d.sl < p.sl
    · simp [h1, h2]
    · have h3 : d.sl = p.sl := by omega
      simp [h3]
      by_cases h4 : p.fl < d.fl
      · simp [h4]
      · by_cases h5 : d.fl < p.fl
        · simp [h4, h5]; omega
        · simp [h4, h5]; omega

theorem dlvsGo_dlvsR (slots : Int) : ∀ (l : List Dlv) (p : Option Dlv), dlvsGo slots p l = dlvsRGo slots p l
  | [], _ => by simp [dlvsGo, dlvsRGo]
  | d :: l, p => by
    simp only [dlvsGo, dlvsRGo]
    rw [dlvB_dlvR, dlvsGo_dlvsR slots l (some d)]
    have : prevBadD p d = backO p d := by
      cases p with
      | none => rfl
      | some q => exact cmpD_backD q d
    rw [this]

theorem check_agree (r : Rec) : checkE r = rcheckE r := by
  unfold checkE rcheckE
  have : good r = goodR r := by
    unfold good goodR
    rw [attsB_attsR, dlvsB, dlvsGo_dlvsR]
    simp [inB, Bool.and_assoc]
  rw [this]
end Rc
end Go.Proofs.Ytkdigdnacggknaa
/- Walk: Check of the reference. -/
namespace Go.Proofs.Ytkdigdnacggknaa
open Go.RowKit
open Rc

theorem rcheck_short {r : Rec} (h : ¬ (0 ≤ r.slots ∧ r.slots ≤ 4096 ∧ r.al.length ≤ 65536 ∧ r.dl.length ≤ 65536)) : rcheckE r = 1 := by
  unfold rcheckE
  rw [if_neg]
  intro hg
  simp [goodR, inB] at hg
  exact h ⟨hg.1.1, hg.1.2, hg.2.1, hg.2.2.1⟩
theorem rcheck_long {r : Rec} (h0 : 0 ≤ r.slots) (h1 : r.slots ≤ 4096) (h2 : r.al.length ≤ 65536) (h3 : r.dl.length ≤ 65536) : rcheckE r = if attsRGo r.slots [] r.al && dlvsRGo r.slots none r.dl then 0 else 1 := by
  unfold rcheckE
  congr 1
  simp [goodR, inB, h0, h1, h2, h3]

theorem revTake_succ {α : Type} {l : List α} {j : Nat} {p : α} (h : l[j]? = some p) : (l.take (j + 1)).reverse = p :: (l.take j).reverse := by
  have hj : j < l.length := (List.getElem?_eq_some_iff.1 h).1
  rw [List.take_succ_eq_append_getElem hj, (List.getElem?_eq_some_iff.1 h).2]
  simp

set_option maxRecDepth 100000 in
set_option maxHeartbeats 4000000 in
theorem rcheck_any (r : Rec) (A D : Option Addr) (ca cd : Nat) (w : World) (hA : LiesA w w.heap.size A r.al) (hD : LiesD w w.heap.size D r.dl) (hla : r.al.length ≤ 9223372036854775807) (hld : r.dl.length ≤ 9223372036854775807) :
    Calls Try.prog 58 #[.agg #[.int .i64 r.slots, .slice A r.al.length ca, .slice D r.dl.length cd]] w fun e w' => e = .returned (.int .i64 (rcheckE r)) ∧ Below w.heap.size w w' := by
  obtain ⟨slots, al, dl⟩ := r
  dsimp only at *
  have hshort := @rcheck_short ⟨slots, al, dl⟩
  have hlong := @rcheck_long ⟨slots, al, dl⟩
  dsimp only at hshort hlong
  obtain ⟨na, hna⟩ : ∃ n, n = al.length := ⟨_, rfl⟩
  obtain ⟨nd, hnd⟩ : ∃ n, n = dl.length := ⟨_, rfl⟩
  rw [← hna, ← hnd] at hshort hlong ⊢
  rw [← hna] at hla
  rw [← hnd] at hld
  have HA := Lib.hid hna
  have HD := Lib.hid hnd
  clear hna hnd
  by_cases hbad : ¬ (0 ≤ slots ∧ slots ≤ 4096 ∧ na ≤ 65536 ∧ nd ≤ 65536)
  · have hfin := Lib.hid (hshort hbad)
    clear hshort hlong
    have hin : inB slots 0 4096 = decide (0 ≤ slots ∧ slots ≤ 4096) := by unfold inB; rw [Bool.decide_and]
    have con := fun W => in_any slots 0 4096 W
    by_cases hs : 0 ≤ slots ∧ slots ≤ 4096
    · have hin2 : inB slots 0 4096 = true := by rw [hin]; simp [hs]
      rw [hin2] at con
      have Con := Lib.hid con
      clear hin hin2 con
      by_cases h2 : 65536 < na
      · go_enter Try.func58, Try.ntmps58
        go_wp2_with (go_at_call 83; refine (Con.out _).mono ?_; rintro e w' ⟨rfl, rfl⟩)
        go_ret
        exact ⟨ret_int (by rw [hfin.out]), (Below.refl _ _).alloc (Nat.le_refl _) _⟩
      · have h3 : 65536 < nd := by omega
        go_enter Try.func58, Try.ntmps58
        go_wp2_with (go_at_call 83; refine (Con.out _).mono ?_; rintro e w' ⟨rfl, rfl⟩)
        go_ret
        exact ⟨ret_int (by rw [hfin.out]), (Below.refl _ _).alloc (Nat.le_refl _) _⟩
    · have hin2 : inB slots 0 4096 = false := by rw [hin]; simpa using hs
      rw [hin2] at con
      have Con := Lib.hid con
      clear hin hin2 con
      go_enter Try.func58, Try.ntmps58
      go_wp2_with (go_at_call 83; refine (Con.out _).mono ?_; rintro e w' ⟨rfl, rfl⟩)
      go_ret
      exact ⟨ret_int (by rw [hfin.out]), (Below.refl _ _).alloc (Nat.le_refl _) _⟩
  obtain ⟨h0, h1, h2, h3⟩ : 0 ≤ slots ∧ slots ≤ 4096 ∧ na ≤ 65536 ∧ nd ≤ 65536 := by omega
  have hfin := Lib.hid (hlong h0 h1 h2 h3)
  clear hshort hlong hbad
  have con : ∀ W, Calls Try.prog 83 #[.int .i64 slots, .int .i64 0, .int .i64 4096] W fun e w' => e = .returned (.bool true) ∧ W = w' := fun W => by
    have := in_any slots 0 4096 W
    rwa [show inB slots 0 4096 = true by simp [inB, h0, h1]] at this
  have Con := Lib.hid con
  clear con
  go_enter Try.func58, Try.ntmps58
  go_wp2_with (go_at_call 83; refine (Con.out _).mono ?_; rintro e w' ⟨rfl, rfl⟩)
  generalize hw1 : w.alloc _ = w1
  have row1 : Row w1 w.heap.size [.int .i64 slots, .slice A na ca, .slice D nd cd] := by rw [← hw1]; exact Row.new _ _ _
  have hbw : Below w.heap.size w w1 := by rw [← hw1]; exact (Below.refl _ _).alloc (Nat.le_refl _) _
  have hz : w.heap.size < w1.heap.size := by rw [← hw1]; simp
  have R1 := Lib.hid row1
  clear hw1 row1
  go_loopw [2, 3] (fun s2 i wr => ∃ (k : Nat), k ≤ na ∧ i = .int .i64 k ∧ s2 = .int .i64 0 ∧ Below w1.heap.size w1 wr ∧
      Hid (attsRGo slots [] al = attsRGo slots (al.take k).reverse (al.drop k))) (fun _ i _ => na - (intOf i).toNat)
  case atStart => exact ⟨0, Nat.zero_le _, rfl, rfl, Below.refl _ _, Lib.hid rfl⟩
  case round =>
    obtain ⟨k, hk, rfl, rfl, hb, hst⟩ := hrel
    have row1 := R1.out.below hb (by omega)
    have hb0 : Below w.heap.size w wr := hbw.trans (hb.mono hbw.size)
    unfold Row at row1
    by_cases hlt : k < na
    · obtain ⟨a, ha⟩ := get_of_lt (l := al) (k := k) (by rw [← HA.out]; exact hlt)
      obtain ⟨b, off, rfl, hbB, hcs⟩ := (hA.below hb0).at_ ha
      obtain ⟨c0, c1, c2, c3, c4, c5, c6, c7⟩ := hcs k a ha
      have hd := Lib.hid (drop_of_get ha)
      have Hcs := Lib.hid hcs
      have Ha := Lib.hid ha
      clear hcs ha
      have hst' := hst.out
      rw [hd.out] at hst'
      simp only [attsRGo] at hst'
      have Hst := Lib.hid hst'
      clear hst'
      go_upto_region 7 with fail
      generalize hW1 : wr.alloc _ = W1
      have hb1 : Below w1.heap.size w1 W1 := by rw [← hW1]; exact hb.alloc hb.size _
      have hz1 : wr.heap.size < W1.heap.size := by rw [← hW1]; simp
      have row4 : Row W1 wr.heap.size [.int .i64 a.s, .int .i64 a.f, .int .i64 a.cs, .int .i64 a.co, .int .i64 a.cf, .int .i64 a.ct, .int .i64 a.cl, .int .i64 a.o] := by rw [← hW1]; exact Row.new wr _ _
      have hkeep : ∀ p : Addr, p.block < w1.heap.size → W1.cell? p = wr.cell? p := fun p hp => by rw [← hW1]; exact World.cell?_alloc_lt wr _ p (Nat.lt_of_lt_of_le hp hb.size)
      have HK := Lib.hid hkeep
      have R4 := Lib.hid row4
      have hzr := hb.size
      clear hkeep c0 c1 c2 c3 c4 c5 c6 c7 hW1 row1
      have hbb : b < W1.heap.size := Nat.lt_of_lt_of_le (Nat.lt_of_lt_of_le hbB hbw.size) hb1.size
      go_cut [60] (fun s60 W => s60 = .bool (!attR slots a || notLess (al.take k).reverse a) ∧ Below W1.heap.size W1 W)
      case first =>
        have x1 := (R1.out.below hb1 hz).ext (B := W1.heap.size) (by omega)
        have x4 := R4.out.ext (B := W1.heap.size) hz1
        have con := fun W => rattempt_any slots (.slice (some ⟨b, off, none⟩) na ca) (.slice D nd cd) a W h0 h1
        cases hat : attR slots a with
        | false =>
          rw [hat] at con
          have Con2 := Lib.hid con
          clear con
          refine wp_region_ext W1.heap.size (by kernel_rfl) (by kernel_rfl) ?_
          repeat (go_big_quiet_step ((go_at_call 84; exact Calls.ext_of (Con2.out _) (Nat.le_refl _))))
          refine wpQuiet_nil ?_
          rintro _ ⟨x, rfl⟩
          go_wp2_with fail
          go_meet
          exact ⟨by rw [hat]; rfl, x.below⟩
        | true =>
          rw [hat] at con
          have Con2 := Lib.hid con
          clear con
          by_cases hk0 : k = 0
          · subst hk0
            have hd0 : decide ((0 : Int) < ((0 : Nat) : Int)) = false := rfl
            refine wp_region_ext W1.heap.size (by kernel_rfl) (by kernel_rfl) ?_
            repeat (go_big_quiet_step ((go_at_call 84; exact Calls.ext_of (Con2.out _) (Nat.le_refl _))))
            refine wpQuiet_nil ?_
            rintro _ ⟨x, rfl⟩
            go_wp2_with fail
            go_meet
            exact ⟨by rw [hat]; rfl, x.below⟩
          · obtain ⟨j, rfl⟩ : ∃ j, k = j + 1 := ⟨k - 1, by omega⟩
            obtain ⟨p, hp⟩ := get_of_lt (l := al) (k := j) (by rw [← HA.out]; omega)
            have hx : ∀ (x : ExtW W1.heap.size W1) (j : Nat), x.val.cell? ⟨b, j, none⟩ = wr.cell? ⟨b, j, none⟩ := fun x j => (x.cell _ hbb).trans (HK.out _ (Nat.lt_of_lt_of_le hbB hbw.size))
            obtain ⟨p0, p1, p2, p3, p4, p5, p6, p7⟩ := Hcs.out j p hp
            have hki : decide ((0 : Int) < ((j + 1 : Nat) : Int)) = true := by simp
            have hw2 : IntKind.i64.wrap (((j + 1 : Nat) : Int) - 1) = (j : Int) := by rw [IntWalk.i64_in _ (by omega)]; omega
            have hjn : (j : Int) < (na : Int) := by omega
            have con3 := fun W => less_any p a W
            have Con3 := Lib.hid con3
            have HP := Lib.hid hp
            clear con3 hp
            refine wp_region_ext W1.heap.size (by kernel_rfl) (by kernel_rfl) ?_
            repeat (go_big_quiet_step ((first | (go_at_call 84; exact Calls.ext_of (Con2.out _) (Nat.le_refl _)) | (go_at_call 85; exact Calls.ext_of (Con3.out _) (Nat.le_refl _)))))
            refine wpQuiet_nil ?_
            rintro _ ⟨x, rfl⟩
            go_wp2_with fail
            go_meet
            exact ⟨by rw [revTake_succ HP.out, hat]; simp [notLess], x.below⟩
      case rest =>
        obtain ⟨rfl, hb2⟩ := hcut
        obtain ⟨wo, hwo⟩ : ∃ wo : World, wo = wc := ⟨_, rfl⟩
        subst hwo
        have hb3 : Below w1.heap.size w1 wo := hb1.trans (hb2.mono hb1.size)
        have hbo : Below w.heap.size w wo := hbw.trans (hb3.mono hbw.size)
        have row1 := R1.out.below hb3 hz
        have row4 := R4.out.below hb2 hz1
        have HK2 : Hid (∀ j : Nat, wo.cell? ⟨b, j, none⟩ = wr.cell? ⟨b, j, none⟩) := Lib.hid fun j => (hb2.cell (p := ⟨b, j, none⟩) hbb).trans (HK.out _ (Nat.lt_of_lt_of_le hbB hbw.size))
        unfold Row at row1 row4
        generalize hbad : (!attR slots a || notLess (al.take k).reverse a) = bad
        have hst' := Hst.out
        rw [hbad] at hst'
        cases bad with
        | true =>
          have hf := Lib.hid hst'
          clear hst' hbad
          go_wp2
          go_ret
          exact ⟨ret_int (by rw [hfin.out, hf.out]; rfl), hbo⟩
        | false =>
          simp only [Bool.false_eq_true, if_false] at hst'
          have hf := Lib.hid hst'
          clear hst' hbad
          go_wp2_with fail
          go_loopw [2, 5] (fun s2 s5 wr => ∃ (j m : Nat), j ≤ k ∧ s5 = .int .i64 ((j : Int) - 1) ∧ s2 = .int .i64 0 ∧ wr = wo.drewN m ∧ Hid (sameFrom (al.take k).reverse a = sameFrom (al.take j).reverse a)) (fun _ s5 _ => (intOf s5 + 1).toNat)
          case atStart => exact ⟨k, 0, Nat.le_refl _, rfl, rfl, rfl, Lib.hid rfl⟩
          case round =>
            obtain ⟨j, m, hj, rfl, rfl, rfl, hsf⟩ := hrel
            rcases Nat.eq_zero_or_pos j with hj0 | hj0
            · subst hj0
              have hd0 : decide ((0 : Int) ≤ ((0 : Nat) : Int) - 1) = false := rfl
              have hsf' : sameFrom (al.take k).reverse a = false := by rw [hsf.out]; rfl
              have hf' := hf.out
              rw [hsf'] at hf'
              have hf2 := Lib.hid hf'
              clear hf' hsf'
              go_wp2_with fail
              go_quiet (fail)
              go_wp2_with fail
              go_roundw
              case rel => exact ⟨k + 1, by omega, by go_num, rfl, by first | exact below_drewN hb3 _ | exact below_drewN (below_drewN hb3 _) _, Lib.hid (by rw [hf2.out, revTake_succ Ha.out]; rfl)⟩
              case measure => simp [intOf]; omega
            · obtain ⟨i, rfl⟩ : ∃ i, j = i + 1 := ⟨j - 1, by omega⟩
              obtain ⟨p, hp⟩ := get_of_lt (l := al) (k := i) (by rw [← HA.out]; omega)
              obtain ⟨p0, _, _, _, p4, _⟩ := Hcs.out i p hp
              have q0 := (HK2.out (off + i * 8)).trans p0
              have q4 := (HK2.out (off + i * 8 + 4)).trans p4
              have hsf' := hsf.out
              rw [revTake_succ hp] at hsf'
              simp only [sameFrom] at hsf'
              have e1 : (((i + 1 : Nat) : Int) - 1) = (i : Int) := by omega
              rw [e1]
              have hd1 : decide ((0 : Int) ≤ (i : Int)) = true := by simp
              have hin : (i : Int) < (na : Int) := by omega
              clear e1 p0 p4 hp
              by_cases hs : p.s = a.s
              · rw [if_pos hs] at hsf'
                have hse : (p.s == a.s) = true := by simpa using hs
                by_cases hc : p.cf = a.cf
                · rw [if_pos hc] at hsf'
                  have hce : (p.cf == a.cf) = true := by simpa using hc
                  have hf' := hf.out
                  rw [hsf'] at hf'
                  have hf2 := Lib.hid hf'
                  clear hf' hsf' hs hc
                  go_wp2_with fail
                  go_quiet (fail)
                  go_wp2_with fail
                  go_quiet (fail)
                  go_wp2_with fail
                  go_ret
                  exact ⟨ret_int (by rw [hfin.out, hf2.out]; rfl), by repeat (first | exact hbo | refine below_drewN ?_ _)⟩
                · rw [if_neg hc] at hsf'
                  have hce : (p.cf == a.cf) = false := by simpa using hc
                  have hsf2 := Lib.hid hsf'
                  clear hsf' hs hc
                  go_wp2_with fail
                  go_quiet (fail)
                  go_wp2_with fail
                  go_quiet (fail)
                  go_wp2_with fail
                  go_roundw
                  case rel => exact ⟨i, _, by omega, by go_num, rfl, by first | rfl | (simp; done), hsf2⟩
                  case measure => simp [intOf]
              · rw [if_neg hs] at hsf'
                have hse : (p.s == a.s) = false := by simpa using hs
                have hf' := hf.out
                rw [hsf'] at hf'
                have hf2 := Lib.hid hf'
                clear hf' hsf' hs
                go_wp2_with fail
                go_quiet (fail)
                go_wp2_with fail
                go_roundw
                case rel => exact ⟨k + 1, by omega, by go_num, rfl, by first | exact below_drewN hb3 _ | exact below_drewN (below_drewN hb3 _) _, Lib.hid (by rw [hf2.out, revTake_succ Ha.out]; rfl)⟩
                case measure => simp [intOf]; omega
    · have hal : attsRGo slots [] al = true := by rw [hst.out, List.drop_of_length_le (by rw [← HA.out]; omega)]; simp [attsRGo]
      have hfin' := hfin.out
      rw [hal] at hfin'
      have hfn := Lib.hid hfin'
      clear hfin' hal hst
      obtain ⟨w2, hw2⟩ : ∃ w2 : World, w2 = wr := ⟨_, rfl⟩
      subst hw2
      have R1' := Lib.hid (R1.out.below hb hz)
      have hz2 : w.heap.size < w2.heap.size := Nat.lt_of_lt_of_le hz hb.size
      go_wp2_with fail
      go_loopw [2, 6] (fun s2 i wr => ∃ (k : Nat), k ≤ nd ∧ i = .int .i64 k ∧ s2 = .int .i64 0 ∧ Below w2.heap.size w2 wr ∧
        Hid (dlvsRGo slots none dl = dlvsRGo slots (if k = 0 then none else dl[k - 1]?) (dl.drop k))) (fun _ i _ => nd - (intOf i).toNat)
      case atStart => exact ⟨0, Nat.zero_le _, rfl, rfl, Below.refl _ _, Lib.hid rfl⟩
      case round =>
        clear row1
        obtain ⟨k, hk, rfl, rfl, hbr, hst⟩ := hrel
        have row1 := R1'.out.below hbr hz2
        have hbd : Below w.heap.size w wr := hb0.trans (hbr.mono hb0.size)
        unfold Row at row1
        by_cases hltd : k < nd
        · obtain ⟨d, hd0⟩ := get_of_lt (l := dl) (k := k) (by rw [← HD.out]; exact hltd)
          obtain ⟨b, off, rfl, hbB, hcs⟩ := (hD.below hbd).at_ hd0
          obtain ⟨c0, c1, c2⟩ := hcs k d hd0
          have hd := Lib.hid (drop_of_get hd0)
          have Hcs := Lib.hid hcs
          have Hd0 := Lib.hid hd0
          clear hcs hd0
          have hst' := hst.out
          rw [hd.out] at hst'
          simp only [dlvsRGo] at hst'
          have Hst := Lib.hid hst'
          clear hst'
          go_upto_region 18 with fail
          generalize hW1 : wr.alloc _ = W1
          have hb1 : Below w2.heap.size w2 W1 := by rw [← hW1]; exact hbr.alloc hbr.size _
          have hz1 : wr.heap.size < W1.heap.size := by rw [← hW1]; simp
          have row7 : Row W1 wr.heap.size [.int .i64 d.fl, .int .i64 d.fr, .int .i64 d.sl] := by rw [← hW1]; exact Row.new wr _ _
          have hkeep : ∀ p : Addr, p.block < w2.heap.size → W1.cell? p = wr.cell? p := fun p hp => by rw [← hW1]; exact World.cell?_alloc_lt wr _ p (Nat.lt_of_lt_of_le hp hbr.size)
          have HK := Lib.hid hkeep
          have hbW : Below w.heap.size w W1 := hb0.trans (hb1.mono hb0.size)
          clear hkeep c0 c1 c2 hW1 row1
          have row1 := R1'.out.below hb1 hz2
          unfold Row at row1 row7
          go_cut [123] (fun s123 W => s123 = .bool (!dlvR slots d) ∧ W = W1)
          case first =>
            go_wp2_with (go_at_call 83; refine (in_any _ _ _ _).mono ?_; rintro e w' ⟨rfl, rfl⟩)
            all_goals
              go_meet
              exact ⟨by simp [dlvR, *], rfl⟩
          case rest =>
            obtain ⟨rfl, hwc⟩ := hcut
            subst wc
            have hst' := Hst.out
            cases hdl : dlvR slots d with
            | false =>
              rw [hdl] at hst'
              have hf := Lib.hid hst'
              clear hst'
              go_wp2
              go_ret
              exact ⟨ret_int (by rw [hfn.out, hf.out]; rfl), hbW⟩
            | true =>
              rw [hdl] at hst'
              simp only [Bool.true_eq_false, if_false] at hst'
              have hf := Lib.hid hst'
              clear hst'
              by_cases hk0 : k = 0
              · subst hk0
                go_wp2
                go_roundw
                case rel => exact ⟨1, by omega, rfl, rfl, hb1, Lib.hid (by rw [hf.out]; simp [Hd0.out, backO])⟩
                case measure => simp [intOf]; omega
              · obtain ⟨j, rfl⟩ : ∃ j, k = j + 1 := ⟨k - 1, by omega⟩
                obtain ⟨p, hp⟩ := get_of_lt (l := dl) (k := j) (by rw [← HD.out]; omega)
                obtain ⟨p0, p1, p2⟩ := Hcs.out j p hp
                have hlb : b < w2.heap.size := Nat.lt_of_lt_of_le hbB hb0.size
                have q0 := (HK.out ⟨b, off + j * 3, none⟩ hlb).trans p0
                have q1 := (HK.out ⟨b, off + j * 3 + 1, none⟩ hlb).trans p1
                have q2 := (HK.out ⟨b, off + j * 3 + 2, none⟩ hlb).trans p2
                have hf' := hf.out
                rw [if_neg (show ¬ (j + 1 = 0) by omega), show j + 1 - 1 = j from rfl, hp] at hf'
                have hk1 : (0 : Int) < ((j + 1 : Nat) : Int) := by omega
                have hf1 := Lib.hid hf'
                clear p0 p1 p2 hp hf'
                go_upto_region 22 with fail
                generalize hW2 : W1.alloc _ = W2
                have row8 : Row W2 W1.heap.size [.int .i64 p.fl, .int .i64 p.fr, .int .i64 p.sl] := by rw [← hW2]; exact Row.new W1 _ _
                have row7' : Row W2 wr.heap.size [.int .i64 d.fl, .int .i64 d.fr, .int .i64 d.sl] := by rw [← hW2]; exact Row.alloc row7 hz1 _
                have hbW2 : Below w2.heap.size w2 W2 := by rw [← hW2]; exact hb1.alloc hb1.size _
                clear hW2 q0 q1 q2 row7 row1
                unfold Row at row8 row7'
                go_cut [151] (fun s151 W => s151 = .bool (backD p d) ∧ W = W2)
                case first =>
                  go_wp2
                  all_goals
                    go_meet
                    exact ⟨by simp [backD, *], rfl⟩
                case rest =>
                  obtain ⟨rfl, hwc⟩ := hcut
                  subst wc
                  have hf' := hf1.out
                  cases hbk : backD p d with
                  | true =>
                    rw [show backO (some p) d = true from hbk] at hf'
                    have hf2 := Lib.hid hf'
                    clear hf'
                    go_wp2
                    go_ret
                    exact ⟨ret_int (by rw [hfn.out, hf2.out]; rfl), hb0.trans (hbW2.mono hb0.size)⟩
                  | false =>
                    rw [show backO (some p) d = false from hbk] at hf'
                    simp only [Bool.false_eq_true, if_false] at hf'
                    have hf2 := Lib.hid hf'
                    clear hf'
                    go_wp2
                    go_roundw
                    case rel => exact ⟨j + 1 + 1, by omega, by go_num, rfl, hbW2, Lib.hid (by rw [hf2.out, if_neg (by omega), show j + 1 + 1 - 1 = j + 1 from rfl, Hd0.out])⟩
                    case measure => simp [intOf]; omega
        · go_wp2
          go_ret
          exact ⟨ret_int (by rw [hfn.out, hst.out, List.drop_of_length_le (by rw [← HD.out]; omega)]; simp [dlvsRGo]), hbd⟩

end Go.Proofs.Ytkdigdnacggknaa
/- Rows of structs that are changed in place: what stands where, exchanges. Generic: no program's numbers. -/
namespace Go.Proofs.Ytkdigdnacggknaa
open Go.RowKit

/-- Block g holds the rows, one behind the other. -/
def RowsAt (w : World) (g : Nat) (t : TypeId) (S : Nat) (rows : List (List Value)) : Prop :=
  (∀ r ∈ rows, r.length = S) ∧ ∃ cur : Array Value, w.heap[g]? = some (.cells cur t (0, 0)) ∧ ∀ k row, rows[k]? = some row → ∀ j u, row[j]? = some u → cur[k * S + j]? = some u

theorem setCells_heap (t : TypeId) (g : Nat) : ∀ (us : List Value) (o : Nat) (w : World) (cur : Array Value), w.heap[g]? = some (.cells cur t (0, 0)) →
    ∃ cur' : Array Value, (World.setCells w g o us).heap[g]? = some (.cells cur' t (0, 0)) ∧ cur'.size = cur.size ∧ (∀ i, (i < o ∨ o + us.length ≤ i) → cur'[i]? = cur[i]?) ∧ (∀ j u, us[j]? = some u → o + j < cur.size → cur'[o + j]? = some u)
  | [], o, w, cur, h => ⟨cur, h, rfl, fun _ _ => rfl, fun j u hu => by simp at hu⟩
  | u :: us, o, w, cur, h => by
    have h1 := heap_setCell_same w g o cur t u h
    obtain ⟨cur', h2, h3, h4, h5⟩ := setCells_heap t g us (o + 1) (w.setCell ⟨g, o, none⟩ u) _ h1
    refine ⟨cur', h2, by rw [h3]; simp, fun i hi => ?_, fun j v hv hs => ?_⟩
    · rw [List.length_cons] at hi
      rw [h4 i (by omega)]
      have : o ≠ i := by omega
      simp [this]
    · cases j with
      | zero =>
        rw [h4 (o + 0) (by omega)]
        simp at hv
        subst hv
        simp [Array.getElem?_setIfInBounds]
        omega
      | succ j =>
        have := h5 j v (by simpa using hv) (by simp; omega)
        rw [show o + (j + 1) = o + 1 + j by omega]
        exact this

theorem RowsAt.put {w : World} {g S : Nat} {t : TypeId} {rows : List (List Value)} (h : RowsAt w g t S rows) {i : Nat} {row : List Value} (hi : i < rows.length) (hr : row.length = S) : RowsAt (World.setCells w g (i * S) row) g t S (rows.set i row) := by
  obtain ⟨hl, cur, hg, hc⟩ := h
  obtain ⟨cur', h2, h3, h4, h5⟩ := setCells_heap t g row (i * S) w cur hg
  have hl' : ∀ r ∈ rows.set i row, r.length = S := fun r hm => by
    rcases List.mem_or_eq_of_mem_set hm with hm | rfl
    · exact hl r hm
    · exact hr
  refine ⟨hl', cur', h2, fun k r hk j u hu => ?_⟩
  have hjS : j < S := by
    have := (List.getElem?_eq_some_iff.1 hu).1
    rw [hl' r (List.mem_of_getElem? hk)] at this
    exact this
  by_cases hki : i = k
  · subst hki
    rw [List.getElem?_set_self hi] at hk
    obtain rfl : row = r := by simpa using hk
    have hold : rows[i]? = some rows[i] := List.getElem?_eq_getElem hi
    obtain ⟨v, hv⟩ : ∃ v, rows[i][j]? = some v := ⟨_, List.getElem?_eq_getElem (by rw [hl _ (List.getElem_mem hi)]; exact hjS)⟩
    have := hc i _ hold j v hv
    exact h5 j u hu (Array.getElem?_eq_some_iff.1 this).1
  · rw [List.getElem?_set_ne hki] at hk
    rw [h4 _ (by rcases Nat.lt_or_gt_of_ne hki with q | q
                 · right; rw [hr]; have := Nat.mul_le_mul_right S (show i + 1 ≤ k by omega); rw [Nat.succ_mul] at this; omega
                 · left; have := Nat.mul_le_mul_right S (show k + 1 ≤ i by omega); rw [Nat.succ_mul] at this; omega)]
    exact hc k r hk j u hu

theorem RowsAt.lt {w : World} {g S : Nat} {t : TypeId} {rows : List (List Value)} (h : RowsAt w g t S rows) : g < w.heap.size := by
  obtain ⟨_, cur, hg, _⟩ := h
  exact heap_lt hg
theorem RowsAt.keep {w w' : World} {g S : Nat} {t : TypeId} {rows : List (List Value)} (h : RowsAt w g t S rows) (he : w'.heap[g]? = w.heap[g]?) : RowsAt w' g t S rows := by
  obtain ⟨hl, cur, hg, hc⟩ := h
  exact ⟨hl, cur, he.trans hg, hc⟩
theorem RowsAt.cell {w : World} {g S : Nat} {t : TypeId} {rows : List (List Value)} (h : RowsAt w g t S rows) {k j : Nat} {row : List Value} {u : Value} (hk : rows[k]? = some row) (hu : row[j]? = some u) : w.cell? ⟨g, k * S + j, none⟩ = some u := by
  obtain ⟨_, cur, hg, hc⟩ := h
  rw [cell_of_row w g _ cur t (0, 0) hg]
  exact hc k row hk j u hu
theorem RowsAt.frozen {w : World} {g S : Nat} {t : TypeId} {rows : List (List Value)} (h : RowsAt w g t S rows) (j : Nat) : w.frozen? ⟨g, j, none⟩ = false := by
  obtain ⟨_, cur, hg, _⟩ := h
  exact frozen_of_row w g j cur t hg
/-- The rows of block g are those of l, in some order; else nothing that there was has changed. -/
def Perms {α : Type} (f : α → List Value) (t : TypeId) (S : Nat) (w0 : World) (g : Nat) (l0 : List α) (w : World) : Prop :=
  w0.grownBy w (some g) ∧ ∃ l : List α, l.Perm l0 ∧ RowsAt w g t S (l.map f)

theorem grown_refl (w : World) (r : Option Nat) : w.grownBy w r := ⟨rfl, rfl, rfl, Nat.le_refl _, fun _ _ _ => rfl⟩
theorem grown_trans {a b c : World} {r : Option Nat} (h : a.grownBy b r) (k : b.grownBy c r) : a.grownBy c r := ⟨k.os.trans h.os, k.tape.trans h.tape, k.output.trans h.output, Nat.le_trans h.size k.size, fun x hx hr => (k.block x (Nat.lt_of_lt_of_le hx h.size) hr).trans (h.block x hx hr)⟩
theorem grown_below {w w' : World} (h : Below w.heap.size w w') (r : Option Nat) : w.grownBy w' r := ⟨h.os, h.tape, h.output, h.size, fun x hx _ => h.block x hx⟩
theorem grown_put (g : Nat) : ∀ (us : List Value) (o : Nat) (w : World), w.grownBy (World.setCells w g o us) (some g)
  | [], _, w => grown_refl w _
  | u :: us, o, w => grown_trans (b := w.setCell ⟨g, o, none⟩ u) ⟨rfl, rfl, rfl, by simp [World.setCell], fun x _ hx => Below.heap_setCell w ⟨g, o, none⟩ u x (fun e => hx (by rw [e]))⟩ (grown_put g us (o + 1) _)
theorem Perms.start {α : Type} {f : α → List Value} {t : TypeId} {S : Nat} {w : World} {g : Nat} {l : List α} (h : RowsAt w g t S (l.map f)) : Perms f t S w g l w := ⟨grown_refl _ _, l, .refl _, h⟩
theorem Perms.below {α : Type} {f : α → List Value} {t : TypeId} {S : Nat} {w0 w w' : World} {g : Nat} {l : List α} (h : Perms f t S w0 g l w) (hb : Below w.heap.size w w') : Perms f t S w0 g l w' := by
  obtain ⟨hg, l', hp, hr⟩ := h
  exact ⟨grown_trans hg (grown_below hb _), l', hp, hr.keep (hb.block g hr.lt)⟩
theorem Perms.trans {α : Type} {f : α → List Value} {t : TypeId} {S : Nat} {w0 w w' : World} {g : Nat} {l l' : List α} (h : w0.grownBy w (some g)) (hp : l'.Perm l) (k : Perms f t S w g l' w') : Perms f t S w0 g l w' := by
  obtain ⟨hg, l2, hp2, hr⟩ := k
  exact ⟨grown_trans h hg, l2, hp2.trans hp, hr⟩
theorem set_map {α β : Type} (f : α → β) (l : List α) (i : Nat) (a : α) : (l.map f).set i (f a) = (l.set i a).map f := by rw [List.map_set]
/-- Two rows are exchanged. -/
theorem Perms.swap {α : Type} {f : α → List Value} {t : TypeId} {S : Nat} (hf : ∀ a, (f a).length = S) {w0 w : World} {g : Nat} {l0 l : List α} (hg : w0.grownBy w (some g)) (hp : l.Perm l0) (hr : RowsAt w g t S (l.map f)) {i j : Nat} {a b : α} (hi : l[i]? = some a) (hj : l[j]? = some b) :
    Perms f t S w0 g l0 ((w.setCells g (i * S) (f b)).setCells g (j * S) (f a)) := by
  obtain ⟨hil, rfl⟩ := List.getElem?_eq_some_iff.1 hi
  obtain ⟨hjl, rfl⟩ := List.getElem?_eq_some_iff.1 hj
  refine ⟨grown_trans hg (grown_trans (grown_put g _ _ _) (grown_put g _ _ _)), (l.set i l[j]).set j l[i], (List.set_set_perm hil hjl).trans hp, ?_⟩
  have h1 := hr.put (i := i) (row := f l[j]) (by simpa using hil) (hf _)
  rw [set_map] at h1
  have h2 := h1.put (i := j) (row := f l[i]) (by simpa using hjl) (hf _)
  rw [set_map] at h2
  exact h2
end Go.Proofs.Ytkdigdnacggknaa
/- Walk: Serve of package monitor. -/
namespace Go.Proofs.Ytkdigdnacggknaa
open Go.RowKit
open Nd Rc Mo

theorem filter_one {α : Type} (p : α → Bool) (a : α) : (List.filter p [a]).length = if p a = true then 1 else 0 := by
  by_cases h : p a = true <;> simp [List.filter, h]
theorem cntAtt_succ {al : List Att} {k : Nat} {a : Att} (h : al[k]? = some a) (id : Int) : cntAtt (al.take (k + 1)) id = cntAtt (al.take k) id + (if (a.cl == id && !(a.o == 4)) = true then 1 else 0) := by
  unfold cntAtt
  rw [take_snoc h, List.filter_append, List.length_append, filter_one]
  split <;> simp
theorem cntLost_succ {al : List Att} {k : Nat} {a : Att} (h : al[k]? = some a) (id : Int) : cntLost (al.take (k + 1)) id = cntLost (al.take k) id + (if (a.cl == id && !(a.o == 4) && !(a.o == 1)) = true then 1 else 0) := by
  unfold cntLost
  rw [take_snoc h, List.filter_append, List.length_append, filter_one]
  split <;> simp
theorem cnt_bounds (al : List Att) (id : Int) (k : Nat) : 0 ≤ cntAtt (al.take k) id ∧ cntAtt (al.take k) id ≤ k ∧ 0 ≤ cntLost (al.take k) id ∧ cntLost (al.take k) id ≤ k := by
  unfold cntAtt cntLost
  have h0 := List.length_take_le k al
  have h1 := List.length_filter_le (fun a : Att => a.cl == id && !(a.o == 4)) (al.take k)
  have h2 := List.length_filter_le (fun a : Att => a.cl == id && !(a.o == 4) && !(a.o == 1)) (al.take k)
  omega
theorem arr_bounds (f : Fl) (n : Int) (l : List Int) (h : (arrival f n l).2 = true) : rel f n ≤ (arrival f n l).1 ∧ (arrival f n l).1 ≤ rel f n + f.dl - 1 := by
  unfold arrival at h ⊢
  revert h
  generalize (-1 : Int) = late
  induction l generalizing late with
  | nil => intro hq; cases hq
  | cons s l ih2 =>
    unfold arrGo
    split
    · rename_i hh; intro _; exact hh
    · split
      · exact ih2 _
      · exact ih2 _

/-- A change of a block that is neither the map nor a row of numbers. -/
theorem OwnsGr.grown {w w' : World} {base b n : Nat} {G : Int → Int → List Int} (h : OwnsGr w base b n G) {X : Nat} {t : TypeId} {cs : List Value} (hg : w.grownBy w' (some X)) (bX : Blk w X t cs) (ht : t ≠ 3) : OwnsGr w' base b n G := by
  obtain ⟨D, h1, h2⟩ := h
  obtain ⟨es, clock, hb, F, hs, hD, hbb, hlen, hap⟩ := h1
  refine ⟨D, World.ownsGroups.kept ⟨es, clock, hb, F, hs, hD, hbb, hlen, hap⟩ hg (fun e => ?_) (fun es' clock' hb' x hx => ?_), h2⟩
  · injection e with e
    subst e
    unfold Blk at bX
    rw [hb] at bX
    cases bX
  · cases hv : x.val.ownBlock with
    | none => exact .inl rfl
    | some g =>
      refine .inr (fun e => ?_)
      injection e with e
      subst e
      rw [hb] at hb'
      obtain ⟨rfl, rfl⟩ : es = es' ∧ clock = clock' := by simpa using hb'
      obtain ⟨y, hy⟩ := F.reads x hx
      obtain ⟨z, hz, _⟩ := Go.WideElems.rd_val hy
      obtain ⟨zs, hoi, _⟩ := rowElem_inv hz
      exact ht (own_type2 hoi.1 hv.symm bX)
theorem OwnsGr.cells {w : World} {base b n : Nat} {G : Int → Int → List Int} (h : OwnsGr w base b n G) {X : Nat} {t : TypeId} {cs : List Value} (bX : Blk w X t cs) (ht : t ≠ 3) (us : List Value) (o : Nat) : OwnsGr (w.setCells X o us) base b n G :=
  h.grown (grown_put X us o w) bX ht
/-- What has been counted behind n frames, and the numbers' bounds. -/
theorem sv_bounds {f : Fl} (hf : fault f = 0) (dl : List Dlv) (k : Nat) : 0 ≤ (svGo f dl k).1 ∧ (svGo f dl k).1 ≤ k ∧ 0 ≤ (svGo f dl k).2.1 ∧ (svGo f dl k).2.1 ≤ 512 ∧ 0 ≤ (svGo f dl k).2.2 ∧ (svGo f dl k).2.2 ≤ 512 := by
  obtain ⟨ln, h1, _, h3, h4, h5⟩ := svGo_inv hf dl k
  obtain ⟨_, _, _, hp, hq, hdl, _⟩ := fault_zero hf
  by_cases hk : ln < k
  · obtain ⟨a1, a2, a3⟩ := h4 hk
    omega
  · obtain ⟨a1, a2⟩ := h5 (by omega)
    omega
theorem svGo_succ (f : Fl) (dl : List Dlv) (k : Nat) : svGo f dl (k + 1) = svStep f dl (svGo f dl k) k := by
  unfold svGo
  rw [List.range_succ, List.foldl_append]
  rfl
end Go.Proofs.Ytkdigdnacggknaa

import Derived.Deep.CutBlock
import Derived.Laws.EntriesVeiled
import Derived.Laws.OwnMore
import Derived.Laws.CopyRow
import Derived.Test.YticnppnejafhdaaGreatDoorZ3
set_option linter.unusedVariables false
set_option linter.unusedSimpArgs false
/- Walk: Late of package monitor. -/
namespace Go.Proofs.YticnppnejafhdaaGreatDoor
open Go.RowKit
open Nd Rc Mo

def Mo.Lt.row (x : Lt) : List Value := [.int .i64 x.fl, .int .i64 x.fr, .int .i64 x.sl]
theorem Tryz.infoL : (Tryz.prog.info? 39).map (fun i => (i.zero, i.size, i.bytes)) = some (some (.agg #[.int .i64 0, .int .i64 0, .int .i64 0]), 3, 24) := by kernel_rfl
theorem lateN_len (f : Fl) (dl : List Dlv) (n : Nat) : (lateN f dl n).length ≤ 1 := by unfold lateN; split <;> simp
theorem range_len (f : Fl) (dl : List Dlv) : ∀ n : Nat, ((List.range n).flatMap (lateN f dl)).length ≤ n
  | 0 => by simp
  | n + 1 => by
    rw [List.range_succ, List.flatMap_append, List.length_append]
    have := range_len f dl n
    have h := lateN_len f dl n
    simp only [List.flatMap_cons, List.flatMap_nil, List.append_nil]
    omega
theorem late_len {r : Rec} (hs : r.slots ≤ 4096) : ∀ (l : List Fl), (∀ f ∈ l, fault f = 0) → (l.flatMap (fun f => lateF f r)).length ≤ l.length * 4096
  | [], _ => by simp
  | f :: l, h => by
    rw [List.flatMap_cons, List.length_append, List.length_cons]
    have h1 := late_len hs l (fun g hg => h g (List.mem_cons_of_mem _ hg))
    have h2 := range_len f r.dl (complete f r.slots).toNat
    have h3 := complete_bounds (h f List.mem_cons_self) hs
    have : (lateF f r).length ≤ 4096 := by unfold lateF; omega
    omega
theorem take_snoc {α : Type} {l : List α} {k : Nat} {a : α} (h : l[k]? = some a) : l.take (k + 1) = l.take k ++ [a] := by
  obtain ⟨hk, rfl⟩ := List.getElem?_eq_some_iff.1 h
  rw [List.take_succ_eq_append_getElem hk]
/-- What has been found behind n frames of flow k. -/
def lateQ (fs : List Fl) (r : Rec) (k : Nat) (f : Fl) (n : Nat) : List Lt := (fs.take k).flatMap (fun f => lateF f r) ++ (List.range n).flatMap (lateN f r.dl)
theorem lateQ_succ (fs : List Fl) (r : Rec) (k : Nat) (f : Fl) (n : Nat) : lateQ fs r k f (n + 1) = lateQ fs r k f n ++ lateN f r.dl n := by
  unfold lateQ
  rw [List.range_succ, List.flatMap_append, ← List.append_assoc]
  simp
theorem lateQ_end {fs : List Fl} {r : Rec} {k : Nat} {f : Fl} (h : fs[k]? = some f) : lateQ fs r k f (complete f r.slots).toNat = (fs.take (k + 1)).flatMap (fun f => lateF f r) := by
  unfold lateQ
  rw [take_snoc h, List.flatMap_append]
  simp [lateF]
theorem num_small {a : Int} (h : 0 ≤ a ∧ a ≤ 1000000000) : Num64 a := num64_of (by omega)

set_option maxRecDepth 100000 in
set_option maxHeartbeats 4000000 in
theorem late_any (fs : List Fl) (r : Rec) (F A D : Option Addr) (cf ca cd : Nat) (w : World) (hF : Lies w w.heap.size 6 F (fs.map Fl.row)) (hf : fs.length ≤ 1000000) (hA : LiesA w w.heap.size A r.al) (hD : LiesD w w.heap.size D r.dl) (hla : r.al.length ≤ 1000000) (hld : r.dl.length ≤ 1000000) :
    Calls Tryz.prog 67 #[.slice F fs.length cf, .agg #[.int .i64 r.slots, .slice A r.al.length ca, .slice D r.dl.length cd]] w fun e w' => Below w.heap.size w w' ∧ ∃ v, e = .returned (.tuple #[v, .int .i64 (late fs r).2]) ∧ w'.ownsRow w.heap.size 39 3 v (late fs r).1.length ((late fs r).1.flatMap Lt.row) := by
  obtain ⟨i0, hi, hz0, hz1, hz2⟩ := info_parts Tryz.infoL
  obtain ⟨N, hN⟩ : ∃ N, N = w.heap.size := ⟨_, rfl⟩
  obtain ⟨na, hna⟩ : ∃ n, n = r.al.length := ⟨_, rfl⟩
  obtain ⟨nd, hnd⟩ : ∃ n, n = r.dl.length := ⟨_, rfl⟩
  obtain ⟨m, hm⟩ : ∃ m, m = fs.length := ⟨_, rfl⟩
  obtain ⟨slots, hsl⟩ : ∃ s, s = r.slots := ⟨_, rfl⟩
  obtain ⟨W1, hW1⟩ : ∃ W1, W1 = w.alloc (.cells #[.int .i64 slots, .slice A na ca, .slice D nd cd] 35) := ⟨_, rfl⟩
  have hb1 : Below N w W1 := by rw [hW1, hN]; exact (Below.refl _ _).alloc (Nat.le_refl _) _
  have bR : Blk W1 N 35 [.int .i64 slots, .slice A na ca, .slice D nd cd] := by rw [hW1]; exact Blk.new2 _ [.int .i64 slots, .slice A na ca, .slice D nd cd] hN
  have HW := Lib.hid (fun W (h' : Below W1.heap.size W1 W) => (show Below w.heap.size w W ∧ Row W N [.int .i64 slots, .slice A na ca, .slice D nd cd] from ⟨by rw [← hN]; exact hb1.trans (h'.mono (by have := bR.lt; omega)), (bR.below h' bR.lt).row⟩))
  have HF := Lib.hid (fun W (h' : Below W1.heap.size W1 W) => Lies.later hF (HW.out W h').1)
  have HRt := Lib.hid (right_any fs r F A D cf ca cd W1 (HF.out _ (Below.refl _ _)) hf ((hA.below (HW.out _ (Below.refl _ _)).1).more (HW.out _ (Below.refl _ _)).1.size) ((hD.below (HW.out _ (Below.refl _ _)).1).more (HW.out _ (Below.refl _ _)).1.size) hla hld)
  have HAr := Lib.hid (fun (hg : good r = true) W (h' : Below W1.heap.size W1 W) => arrivals_any r A D ca cd W ((hD.below (HW.out W h').1).more (HW.out W h').1.size) hld (fun d hd => by
    obtain ⟨a1, a2, a3, a4, a5, a6⟩ := good_dlv hg hd
    have := (good_slots hg).2
    exact ⟨num_small (by omega), num_small (by omega), num_small (by omega)⟩))
  rw [← hna, ← hnd, ← hsl] at HRt HAr ⊢
  rw [← hm] at HRt ⊢
  rw [← hnd] at hld
  have HM := Lib.hid hm
  have HSl := Lib.hid hsl
  have HNd := Lib.hid hnd
  have HW1 := Lib.hid hW1
  have HN := Lib.hid hN
  have hNlt : N < W1.heap.size := bR.lt
  clear hF hA hD hna hnd hm hsl hb1 bR hN hf hla
  have r1 := (HW.out _ (Below.refl _ _)).2
  unfold Row at r1
  subst hW1
  go_enter Tryz.func67, Tryz.ntmps67
  clear r1
  go_wp2_with fail
  rw [← HN.out]
  refine HRt.out.mono ?_
  rintro e w2 ⟨rfl, hb2⟩
  clear HRt
  cases hr : right fs r with
  | false =>
    have hl : Hid (late fs r = ([], 1)) := Lib.hid (by unfold late; rw [hr]; rfl)
    clear hr HAr
    go_wp2_with fail
    go_ret2
    exact ⟨(HW.out _ hb2).1, _, by rw [hl.out]; rfl, by rw [hl.out]; exact World.ownsRow_nil _ _ _ _⟩
  | true =>
    have hl : Hid (late fs r = (fs.flatMap (fun f => lateF f r), 0)) := Lib.hid (by unfold late; rw [if_pos hr])
    obtain ⟨hc, hg⟩ := right_inv hr
    obtain ⟨hfa, _, hm16⟩ := chkF_ok hc
    obtain ⟨hs0, hs1⟩ := good_slots hg
    have HFa := Lib.hid hfa
    have HAr := Lib.hid (HAr.out hg _ hb2)
    rw [← HSl.out] at hs0 hs1
    have hm16' : m ≤ 16 := by rw [HM.out]; exact hm16
    have r2 := (HW.out _ hb2).2
    unfold Row at r2
    clear hc hg hfa hr hm16
    go_wp2_with fail
    refine HAr.out.mono ?_
    rintro e w3 ⟨hb3, b, rfl, hbb, hO⟩
    clear HAr r2
    have hB3 : Below (World.heap (w.alloc (.cells #[.int .i64 slots, .slice A na ca, .slice D nd cd] 35))).size (w.alloc (.cells #[.int .i64 slots, .slice A na ca, .slice D nd cd] 35)) w3 := hb2.trans (hb3.mono hb2.size)
    have HG := Lib.hid (fun W (h' : Below w3.heap.size w3 W) => (show OwnsGr W (b + 1) b nd (slotsOf r.dl) from hO.below h'))
    have HX := Lib.hid (fun W (h' : Below w3.heap.size w3 W) => (show Below w.heap.size w W ∧ Row W N [.int .i64 slots, .slice A na ca, .slice D nd cd] ∧ Lies W W.heap.size 6 F (fs.map Fl.row) ∧ w3.heap.size ≤ W.heap.size from ⟨(HW.out _ (hB3.trans (h'.mono hB3.size))).1, (HW.out _ (hB3.trans (h'.mono hB3.size))).2, HF.out _ (hB3.trans (h'.mono hB3.size)), h'.size⟩))
    have hMN : N < w3.heap.size := Nat.lt_of_lt_of_le hNlt hB3.size
    have hbM : b < w3.heap.size := by
      obtain ⟨D0, h1, _⟩ := hO
      obtain ⟨es, clock, hb0, _⟩ := h1
      exact (Array.getElem?_eq_some_iff.1 hb0).1
    clear hO hb3 hb2 HW HF hbb
    go_wp2_with fail
    go_loopw [7, 21] (fun s7 i wr => ∃ (k : Nat) (v : Value), v = s7 ∧ k ≤ m ∧ i = .int .i64 k ∧ Below w3.heap.size w3 wr ∧ Hid (wr.ownsRow w3.heap.size 39 3 v ((fs.take k).flatMap (fun f => lateF f r)).length (((fs.take k).flatMap (fun f => lateF f r)).flatMap Lt.row))) (fun _ i _ => m - (intOf i).toNat)
    case atStart => exact ⟨0, _, rfl, by omega, rfl, Below.refl _ _, Lib.hid (World.ownsRow_nil _ _ _ _)⟩
    case round =>
      obtain ⟨k, v, rfl, hk, rfl, hb, HO⟩ := hrel
      by_cases hlt : k < m
      · obtain ⟨f, hfk⟩ := get_of_lt (l := fs) (k := k) (by rw [← HM.out]; exact hlt)
        have hff := HFa.out f (List.mem_of_getElem? hfk)
        obtain ⟨fb, foff, rfl, hfB, hcs⟩ := (HX.out _ hb).2.2.1.at_ hfk
        have c0 := hcs k f hfk 0 _ rfl
        have c1 := hcs k f hfk 1 _ rfl
        have c2 := hcs k f hfk 2 _ rfl
        have c3 := hcs k f hfk 3 _ rfl
        have c4 := hcs k f hfk 4 _ rfl
        have c5 := hcs k f hfk 5 _ rfl
        simp only [Nat.add_zero] at c0 c1 c2 c3 c4 c5
        have HFk := Lib.hid hfk
        clear hcs
        go_upto_region 8 with fail
        clear c0 c1 c2 c3 c4 c5 hfk
        obtain ⟨X, hX⟩ : ∃ X, X = wr.heap.size := ⟨_, rfl⟩
        generalize hWa : World.alloc _ _ = Wa
        have bX : Blk Wa X 28 [.int .i64 f.id, .int .i64 f.fr, .int .i64 f.tn, .int .i64 f.pe, .int .i64 f.ph, .int .i64 f.dl] := by rw [← hWa]; exact Blk.new2 _ [.int .i64 f.id, .int .i64 f.fr, .int .i64 f.tn, .int .i64 f.pe, .int .i64 f.ph, .int .i64 f.dl] hX
        have hba : Below w3.heap.size w3 Wa := by rw [← hWa]; exact hb.alloc hb.size _
        have HOa : Hid (Wa.ownsRow w3.heap.size 39 3 v ((fs.take k).flatMap (fun f => lateF f r)).length (((fs.take k).flatMap (fun f => lateF f r)).flatMap Lt.row)) := Lib.hid (by rw [← hWa]; exact HO.out.alloc _)
        rw [← hX]
        have hXM : w3.heap.size ≤ X := by rw [hX]; exact hb.size
        clear hWa hX HO hb
        have Con := Lib.hid (complete_any f slots (.slice A na ca) (.slice D nd cd) hff hs0 hs1 rfl rfl Wa)
        have hcb := complete_bounds hff hs1
        obtain ⟨cn, hcn⟩ : ∃ cn : Nat, complete f slots = (cn : Int) := ⟨(complete f slots).toNat, by omega⟩
        have HCN : Hid (cn = (complete f r.slots).toNat) := Lib.hid (by rw [← HSl.out, hcn]; rfl)
        have hcn4 : cn ≤ 4096 := by omega
        rw [hcn] at Con
        have rX := bX.row
        have r3 := (HX.out _ hba).2.1
        unfold Row at rX r3
        clear hcb hcn
        go_wp2_with fail
        refine Con.out.mono ?_
        rintro e w4 ⟨rfl, hb4⟩
        have hB4 : Below w3.heap.size w3 w4 := hba.trans (hb4.mono hba.size)
        have HX4 : Hid (Blk w4 X 28 [.int .i64 f.id, .int .i64 f.fr, .int .i64 f.tn, .int .i64 f.pe, .int .i64 f.ph, .int .i64 f.dl]) := Lib.hid (bX.below hb4 bX.lt)
        have HO4 : Hid (w4.ownsRow w3.heap.size 39 3 v (lateQ fs r k f 0).length ((lateQ fs r k f 0).flatMap Lt.row)) := Lib.hid (by have := own_below HOa.out hb4 (Nat.le_refl _); unfold lateQ; simpa using this)
        have HQl : Hid (∀ n, n ≤ 4096 → (lateQ fs r k f n).length ≤ 100000) := Lib.hid (fun n hn => by
          unfold lateQ
          rw [List.length_append]
          have h1 := late_len (r := r) (by rw [← HSl.out]; exact hs1) (fs.take k) (fun g hg => HFa.out g (List.mem_of_mem_take hg))
          have h2 := range_len f r.dl n
          have h3 := List.length_take_le k fs
          rw [List.length_take] at h1
          have h4 : min k fs.length ≤ 16 := by omega
          omega)
        clear Con rX r3 bX hba HOa hb4
        go_wp2_with fail
        go_loopw [7, 28] (fun s7 j wr => ∃ (n : Nat) (v : Value), v = s7 ∧ n ≤ cn ∧ j = .int .i64 n ∧ Below w3.heap.size w3 wr ∧ Hid (Blk wr X 28 [.int .i64 f.id, .int .i64 f.fr, .int .i64 f.tn, .int .i64 f.pe, .int .i64 f.ph, .int .i64 f.dl]) ∧ Hid (wr.ownsRow w3.heap.size 39 3 v (lateQ fs r k f n).length ((lateQ fs r k f n).flatMap Lt.row))) (fun _ j _ => cn - (intOf j).toNat)
        case atStart => exact ⟨0, _, rfl, by omega, rfl, hB4, HX4, HO4⟩
        case round =>
          clear HX4 HO4 hB4
          obtain ⟨n, v2, rfl, hn, rfl, hb, HXb, HO⟩ := hrel
          by_cases hlt2 : n < cn
          · obtain ⟨wd, hwd⟩ : ∃ wd, wd = wr.drew := ⟨_, rfl⟩
            have hbd : Below wr.heap.size wr wd := by rw [hwd]; exact (Below.refl _ _).drew
            obtain ⟨u5, hlook', hoi⟩ := (HG.out wd (hb.trans (hbd.mono hb.size))).look (by unfold maxLen; omega) (a := f.id) (c := (n : Int)) (num_small (by obtain ⟨h1, _⟩ := fault_zero hff; omega)) (num_small (by omega))
            obtain ⟨A5, c5, hu5⟩ := own_form2 hoi.1
            have hl5 : (slotsOf r.dl f.id (n : Int)).length ≤ 1000000 := by
              have h1 : (slotsOf r.dl f.id (n : Int)).length ≤ r.dl.length := by unfold slotsOf; rw [List.length_map]; exact List.length_filter_le _ _
              have := HNd.out
              omega
            have hI5 : LiesI wd wd.heap.size A5 (slotsOf r.dl f.id (n : Int)) := by
              have h1 := hoi.1
              rw [hu5] at h1
              exact own_I (by rw [flatI_map]; exact h1)
            have Con := Lib.hid (arrival_any f n (slotsOf r.dl f.id (n : Int)) A5 c5 wd hff (by omega) (by omega) hI5 hl5)
            rw [hu5] at hlook'
            obtain ⟨T5, hT5⟩ : ∃ T5, T5 = arrival f n (slotsOf r.dl f.id (n : Int)) := ⟨_, rfl⟩
            rw [← hT5] at Con
            have HT5 : Hid (lateN f r.dl n = if T5.2 = true then [] else [⟨f.id, n, T5.1⟩]) := Lib.hid (by unfold lateN; rw [← hT5])
            obtain ⟨q5, hq5⟩ : ∃ q, q = (slotsOf r.dl f.id (n : Int)).length := ⟨_, rfl⟩
            rw [← hq5] at Con hlook'
            have HXd : Hid (Blk wd X 28 [.int .i64 f.id, .int .i64 f.fr, .int .i64 f.tn, .int .i64 f.pe, .int .i64 f.ph, .int .i64 f.dl]) := Lib.hid (by rw [hwd]; exact HXb.out.drew)
            have hXl : X < wr.heap.size := HXb.out.lt
            have HDZ : Hid (wr.heap.size = wd.heap.size) := Lib.hid (by rw [hwd]; rfl)
            have hBd : Below w3.heap.size w3 wd := hb.trans (hbd.mono hb.size)
            have HOd : Hid (wd.ownsRow w3.heap.size 39 3 v2 (lateQ fs r k f n).length ((lateQ fs r k f n).flatMap Lt.row)) := Lib.hid (own_below HO.out hbd (Nat.le_refl _))
            have hn6 : (n : Int) ≤ 1000000 := by omega
            clear hoi hu5 hI5 hl5 hT5 hq5 hbd
            go_upto_region 11 with fail
            refine wp_region_rough (wr.heap.size) 14 [] #[false, false, false, false, false, false, false, false, false, false, false, false, false, false] (by kernel_rfl) rfl rfl ?_
            rw [← hwd]
            clear hwd
            have y0 : ∀ (x' : ExtW wr.heap.size wd), x'.val.cell? ⟨X, 0, none⟩ = some (.int .i64 f.id) := fun x' => (x'.cell _ hXl).trans (HXd.out.row 0)
            have y1 : ∀ (x' : ExtW wr.heap.size wd), x'.val.cell? ⟨X, 1, none⟩ = some (.int .i64 f.fr) := fun x' => (x'.cell _ hXl).trans (HXd.out.row 1)
            have y2 : ∀ (x' : ExtW wr.heap.size wd), x'.val.cell? ⟨X, 2, none⟩ = some (.int .i64 f.tn) := fun x' => (x'.cell _ hXl).trans (HXd.out.row 2)
            have y3 : ∀ (x' : ExtW wr.heap.size wd), x'.val.cell? ⟨X, 3, none⟩ = some (.int .i64 f.pe) := fun x' => (x'.cell _ hXl).trans (HXd.out.row 3)
            have y4 : ∀ (x' : ExtW wr.heap.size wd), x'.val.cell? ⟨X, 4, none⟩ = some (.int .i64 f.ph) := fun x' => (x'.cell _ hXl).trans (HXd.out.row 4)
            have y5 : ∀ (x' : ExtW wr.heap.size wd), x'.val.cell? ⟨X, 5, none⟩ = some (.int .i64 f.dl) := fun x' => (x'.cell _ hXl).trans (HXd.out.row 5)
            refine anyR_take 0 _ (nth0) rfl (by kernel_rfl) (by kernel_rfl) (by kernel_rfl) (by kernel_rfl) (l' := #[true, false, false, false, false, false, false, false, false, false, false, false, false, false]) rfl rfl ?_; intro K hK; go_big_quiet_op; go_big_quiet_on
            refine anyR_take0 1 _ (nthS (nth0)) rfl (by kernel_rfl) (by kernel_rfl) (by kernel_rfl) (l' := #[true, true, false, false, false, false, false, false, false, false, false, false, false, false]) rfl rfl ?_; intro K hK; go_big_quiet_op; go_big_quiet_on
            refine anyR_take0 2 _ (nthS (nthS (nth0))) rfl (by kernel_rfl) (by kernel_rfl) (by kernel_rfl) (l' := #[true, true, true, false, false, false, false, false, false, false, false, false, false, false]) rfl rfl ?_; intro K hK; go_big_quiet_op; go_big_quiet_on
            refine anyR_take0 3 _ (nthS (nthS (nthS (nth0)))) rfl (by kernel_rfl) (by kernel_rfl) (by kernel_rfl) (l' := #[true, true, true, true, false, false, false, false, false, false, false, false, false, false]) rfl rfl ?_; intro K hK; go_big_quiet_op; go_big_quiet_on
            refine anyR_take 4 _ (nthS (nthS (nthS (nthS (nth0))))) rfl (by kernel_rfl) (by kernel_rfl) (by kernel_rfl) (by kernel_rfl) (l' := #[true, true, true, true, true, false, false, false, false, false, false, false, false, false]) rfl rfl ?_; intro K hK; go_big_quiet_op; go_big_quiet_on
            refine anyR_take0 5 _ (nthS (nthS (nthS (nthS (nthS (nth0)))))) rfl (by kernel_rfl) (by kernel_rfl) (by kernel_rfl) (l' := #[true, true, true, true, true, true, false, false, false, false, false, false, false, false]) rfl rfl ?_; intro K hK; go_big_quiet_op; go_big_quiet_on
            refine anyR_take0 6 _ (nthS (nthS (nthS (nthS (nthS (nthS (nth0))))))) rfl (by kernel_rfl) (by kernel_rfl) (by kernel_rfl) (l' := #[true, true, true, true, true, true, true, false, false, false, false, false, false, false]) rfl rfl ?_; intro K hK; go_big_quiet_op; go_big_quiet_on
            refine anyR_one 7 _ (nthS (nthS (nthS (nthS (nthS (nthS (nthS (nth0)))))))) (by kernel_rfl) (l' := #[true, true, true, true, true, true, true, true, false, false, false, false, false, false]) rfl ?_
            clear y0 y1 y2 y3 y4 y5
            go_wp2_with fail
            clear hlook'
            refine OneR_mk (Below.refl _ _) ?_
            refine anyR_one 8 _ (nthS (nthS (nthS (nthS (nthS (nthS (nthS (nthS (nth0))))))))) (by kernel_rfl) (l' := #[true, true, true, true, true, true, true, true, true, false, false, false, false, false]) rfl ?_
            go_wp2_with fail
            refine Con.out.mono ?_
            rintro e w5 ⟨rfl, hb5⟩
            clear Con
            go_wp2_with fail
            refine OneR_mk (hb5.mono (Nat.le_of_eq HDZ.out)) ?_
            refine anyR_take0 9 _ (nthS (nthS (nthS (nthS (nthS (nthS (nthS (nthS (nthS (nth0)))))))))) rfl (by kernel_rfl) (by kernel_rfl) (by kernel_rfl) (l' := #[true, true, true, true, true, true, true, true, true, true, false, false, false, false]) rfl rfl ?_; intro K hK; go_big_quiet_op; go_big_quiet_on
            refine anyR_take0 10 _ (nthS (nthS (nthS (nthS (nthS (nthS (nthS (nthS (nthS (nthS (nth0))))))))))) rfl (by kernel_rfl) (by kernel_rfl) (by kernel_rfl) (l' := #[true, true, true, true, true, true, true, true, true, true, true, false, false, false]) rfl rfl ?_; intro K hK; go_big_quiet_op; go_big_quiet_on
            refine anyR_take0 11 _ (nthS (nthS (nthS (nthS (nthS (nthS (nthS (nthS (nthS (nthS (nthS (nth0)))))))))))) rfl (by kernel_rfl) (by kernel_rfl) (by kernel_rfl) (l' := #[true, true, true, true, true, true, true, true, true, true, true, true, false, false]) rfl rfl ?_; intro K hK; go_big_quiet_op; go_big_quiet_on
            refine anyR_take0 12 _ (nthS (nthS (nthS (nthS (nthS (nthS (nthS (nthS (nthS (nthS (nthS (nthS (nth0))))))))))))) rfl (by kernel_rfl) (by kernel_rfl) (by kernel_rfl) (l' := #[true, true, true, true, true, true, true, true, true, true, true, true, true, false]) rfl rfl ?_; intro K hK; go_big_quiet_op; go_big_quiet_on
            refine anyR_take0 13 _ (nthS (nthS (nthS (nthS (nthS (nthS (nthS (nthS (nthS (nthS (nthS (nthS (nthS (nth0)))))))))))))) rfl (by kernel_rfl) (by kernel_rfl) (by kernel_rfl) (l' := #[true, true, true, true, true, true, true, true, true, true, true, true, true, true]) rfl rfl ?_; intro K hK; go_big_quiet_op; go_big_quiet_on
            refine anyR_end (by kernel_rfl) ?_
            have hB5 : Below w3.heap.size w3 w5 := hBd.trans (hb5.mono hBd.size)
            have HX5 : Hid (Blk w5 X 28 [.int .i64 f.id, .int .i64 f.fr, .int .i64 f.tn, .int .i64 f.pe, .int .i64 f.ph, .int .i64 f.dl]) := Lib.hid (HXd.out.below hb5 HXd.out.lt)
            have HO5 : Hid (w5.ownsRow w3.heap.size 39 3 v2 (lateQ fs r k f n).length ((lateQ fs r k f n).flatMap Lt.row)) := Lib.hid (own_below HOd.out hb5 (Nat.le_refl _))
            clear HOd HXd hBd HDZ hb5 HO HXb hb hXl hn6
            cases hok : T5.2 with
            | true =>
              have hQ : Hid (lateQ fs r k f (n + 1) = lateQ fs r k f n) := Lib.hid (by rw [lateQ_succ, HT5.out, hok]; simp)
              clear hok
              go_wp2_with fail
              go_roundw
              case rel => exact ⟨n + 1, v2, rfl, by omega, by go_num, hB5, HX5, Lib.hid (by rw [hQ.out]; exact HO5.out)⟩
              case measure => simp [intOf]; omega
            | false =>
              have hQ : Hid (lateQ fs r k f (n + 1) = lateQ fs r k f n ++ [⟨f.id, n, T5.1⟩]) := Lib.hid (by rw [lateQ_succ, HT5.out, hok]; simp)
              clear hok
              have hl5 := HQl.out n (by omega)
              have rX := HX5.out.row
              unfold Row at rX
              go_wp2_with (at_builtin; refine wpList_append_own_at _ rfl (.tmp 45) (.tmp 51) 117 rfl w3.heap.size 39 i0 (.agg #[.int .i64 0, .int .i64 0, .int .i64 0]) 3 24 Tryz.underlying117 hi hz0 hz1 hz2 rfl (by decide) v2 _ _ rfl (HO5.out.alloc _) ⟨w5.heap.size, 0, none⟩ 1 1 [.int .i64 f.id, .int .i64 (n : Int), .int .i64 T5.1] rfl rfl ?e0 ?e1 ?e2 ?e3 ?e4 ?_)
              case e0 => exact (Blk.new2 39 [.int .i64 f.id, .int .i64 (n : Int), .int .i64 T5.1] rfl).news2
              case e1 => intro u hu; simp only [List.mem_cons, List.not_mem_nil, or_false] at hu; rcases hu with rfl | rfl | rfl <;> rfl
              case e2 => unfold maxLen; omega
              case e3 => omega
              case e4 => simp; have := hB5.size; omega
              intro v7 w7 ho7 hg7 hnil7 hat7
              clear hnil7 hat7
              have hB6 : Below w3.heap.size w3 (w5.alloc (.cells #[.int .i64 f.id, .int .i64 (n : Int), .int .i64 T5.1] 39)) := hB5.alloc hB5.size _
              have hB7 : Below w3.heap.size w3 w7 := hB6.grown hg7 hB6.size (fun j hj => (HO5.out.lt j hj).1)
              have HX7 : Hid (Blk w7 X 28 [.int .i64 f.id, .int .i64 f.fr, .int .i64 f.tn, .int .i64 f.pe, .int .i64 f.ph, .int .i64 f.dl]) := Lib.hid ((hg7.block X (by have := HX5.out.lt; simp; omega) (fun e => by have := own_type2 HO5.out e HX5.out; revert this; decide)).trans (HX5.out.alloc _))
              have HO7 : Hid (w7.ownsRow w3.heap.size 39 3 v7 (lateQ fs r k f (n + 1)).length ((lateQ fs r k f (n + 1)).flatMap Lt.row)) := Lib.hid (by rw [hQ.out]; simpa [Mo.Lt.row] using ho7)
              obtain ⟨A7, c7, hv7⟩ := own_form2 ho7
              clear ho7 hg7 hB6 rX hl5
              subst hv7
              go_wp2_with fail
              go_roundw
              case rel => exact ⟨n + 1, _, rfl, by omega, by go_num, hB7, HX7, HO7⟩
              case measure => simp [intOf]; omega
          · have h1 : n = cn := by omega
            subst h1
            have HOn : Hid (wr.ownsRow w3.heap.size 39 3 v2 ((fs.take (k + 1)).flatMap (fun f => lateF f r)).length (((fs.take (k + 1)).flatMap (fun f => lateF f r)).flatMap Lt.row)) := Lib.hid (by rw [← lateQ_end HFk.out, ← HCN.out]; exact HO.out)
            clear HO HXb
            go_wp2_with fail
            go_roundw
            case rel => exact ⟨k + 1, v2, rfl, by omega, by go_num, hb, HOn⟩
            case measure => simp [intOf]; omega
      · have h1 : k = m := by omega
        subst h1
        have hto : fs.take k = fs := List.take_of_length_le (by rw [← HM.out]; exact Nat.le_refl _)
        rw [hto] at HO
        obtain ⟨A7, c7, hv7⟩ := own_form2 HO.out
        subst hv7
        go_wp2_with fail
        go_ret2
        exact ⟨(HX.out _ hb).1, _, by rw [hl.out]; rfl, by rw [hl.out]; exact own_base HO.out (by have := HN.out; omega)⟩
end Go.Proofs.YticnppnejafhdaaGreatDoor
/- Owned rows of structs: what the record layer's text DecP holds of them. -/
namespace Go.Proofs.YticnppnejafhdaaGreatDoor
open Go.RowKit
open Rc
theorem Blk.new' {w : World} {g : Nat} (t : TypeId) (cs : List Value) (h : g = w.heap.size) : Blk (w.alloc (.cells cs.toArray t)) g t cs := by rw [h]; exact Blk.new w t cs
theorem own_kept {w w' : World} {base : Nat} {e : TypeId} {size : Nat} {v : Value} {n : Nat} {xs : List Value} (h : w.ownsRow base e size v n xs) (hk : ∀ g cs, v.ownBlock = some g → Blk w g e cs → Blk w' g e cs) : w'.ownsRow base e size v n xs := by
  refine ⟨h.1, ?_⟩
  rcases h.2 with h0 | ⟨g, cap, cur, hv, hg, hh, h1, h2, h3, h4⟩
  · exact .inl h0
  · refine .inr ⟨g, cap, cur, hv, hg, ?_, h1, h2, h3, h4⟩
    have := hk g cur.toList (by rw [hv]; rfl) (by unfold Blk; simpa using hh)
    unfold Blk at this
    simpa using this
theorem Blk.news {w : World} {g : Nat} {t : TypeId} {cs : List Value} (h : Blk w g t cs) : ∀ j u, cs[j]? = some u → w.cell? ((⟨g, 0, none⟩ : Addr).add j) = some u := fun j u hu => by
  have e : (⟨g, 0, none⟩ : Addr).add j = ⟨g, j, none⟩ := by
    unfold Addr.add
    split
    · rename_i h; subst h; rfl
    · simp
  rw [e]; exact (h.row j).trans hu
theorem ints_one {l : List Int} : ∀ u ∈ l.map (Value.int .i64), u.oneCell' = true := fun u hu => by
  obtain ⟨z, _, rfl⟩ := List.mem_map.1 hu
  rfl

theorem own_form {w : World} {base : Nat} {e : TypeId} {size : Nat} {v : Value} {n : Nat} {xs : List Value} (h : w.ownsRow base e size v n xs) : ∃ A c, v = .slice A n c := by
  rcases h.2 with ⟨rfl, h0⟩ | ⟨g, cap, cur, rfl, _⟩
  · exact ⟨none, 0, by rw [h0]⟩
  · exact ⟨_, _, rfl⟩
def flatA (l : List Rc.Att) : List Value := l.flatMap Rc.Att.row
theorem row_len_A (a : Rc.Att) : a.row.length = 8 := rfl
theorem own_liesA {w : World} {base : Nat} {v : Value} {l : List Att} (h : w.ownsRow base 66 8 v l.length (flatA l)) : ∃ A c, v = .slice A l.length c ∧ LiesA w w.heap.size A l := by
  obtain ⟨A, c, e, h1, _⟩ := own_lies (f := Att.row) row_len_A h
  exact ⟨A, c, e, h1⟩
theorem own_A {w : World} {base n c : Nat} {A : Option Addr} {l : List Att} (h : w.ownsRow base 66 8 (.slice A n c) l.length (flatA l)) : LiesA w w.heap.size A l := by
  obtain ⟨A', c', e, h1⟩ := own_liesA h
  injection e with e _ _
  subst e
  exact h1
end Go.Proofs.YticnppnejafhdaaGreatDoor
/- Walk: Attempts of package record. -/
namespace Go.Proofs.YticnppnejafhdaaGreatDoor
open Go.RowKit
open Rc
theorem Tryz.infoAtt : (Tryz.prog.info? 66).map (fun i => (i.zero, i.size, i.bytes)) = some (some (.agg #[.int .i64 0, .int .i64 0, .int .i64 0, .int .i64 0, .int .i64 0, .int .i64 0, .int .i64 0, .int .i64 0]), 8, 64) := by kernel_rfl
/-- The attempts of a frame. -/
def ofFrame (l : List Att) (flow frame : Int) : List Att := l.filter fun a => a.cl == flow && a.f == frame

theorem own_weak {w : World} {base base' : Nat} {e : TypeId} {size : Nat} {v : Value} {n : Nat} {xs : List Value} (h : w.ownsRow base e size v n xs) (hb : base' ≤ base) : w.ownsRow base' e size v n xs := by
  obtain ⟨h1, h2⟩ := h
  refine ⟨h1, ?_⟩
  rcases h2 with h2 | ⟨g, cap, cur, e1, e2, e3⟩
  · exact Or.inl h2
  · exact Or.inr ⟨g, cap, cur, e1, Nat.le_trans hb e2, e3⟩
set_option maxRecDepth 100000 in
set_option maxHeartbeats 8000000 in
theorem attempts2_any (r : Rec) (A D : Option Addr) (ca cd : Nat) (flow frame : Int) (w : World) (hA : LiesA w w.heap.size A r.al) (hla : r.al.length ≤ 1000000) :
    Calls Tryz.prog 73 #[.agg #[.int .i64 r.slots, .slice A r.al.length ca, .slice D r.dl.length cd], .int .i64 flow, .int .i64 frame] w fun e w' => Below w.heap.size w w' ∧ ∃ va, e = .returned va ∧ w'.ownsRow w.heap.size 66 8 va (ofFrame r.al flow frame).length (flatA (ofFrame r.al flow frame)) := by
  obtain ⟨slots, al, dl⟩ := r
  dsimp only at *
  obtain ⟨na, hna⟩ : ∃ n, n = al.length := ⟨_, rfl⟩
  obtain ⟨nd, hnd⟩ : ∃ n, n = dl.length := ⟨_, rfl⟩
  rw [← hna, ← hnd]
  rw [← hna] at hla
  have HA := Lib.hid hna
  clear hna hnd
  obtain ⟨F, hF⟩ : ∃ F, F = ofFrame al flow frame := ⟨_, rfl⟩
  rw [← hF]
  have HF := Lib.hid hF
  clear hF
  obtain ⟨i0, hi, hz0, hz1, hz2⟩ := info_parts Tryz.infoAtt
  go_enter Tryz.func73, Tryz.ntmps73
  go_wp2_with fail
  generalize hW0 : World.alloc _ _ = W0
  have bR : Blk W0 w.heap.size 35 [.int .i64 slots, .slice A na ca, .slice D nd cd] := by rw [← hW0]; exact Blk.new' _ [.int .i64 slots, .slice A na ca, .slice D nd cd] rfl
  have hb0 : Below w.heap.size w W0 := by rw [← hW0]; exact (Below.refl _ _).alloc (Nat.le_refl _) _
  clear hW0
  obtain ⟨N, hN⟩ : ∃ N, N = w.heap.size := ⟨_, rfl⟩
  rw [← hN] at bR hb0 ⊢
  have hA' : LiesA w N A al := by rw [hN]; exact hA
  have HN := Lib.hid hN
  clear hN hA
  go_loopw [7, 14] (fun s7 i wr => ∃ (k : Nat) (acc : List Att) (va : Value), va = s7 ∧ k ≤ na ∧ i = .int .i64 k ∧ acc.length ≤ k ∧ wr.ownsRow (N + 1) 66 8 va acc.length (flatA acc) ∧ Below N w wr ∧ N + 1 ≤ wr.heap.size ∧ Hid (F = acc ++ ofFrame (al.drop k) flow frame)) (fun _ i _ => na - (intOf i).toNat)
  case atStart => exact ⟨0, [], _, rfl, Nat.zero_le _, rfl, Nat.le_refl _, World.ownsRow_nil _ _ _ _, hb0, bR.lt, Lib.hid (by rw [HF.out]; simp)⟩
  case round =>
    obtain ⟨k, acc, va, rfl, hk, rfl, hal, hown, hb, hMw, hst⟩ := hrel
    by_cases hlt : k < na
    · obtain ⟨a, ha⟩ := get_of_lt (l := al) (k := k) (by rw [← HA.out]; exact hlt)
      obtain ⟨b, off, rfl, hbB, hcs⟩ := (hA'.below hb).at_ ha
      obtain ⟨c0, c1, c2, c3, c4, c5, c6, c7⟩ := hcs k a ha
      have hd := Lib.hid (drop_of_get ha)
      have hvl : ∀ g, va.ownBlock = some g → N + 1 ≤ g ∧ g < wr.heap.size := hown.lt
      have HV := Lib.hid hvl
      clear hcs ha hvl
      go_upto_region 5 with fail
      generalize hW1 : wr.alloc _ = W1
      have ba : Blk W1 wr.heap.size 66 [.int .i64 a.s, .int .i64 a.f, .int .i64 a.cs, .int .i64 a.co, .int .i64 a.cf, .int .i64 a.ct, .int .i64 a.cl, .int .i64 a.o] := by rw [← hW1]; exact Blk.new' _ [.int .i64 a.s, .int .i64 a.f, .int .i64 a.cs, .int .i64 a.co, .int .i64 a.cf, .int .i64 a.ct, .int .i64 a.cl, .int .i64 a.o] rfl
      have hb1 : Below N w W1 := by rw [← hW1]; exact hb.alloc (by omega) _
      have hsz : wr.heap.size + 1 ≤ W1.heap.size := by rw [← hW1]; simp
      have hown1 : W1.ownsRow (N + 1) 66 8 va acc.length (flatA acc) := by rw [← hW1]; exact hown.alloc _
      have ca := ba.row
      unfold Row at ca
      clear hW1 c0 c1 c2 c3 c4 c5 c6 c7 hown
      by_cases hm : a.cl = flow ∧ a.f = frame
      · obtain ⟨h1, h2⟩ := hm
        have e1 : (a.cl == flow) = true := by simp [h1]
        have e2 : (a.f == frame) = true := by simp [h2]
        have hst' : Hid (F = (acc ++ [a]) ++ ofFrame (al.drop (k + 1)) flow frame) := Lib.hid (by rw [hst.out, hd.out]; simp [ofFrame, h1, h2])
        have HO := Lib.hid hown1
        clear hown1 hst h1 h2
        go_wp2_with (at_builtin; refine wpList_append_own_at _ rfl (.tmp 29) (.tmp 31) 30 rfl (N + 1) 66 i0 (.agg #[.int .i64 0, .int .i64 0, .int .i64 0, .int .i64 0, .int .i64 0, .int .i64 0, .int .i64 0, .int .i64 0]) 8 64 Tryz.underlying30 hi hz0 hz1 hz2 rfl (by decide) va acc.length (flatA acc) rfl (HO.out.alloc _) ⟨W1.heap.size, 0, none⟩ 1 1 [.int .i64 a.s, .int .i64 a.f, .int .i64 a.cs, .int .i64 a.co, .int .i64 a.cf, .int .i64 a.ct, .int .i64 a.cl, .int .i64 a.o] rfl rfl ?e0 ?e1 ?e2 ?e3 ?e4 ?_)
        case e0 => exact (Blk.new' 66 [.int .i64 a.s, .int .i64 a.f, .int .i64 a.cs, .int .i64 a.co, .int .i64 a.cf, .int .i64 a.ct, .int .i64 a.cl, .int .i64 a.o] rfl).news
        case e1 => exact ints_one (l := [a.s, a.f, a.cs, a.co, a.cf, a.ct, a.cl, a.o])
        case e2 => unfold maxLen; omega
        case e3 => omega
        case e4 => simp; omega
        intro v3 w3 ho3 hg3 hnil3 hat3
        clear hnil3 hat3
        have hb3 : Below N w w3 := (hb1.alloc (by omega) _).grown hg3 (by simp; omega) (by intro g hg; have := HV.out g hg; omega)
        have hz3 : N + 1 ≤ w3.heap.size := by have := hg3.size; simp at this; omega
        have O3 : w3.ownsRow (N + 1) 66 8 v3 (acc ++ [a]).length (flatA (acc ++ [a])) := by simpa [flatA, Att.row] using ho3
        obtain ⟨A3, c3, hv3⟩ := own_form ho3
        clear ho3 hg3 HO
        subst hv3
        go_wp2_with fail
        go_roundw
        case rel => exact ⟨k + 1, acc ++ [a], _, rfl, by omega, by go_num, by simp; omega, O3, hb3, hz3, hst'⟩
        case measure => simp [intOf]; omega
      · have hst' : Hid (F = acc ++ ofFrame (al.drop (k + 1)) flow frame) := Lib.hid (by
          rw [hst.out, hd.out]
          have : (a.cl == flow && a.f == frame) = false := by
            rw [Bool.eq_false_iff]
            intro h
            simp at h
            exact hm h
          simp only [ofFrame, List.filter_cons, this, Bool.false_eq_true, if_false])
        clear hst
        by_cases h1 : a.cl = flow
        · have h2 : ¬ a.f = frame := fun h => hm ⟨h1, h⟩
          have e1 : (a.cl == flow) = true := by simp [h1]
          have e2 : (a.f == frame) = false := by simp [h2]
          go_wp2_with fail
          go_roundw
          case rel => exact ⟨k + 1, acc, _, rfl, by omega, by go_num, by omega, hown1, hb1, by omega, hst'⟩
          case measure => simp [intOf]; omega
        · have e1 : (a.cl == flow) = false := by simp [h1]
          go_wp2_with fail
          go_roundw
          case rel => exact ⟨k + 1, acc, _, rfl, by omega, by go_num, by omega, hown1, hb1, by omega, hst'⟩
          case measure => simp [intOf]; omega
    · have hst' : Hid (F = acc) := Lib.hid (by rw [hst.out, List.drop_of_length_le (by rw [← HA.out]; omega)]; simp [ofFrame])
      obtain ⟨A3, c3, hv3⟩ := own_form hown
      have HO := Lib.hid hown
      clear hst hown
      subst hv3
      go_wp2_with fail
      go_ret
      exact ⟨by rw [← HN.out]; exact hb, _, rfl, by rw [hst'.out, ← HN.out]; exact own_weak HO.out (by omega)⟩

end Go.Proofs.YticnppnejafhdaaGreatDoor
/- Plain: networks, and what Check says of them. No program's numbers. -/
namespace Go.Proofs.YticnppnejafhdaaGreatDoor
namespace Mo
open Nd
structure Lk where
  (fr tt ls : Int)
structure Net where
  (nodes noise thr : Int)
  (pow : List (List Int))
  (lk : List Lk)
  (mg : List Int)
def outP (p : Int) : Bool := decide (p < 0) || decide (68719476736 < p)
def powE (nodes : Int) (pow : List (List Int)) : Int :=
  if ((pow.length : Nat) : Int) ≠ nodes ∨ pow.any (fun r => !(((r.length : Nat) : Int) == nodes)) = true then 1 else if pow.any (fun r => r.any outP) = true then 2 else 0
def lkB (nodes : Int) (l : Lk) : Bool := inB l.fr 0 (nodes - 1) && (inB l.tt 0 (nodes - 1) && (!(l.fr == l.tt) && inB l.ls 0 7))
def prevBadL (p : Option Lk) (l : Lk) : Bool := match p with
  | none => false
  | some q => decide (l.fr < q.fr) || (q.fr == l.fr && decide (l.tt ≤ q.tt))
def powAt (pow : List (List Int)) (a b : Int) : Int := (pow.getD a.toNat []).getD b.toNat 0
def lkE (nodes : Int) (pow : List (List Int)) (p : Option Lk) (l : Lk) (m : Int) : Int :=
  if lkB nodes l = false then 2 else if prevBadL p l = true then 5 else if m < 0 ∨ powAt pow l.fr l.tt < m then 2 else 0
def lkGo (nodes : Int) (pow : List (List Int)) : Option Lk → List Lk → List Int → Int
  | _, [], _ => 0
  | p, l :: ls, ms => if lkE nodes pow p l (ms.headD 0) = 0 then lkGo nodes pow (some l) ls ms.tail else lkE nodes pow p l (ms.headD 0)
/-- The first fault of a network. -/
def chkN (n : Net) : Int :=
  if n.nodes < 2 ∨ 32 < n.nodes then 2
  else if powE n.nodes n.pow ≠ 0 then powE n.nodes n.pow
  else if inB n.noise 0 68719476736 = false ∨ inB n.thr 1000 100000 = false then 2
  else if 128 < n.lk.length then 8
  else if n.mg.length ≠ n.lk.length then 11
  else lkGo n.nodes n.pow none n.lk n.mg
end Mo
end Go.Proofs.YticnppnejafhdaaGreatDoor
/- Walks: the powers of a network. -/
namespace Go.Proofs.YticnppnejafhdaaGreatDoor
open Go.RowKit
open Nd Rc Mo

/-- A row of powers, with its place. -/
structure PRow where
  (l : List Int) (A : Option Addr) (c : Nat)
def PRow.row (p : PRow) : List Value := [.slice p.A p.l.length p.c]
def Mo.Lk.row (l : Lk) : List Value := [.int .i64 l.fr, .int .i64 l.tt, .int .i64 l.ls]
def LiesP (w : World) (B : Nat) (P : Option Addr) (pw : List PRow) : Prop := Lies w B 1 P (pw.map PRow.row) ∧ ∀ p ∈ pw, LiesI w B p.A p.l ∧ p.l.length ≤ 1000000
theorem LiesP.later {w w' : World} {P : Option Addr} {pw : List PRow} (h : LiesP w w.heap.size P pw) (hb : Below w.heap.size w w') : LiesP w' w'.heap.size P pw := ⟨(h.1.below hb).more hb.size, fun p hp => ⟨((h.2 p hp).1.below hb).more hb.size, (h.2 p hp).2⟩⟩
theorem idx_any {α : Type} (p : α → Bool) (l : List α) : decide (0 ≤ idxP p l 0) = l.any p := by
  rcases idxP_spec p l 0 with ⟨h1, h2⟩ | ⟨i, a, h1, h2, h3, h4⟩
  · rw [h1, show decide ((0 : Int) ≤ -1) = false from rfl]
    symm
    rw [Bool.eq_false_iff]
    intro h
    obtain ⟨x, hx, hpx⟩ := List.any_eq_true.1 h
    have := List.all_eq_true.1 h2 x hx
    rw [hpx] at this
    cases this
  · rw [h3, show decide ((0 : Int) ≤ 0 + (i : Int)) = true from decide_eq_true (by omega)]
    symm
    exact List.any_eq_true.2 ⟨a, List.mem_of_getElem? h1, h2⟩

set_option maxRecDepth 100000 in
set_option maxHeartbeats 1000000 in
theorem indexI_any (p : Int → Bool) (g : FuncId) (cb : Array Value) (l : List Int) (A : Option Addr) (c : Nat) (w : World) (eg : ∀ args w, (callFunc g args).run Tryz.prog w = .ok (.enter g args) w)
    (hA : Lies w w.heap.size 1 A (l.map irow)) (hl : l.length ≤ 1000000) (hp : ∀ W, Below w.heap.size w W → ∀ a, a ∈ l → Calls Tryz.prog g (#[.int .i64 a] ++ cb) W fun e w' => e = .returned (.bool (p a)) ∧ Below W.heap.size W w') :
    Calls Tryz.prog 122 #[.slice A l.length c, .func (.func g) #[] cb] w fun e w' => e = .returned (.int .i64 (idxP p l 0)) ∧ Below w.heap.size w w' := by
  obtain ⟨n, hn⟩ : ∃ n, n = l.length := ⟨_, rfl⟩
  rw [← hn] at hl ⊢
  have HN := Lib.hid hn
  obtain ⟨T, hT⟩ : ∃ T, T = idxP p l 0 := ⟨_, rfl⟩
  rw [← hT]
  have HT := Lib.hid hT
  have HP := Lib.hid hp
  clear hn hT hp
  go_enter Tryz.func122, Tryz.ntmps122
  go_wp2_with fail
  go_loopw [8] (fun i wr => ∃ (k : Nat), k ≤ n ∧ i = .int .i64 k ∧ Below w.heap.size w wr ∧ Hid (T = idxP p (l.drop k) k)) (fun i _ => n - (intOf i).toNat)
  case atStart => exact ⟨0, Nat.zero_le _, rfl, Below.refl _ _, Lib.hid (by rw [HT.out]; rfl)⟩
  case round =>
    obtain ⟨k, hk, rfl, hb, hst⟩ := hrel
    by_cases hlt : k < n
    · obtain ⟨a, ha⟩ := get_of_lt (l := l) (k := k) (by rw [← HN.out]; exact hlt)
      obtain ⟨b, off, rfl, hbB, hcs⟩ := (Lies.below hA hb).at_ ha
      have c0 := hcs k a ha 0 _ rfl
      simp only [Nat.add_zero, Nat.mul_one] at c0
      have hst' : Hid (T = if p a = true then (k : Int) else idxP p (l.drop (k + 1)) ((k : Int) + 1)) := Lib.hid (by rw [hst.out, drop_of_get ha]; rfl)
      have hcall := HP.out wr hb a (List.mem_of_getElem? ha)
      clear hcs ha hst
      cases hq : p a with
      | true =>
        rw [hq] at hcall
        have hf := Lib.hid (show T = (k : Int) by rw [hst'.out, if_pos hq])
        clear hst' hq
        go_wp2_with (go_at_fn g; refine hcall.mono ?_; rintro e w2 ⟨rfl, hb2⟩)
        go_ret
        exact ⟨ret_int (by rw [hf.out]), hb.trans (hb2.mono hb.size)⟩
      | false =>
        rw [hq] at hcall
        have hf := Lib.hid (show T = idxP p (l.drop (k + 1)) ((k + 1 : Nat) : Int) by rw [hst'.out, if_neg (by rw [hq]; decide)]; rfl)
        clear hst' hq
        go_wp2_with (go_at_fn g; refine hcall.mono ?_; rintro e w2 ⟨rfl, hb2⟩)
        go_roundw
        case rel => exact ⟨k + 1, by omega, by go_num, hb.trans (hb2.mono hb.size), hf⟩
        case measure => simp [intOf]; omega
    · have hf : Hid (T = -1) := Lib.hid (by rw [hst.out, List.drop_of_length_le (by rw [← HN.out]; omega)]; rfl)
      go_wp2_with fail
      go_ret
      exact ⟨ret_int (by rw [hf.out]), hb⟩

theorem contI_any (p : Int → Bool) (g : FuncId) (cb : Array Value) (l : List Int) (A : Option Addr) (c : Nat) (w : World) (eg : ∀ args w, (callFunc g args).run Tryz.prog w = .ok (.enter g args) w)
    (hA : Lies w w.heap.size 1 A (l.map irow)) (hl : l.length ≤ 1000000) (hp : ∀ W, Below w.heap.size w W → ∀ a, a ∈ l → Calls Tryz.prog g (#[.int .i64 a] ++ cb) W fun e w' => e = .returned (.bool (p a)) ∧ Below W.heap.size W w') :
    Calls Tryz.prog 86 #[.slice A l.length c, .func (.func g) #[] cb] w fun e w' => e = .returned (.bool (l.any p)) ∧ Below w.heap.size w w' := by
  have con := indexI_any p g cb l A c w eg hA hl hp
  have HT : Hid (decide (0 ≤ idxP p l 0) = l.any p) := Lib.hid (idx_any p l)
  generalize idxP p l 0 = T at *
  generalize l.any p = R at *
  generalize l.length = n at *
  have Con := Lib.hid con
  clear con hA hp
  go_enter Tryz.func86, Tryz.ntmps86
  go_wp2_with (go_at_call 122; (with_reducible refine Con.out.mono ?_); rintro e w' ⟨rfl, hb⟩)
  go_ret
  exact ⟨ret_bool HT.out, hb⟩

set_option maxRecDepth 100000 in
set_option maxHeartbeats 1000000 in
theorem indexP_any (p : PRow → Bool) (g : FuncId) (cb : Array Value) (l : List PRow) (A : Option Addr) (c : Nat) (w : World) (eg : ∀ args w, (callFunc g args).run Tryz.prog w = .ok (.enter g args) w)
    (hA : Lies w w.heap.size 1 A (l.map PRow.row)) (hl : l.length ≤ 1000000) (hp : ∀ W, Below w.heap.size w W → ∀ a, a ∈ l → Calls Tryz.prog g (#[.slice a.A a.l.length a.c] ++ cb) W fun e w' => e = .returned (.bool (p a)) ∧ Below W.heap.size W w') :
    Calls Tryz.prog 162 #[.slice A l.length c, .func (.func g) #[] cb] w fun e w' => e = .returned (.int .i64 (idxP p l 0)) ∧ Below w.heap.size w w' := by
  obtain ⟨n, hn⟩ : ∃ n, n = l.length := ⟨_, rfl⟩
  rw [← hn] at hl ⊢
  have HN := Lib.hid hn
  obtain ⟨T, hT⟩ : ∃ T, T = idxP p l 0 := ⟨_, rfl⟩
  rw [← hT]
  have HT := Lib.hid hT
  have HP := Lib.hid hp
  clear hn hT hp
  go_enter Tryz.func162, Tryz.ntmps162
  go_wp2_with fail
  go_loopw [8] (fun i wr => ∃ (k : Nat), k ≤ n ∧ i = .int .i64 k ∧ Below w.heap.size w wr ∧ Hid (T = idxP p (l.drop k) k)) (fun i _ => n - (intOf i).toNat)
  case atStart => exact ⟨0, Nat.zero_le _, rfl, Below.refl _ _, Lib.hid (by rw [HT.out]; rfl)⟩
  case round =>
    obtain ⟨k, hk, rfl, hb, hst⟩ := hrel
    by_cases hlt : k < n
    · obtain ⟨a, ha⟩ := get_of_lt (l := l) (k := k) (by rw [← HN.out]; exact hlt)
      obtain ⟨b, off, rfl, hbB, hcs⟩ := (Lies.below hA hb).at_ ha
      have c0 := hcs k a ha 0 _ rfl
      simp only [Nat.add_zero, Nat.mul_one] at c0
      have hst' : Hid (T = if p a = true then (k : Int) else idxP p (l.drop (k + 1)) ((k : Int) + 1)) := Lib.hid (by rw [hst.out, drop_of_get ha]; rfl)
      have hcall := HP.out wr hb a (List.mem_of_getElem? ha)
      clear hcs ha hst
      cases hq : p a with
      | true =>
        rw [hq] at hcall
        have hf := Lib.hid (show T = (k : Int) by rw [hst'.out, if_pos hq])
        clear hst' hq
        go_wp2_with (go_at_fn g; refine hcall.mono ?_; rintro e w2 ⟨rfl, hb2⟩)
        go_ret
        exact ⟨ret_int (by rw [hf.out]), hb.trans (hb2.mono hb.size)⟩
      | false =>
        rw [hq] at hcall
        have hf := Lib.hid (show T = idxP p (l.drop (k + 1)) ((k + 1 : Nat) : Int) by rw [hst'.out, if_neg (by rw [hq]; decide)]; rfl)
        clear hst' hq
        go_wp2_with (go_at_fn g; refine hcall.mono ?_; rintro e w2 ⟨rfl, hb2⟩)
        go_roundw
        case rel => exact ⟨k + 1, by omega, by go_num, hb.trans (hb2.mono hb.size), hf⟩
        case measure => simp [intOf]; omega
    · have hf : Hid (T = -1) := Lib.hid (by rw [hst.out, List.drop_of_length_le (by rw [← HN.out]; omega)]; rfl)
      go_wp2_with fail
      go_ret
      exact ⟨ret_int (by rw [hf.out]), hb⟩

theorem contP_any (p : PRow → Bool) (g : FuncId) (cb : Array Value) (l : List PRow) (A : Option Addr) (c : Nat) (w : World) (eg : ∀ args w, (callFunc g args).run Tryz.prog w = .ok (.enter g args) w)
    (hA : Lies w w.heap.size 1 A (l.map PRow.row)) (hl : l.length ≤ 1000000) (hp : ∀ W, Below w.heap.size w W → ∀ a, a ∈ l → Calls Tryz.prog g (#[.slice a.A a.l.length a.c] ++ cb) W fun e w' => e = .returned (.bool (p a)) ∧ Below W.heap.size W w') :
    Calls Tryz.prog 131 #[.slice A l.length c, .func (.func g) #[] cb] w fun e w' => e = .returned (.bool (l.any p)) ∧ Below w.heap.size w w' := by
  have con := indexP_any p g cb l A c w eg hA hl hp
  have HT : Hid (decide (0 ≤ idxP p l 0) = l.any p) := Lib.hid (idx_any p l)
  generalize idxP p l 0 = T at *
  generalize l.any p = R at *
  generalize l.length = n at *
  have Con := Lib.hid con
  clear con hA hp
  go_enter Tryz.func131, Tryz.ntmps131
  go_wp2_with (go_at_call 162; (with_reducible refine Con.out.mono ?_); rintro e w' ⟨rfl, hb⟩)
  go_ret
  exact ⟨ret_bool HT.out, hb⟩

theorem cpow1_any (p : PRow) (nodes : Int) (g : Nat) (w : World) (hc : w.cell? ⟨g, 0, none⟩ = some (.int .i64 nodes)) :
    Calls Tryz.prog 132 #[.slice p.A p.l.length p.c, .pointer (some ⟨g, 0, none⟩)] w fun e w' => e = .returned (.bool (!(((p.l.length : Nat) : Int) == nodes))) ∧ Below w.heap.size w w' := by
  go_enter Tryz.func132, Tryz.ntmps132
  go_wp2_with fail
  go_ret
  exact ⟨rfl, Below.refl _ _⟩
theorem cpow2_any (x : Int) (w : World) :
    Calls Tryz.prog 133 #[.int .i64 x] w fun e w' => e = .returned (.bool (outP x)) ∧ Below w.heap.size w w' := by
  unfold outP
  go_enter Tryz.func133, Tryz.ntmps133
  go_wp2
  all_goals
    go_ret
    exact ⟨ret_bool (by first | (simp [*]; done) | (simp [*]; omega)), Below.refl _ _⟩
theorem cpow3_any (p : PRow) (g : Nat) (w : World) (hc : w.cell? ⟨g, 0, none⟩ = some (.func (.func 133) #[] #[])) (hp : LiesI w w.heap.size p.A p.l) (hl : p.l.length ≤ 1000000) :
    Calls Tryz.prog 134 #[.slice p.A p.l.length p.c, .pointer (some ⟨g, 0, none⟩)] w fun e w' => e = .returned (.bool (p.l.any outP)) ∧ Below w.heap.size w w' := by
  have con := contI_any outP 133 #[] p.l p.A p.c w (enters_of Tryz.func133 (by kernel_rfl) rfl) hp hl (fun W hW a _ => cpow2_any a W)
  generalize p.l.any outP = R at *
  generalize p.l.length = n at *
  have Con := Lib.hid con
  clear con hp hl
  go_enter Tryz.func134, Tryz.ntmps134
  go_wp2_with (go_at_call 86; (with_reducible refine Con.out.mono ?_); rintro e w' ⟨rfl, hb⟩)
  go_ret
  exact ⟨rfl, hb⟩

set_option maxHeartbeats 2000000 in
theorem cpow_any (nodes noise thr : Int) (pw : List PRow) (lk : List Lk) (mg : List Int) (P L G : Option Addr) (cp cl cg : Nat) (w : World) (hP : LiesP w w.heap.size P pw) (hp : pw.length ≤ 1000000) :
    Calls Tryz.prog 91 #[.agg #[.int .i64 nodes, .slice P pw.length cp, .int .i64 noise, .int .i64 thr, .slice L lk.length cl, .slice G mg.length cg]] w fun e w' => e = .returned (.int .i64 (powE nodes (pw.map PRow.l))) ∧ Below w.heap.size w w' := by
  obtain ⟨np, hnp⟩ : ∃ n, n = pw.length := ⟨_, rfl⟩
  obtain ⟨T, hT⟩ : ∃ T, T = powE nodes (pw.map PRow.l) := ⟨_, rfl⟩
  unfold powE at hT
  rw [List.any_map, List.any_map, List.length_map, ← hnp] at hT
  obtain ⟨N, hN⟩ : ∃ N, N = w.heap.size := ⟨_, rfl⟩
  generalize lk.length = nl at *
  generalize mg.length = nm at *
  rw [← hnp]
  obtain ⟨W1, hW1⟩ : ∃ W1, W1 = w.alloc (.cells #[.int .i64 nodes, .slice P np cp, .int .i64 noise, .int .i64 thr, .slice L nl cl, .slice G nm cg] 26) := ⟨_, rfl⟩
  have hb1 : Below N w W1 := by rw [hW1, hN]; exact (Below.refl _ _).alloc (Nat.le_refl _) _
  have bN : Blk W1 N 26 [.int .i64 nodes, .slice P np cp, .int .i64 noise, .int .i64 thr, .slice L nl cl, .slice G nm cg] := by rw [hW1]; exact Blk.new2 _ [.int .i64 nodes, .slice P np cp, .int .i64 noise, .int .i64 thr, .slice L nl cl, .slice G nm cg] hN
  have HW := Lib.hid (fun W (h' : Below W1.heap.size W1 W) => (show Below w.heap.size w W ∧ Row W N [.int .i64 nodes, .slice P np cp, .int .i64 noise, .int .i64 thr, .slice L nl cl, .slice G nm cg] from ⟨by rw [← hN]; exact hb1.trans (h'.mono (by have := bN.lt; omega)), (bN.below h' bN.lt).row⟩))
  have HP := Lib.hid (fun W (h' : Below W1.heap.size W1 W) => LiesP.later hP (HW.out W h').1)
  have C1 := Lib.hid (fun W (h' : Below W1.heap.size W1 W) => contP_any (fun p => !(((p.l.length : Nat) : Int) == nodes)) 132 #[.pointer (some ⟨N, 0, none⟩)] pw P cp W (enters_of Tryz.func132 (by kernel_rfl) rfl) (HP.out W h').1 hp (fun W2 h2 a _ => cpow1_any a nodes N W2 ((HW.out W2 (h'.trans (h2.mono h'.size))).2 0)))
  have C3 := Lib.hid (fun g W (h' : Below W1.heap.size W1 W) (hg : g < W.heap.size) (hc : W.cell? ⟨g, 0, none⟩ = some (.func (.func 133) #[] #[])) => contP_any (fun p => p.l.any outP) 134 #[.pointer (some ⟨g, 0, none⟩)] pw P cp W (enters_of Tryz.func134 (by kernel_rfl) rfl) (HP.out W h').1 hp (fun W2 h2 a ha => cpow3_any a g W2 ((h2.cell (p := ⟨g, 0, none⟩) hg).trans hc) ((HP.out W2 (h'.trans (h2.mono h'.size))).2 a ha).1 ((HP.out W2 (h'.trans (h2.mono h'.size))).2 a ha).2))
  have HT : Hid (T = if ((np : Nat) : Int) ≠ nodes ∨ (pw.any fun p => !(((p.l.length : Nat) : Int) == nodes)) = true then 1 else if (pw.any fun p => p.l.any outP) = true then 2 else 0) := Lib.hid hT
  rw [← hnp] at C1 C3
  rw [show powE nodes (pw.map PRow.l) = T from by rw [hT]; unfold powE; rw [List.any_map, List.any_map, List.length_map, ← hnp]]
  generalize (pw.any fun p => !(((p.l.length : Nat) : Int) == nodes)) = R1 at *
  generalize (pw.any fun p => p.l.any outP) = R3 at *
  have HW1 := Lib.hid hW1
  have HN := Lib.hid hN
  have hNl := bN.lt
  have r1 : Row (w.alloc (.cells #[.int .i64 nodes, .slice P np cp, .int .i64 noise, .int .i64 thr, .slice L nl cl, .slice G nm cg] 26)) N [.int .i64 nodes, .slice P np cp, .int .i64 noise, .int .i64 thr, .slice L nl cl, .slice G nm cg] := by rw [← hW1]; exact bN.row
  rw [HN.out] at r1
  unfold Row at r1
  clear hT hnp hb1 bN hP hN hW1 HP hp
  go_enter Tryz.func91, Tryz.ntmps91
  clear r1
  by_cases h1 : ((np : Nat) : Int) = nodes
  case neg =>
    have hf : Hid (T = 1) := Lib.hid (by rw [HT.out, if_pos (.inl h1)])
    have h1' : (((np : Nat) : Int) != nodes) = true := by simpa using h1
    clear h1
    go_wp2_with fail
    go_ret
    exact ⟨ret_int (by rw [hf.out]), by rw [← HW1.out]; exact (HW.out _ (Below.refl _ _)).1⟩
  have h1' : (((np : Nat) : Int) != nodes) = false := by simpa using h1
  have HT2 : Hid (T = if R1 = true then 1 else if R3 = true then 2 else 0) := Lib.hid (by rw [HT.out]; simp [h1])
  have C1' := Lib.hid (C1.out _ (Below.refl _ _))
  clear h1 HT C1
  rw [HN.out] at C1'
  rw [HW1.out] at C1'
  go_wp2_with fail
  refine C1'.out.mono ?_
  rintro e w2 ⟨rfl, hb2⟩
  rw [← HW1.out] at hb2
  cases R1 with
  | true =>
    have hf : Hid (T = 1) := Lib.hid (by rw [HT2.out, if_pos rfl])
    go_wp2_with fail
    go_ret
    exact ⟨ret_int (by rw [hf.out]), (HW.out _ hb2).1⟩
  | false =>
    have HT3 : Hid (T = if R3 = true then 2 else 0) := Lib.hid (by rw [HT2.out]; rfl)
    have r2 := (HW.out _ hb2).2
    rw [HN.out] at r2
    unfold Row at r2
    clear HT2 C1'
    go_upto_region 4 with fail
    obtain ⟨g, hg⟩ : ∃ g, g = w2.heap.size := ⟨_, rfl⟩
    generalize hWa : World.alloc _ _ = Wa
    have ba : Blk Wa g 90 [.func (.func 133) #[] #[]] := by rw [← hWa]; exact Blk.new2 90 [.func (.func 133) #[] #[]] hg
    have hba : Below W1.heap.size W1 Wa := by rw [← hWa]; exact hb2.alloc hb2.size _
    have Con := Lib.hid (C3.out g Wa hba ba.lt (ba.row 0))
    have r3 := (HW.out _ hba).2
    rw [HN.out] at r3
    unfold Row at r3
    rw [← hg]
    clear hWa hg r2 C3 ba
    go_wp2_with fail
    refine Con.out.mono ?_
    rintro e w3 ⟨rfl, hb3⟩
    have hB3 : Below W1.heap.size W1 w3 := hba.trans (hb3.mono hba.size)
    cases R3 with
    | true =>
      have hf : Hid (T = 2) := Lib.hid (by rw [HT3.out]; rfl)
      go_wp2_with fail
      go_ret
      exact ⟨ret_int (by rw [hf.out]), (HW.out _ hB3).1⟩
    | false =>
      have hf : Hid (T = 0) := Lib.hid (by rw [HT3.out]; rfl)
      go_wp2_with fail
      go_ret
      exact ⟨ret_int (by rw [hf.out]), (HW.out _ hB3).1⟩
end Go.Proofs.YticnppnejafhdaaGreatDoor
/- Walks: DeleteFunc of package slices at attempts, with whatever closure: what is deleted is deleted in place. -/
namespace Go.Proofs.YticnppnejafhdaaGreatDoor
open Go.RowKit
open Nd Rc Mo

/-- clear(s[k:]) of a row of one's own: what lies ahead of k stays. -/
theorem run_clear_ownD {P : Program} (w : World) (t ty e : TypeId) (i : TypeInfo) (z : Value) (size : Nat) (ht : P.underlying t = some (.slice e)) (hi : P.info? e = some i) (hz : i.zero = some z) (hzs : z.cells.size = size) (hsz : 0 < size) (h1 : ∀ u ∈ z.cells.toList, u.oneCell' = true)
    (base g n cap k c : Nat) (xs : List Value) (hown : w.ownsRow base e size (.slice (some ⟨g, 0, none⟩) n cap) n xs) (hk : k < n) :
    ∃ w', (Builtin.clear_ #[t] ty #[.slice (some ⟨g, k * size, none⟩) (n - k) c]).run P w = .ok (.tuple #[]) w' ∧ w'.ownsRow base e size (.slice (some ⟨g, 0, none⟩) k cap) k (xs.take (k * size)) ∧ w.grownBy w' (some g) := by
  rcases hown.2 with ⟨h', _⟩ | ⟨g', cap', cur, h', hb, hg, hnc, hcm, hcs, htake⟩
  · simp at h'
  · simp only [Value.slice.injEq, Option.some.injEq, Addr.mk.injEq, and_true, true_and] at h'
    obtain ⟨rfl, rfl⟩ := h'
    have hzl : (Builtin.zeroCells z.cells (n - k)).toList.length = (n - k) * size := by
      rw [Array.length_toList, size_zeroCells, hzs]
    have hfit : k * size + (n - k) * size ≤ cur.size := by
      rw [hcs, ← Nat.add_mul, show k + (n - k) = n by omega]
      exact Nat.mul_le_mul_right _ hnc
    have hst := run_storeCells_at (P := P) g (k * size) e (Builtin.zeroCells z.cells (n - k)).toList 0 cur w hg (by rw [hzl]; simpa using hfit) (by
      intro v hv
      simp only [Builtin.zeroCells] at hv
      obtain ⟨j, hj, rfl⟩ := List.getElem_of_mem hv
      have hzp : 0 < z.cells.size := by rw [hzs]; exact hsz
      have hlt : j % z.cells.size < z.cells.size := Nat.mod_lt _ hzp
      simp only [Array.getElem_toList, Array.getElem_map, Array.getElem_range] at hv ⊢
      refine h1 _ ?_
      rw [getElem!_pos z.cells _ hlt]
      simp)
    simp only [Nat.add_zero] at hst
    obtain ⟨zc, hzc⟩ : ∃ zc, zc = (Builtin.zeroCells z.cells (n - k)).toList := ⟨_, rfl⟩
    rw [← hzc] at hst hzl
    obtain ⟨row, hrow⟩ : ∃ row, row = (cur.toList.take (k * size) ++ zc ++ cur.toList.drop (k * size + zc.length)).toArray := ⟨_, rfl⟩
    rw [← hrow] at hst
    refine ⟨w.setRow g row, ?_, ⟨?_, .inr ⟨g, cap, row, rfl, hb, setRow_heap w g cur row e _ hg, by omega, hcm, ?_, ?_⟩⟩, ⟨rfl, rfl, rfl, by simp [World.setRow], fun x _ hx => setRow_other w g x row (fun e => hx (by rw [e]))⟩⟩
    · obtain ⟨m, hm⟩ : ∃ m, n - k = m + 1 := ⟨n - k - 1, by omega⟩
      rw [hm] at hzc ⊢
      simp [Builtin.clear_, run_underlying ht, zeroValue, typeInfo, hi, hz, ← hzc, hst]
    · rw [List.length_take, hown.1, Nat.min_eq_left (Nat.mul_le_mul_right _ (by omega))]
    · rw [hrow]
      simp only [List.size_toArray, List.length_append, List.length_take, List.length_drop, Array.length_toList, hzl]
      rw [hcs] at hfit ⊢
      omega
    · rw [hrow, ← htake, List.take_take, Nat.min_eq_left (Nat.mul_le_mul_right _ (by omega))]
      simp only [List.append_assoc]
      rw [List.take_append_of_le_length (by rw [List.length_take, Array.length_toList]; omega), List.take_take, Nat.min_self]

theorem take_snoc_ {α : Type} {l : List α} {k : Nat} {a : α} (h : l[k]? = some a) : l.take (k + 1) = l.take k ++ [a] := by rw [List.take_add_one, h]; rfl
theorem only_of_below {a w : World} (h : Below a.heap.size a w) (row : Option Nat) : a.grownBy w row := ⟨h.os, h.tape, h.output, h.size, fun i hi _ => h.block i hi⟩

def keepP (p : Att → Bool) (l : List Att) : List Att := l.filter fun a => !p a
theorem keepP_snoc (p : Att → Bool) (l : List Att) (a : Att) : keepP p (l ++ [a]) = if p a = true then keepP p l else keepP p l ++ [a] := by
  unfold keepP
  rw [List.filter_append]
  by_cases h : p a = true <;> simp [h]
theorem idxK_spec (p : Att → Bool) : ∀ (l : List Att) (k : Int), (idxP p l k = -1 ∧ keepP p l = l) ∨ ∃ i : Nat, i < l.length ∧ idxP p l k = k + (i : Int) ∧ keepP p (l.take (i + 1)) = l.take i
  | [], k => .inl ⟨rfl, rfl⟩
  | a :: l, k => by
    simp only [idxP]
    by_cases h : p a = true
    · rw [if_pos h]
      exact .inr ⟨0, by simp, by simp, by simp [keepP, h]⟩
    · rw [if_neg h]
      rcases idxK_spec p l (k + 1) with ⟨h1, h2⟩ | ⟨i, h1, h2, h3⟩
      · refine .inl ⟨h1, ?_⟩
        unfold keepP at h2 ⊢
        rw [List.filter_cons, h2]
        simp [h]
      · refine .inr ⟨i + 1, by simp; omega, by rw [h2]; simp; omega, ?_⟩
        unfold keepP at h3 ⊢
        rw [List.take_succ_cons, List.filter_cons, h3]
        simp [h]

set_option maxRecDepth 100000 in
set_option maxHeartbeats 2000000 in
theorem indexHA_any (p : Att → Bool) (g0 : FuncId) (cb : Array Value) (l : List Att) (A : Option Addr) (c : Nat) (w : World) (eg : ∀ args w, (callFunc g0 args).run Tryz.prog w = .ok (.enter g0 args) w) (hA : LiesA w w.heap.size A l) (hl : l.length ≤ 1000000)
    (hp : ∀ W, Below w.heap.size w W → ∀ a : Att, Calls Tryz.prog g0 (#[.agg #[.int .i64 a.s, .int .i64 a.f, .int .i64 a.cs, .int .i64 a.co, .int .i64 a.cf, .int .i64 a.ct, .int .i64 a.cl, .int .i64 a.o]] ++ cb) W fun e w' => e = .returned (.bool (p a)) ∧ Below W.heap.size W w') :
    Calls Tryz.prog 51 #[.slice A l.length c, .func (.func g0) #[] cb] w fun e w' => e = .returned (.int .i64 (idxP p l 0)) ∧ Below w.heap.size w w' := by
  obtain ⟨n, hn⟩ : ∃ n, n = l.length := ⟨_, rfl⟩
  rw [← hn] at hl ⊢
  have HN := Lib.hid hn
  obtain ⟨T, hT⟩ : ∃ T, T = idxP p l 0 := ⟨_, rfl⟩
  rw [← hT]
  have HT := Lib.hid hT
  have HP := Lib.hid hp
  clear hn hT hp
  go_enter Tryz.func51, Tryz.ntmps51
  go_wp2_with fail
  go_loopw [8] (fun i wr => ∃ (k : Nat), k ≤ n ∧ i = .int .i64 k ∧ Below w.heap.size w wr ∧ Hid (T = idxP p (l.drop k) k)) (fun i _ => n - (intOf i).toNat)
  case atStart => exact ⟨0, Nat.zero_le _, rfl, Below.refl _ _, Lib.hid (by rw [HT.out]; rfl)⟩
  case round =>
    obtain ⟨k, hk, rfl, hb, hst⟩ := hrel
    by_cases hlt : k < n
    · obtain ⟨a, ha⟩ := get_of_lt (l := l) (k := k) (by rw [← HN.out]; exact hlt)
      obtain ⟨b, off, rfl, hbB, hcs⟩ := (hA.below hb).at_ ha
      obtain ⟨c0, c1, c2, c3, c4, c5, c6, c7⟩ := hcs k a ha
      have hst' : Hid (T = if p a = true then (k : Int) else idxP p (l.drop (k + 1)) ((k : Int) + 1)) := Lib.hid (by rw [hst.out, drop_of_get ha]; rfl)
      have hcall := HP.out wr hb a
      clear hcs ha hst
      cases hq : p a with
      | true =>
        rw [hq] at hcall
        have hf := Lib.hid (show T = (k : Int) by rw [hst'.out, if_pos hq])
        clear hst' hq
        go_wp2_with (go_at_fn g0; refine hcall.mono ?_; rintro e w2 ⟨rfl, hb2⟩)
        go_ret
        exact ⟨ret_int (by rw [hf.out]), hb.trans (hb2.mono hb.size)⟩
      | false =>
        rw [hq] at hcall
        have hf := Lib.hid (show T = idxP p (l.drop (k + 1)) ((k + 1 : Nat) : Int) by rw [hst'.out, if_neg (by rw [hq]; decide)]; rfl)
        clear hst' hq
        go_wp2_with (go_at_fn g0; refine hcall.mono ?_; rintro e w2 ⟨rfl, hb2⟩)
        go_roundw
        case rel => exact ⟨k + 1, by omega, by go_num, hb.trans (hb2.mono hb.size), hf⟩
        case measure => simp [intOf]; omega
    · have hf : Hid (T = -1) := Lib.hid (by rw [hst.out, List.drop_of_length_le (by rw [← HN.out]; omega)]; rfl)
      go_wp2_with fail
      go_ret
      exact ⟨ret_int (by rw [hf.out]), hb⟩

theorem flatA_set : ∀ (X : List Att) (i : Nat) (a : Att), i < X.length → (((((((((flatA X).set (i * 8) (.int .i64 a.s)).set (i * 8 + 1) (.int .i64 a.f)).set (i * 8 + 2) (.int .i64 a.cs)).set (i * 8 + 3) (.int .i64 a.co)).set (i * 8 + 4) (.int .i64 a.cf)).set (i * 8 + 5) (.int .i64 a.ct)).set (i * 8 + 6) (.int .i64 a.cl)).set (i * 8 + 7) (.int .i64 a.o)) = flatA (X.set i a)
  | [], i, a, h => by simp at h
  | x :: X, 0, a, _ => by simp [flatA, Att.row]
  | x :: X, i + 1, a, h => by
    have ih := flatA_set X i a (by simpa using h)
    have e : flatA (x :: X) = x.row ++ flatA X := by simp [flatA]
    have e2 : flatA ((x :: X).set (i + 1) a) = x.row ++ flatA (X.set i a) := by simp [flatA]
    rw [e, e2, ← ih]
    have hl : x.row.length = 8 := rfl
    have hs : ∀ (l : List Value) (j : Nat) (u : Value), (x.row ++ l).set ((i + 1) * 8 + j) u = x.row ++ l.set (i * 8 + j) u := fun l j u => by
      rw [List.set_append_right _ _ (by rw [hl]; omega), hl]
      congr 2
      omega
    have hs0 : ∀ (l : List Value) (u : Value), (x.row ++ l).set ((i + 1) * 8) u = x.row ++ l.set (i * 8) u := fun l u => by simpa using hs l 0 u
    simp only [hs0, hs]

set_option maxRecDepth 100000 in
set_option maxHeartbeats 8000000 in
theorem deleteA_any (p : Att → Bool) (g0 : FuncId) (cb : Array Value) (l : List Att) (A : Option Addr) (c base : Nat) (w : World) (eg : ∀ args w, (callFunc g0 args).run Tryz.prog w = .ok (.enter g0 args) w) (hown : w.ownsRow base 66 8 (.slice A l.length c) l.length (flatA l)) (hl : l.length ≤ 1000000) (hp : ∀ W, w.grownBy W (Value.slice A l.length c).ownBlock → ∀ a : Att, Calls Tryz.prog g0 (#[.agg #[.int .i64 a.s, .int .i64 a.f, .int .i64 a.cs, .int .i64 a.co, .int .i64 a.cf, .int .i64 a.ct, .int .i64 a.cl, .int .i64 a.o]] ++ cb) W fun e w' => e = .returned (.bool (p a)) ∧ Below W.heap.size W w') :
    Calls Tryz.prog 72 #[.slice A l.length c, .func (.func g0) #[] cb] w fun e w' => w.grownBy w' (Value.slice A l.length c).ownBlock ∧ ∃ A' c', A' = A ∧ e = .returned (.slice A' (keepP p l).length c') ∧ w'.ownsRow base 66 8 (.slice A' (keepP p l).length c') (keepP p l).length (flatA (keepP p l)) := by
  have hidx := indexHA_any p g0 cb l A c w eg (own_A hown) hl (fun W hW a => hp W (only_of_below hW _) a)
  have HX := Lib.hid hidx
  have HSP := Lib.hid (idxK_spec p l 0)
  obtain ⟨KP, hKP⟩ : ∃ KP, KP = keepP p l := ⟨_, rfl⟩
  rw [← hKP]
  obtain ⟨n, hn⟩ : ∃ n, n = l.length := ⟨_, rfl⟩
  obtain ⟨I, hI⟩ : ∃ I, I = idxP p l 0 := ⟨_, rfl⟩
  rw [← hn] at HX hown hl hp ⊢
  have HP := Lib.hid hp
  rw [← hI] at HX HSP
  have HN := Lib.hid hn
  have HKP := Lib.hid hKP
  clear hidx hn hKP hI hp
  go_enter Tryz.func72, Tryz.ntmps72
  go_wp2_with fail
  refine HX.out.mono ?_
  rintro e w1 ⟨rfl, hb1⟩
  have hown1 := own_kept (w' := w1) hown fun g cs hg h => h.below hb1 h.lt
  have hg1 := only_of_below hb1 (Value.slice A n c).ownBlock
  rcases HSP.out with ⟨e1, e2⟩ | ⟨i0, e1, e2, e3⟩
  · subst e1
    have HK2 : Hid (KP = l) := Lib.hid (by rw [HKP.out, e2])
    have HO := Lib.hid hown1
    clear e2 hown1
    go_wp2_with fail
    go_ret
    rw [HK2.out]
    have hln : l.length = n := HN.out.symm
    rw [hln]
    exact ⟨hg1, A, c, rfl, rfl, HO.out⟩
  · rw [← HN.out] at e1
    have e2' : I = (i0 : Int) := by rw [e2]; omega
    subst e2'
    have HE3 := Lib.hid e3
    clear e2 e3
    obtain ⟨g, hAg⟩ : ∃ g, A = some ⟨g, 0, none⟩ := by
      rcases hown1.2 with ⟨_, h0⟩ | ⟨g, cap, cur, hv, _⟩
      · omega
      · injection hv with hv _ _
        exact ⟨g, hv⟩
    subst hAg
    have hcap : n ≤ c ∧ c ≤ maxLen := by
      rcases hown1.2 with ⟨h0, _⟩ | ⟨g', cap, cur, hv, _, _, h1, h2, _⟩
      · cases h0
      · injection hv with _ _ hv
        subst hv
        exact ⟨h1, h2⟩
    obtain ⟨hnc, hcm⟩ := hcap
    unfold maxLen at hcm
    have hgl : g < w1.heap.size := (hown1.lt g rfl).2
    have HP2 : Hid (∀ W, w.grownBy W (some g) → ∀ a : Att, Calls Tryz.prog g0 (#[.agg #[.int .i64 a.s, .int .i64 a.f, .int .i64 a.cs, .int .i64 a.co, .int .i64 a.cf, .int .i64 a.ct, .int .i64 a.cl, .int .i64 a.o]] ++ cb) W fun e w' => e = .returned (.bool (p a)) ∧ Below W.heap.size W w') := Lib.hid HP.out
    clear HP
    simp only [Value.ownBlock] at hg1 ⊢
    obtain ⟨z0, hi, hz0, hz1, hz2⟩ := info_parts Tryz.infoAtt
    have HI := Lib.hid (And.intro hi (And.intro hz0 (And.intro hz1 hz2)))
    clear hi hz0 hz1 hz2
    obtain ⟨Rel, hRel⟩ : ∃ Rel : Nat → Nat → World → Prop, Rel = fun i j W => ∃ X : List Att, X.length = n ∧ X.take i = keepP p (l.take j) ∧ X.drop j = l.drop j ∧ W.ownsRow base 66 8 (.slice (some ⟨g, 0, none⟩) n c) n (flatA X) ∧ w.grownBy W (some g) := ⟨_, rfl⟩
    have HRel := Lib.hid hRel
    have hst0 : Rel i0 (i0 + 1) w1 := by
      rw [hRel]
      exact ⟨l, HN.out.symm, HE3.out.symm, rfl, hown1, hg1⟩
    have HOW := Lib.hid hown1
    clear hRel hown1
    have i0m : ((i0 : Int) == -1) = false := by rw [beq_eq_false_iff_ne]; omega
    go_wp2_with fail
    go_loopw [5, 6] (fun s5 s6 wr => ∃ (i j : Nat), i < j ∧ j ≤ n ∧ s5 = .int .i64 i ∧ s6 = .int .i64 j ∧ Rel i j wr) (fun _ s6 _ => n - (intOf s6).toNat)
    case atStart => exact ⟨i0, i0 + 1, by omega, by omega, rfl, by go_num, hst0⟩
    case round =>
      clear hst0
      obtain ⟨i, j, hij, hj, rfl, rfl, hrel⟩ := hrel
      rw [HRel.out] at hrel
      obtain ⟨X, hXn, hXt, hXd, hownX, hgr⟩ := hrel
      have HXN := Lib.hid hXn
      have HXT := Lib.hid hXt
      have HXD := Lib.hid hXd
      have hgw : g < wr.heap.size := (hownX.lt g rfl).2
      clear hXn hXt hXd
      by_cases hlt : j < n
      · obtain ⟨a, ha⟩ := get_of_lt (l := l) (k := j) (by rw [← HN.out]; exact hlt)
        have hXj : X[j]? = some a := by
          have h1 : (X.drop j)[0]? = (l.drop j)[0]? := by rw [HXD.out]
          simpa [List.getElem?_drop, ha] using h1
        have hlX : LiesA wr wr.heap.size (some ⟨g, 0, none⟩) X := own_A (l := X) (base := base) (n := n) (c := c) (by rw [HXN.out]; exact hownX)
        obtain ⟨b, off, eb, _, hcs⟩ := hlX.at_ hXj
        injection eb with eb
        injection eb with eb1 eb2 _
        subst eb1 eb2
        obtain ⟨c0, c1, c2, c3, c4, c5, c6, c7⟩ := hcs j a hXj
        simp only [Nat.zero_add] at c0 c1 c2 c3 c4 c5 c6 c7
        have htk : Hid (keepP p (l.take (j + 1)) = if p a = true then keepP p (l.take j) else keepP p (l.take j) ++ [a]) := Lib.hid (by rw [take_snoc_ ha]; exact keepP_snoc p _ a)
        have hdr : Hid (X.drop (j + 1) = l.drop (j + 1)) := Lib.hid (by
          have h1 := HXD.out
          rw [drop_of_get hXj, drop_of_get ha] at h1
          injection h1)
        have HOX := Lib.hid hownX
        clear hcs ha hXj hlX hownX
        go_upto_region 8 with fail
        generalize hW2 : wr.alloc _ = W2
        have ba : Blk W2 wr.heap.size 66 [.int .i64 a.s, .int .i64 a.f, .int .i64 a.cs, .int .i64 a.co, .int .i64 a.cf, .int .i64 a.ct, .int .i64 a.cl, .int .i64 a.o] := by rw [← hW2]; exact Blk.new' _ [.int .i64 a.s, .int .i64 a.f, .int .i64 a.cs, .int .i64 a.co, .int .i64 a.cf, .int .i64 a.ct, .int .i64 a.cl, .int .i64 a.o] rfl
        have hown2 : W2.ownsRow base 66 8 (.slice (some ⟨g, 0, none⟩) n c) n (flatA X) := by rw [← hW2]; exact HOX.out.alloc _
        have hw2 : Below wr.heap.size wr W2 := by rw [← hW2]; exact (Below.refl _ _).alloc (Nat.le_refl _) _
        have hcall := HP2.out W2 (hgr.trans (only_of_below hw2 (some g))) a
        have cb0 := ba.row
        unfold Row at cb0
        clear hW2 c0 c1 c2 c3 c4 c5 c6 c7 HOX
        go_wp2_with fail
        go_at_fn g0
        refine hcall.mono ?_
        rintro e w3 ⟨rfl, hb3⟩
        have hown3 := own_kept (w' := w3) hown2 fun x cs hg h => h.below hb3 h.lt
        have hgr3 : w.grownBy w3 (some g) := hgr.trans ((only_of_below hw2 (some g)).trans (only_of_below hb3 (some g)))
        have ba3 := ba.below hb3 ba.lt
        clear hown2 ba cb0 hgr
        by_cases hs : p a = true
        · rw [hs]
          have hnew : Rel i (j + 1) w3 := by
            rw [HRel.out]
            exact ⟨X, HXN.out, by rw [htk.out, if_pos hs]; exact HXT.out, hdr.out, hown3, hgr3⟩
          clear hown3 ba3 hs
          go_wp2_with fail
          go_roundw
          case rel => exact ⟨i, j + 1, by omega, by omega, rfl, by go_num, hnew⟩
          case measure => simp [intOf]; omega
        · rw [show p a = false by simpa using hs]
          have hiX : i < X.length := by rw [HXN.out]; omega
          have hst := flatA_set X i a hiX
          have o1 := hown3.stored (i * 8) (.int .i64 a.s)
          have o2 := o1.1.stored (i * 8 + 1) (.int .i64 a.f)
          have o3 := o2.1.stored (i * 8 + 2) (.int .i64 a.cs)
          have o4 := o3.1.stored (i * 8 + 3) (.int .i64 a.co)
          have o5 := o4.1.stored (i * 8 + 4) (.int .i64 a.cf)
          have o6 := o5.1.stored (i * 8 + 5) (.int .i64 a.ct)
          have o7 := o6.1.stored (i * 8 + 6) (.int .i64 a.cl)
          have o8 := o7.1.stored (i * 8 + 7) (.int .i64 a.o)
          have hnew : Rel (i + 1) (j + 1) ((((((((w3.setCell ⟨g, i * 8, none⟩ (.int .i64 a.s)).setCell ⟨g, i * 8 + 1, none⟩ (.int .i64 a.f)).setCell ⟨g, i * 8 + 2, none⟩ (.int .i64 a.cs)).setCell ⟨g, i * 8 + 3, none⟩ (.int .i64 a.co)).setCell ⟨g, i * 8 + 4, none⟩ (.int .i64 a.cf)).setCell ⟨g, i * 8 + 5, none⟩ (.int .i64 a.ct)).setCell ⟨g, i * 8 + 6, none⟩ (.int .i64 a.cl)).setCell ⟨g, i * 8 + 7, none⟩ (.int .i64 a.o)) := by
            rw [HRel.out]
            refine ⟨X.set i a, by simp [HXN.out], ?_, ?_, by rw [← hst]; exact o8.1, ((((((((hgr3.trans o1.2).trans o2.2).trans o3.2).trans o4.2).trans o5.2).trans o6.2).trans o7.2).trans o8.2)⟩
            · have hget : (X.set i a)[i]? = some a := by simp [hiX]
              rw [take_snoc_ hget, htk.out, if_neg hs, ← HXT.out, List.take_set_of_le (Nat.le_refl _)]
            · rw [List.drop_set_of_lt (by omega)]
              exact hdr.out
          have HNEW := Lib.hid hnew
          have lX3 : LiesA w3 w3.heap.size (some ⟨g, 0, none⟩) X := own_A (l := X) (base := base) (n := n) (c := c) (by rw [HXN.out]; exact hown3)
          obtain ⟨x, hx⟩ := get_of_lt hiX
          obtain ⟨b, off, eb, _, hcs⟩ := lX3.at_ hx
          injection eb with eb
          injection eb with eb1 eb2 _
          subst eb1 eb2
          obtain ⟨c0, c1, c2, c3, c4, c5, c6, c7⟩ := hcs i x hx
          simp only [Nat.zero_add] at c0 c1 c2 c3 c4 c5 c6 c7
          have fz : ∀ k, w3.frozen? ⟨g, k, none⟩ = false := by
            rcases hown3.2 with ⟨h0, _⟩ | ⟨g', cap, cur, hv, _, hh, _⟩
            · cases h0
            · injection hv with hv _ _
              injection hv with hv
              injection hv with hv _ _
              subst hv
              intro k
              simp [World.frozen?, hh]
          have cb3 := ba3.row
          unfold Row at cb3
          have hgne : ¬ wr.heap.size = g := by omega
          have hgne' : ¬ g = wr.heap.size := by omega
          have hic : i < n := by omega
          clear hst o1 o2 o3 o4 o5 o6 o7 o8 hnew hown3 ba3 hs lX3 hx hcs hgr3
          go_wp2_with fail
          go_roundw
          case rel => exact ⟨i + 1, j + 1, by omega, by omega, by go_num, by go_num, HNEW.out⟩
          case measure => simp [intOf]; omega
      · have hje : j = n := by omega
        subst hje
        obtain ⟨w4, hrun, ho4, hg4⟩ := run_clear_ownD (P := Tryz.prog) wr 30 0 66 z0 (.agg #[.int .i64 0, .int .i64 0, .int .i64 0, .int .i64 0, .int .i64 0, .int .i64 0, .int .i64 0, .int .i64 0]) 8 Tryz.underlying30 HI.out.1 HI.out.2.1 rfl (by decide) (by intro u hu; simp [Value.cells] at hu; subst hu; rfl) base g j c i (c - i) (flatA X) hownX hij
        have hci : ¬ c = i := by omega
        have hkl : Hid (KP = X.take i) := Lib.hid (by rw [HKP.out, HXT.out, List.take_of_length_le (by rw [HN.out]; exact Nat.le_refl _)])
        have hlen : Hid (KP.length = i) := Lib.hid (by rw [hkl.out, List.length_take, HXN.out]; omega)
        have hflat : Hid ((flatA X).take (i * 8) = flatA KP) := Lib.hid (by
          have h1 : flatA X = flatA (X.take i) ++ flatA (X.drop i) := by
            unfold flatA
            rw [← List.flatMap_append, List.take_append_drop]
          have h2 : (flatA (X.take i)).length = i * 8 := by
            have h := flat_len (f := Att.row) row_len_A (X.take i)
            rw [List.length_take, HXN.out, Nat.min_eq_left (by omega)] at h
            exact h
          rw [hkl.out, h1, List.take_append_of_le_length (by rw [h2]; exact Nat.le_refl _), List.take_of_length_le (by rw [h2]; exact Nat.le_refl _)])
        have HRUN := Lib.hid hrun
        have HO4 := Lib.hid ho4
        have HG4 := Lib.hid (hgr.trans hg4)
        clear hrun ho4 hg4 hownX
        go_wp2_with fail
        rename_i hK
        rw [HRUN.out]
        simp only [Result.andThen_ok, Oper.upon_value]
        refine hK _ _ ?_
        go_wp2_with fail
        go_ret
        refine ⟨HG4.out, some ⟨g, 0, none⟩, c, rfl, by rw [hlen.out]; rfl, ?_⟩
        rw [hlen.out, ← hflat.out]
        exact HO4.out

end Go.Proofs.YticnppnejafhdaaGreatDoor
/- Abstract states: contracts that were proved over memory, lifted. Generic. -/
namespace Go.Proofs.YticnppnejafhdaaGreatDoor
open Go.RowKit
namespace Av

theorem lies_of_rep {w : World} {R : Reader} {sz : Nat} {xs : List (List Value)} {u : Value} (hR : ∀ p v, R p = some v → w.cell? p = some v) (hs : 0 < sz) (h : RepP R (.sl sz (xs.map fun row => row.map PV.v)) u) :
    ∃ A cap, u = .slice A xs.length cap ∧ Lies w w.heap.size sz A xs := by
  generalize hrows : (xs.map fun row => row.map PV.v) = rows at h
  cases h with
  | sl _ _ A cap f hsz hA hf hc =>
    have hlen : rows.length = xs.length := by rw [← hrows]; simp
    refine ⟨A, cap, by rw [hlen], fun hne => ?_⟩
    have hget : ∀ (k : Nat) (row : List Value), xs[k]? = some row → rows[k]? = some (row.map PV.v) := fun k row hk => by rw [← hrows, List.getElem?_map, hk]; rfl
    rcases hA with h0 | ⟨b, off, rfl, hA⟩
    · exfalso
      apply hne
      rw [h0] at hlen
      exact List.eq_nil_of_length_eq_zero hlen.symm
    · have hcell : ∀ (k : Nat) (row : List Value), xs[k]? = some row → ∀ (j : Nat) (x : Value), row[j]? = some x → w.cell? ⟨b, off + k * sz + j, none⟩ = some x := fun k row hk j x hj => by
        have h1 : (row.map PV.v)[j]? = some (.v x) := by rw [List.getElem?_map, hj]; rfl
        have h2 := hf k _ j _ (hget k row hk) h1
        have h3 := hA k _ j _ (hget k row hk) h1
        have h4 : f k j = x := by
          generalize f k j = y at h2
          cases h2
          rfl
        rw [← h4]
        exact hR _ _ h3
      refine ⟨b, off, rfl, ?_, hcell⟩
      cases xs with
      | nil => exact absurd rfl hne
      | cons row xs =>
        have h1 := hsz 0 _ (hget 0 row rfl)
        have h2 : 0 < row.length := by rw [List.length_map] at h1; omega
        exact Rel.cell_lt (hcell 0 row rfl 0 row[0] (List.getElem?_eq_getElem h2))
theorem owns_rep {R : Reader} {w w' : World} {e : TypeId} {sz : Nat} {v : Value} {xs : List (List Value)} (hs : 0 < sz) (h : w'.ownsRow w.heap.size e sz v xs.length xs.flatten) (hl : ∀ row ∈ xs, row.length = sz) (h1 : ∀ row ∈ xs, ∀ x ∈ row, x.oneCell' = true) :
    ∃ q, OwnV w' w.heap.size e sz xs.length v q ∧ ∀ m, m = none ∨ (m = q ∧ True) → RepP (fresh R w w' m (xs.length * sz)) (.sl sz (xs.map fun row => row.map PV.v)) v := by
  have hz : ∀ (k : Nat) (row : List PV) (j : Nat) (p : PV), (xs.map fun row => row.map PV.v)[k]? = some row → row[j]? = some p → ∃ x, xs.flatten[k * sz + j]? = some x ∧ ∀ R, RepP R p x := fun k row j p hk hj => by
    rw [List.getElem?_map] at hk
    cases hx : xs[k]? with
    | none => rw [hx] at hk; cases hk
    | some r =>
      rw [hx] at hk
      simp only [Option.map_some, Option.some.injEq] at hk
      subst hk
      rw [List.getElem?_map] at hj
      cases hy : r[j]? with
      | none => rw [hy] at hj; cases hj
      | some y =>
        rw [hy] at hj
        simp only [Option.map_some, Option.some.injEq] at hj
        subst hj
        exact ⟨y, flatten_get hl hx hy, fun R => .v y (h1 r (List.mem_of_getElem? hx) y (List.mem_of_getElem? hy))⟩
  have hsz : ∀ (k : Nat) (row : List PV), (xs.map fun row => row.map PV.v)[k]? = some row → row.length = sz := fun k row hk => by
    rw [List.getElem?_map] at hk
    cases hx : xs[k]? with
    | none => rw [hx] at hk; cases hk
    | some r =>
      rw [hx] at hk
      simp only [Option.map_some, Option.some.injEq] at hk
      subst hk
      rw [List.length_map]
      exact hl r (List.mem_of_getElem? hx)
  have hmk : ∀ {R : Reader} {A : Option Addr} {cap : Nat}, (xs = [] ∨ ∃ b off, A = some ⟨b, off, none⟩ ∧ ∀ (i : Nat) (x : Value), xs.flatten[i]? = some x → i < xs.length * sz → R ⟨b, off + i, none⟩ = some x) → xs.length ≤ cap → RepP R (.sl sz (xs.map fun row => row.map PV.v)) (.slice A xs.length cap) := fun {R A cap} hA hc => by
    have := rep_mk (R := R) (A := A) (cap := cap) (zs := xs.flatten) hsz (fun k row j p hk hj => by obtain ⟨x, h2, h3⟩ := hz k row j p hk hj; exact ⟨x, h2, h3 R⟩) (by
      rcases hA with h2 | ⟨b, off, h2, h3⟩
      · left; rw [h2]; rfl
      · exact .inr ⟨b, off, h2, fun i x hx hi => h3 i x hx (by simpa using hi)⟩) (by simpa using hc)
    simpa using this
  obtain ⟨_, h2⟩ := h
  rcases h2 with ⟨rfl, hn⟩ | ⟨g, cap, cur, rfl, hb, hg, hnc, hcm, hcs, htake⟩
  · have hx : xs = [] := List.eq_nil_of_length_eq_zero hn
    refine ⟨none, ⟨rfl, hn⟩, fun m _ => ?_⟩
    rw [hn]
    have := hmk (R := fresh R w w' m (0 * sz)) (A := none) (cap := 0) (.inl hx) (by omega)
    rw [hn] at this
    exact this
  · refine ⟨some g, ⟨cap, cur, rfl, hb, hg, hnc, hcm, hcs⟩, fun m hm => hmk (.inr ⟨g, 0, rfl, fun i x hx hi => ?_⟩) hnc⟩
    unfold fresh
    rw [if_neg (by dsimp only; omega), if_neg (by dsimp only; omega), Nat.zero_add, cell_of_row w' g i cur e (0, 0) hg]
    rw [← htake, List.getElem?_take, if_pos hi] at hx
    rw [← Array.getElem?_toList]
    exact hx
/-- A contract over memory, lifted. -/
theorem fn_of {P : Program} {f : FuncId} {args : List AV} {res : FRes} (hf : Enters P f) (h : ∀ (w : World) (R : Reader), (∀ p v, R p = some v → w.cell? p = some v) → ∀ us, RepAL R args us →
    Calls P f us.toArray w fun e w' => ∃ u, e = .returned u ∧ Below w.heap.size w w' ∧ ResRep R w w' res u) : FnOK P f args res := ⟨hf, h⟩
theorem rep_vs {R : Reader} {xs : List Value} {us : List Value} (h : RepL R (xs.map PV.v) us) : us = xs := by
  induction xs generalizing us with
  | nil => cases h; rfl
  | cons x xs ih =>
    cases h with
    | cons h t =>
      cases h
      rw [ih t]
end Av
end Go.Proofs.YticnppnejafhdaaGreatDoor
/- Abstract data: records, flows, late frames. -/
namespace Go.Proofs.YticnppnejafhdaaGreatDoor
open Go.RowKit
open Nd Rc Mo
open Av
set_option maxRecDepth 100000
set_option linter.unusedSimpArgs false

abbrev iv (n : Int) : AV := .v (.int .i64 n)
abbrev ip (n : Int) : PV := .v (.int .i64 n)
abbrev bv (b : Bool) : AV := .v (.bool b)
def Rc.Att.pv (a : Att) : List PV := [ip a.s, ip a.f, ip a.cs, ip a.co, ip a.cf, ip a.ct, ip a.cl, ip a.o]
def Rc.Dlv.pv (d : Dlv) : List PV := [ip d.fl, ip d.fr, ip d.sl]
def Nd.Fl.pv (f : Fl) : List PV := [ip f.id, ip f.fr, ip f.tn, ip f.pe, ip f.ph, ip f.dl]
def Mo.Lt.pv (x : Lt) : List PV := [ip x.fl, ip x.fr, ip x.sl]
def Rc.Rec.pv (r : Rec) : List PV := [ip r.slots, .sl 8 (r.al.map Att.pv), .sl 3 (r.dl.map Dlv.pv)]
theorem map_pv {α : Type} {f : α → List PV} {g : α → List Value} (h : ∀ x, f x = (g x).map PV.v) (l : List α) : l.map f = (l.map g).map fun row => row.map PV.v := by
  rw [List.map_map]
  exact List.map_congr_left fun x _ => h x
theorem att_pv (l : List Att) : l.map Att.pv = (l.map Att.row).map fun row => row.map PV.v := map_pv (f := Att.pv) (g := Att.row) (fun _ => rfl) l
theorem dlv_pv (l : List Dlv) : l.map Dlv.pv = (l.map Dlv.row).map fun row => row.map PV.v := map_pv (f := Dlv.pv) (g := Dlv.row) (fun _ => rfl) l
theorem fl_pv (l : List Fl) : l.map Fl.pv = (l.map Fl.row).map fun row => row.map PV.v := map_pv (f := Fl.pv) (g := Fl.row) (fun _ => rfl) l
theorem lt_pv (l : List Lt) : l.map Lt.pv = (l.map Lt.row).map fun row => row.map PV.v := map_pv (f := Lt.pv) (g := Lt.row) (fun _ => rfl) l
theorem rec_rep {w : World} {R : Reader} {bx : Nat → Nat} {r : Rec} {u : Value} (hR : ∀ p v, R p = some v → w.cell? p = some v) (h : RepA R bx (.agg r.pv) u) :
    ∃ A D ca cd, u = .agg #[.int .i64 r.slots, .slice A r.al.length ca, .slice D r.dl.length cd] ∧ LiesA w w.heap.size A r.al ∧ LiesD w w.heap.size D r.dl := by
  obtain ⟨us, rfl, h⟩ := h
  cases h with
  | cons h1 h =>
    cases h with
    | cons h2 h =>
      cases h with
      | cons h3 h =>
        cases h
        cases h1
        rw [att_pv] at h2
        rw [dlv_pv] at h3
        obtain ⟨A, ca, rfl, hA⟩ := lies_of_rep hR (by decide) h2
        obtain ⟨D, cd, rfl, hD⟩ := lies_of_rep hR (by decide) h3
        rw [List.length_map, List.length_map]
        exact ⟨A, D, ca, cd, rfl, hA, hD⟩
theorem fls_rep {w : World} {R : Reader} {bx : Nat → Nat} {fs : List Fl} {u : Value} (hR : ∀ p v, R p = some v → w.cell? p = some v) (h : RepA R bx (.sl 6 (fs.map Fl.pv)) u) :
    ∃ A c, u = .slice A fs.length c ∧ Lies w w.heap.size 6 A (fs.map Fl.row) := by
  have h' : RepP R (.sl 6 (fs.map Fl.pv)) u := h
  rw [fl_pv] at h'
  obtain ⟨A, c, rfl, hA⟩ := lies_of_rep hR (by decide) h'
  rw [List.length_map]
  exact ⟨A, c, rfl, hA⟩
theorem fl_rep {R : Reader} {bx : Nat → Nat} {f : Fl} {u : Value} (h : RepA R bx (.agg f.pv) u) : u = .agg #[.int .i64 f.id, .int .i64 f.fr, .int .i64 f.tn, .int .i64 f.pe, .int .i64 f.ph, .int .i64 f.dl] := by
  obtain ⟨us, rfl, h⟩ := h
  rw [show f.pv = [.int .i64 f.id, .int .i64 f.fr, .int .i64 f.tn, .int .i64 f.pe, .int .i64 f.ph, .int .i64 f.dl].map PV.v from rfl] at h
  rw [rep_vs h]
/-- A result that is a value, or values. -/
theorem res_v {R : Reader} {w w' : World} {x : Value} : ResRep R w w' ⟨.v x, none⟩ x := ⟨rfl, rfl⟩
theorem res_vv {R : Reader} {w w' : World} {x y : Value} (hx : x.oneCell' = true) (hy : y.oneCell' = true) : ResRep R w w' ⟨.tup [.c (.v x), .c (.v y)], none⟩ (.tuple #[x, y]) := ⟨rfl, [x, y], rfl, .cons (.c (.v x hx)) (.cons (.c (.v y hy)) .nil)⟩
theorem res_rows {R : Reader} {w w' : World} {e : TypeId} {sz : Nat} {v : Value} {xs : List (List Value)} {n : Int} (hs : 0 < sz) (h : w'.ownsRow w.heap.size e sz v xs.length xs.flatten) (hl : ∀ row ∈ xs, row.length = sz) (h1 : ∀ row ∈ xs, ∀ x ∈ row, x.oneCell' = true) :
    ResRep R w w' ⟨.tup [.c (.sl sz (xs.map fun row => row.map PV.v)), .c (ip n)], none⟩ (.tuple #[v, .int .i64 n]) := by
  obtain ⟨q, _, h2⟩ := owns_rep (R := R) hs h hl h1
  have h3 := h2 none (.inl rfl)
  refine ⟨rfl, [v, .int .i64 n], rfl, .cons (.c (h3.mono fun p y hp => ?_)) (.cons (.c (.v _ rfl)) .nil)⟩
  unfold fresh at hp ⊢
  split at hp
  · rename_i hb; rw [if_pos hb]; exact hp
  · rename_i hb
    rw [if_neg hb, if_neg (by rintro ⟨h4, _⟩; cases h4)]
    split at hp
    · cases hp
    · exact hp
end Go.Proofs.YticnppnejafhdaaGreatDoor
/- Contracts that were proved over memory, lifted: flows, records, the monitor. -/
namespace Go.Proofs.YticnppnejafhdaaGreatDoor
open Go.RowKit
open Nd Rc Mo
open Av
set_option maxRecDepth 100000
set_option linter.unusedSimpArgs false

theorem late_ok (fs : List Fl) (r : Rec) (hf : fs.length ≤ 1000000) (hla : r.al.length ≤ 1000000) (hld : r.dl.length ≤ 1000000) : FnOK Tryz.prog 67 [.sl 6 (fs.map Fl.pv), .agg r.pv] ⟨.tup [.c (.sl 3 ((late fs r).1.map Lt.pv)), .c (ip (late fs r).2)], none⟩ := fn_of ⟨Tryz.f67, _, Tryz.func67, by kernel_rfl, rfl⟩ fun w R hR us hus => by
  cases hus with | cons h0 _ hus =>
  cases hus with | cons h1 _ hus =>
  cases hus
  obtain ⟨F, cf, rfl, hF⟩ := fls_rep hR h0
  obtain ⟨A, D, ca, cd, rfl, hA, hD⟩ := rec_rep hR h1
  refine (late_any fs r F A D cf ca cd w hF hf hA hD hla hld).mono ?_
  rintro e w' ⟨hb, v, rfl, hown⟩
  refine ⟨_, rfl, hb, ?_⟩
  rw [lt_pv]
  rw [List.flatMap_def, ← List.length_map (f := Lt.row)] at hown
  exact res_rows (by decide) hown (fun row hr => by obtain ⟨x, _, rfl⟩ := List.mem_map.1 hr; rfl) (fun row hr x hx => by obtain ⟨y, _, rfl⟩ := List.mem_map.1 hr; simp only [Lt.row, List.mem_cons, List.not_mem_nil, or_false] at hx; rcases hx with rfl | rfl | rfl <;> rfl)

theorem check_ok (r : Rec) (hla : r.al.length ≤ 1000000) (hld : r.dl.length ≤ 1000000) : FnOK Tryz.prog 56 [.agg r.pv] ⟨iv (checkE r), none⟩ := fn_of ⟨Tryz.f56, _, Tryz.func56, by kernel_rfl, rfl⟩ fun w R hR us hus => by
  cases hus with | cons h0 _ hus =>
  cases hus
  obtain ⟨A, D, ca, cd, rfl, hA, hD⟩ := rec_rep hR h0
  refine (check_any r A D ca cd w hA hD (by omega) (by omega)).mono ?_
  rintro e w' ⟨rfl, hb⟩
  exact ⟨_, rfl, hb, res_v⟩

end Go.Proofs.YticnppnejafhdaaGreatDoor
/- Walks: package network: compare, the check of a link. -/
namespace Go.Proofs.YticnppnejafhdaaGreatDoor
open Go.RowKit
open Nd Rc Mo

theorem prevL_eq (q l : Lk) : decide (0 ≤ orI [Rc.cmpI q.fr l.fr, Rc.cmpI q.tt l.tt]) = prevBadL (some q) l := by
  unfold orI orI orI Rc.cmpI prevBadL
  by_cases h1 : q.fr < l.fr
  · have h2 : ¬ l.fr < q.fr := by omega
    have h3 : ¬ q.fr = l.fr := by omega
    simp [h1, h2, h3]
  · by_cases h2 : l.fr < q.fr
    · simp [h1, h2]
    · have h3 : q.fr = l.fr := by omega
      by_cases h4 : q.tt < l.tt
      · have h5 : ¬ l.tt ≤ q.tt := by omega
        simp [h3, h4, h5]
      · have h5 : l.tt ≤ q.tt := by omega
        by_cases h6 : l.tt < q.tt <;> simp [h3, h4, h5, h6]

set_option maxRecDepth 100000 in
set_option maxHeartbeats 1000000 in
theorem ncompare_any (x y : Lk) (w : World) : Calls Tryz.prog 113 #[.agg #[.int .i64 x.fr, .int .i64 x.tt, .int .i64 x.ls], .agg #[.int .i64 y.fr, .int .i64 y.tt, .int .i64 y.ls]] w
    fun e w' => e = .returned (.int .i64 (orI [Rc.cmpI x.fr y.fr, Rc.cmpI x.tt y.tt])) ∧ Below w.heap.size w w' := by
  obtain ⟨f, t, l⟩ := x
  obtain ⟨f', t', l'⟩ := y
  dsimp only
  obtain ⟨W1, hW1⟩ : ∃ W1, W1 = (w.alloc (.cells #[.int .i64 f, .int .i64 t, .int .i64 l] 60)).alloc (.cells #[.int .i64 f', .int .i64 t', .int .i64 l'] 60) := ⟨_, rfl⟩
  have hb1 : Below w.heap.size w W1 := by rw [hW1]; exact ((Below.refl _ _).alloc (Nat.le_refl _) _).alloc (by simp) _
  have b1 : Blk W1 w.heap.size 60 [.int .i64 f, .int .i64 t, .int .i64 l] := by rw [hW1]; exact Blk.alloc (Blk.new2 _ [.int .i64 f, .int .i64 t, .int .i64 l] rfl) _
  have b2 : Blk W1 (w.heap.size + 1) 60 [.int .i64 f', .int .i64 t', .int .i64 l'] := by rw [hW1]; exact Blk.new2 _ [.int .i64 f', .int .i64 t', .int .i64 l'] (by simp)
  have HW1 := Lib.hid hW1
  clear hW1
  go_enter Tryz.func113, Tryz.ntmps113
  go_upto_region 1 with fail
  rw [← HW1.out]
  have x1 := b1.row.ext (B := W1.heap.size) b1.lt
  have x2 := b2.row.ext (B := W1.heap.size) b2.lt
  refine wp_region_ext_tail W1.heap.size 10 (by kernel_rfl) (by kernel_rfl) ?_
  simp only [List.take_succ_cons, List.take_zero, List.drop_succ_cons, List.drop_zero]
  repeat (go_big_quiet_step ((go_at_call 62; exact Calls.ext_same (cmp_any _ _ _))))
  refine wpQuiet_nil ?_
  rintro _ ⟨x, rfl⟩
  have hb' := hb1.trans (x.below.mono hb1.size)
  obtain ⟨W, hW⟩ := x
  go_wp2_with (go_at_call 61; refine (or_any [cmpI f f', cmpI t t'] _ 0 2 _ (by simp) ?_).mono ?_)
  · exact fun k x hx => ints_get hx
  go_ret
  exact ⟨rfl, hb'.alloc (hb'.size) _⟩

theorem clink1_any (a nodes : Int) (g : Nat) (w : World) (hc : w.cell? ⟨g, 0, none⟩ = some (.int .i64 nodes)) :
    Calls Tryz.prog 135 #[.int .i64 a, .pointer (some ⟨g, 0, none⟩)] w fun e w' => e = .returned (.bool (Nd.inB a 0 (nodes - 1))) ∧ Below w.heap.size w w' := by
  have hi : Nd.inB a 0 (nodes - 1) = (decide (0 ≤ a) && decide (a < nodes)) := by
    unfold Nd.inB
    congr 1
    exact decide_eq_decide.2 (by omega)
  rw [hi]
  go_enter Tryz.func135, Tryz.ntmps135
  go_wp2
  all_goals
    go_ret
    exact ⟨ret_bool (by first | (simp [*]; done) | (simp [*]; omega)), Below.refl _ _⟩
end Go.Proofs.YticnppnejafhdaaGreatDoor
/- Walks: package network: checkLink, Check. -/
namespace Go.Proofs.YticnppnejafhdaaGreatDoor
open Go.RowKit
open Nd Rc Mo

/-- The link ahead of the one at i. -/
def prevL (lk : List Lk) (i : Nat) : Option Lk := if i = 0 then none else lk[i - 1]?
theorem pow_at {pw : List PRow} {nodes : Int} (hpn : ((pw.length : Nat) : Int) = nodes) (hrow : ∀ p ∈ pw, ((p.l.length : Nat) : Int) = nodes) {a b : Int} (ha : 0 ≤ a ∧ a ≤ nodes - 1) (hb : 0 ≤ b ∧ b ≤ nodes - 1) :
    ∃ p v, pw[a.toNat]? = some p ∧ p.l[b.toNat]? = some v ∧ powAt (pw.map PRow.l) a b = v := by
  obtain ⟨p, hp⟩ := get_of_lt (l := pw) (k := a.toNat) (by omega)
  have hr := hrow p (List.mem_of_getElem? hp)
  obtain ⟨v, hv⟩ := get_of_lt (l := p.l) (k := b.toNat) (by omega)
  refine ⟨p, v, hp, hv, ?_⟩
  unfold powAt
  rw [List.getD_eq_getElem?_getD, List.getD_eq_getElem?_getD, List.getElem?_map, hp]
  simp [hv]

set_option maxRecDepth 100000 in
set_option maxHeartbeats 4000000 in
theorem clink_any (nodes noise thr : Int) (pw : List PRow) (lk : List Lk) (mg : List Int) (P L G : Option Addr) (cp cl cg : Nat) (i : Nat) (l : Lk) (m : Int) (w : World) (hP : LiesP w w.heap.size P pw) (hp : pw.length ≤ 1000000) (hL : Lies w w.heap.size 3 L (lk.map Lk.row)) (hl : lk.length ≤ 1000000) (hG : LiesI w w.heap.size G mg) (hg : mg.length = lk.length)
    (hpn : ((pw.length : Nat) : Int) = nodes) (hrow : ∀ p ∈ pw, ((p.l.length : Nat) : Int) = nodes) (hi : lk[i]? = some l) (hm : mg[i]? = some m) :
    Calls Tryz.prog 92 #[.agg #[.int .i64 nodes, .slice P pw.length cp, .int .i64 noise, .int .i64 thr, .slice L lk.length cl, .slice G mg.length cg], .int .i64 (i : Nat)] w fun e w' => e = .returned (.int .i64 (lkE nodes (pw.map PRow.l) (prevL lk i) l m)) ∧ Below w.heap.size w w' := by
  obtain ⟨np, hnp⟩ : ∃ n, n = pw.length := ⟨_, rfl⟩
  obtain ⟨nl, hnl⟩ : ∃ n, n = lk.length := ⟨_, rfl⟩
  obtain ⟨nm, hnm⟩ : ∃ n, n = mg.length := ⟨_, rfl⟩
  have hil : i < nl := by rw [hnl]; exact (List.getElem?_eq_some_iff.1 hi).1
  have him : i < nm := by omega
  have hl6 : nl ≤ 1000000 := by omega
  obtain ⟨T, hT⟩ : ∃ T, T = lkE nodes (pw.map PRow.l) (prevL lk i) l m := ⟨_, rfl⟩
  obtain ⟨N, hN⟩ : ∃ N, N = w.heap.size := ⟨_, rfl⟩
  rw [← hT, ← hnp, ← hnl, ← hnm]
  obtain ⟨W1, hW1⟩ : ∃ W1, W1 = w.alloc (.cells #[.int .i64 nodes, .slice P np cp, .int .i64 noise, .int .i64 thr, .slice L nl cl, .slice G nm cg] 26) := ⟨_, rfl⟩
  have hb1 : Below N w W1 := by rw [hW1, hN]; exact (Below.refl _ _).alloc (Nat.le_refl _) _
  have bN : Blk W1 N 26 [.int .i64 nodes, .slice P np cp, .int .i64 noise, .int .i64 thr, .slice L nl cl, .slice G nm cg] := by rw [hW1]; exact Blk.new2 _ [.int .i64 nodes, .slice P np cp, .int .i64 noise, .int .i64 thr, .slice L nl cl, .slice G nm cg] hN
  have HW := Lib.hid (fun W (h' : Below W1.heap.size W1 W) => (show Below w.heap.size w W ∧ Row W N [.int .i64 nodes, .slice P np cp, .int .i64 noise, .int .i64 thr, .slice L nl cl, .slice G nm cg] from ⟨by rw [← hN]; exact hb1.trans (h'.mono (by have := bN.lt; omega)), (bN.below h' bN.lt).row⟩))
  have HP := Lib.hid (fun W (h' : Below W1.heap.size W1 W) => LiesP.later hP (HW.out W h').1)
  have HL := Lib.hid (fun W (h' : Below W1.heap.size W1 W) => (hL.below (HW.out W h').1).more (HW.out W h').1.size)
  have HGm := Lib.hid (fun W (h' : Below W1.heap.size W1 W) => (hG.below (HW.out W h').1).more (HW.out W h').1.size)
  have Con := Lib.hid (fun (a : Int) W (h' : Below W1.heap.size W1 W) => clink1_any a nodes N W ((HW.out W h').2 0))
  have HT := Lib.hid hT
  have HPn := Lib.hid (And.intro hpn hrow)
  have HI := Lib.hid hi
  have HMm := Lib.hid hm
  have HNl := Lib.hid hnl
  have HNm := Lib.hid hnm
  have HNp := Lib.hid hnp
  have HN := Lib.hid hN
  have HW1 := Lib.hid hW1
  have hNl := bN.lt
  have hz1 : W1.heap.size = N + 1 := by rw [hW1, hN]; simp
  obtain ⟨lb, loff, hLe, hlB, hcs⟩ := (HL.out _ (Below.refl _ _)).at_ hi
  have c0 := hcs i l hi 0 _ rfl
  have c1 := hcs i l hi 1 _ rfl
  have c2 := hcs i l hi 2 _ rfl
  simp only [Nat.add_zero] at c0 c1 c2
  have HLe := Lib.hid hLe
  subst hLe
  have r1 := (HW.out _ (Below.refl _ _)).2
  rw [HW1.out] at r1 c0 c1 c2
  rw [HN.out] at r1
  unfold Row at r1
  clear hP hp hL hl hG hg hpn hrow hi hm hT hN hW1 hb1 bN hnl hnm hnp hcs
  go_enter Tryz.func92, Tryz.ntmps92
  go_upto_region 3 with fail
  rw [← HW1.out, ← HN.out]
  clear r1 c0 c1 c2
  obtain ⟨X, hX⟩ : ∃ X, X = N + 1 := ⟨_, rfl⟩
  generalize hWa : World.alloc _ _ = Wa
  have bX : Blk Wa X 60 [.int .i64 l.fr, .int .i64 l.tt, .int .i64 l.ls] := by rw [← hWa]; exact Blk.new2 _ [.int .i64 l.fr, .int .i64 l.tt, .int .i64 l.ls] (by rw [hX, hz1])
  have hBa : Below W1.heap.size W1 Wa := by rw [← hWa]; exact (Below.refl _ _).alloc (Nat.le_refl _) _
  rw [← hX]
  clear hWa hX hz1
  have rX := bX.row
  unfold Row at rX
  go_wp2_with fail
  refine (Con.out _ _ hBa).mono ?_
  rintro e w2 ⟨rfl, hb2⟩
  have hB2 : Below W1.heap.size W1 w2 := hBa.trans (hb2.mono hBa.size)
  have bX2 := bX.below hb2 bX.lt
  clear rX bX
  have rX := bX2.row
  unfold Row at rX
  cases c1 : Nd.inB l.fr 0 (nodes - 1) with
  | false =>
    have hf : Hid (T = 2) := Lib.hid (by rw [HT.out]; unfold lkE; rw [if_pos (by unfold lkB; rw [c1]; rfl)])
    go_wp2_with fail
    go_ret
    exact ⟨ret_int (by rw [hf.out]), (HW.out _ hB2).1⟩
  | true =>
    go_wp2_with fail
    refine (Con.out _ _ hB2).mono ?_
    rintro e w3 ⟨rfl, hb3⟩
    have hB3 : Below W1.heap.size W1 w3 := hB2.trans (hb3.mono hB2.size)
    have bX3 := bX2.below hb3 bX2.lt
    clear rX bX2 hBa hb2 Con
    have rX := bX3.row
    unfold Row at rX
    cases c2 : Nd.inB l.tt 0 (nodes - 1) with
    | false =>
      have hf : Hid (T = 2) := Lib.hid (by rw [HT.out]; unfold lkE; rw [if_pos (by unfold lkB; rw [c1, c2]; rfl)])
      go_wp2_with fail
      go_ret
      exact ⟨ret_int (by rw [hf.out]), (HW.out _ hB3).1⟩
    | true =>
      cases c3 : (l.fr == l.tt) with
      | true =>
        have hf : Hid (T = 2) := Lib.hid (by rw [HT.out]; unfold lkE; rw [if_pos (by unfold lkB; rw [c1, c2, c3]; rfl)])
        go_wp2_with fail
        go_ret
        exact ⟨ret_int (by rw [hf.out]), (HW.out _ hB3).1⟩
      | false =>
        by_cases d4 : l.ls < 0
        · have e4 : decide (l.ls < 0) = true := decide_eq_true d4
          have c4 : Nd.inB l.ls 0 7 = false := by unfold Nd.inB; rw [decide_eq_false (by omega)]; rfl
          have hf : Hid (T = 2) := Lib.hid (by rw [HT.out]; unfold lkE; rw [if_pos (by unfold lkB; rw [c1, c2, c3, c4]; rfl)])
          go_wp2_with fail
          go_ret
          exact ⟨ret_int (by rw [hf.out]), (HW.out _ hB3).1⟩
        have e4 : decide (l.ls < 0) = false := decide_eq_false d4
        by_cases d5 : 7 < l.ls
        · have e5 : decide (7 < l.ls) = true := decide_eq_true d5
          have c4 : Nd.inB l.ls 0 7 = false := by unfold Nd.inB; rw [decide_eq_false (p := l.ls ≤ 7) (by omega), Bool.and_false]
          have hf : Hid (T = 2) := Lib.hid (by rw [HT.out]; unfold lkE; rw [if_pos (by unfold lkB; rw [c1, c2, c3, c4]; rfl)])
          go_wp2_with fail
          go_ret
          exact ⟨ret_int (by rw [hf.out]), (HW.out _ hB3).1⟩
        have e5 : decide (7 < l.ls) = false := decide_eq_false d5
        have c4 : Nd.inB l.ls 0 7 = true := by unfold Nd.inB; rw [decide_eq_true (p := 0 ≤ l.ls) (by omega), decide_eq_true (p := l.ls ≤ 7) (by omega)]; rfl
        have HT2 : Hid (T = if prevBadL (prevL lk i) l = true then 5 else if m < 0 ∨ powAt (pw.map PRow.l) l.fr l.tt < m then 2 else 0) := Lib.hid (by rw [HT.out]; unfold lkE; rw [if_neg (by unfold lkB; rw [c1, c2, c3, c4]; decide)])
        have HI1 := Lib.hid (show (0 ≤ l.fr ∧ l.fr ≤ nodes - 1) ∧ (0 ≤ l.tt ∧ l.tt ≤ nodes - 1) from by
          simp only [Nd.inB, Bool.and_eq_true, decide_eq_true_eq] at c1 c2
          exact ⟨c1, c2⟩)
        clear HT c4 d4 d5 c1 c2
        go_upto_region 5 with fail
        clear rX e4 e5 c3
        have rX3 := bX3.row
        have rN3 := (HW.out _ hB3).2
        have hXl : X < w3.heap.size := bX3.lt
        have hNl3 : N < w3.heap.size := by have := hB3.size; omega
        have HB3s := Lib.hid (Nat.le_refl w3.heap.size)
        have yN : ∀ (x' : ExtW w3.heap.size w3) (j : Nat), x'.val.cell? ⟨N, j, none⟩ = _ := fun x' j => (x'.cell _ hNl3).trans (rN3 j)
        have yX : ∀ (x' : ExtW w3.heap.size w3) (j : Nat), x'.val.cell? ⟨X, j, none⟩ = _ := fun x' j => (x'.cell _ hXl).trans (rX3 j)
        go_cut [43] (fun s43 W => s43 = .bool (prevBadL (prevL lk i) l) ∧ Below w3.heap.size w3 W)
        case first =>
          cases i with
          | zero =>
            refine wp_region_ext w3.heap.size (by kernel_rfl) (by kernel_rfl) ?_
            repeat (go_big_quiet_step (fail))
            refine wpQuiet_nil ?_
            rintro _ ⟨x', rfl⟩
            go_wp2_with fail
            go_meet
            exact ⟨rfl, x'.below⟩
          | succ k =>
            obtain ⟨q, hq⟩ := get_of_lt (l := lk) (k := k) (by have := HNl.out; omega)
            obtain ⟨lb', loff', he', hlB', hcs'⟩ := (HL.out _ hB3).at_ hq
            have hval : prevBadL (prevL lk (k + 1)) l = decide (0 ≤ orI [Rc.cmpI q.fr l.fr, Rc.cmpI q.tt l.tt]) := by
              rw [prevL_eq]
              unfold prevL
              rw [if_neg (by omega), Nat.add_sub_cancel, hq]
            have HVal := Lib.hid hval
            clear hval
            simp only [Option.some.injEq, Addr.mk.injEq, and_true] at he'
            obtain ⟨rfl, rfl⟩ := he'
            have q0 := hcs' k q hq 0 _ rfl
            have q1 := hcs' k q hq 1 _ rfl
            have q2 := hcs' k q hq 2 _ rfl
            simp only [Nat.add_zero] at q0 q1 q2
            have y0 : ∀ (x' : ExtW w3.heap.size w3), x'.val.cell? ⟨lb, loff + k * 3, none⟩ = some (.int .i64 q.fr) := fun x' => (x'.cell _ hlB').trans q0
            have y1 : ∀ (x' : ExtW w3.heap.size w3), x'.val.cell? ⟨lb, loff + k * 3 + 1, none⟩ = some (.int .i64 q.tt) := fun x' => (x'.cell _ hlB').trans q1
            have y2 : ∀ (x' : ExtW w3.heap.size w3), x'.val.cell? ⟨lb, loff + k * 3 + 2, none⟩ = some (.int .i64 q.ls) := fun x' => (x'.cell _ hlB').trans q2
            have Con2 := Lib.hid (fun W => ncompare_any q l W)
            generalize orI [Rc.cmpI q.fr l.fr, Rc.cmpI q.tt l.tt] = V at *
            have hkl : k < nl := by omega
            have hw1 : IntKind.i64.wrap (((k + 1 : Nat) : Int) - 1) = (k : Int) := by rw [IntWalk.i64_in _ (by omega)]; omega
            have hd1 : decide ((0 : Int) < ((k + 1 : Nat) : Int)) = true := decide_eq_true (by omega)
            have hd2 : decide ((0 : Int) < (k : Int) + 1) = true := decide_eq_true (by omega)
            have hw2 : IntKind.i64.wrap ((k : Int) + 1 - 1) = (k : Int) := by rw [IntWalk.i64_in _ (by omega)]; omega
            clear q0 q1 q2 hcs' hq
            refine wp_region_ext w3.heap.size (by kernel_rfl) (by kernel_rfl) ?_
            repeat (go_big_quiet_step ((go_at_call 113; exact Calls.ext_of (Con2.out _) HB3s.out)))
            refine wpQuiet_nil ?_
            rintro _ ⟨x', rfl⟩
            go_wp2_with fail
            go_meet
            exact ⟨by rw [HVal.out], x'.below⟩
        case rest =>
          obtain ⟨rfl, hb4⟩ := hcut
          clear yN yX
          have hB4 : Below W1.heap.size W1 wc := hB3.trans (hb4.mono hB3.size)
          cases hpb : prevBadL (prevL lk i) l with
          | true =>
            have hf : Hid (T = 5) := Lib.hid (by rw [HT2.out, hpb]; rfl)
            go_wp2_with fail
            go_ret
            exact ⟨ret_int (by rw [hf.out]), (HW.out _ hB4).1⟩
          | false =>
            obtain ⟨p, v, hp, hv, hpv⟩ := pow_at HPn.out.1 HPn.out.2 HI1.out.1 HI1.out.2
            have HT3 : Hid (T = if m < 0 ∨ v < m then 2 else 0) := Lib.hid (by rw [HT2.out, hpb, hpv]; rfl)
            obtain ⟨fa, hfa⟩ : ∃ a : Nat, l.fr = (a : Int) := ⟨l.fr.toNat, by have := HI1.out; omega⟩
            obtain ⟨ta, hta⟩ : ∃ a : Nat, l.tt = (a : Int) := ⟨l.tt.toNat, by have := HI1.out; omega⟩
            rw [hfa, Int.toNat_natCast] at hp
            rw [hta, Int.toNat_natCast] at hv
            have hrl : ((p.l.length : Nat) : Int) = nodes := HPn.out.2 p (List.mem_of_getElem? hp)
            obtain ⟨pb, poff, hPe, hpB, hpcs⟩ := (HP.out _ hB4).1.at_ hp
            have pc := hpcs fa p hp 0 _ rfl
            simp only [Nat.mul_one, Nat.add_zero] at pc
            obtain ⟨vb, voff, hVe, hvB, hvc⟩ := ((HP.out _ hB4).2 p (List.mem_of_getElem? hp)).1.at_ hv
            have vc := hvc ta v hv
            obtain ⟨gb, goff, hGe, hgB, hgc⟩ := (HGm.out _ hB4).at_ HMm.out
            have gc := hgc i m HMm.out
            have rN4 := (HW.out _ hB4).2
            have rX4 := (bX3.below hb4 hXl).row
            have hfl : fa < np := by have := HI1.out; have := HPn.out.1; have := HNp.out; omega
            obtain ⟨rl, hrle⟩ : ∃ rl, rl = p.l.length := ⟨_, rfl⟩
            have htl : ta < rl := by have := HI1.out; omega
            rw [← hrle] at pc
            rw [hVe] at pc
            have hXl4 : X < wc.heap.size := Nat.lt_of_lt_of_le hXl hb4.size
            have hNl4 : N < wc.heap.size := Nat.lt_of_lt_of_le hNl3 hb4.size
            subst hPe hGe
            rw [hfa, hta] at rX4
            have yN : ∀ (x' : ExtW wc.heap.size wc) (j : Nat), x'.val.cell? ⟨N, j, none⟩ = _ := fun x' j => (x'.cell _ hNl4).trans (rN4 j)
            have yX : ∀ (x' : ExtW wc.heap.size wc) (j : Nat), x'.val.cell? ⟨X, j, none⟩ = _ := fun x' j => (x'.cell _ hXl4).trans (rX4 j)
            have yp : ∀ (x' : ExtW wc.heap.size wc), x'.val.cell? ⟨pb, poff + fa, none⟩ = some (.slice (some ⟨vb, voff, none⟩) rl p.c) := fun x' => (x'.cell _ hpB).trans pc
            have yv : ∀ (x' : ExtW wc.heap.size wc), x'.val.cell? ⟨vb, voff + ta, none⟩ = some (.int .i64 v) := fun x' => (x'.cell _ hvB).trans vc
            have yg : ∀ (x' : ExtW wc.heap.size wc), x'.val.cell? ⟨gb, goff + i, none⟩ = some (.int .i64 m) := fun x' => (x'.cell _ hgB).trans gc
            clear hpcs pc hvc vc hgc gc rN4 rX4 hpv hrl hfa hta hp hv hrle hVe HT2 hpb
            go_upto_region 7 with fail
            by_cases d6 : m < 0
            · have e6 : decide (m < 0) = true := decide_eq_true d6
              have hf : Hid (T = 2) := Lib.hid (by rw [HT3.out, if_pos (.inl d6)])
              clear d6
              refine wp_region_ext wc.heap.size (by kernel_rfl) (by kernel_rfl) ?_
              repeat (go_big_quiet_step (fail))
              refine wpQuiet_nil ?_
              rintro _ ⟨x', rfl⟩
              have hfin := (HW.out _ (hB4.trans (x'.below.mono hB4.size))).1
              go_wp2_with fail
              go_ret
              exact ⟨ret_int (by rw [hf.out]), hfin⟩
            · have e6 : decide (m < 0) = false := decide_eq_false d6
              by_cases d7 : v < m
              · have e7 : decide (v < m) = true := decide_eq_true d7
                have hf : Hid (T = 2) := Lib.hid (by rw [HT3.out, if_pos (.inr d7)])
                clear d6 d7
                refine wp_region_ext wc.heap.size (by kernel_rfl) (by kernel_rfl) ?_
                repeat (go_big_quiet_step (fail))
                refine wpQuiet_nil ?_
                rintro _ ⟨x', rfl⟩
                have hfin := (HW.out _ (hB4.trans (x'.below.mono hB4.size))).1
                go_wp2_with fail
                go_ret
                exact ⟨ret_int (by rw [hf.out]), hfin⟩
              · have e7 : decide (v < m) = false := decide_eq_false d7
                have hf : Hid (T = 0) := Lib.hid (by rw [HT3.out, if_neg (by omega)])
                clear d6 d7
                refine wp_region_ext wc.heap.size (by kernel_rfl) (by kernel_rfl) ?_
                repeat (go_big_quiet_step (fail))
                refine wpQuiet_nil ?_
                rintro _ ⟨x', rfl⟩
                have hfin := (HW.out _ (hB4.trans (x'.below.mono hB4.size))).1
                go_wp2_with fail
                go_ret
                exact ⟨ret_int (by rw [hf.out]), hfin⟩
end Go.Proofs.YticnppnejafhdaaGreatDoor
/- Walk: package network: Check. -/
namespace Go.Proofs.YticnppnejafhdaaGreatDoor
open Go.RowKit
open Nd Rc Mo

theorem powE_zero {nodes : Int} {pow : List (List Int)} (h : powE nodes pow = 0) : ((pow.length : Nat) : Int) = nodes ∧ (∀ r ∈ pow, ((r.length : Nat) : Int) = nodes) ∧ ∀ r ∈ pow, ∀ p ∈ r, 0 ≤ p ∧ p ≤ 68719476736 := by
  unfold powE at h
  split at h
  · cases h
  · rename_i h1
    split at h
    · cases h
    · rename_i h2
      refine ⟨Classical.byContradiction fun hh => h1 (.inl hh), fun r hr => ?_, fun r hr p hp => ?_⟩
      · refine Classical.byContradiction fun hh => h1 (.inr (List.any_eq_true.2 ⟨r, hr, by simpa using hh⟩))
      · refine Classical.byContradiction fun hh => h2 (List.any_eq_true.2 ⟨r, hr, List.any_eq_true.2 ⟨p, hp, ?_⟩⟩)
        unfold outP
        rw [Bool.or_eq_true, decide_eq_true_eq, decide_eq_true_eq]
        omega
theorem prevL_succ {lk : List Lk} {k : Nat} {l : Lk} (h : lk[k]? = some l) : prevL lk (k + 1) = some l := by
  unfold prevL
  rw [if_neg (by omega), Nat.add_sub_cancel, h]

set_option maxRecDepth 100000 in
set_option maxHeartbeats 4000000 in
theorem netCheck_any (nodes noise thr : Int) (pw : List PRow) (lk : List Lk) (mg : List Int) (P L G : Option Addr) (cp cl cg : Nat) (w : World) (hP : LiesP w w.heap.size P pw) (hp : pw.length ≤ 1000000) (hL : Lies w w.heap.size 3 L (lk.map Lk.row)) (hl : lk.length ≤ 1000000) (hG : LiesI w w.heap.size G mg) (hg : mg.length ≤ 1000000) :
    Calls Tryz.prog 55 #[.agg #[.int .i64 nodes, .slice P pw.length cp, .int .i64 noise, .int .i64 thr, .slice L lk.length cl, .slice G mg.length cg]] w fun e w' => e = .returned (.int .i64 (chkN ⟨nodes, noise, thr, pw.map PRow.l, lk, mg⟩)) ∧ Below w.heap.size w w' := by
  obtain ⟨np, hnp⟩ : ∃ n, n = pw.length := ⟨_, rfl⟩
  obtain ⟨nl, hnl⟩ : ∃ n, n = lk.length := ⟨_, rfl⟩
  obtain ⟨nm, hnm⟩ : ∃ n, n = mg.length := ⟨_, rfl⟩
  obtain ⟨T, hT⟩ : ∃ T, T = chkN ⟨nodes, noise, thr, pw.map PRow.l, lk, mg⟩ := ⟨_, rfl⟩
  obtain ⟨N, hN⟩ : ∃ N, N = w.heap.size := ⟨_, rfl⟩
  rw [← hT, ← hnp, ← hnl, ← hnm]
  unfold chkN at hT
  dsimp only at hT
  rw [← hnl, ← hnm] at hT
  obtain ⟨W1, hW1⟩ : ∃ W1, W1 = w.alloc (.cells #[.int .i64 nodes, .slice P np cp, .int .i64 noise, .int .i64 thr, .slice L nl cl, .slice G nm cg] 26) := ⟨_, rfl⟩
  have hb1 : Below N w W1 := by rw [hW1, hN]; exact (Below.refl _ _).alloc (Nat.le_refl _) _
  have bN : Blk W1 N 26 [.int .i64 nodes, .slice P np cp, .int .i64 noise, .int .i64 thr, .slice L nl cl, .slice G nm cg] := by rw [hW1]; exact Blk.new2 _ [.int .i64 nodes, .slice P np cp, .int .i64 noise, .int .i64 thr, .slice L nl cl, .slice G nm cg] hN
  have HW := Lib.hid (fun W (h' : Below W1.heap.size W1 W) => (show Below w.heap.size w W ∧ Row W N [.int .i64 nodes, .slice P np cp, .int .i64 noise, .int .i64 thr, .slice L nl cl, .slice G nm cg] from ⟨by rw [← hN]; exact hb1.trans (h'.mono (by have := bN.lt; omega)), (bN.below h' bN.lt).row⟩))
  have HPw := Lib.hid (cpow_any nodes noise thr pw lk mg P L G cp cl cg W1 (hP.later (HW.out _ (Below.refl _ _)).1) hp)
  have HLk := Lib.hid (fun (hpn : ((pw.length : Nat) : Int) = nodes) (hrow : ∀ p ∈ pw, ((p.l.length : Nat) : Int) = nodes) (he : mg.length = lk.length) i l m (hi : lk[i]? = some l) (hm : mg[i]? = some m) W (h' : Below W1.heap.size W1 W) => clink_any nodes noise thr pw lk mg P L G cp cl cg i l m W (hP.later (HW.out W h').1) hp ((hL.below (HW.out W h').1).more (HW.out W h').1.size) hl ((hG.below (HW.out W h').1).more (HW.out W h').1.size) he hpn hrow hi hm)
  rw [← hnp, ← hnl, ← hnm] at HPw HLk
  have hl6 : nl ≤ 1000000 := by omega
  have HT := Lib.hid hT
  have HNl := Lib.hid hnl
  have HNm := Lib.hid hnm
  have HNp := Lib.hid hnp
  have HN := Lib.hid hN
  have HW1 := Lib.hid hW1
  have hNl := bN.lt
  have r1 := (HW.out _ (Below.refl _ _)).2
  rw [HW1.out] at r1
  rw [HN.out] at r1
  unfold Row at r1
  clear hP hp hL hl hG hg hT hN hW1 hb1 bN hnl hnm hnp
  go_enter Tryz.func55, Tryz.ntmps55
  by_cases g1 : nodes < 2
  · have d1 : decide (nodes < 2) = true := decide_eq_true g1
    have hf : Hid (T = 2) := Lib.hid (by rw [HT.out, if_pos (.inl g1)])
    clear g1
    go_wp2_with fail
    go_ret
    exact ⟨ret_int (by rw [hf.out]), by rw [← HW1.out]; exact (HW.out _ (Below.refl _ _)).1⟩
  have d1 : decide (nodes < 2) = false := decide_eq_false g1
  by_cases g2 : 32 < nodes
  · have d2 : decide (32 < nodes) = true := decide_eq_true g2
    have hf : Hid (T = 2) := Lib.hid (by rw [HT.out, if_pos (.inr g2)])
    clear g1 g2
    go_wp2_with fail
    go_ret
    exact ⟨ret_int (by rw [hf.out]), by rw [← HW1.out]; exact (HW.out _ (Below.refl _ _)).1⟩
  have d2 : decide (32 < nodes) = false := decide_eq_false g2
  have HT1 : Hid (T = if powE nodes (pw.map PRow.l) ≠ 0 then powE nodes (pw.map PRow.l) else if Nd.inB noise 0 68719476736 = false ∨ Nd.inB thr 1000 100000 = false then 2 else if 128 < nl then 8 else if nm ≠ nl then 11 else lkGo nodes (pw.map PRow.l) none lk mg) := Lib.hid (by rw [HT.out, if_neg (by omega)])
  clear HT g1 g2
  go_wp2_with fail
  rw [← HW1.out, ← HN.out]
  refine HPw.out.mono ?_
  rintro e w2 ⟨rfl, hb2⟩
  clear HPw d1 d2 r1
  have r1 := (HW.out _ hb2).2
  unfold Row at r1
  obtain ⟨E, hE⟩ : ∃ E, E = powE nodes (pw.map PRow.l) := ⟨_, rfl⟩
  have HE := Lib.hid hE
  rw [← hE] at HT1 ⊢
  clear hE
  by_cases g3 : E = 0
  case neg =>
    have d3 : (E != 0) = true := by simpa using g3
    have hf : Hid (T = E) := Lib.hid (by rw [HT1.out, if_pos g3])
    clear g3
    go_wp2_with fail
    go_ret
    exact ⟨ret_int (by rw [hf.out]), (HW.out _ hb2).1⟩
  have d3 : (E != 0) = false := by simpa using g3
  have HT2 : Hid (T = if Nd.inB noise 0 68719476736 = false ∨ Nd.inB thr 1000 100000 = false then 2 else if 128 < nl then 8 else if nm ≠ nl then 11 else lkGo nodes (pw.map PRow.l) none lk mg) := Lib.hid (by rw [HT1.out, if_neg (by simpa using g3)])
  have HPz := Lib.hid (powE_zero (by rw [← HE.out]; exact g3 : powE nodes (pw.map PRow.l) = 0))
  clear HT1 g3 HE
  by_cases g4 : noise < 0
  · have dg4 : decide (noise < 0) = true := decide_eq_true g4
    have hf : Hid (T = 2) := Lib.hid (by rw [HT2.out, if_pos (.inl (by unfold Nd.inB; rw [decide_eq_false (p := 0 ≤ noise) (by omega)]; rfl))])
    clear g4
    go_wp2_with fail
    go_ret
    exact ⟨ret_int (by rw [hf.out]), (HW.out _ hb2).1⟩
  have dg4 : decide (noise < 0) = false := decide_eq_false g4
  by_cases g5 : 68719476736 < noise
  · have dg5 : decide (68719476736 < noise) = true := decide_eq_true g5
    have hf : Hid (T = 2) := Lib.hid (by rw [HT2.out, if_pos (.inl (by unfold Nd.inB; rw [decide_eq_false (p := noise ≤ 68719476736) (by omega), Bool.and_false]))])
    clear g4 g5
    go_wp2_with fail
    go_ret
    exact ⟨ret_int (by rw [hf.out]), (HW.out _ hb2).1⟩
  have dg5 : decide (68719476736 < noise) = false := decide_eq_false g5
  by_cases g6 : thr < 1000
  · have dg6 : decide (thr < 1000) = true := decide_eq_true g6
    have hf : Hid (T = 2) := Lib.hid (by rw [HT2.out, if_pos (.inr (by unfold Nd.inB; rw [decide_eq_false (p := 1000 ≤ thr) (by omega)]; rfl))])
    clear g4 g5 g6
    go_wp2_with fail
    go_ret
    exact ⟨ret_int (by rw [hf.out]), (HW.out _ hb2).1⟩
  have dg6 : decide (thr < 1000) = false := decide_eq_false g6
  by_cases g7 : 100000 < thr
  · have dg7 : decide (100000 < thr) = true := decide_eq_true g7
    have hf : Hid (T = 2) := Lib.hid (by rw [HT2.out, if_pos (.inr (by unfold Nd.inB; rw [decide_eq_false (p := thr ≤ 100000) (by omega), Bool.and_false]))])
    clear g4 g5 g6 g7
    go_wp2_with fail
    go_ret
    exact ⟨ret_int (by rw [hf.out]), (HW.out _ hb2).1⟩
  have dg7 : decide (100000 < thr) = false := decide_eq_false g7
  have HT3 : Hid (T = if 128 < nl then 8 else if nm ≠ nl then 11 else lkGo nodes (pw.map PRow.l) none lk mg) := Lib.hid (by rw [HT2.out, if_neg (by unfold Nd.inB; rw [decide_eq_true (p := 0 ≤ noise) (by omega), decide_eq_true (p := noise ≤ 68719476736) (by omega), decide_eq_true (p := 1000 ≤ thr) (by omega), decide_eq_true (p := thr ≤ 100000) (by omega)]; decide)])
  clear HT2 g4 g5 g6 g7
  by_cases g8 : 128 < nl
  · have d8 : decide ((128 : Int) < (nl : Int)) = true := decide_eq_true (by omega)
    have d8' : decide (128 < nl) = true := decide_eq_true g8
    have hf : Hid (T = 8) := Lib.hid (by rw [HT3.out, if_pos g8])
    go_wp2_with fail
    go_ret
    exact ⟨ret_int (by rw [hf.out]), (HW.out _ hb2).1⟩
  have d8 : decide ((128 : Int) < (nl : Int)) = false := decide_eq_false (by omega)
  have d8' : decide (128 < nl) = false := decide_eq_false g8
  by_cases g9 : nm = nl
  case neg =>
    have hf : Hid (T = 11) := Lib.hid (by rw [HT3.out, if_neg g8, if_pos g9])
    have d9 : ((nm : Int) != (nl : Int)) = true := by simp; omega
    have d9' : ¬ (nm : Int) = (nl : Int) := by omega
    go_wp2_with fail
    go_ret
    exact ⟨ret_int (by rw [hf.out]), (HW.out _ hb2).1⟩
  have HT4 : Hid (T = lkGo nodes (pw.map PRow.l) none lk mg) := Lib.hid (by rw [HT3.out, if_neg g8, if_neg (by simpa using g9)])
  have HL2 := Lib.hid (HLk.out (by have := HPz.out.1; rw [List.length_map, ← HNp.out] at this; exact this) (fun p hp => HPz.out.2.1 _ (List.mem_map_of_mem hp)) g9)
  subst g9
  have d9 : ((nm : Int) != (nm : Int)) = false := by simp
  clear HT3 HLk HPz g8
  go_wp2_with fail
  clear r1
  go_loopw [54] (fun i wr => ∃ (k : Nat), k ≤ nm ∧ i = .int .i64 k ∧ Below W1.heap.size W1 wr ∧ Hid (T = lkGo nodes (pw.map PRow.l) (prevL lk k) (lk.drop k) (mg.drop k))) (fun i _ => nm - (intOf i).toNat)
  case atStart => exact ⟨0, by omega, rfl, hb2, Lib.hid (by rw [HT4.out]; rfl)⟩
  case round =>
    clear HT4 hb2
    obtain ⟨k, hk, rfl, hb, HS⟩ := hrel
    by_cases hlt : k < nm
    · obtain ⟨l, hlk⟩ := get_of_lt (l := lk) (k := k) (by rw [← HNl.out]; exact hlt)
      obtain ⟨m, hmk⟩ := get_of_lt (l := mg) (k := k) (by rw [← HNm.out]; exact hlt)
      have Con := Lib.hid (HL2.out k l m hlk hmk wr hb)
      have HS2 : Hid (T = if lkE nodes (pw.map PRow.l) (prevL lk k) l m = 0 then lkGo nodes (pw.map PRow.l) (prevL lk (k + 1)) (lk.drop (k + 1)) (mg.drop (k + 1)) else lkE nodes (pw.map PRow.l) (prevL lk k) l m) := Lib.hid (by
        rw [HS.out, drop_of_get hlk, drop_of_get hmk, prevL_succ hlk]
        rfl)
      obtain ⟨V, hV⟩ : ∃ V, V = lkE nodes (pw.map PRow.l) (prevL lk k) l m := ⟨_, rfl⟩
      rw [← hV] at HS2 Con
      have r1 := (HW.out _ hb).2
      unfold Row at r1
      clear HS hV hlk hmk
      go_wp2_with fail
      refine Con.out.mono ?_
      rintro e w4 ⟨rfl, hb4⟩
      have hB4 : Below W1.heap.size W1 w4 := hb.trans (hb4.mono hb.size)
      clear r1 Con
      by_cases hV0 : V = 0
      · have dv : (V != 0) = false := by simpa using hV0
        have hf := Lib.hid (show T = lkGo nodes (pw.map PRow.l) (prevL lk (k + 1)) (lk.drop (k + 1)) (mg.drop (k + 1)) by rw [HS2.out, if_pos hV0])
        clear HS2 hV0
        go_wp2_with fail
        go_roundw
        case rel => exact ⟨k + 1, by omega, by go_num, hB4, hf⟩
        case measure => simp [intOf]; omega
      · have dv : (V != 0) = true := by simpa using hV0
        have hf := Lib.hid (show T = V by rw [HS2.out, if_neg hV0])
        clear HS2 hV0
        go_wp2_with fail
        go_ret
        exact ⟨ret_int (by rw [hf.out]), (HW.out _ hB4).1⟩
    · have hf : Hid (T = 0) := Lib.hid (by rw [HS.out, List.drop_of_length_le (by rw [← HNl.out]; omega)]; rfl)
      go_wp2_with fail
      go_ret
      exact ⟨ret_int (by rw [hf.out]), (HW.out _ hb).1⟩
end Go.Proofs.YticnppnejafhdaaGreatDoor
/- Networks as abstract data; network.Check lifted. -/
namespace Go.Proofs.YticnppnejafhdaaGreatDoor
open Go.RowKit
open Nd Rc Mo
open Av
set_option maxRecDepth 100000

def Mo.Lk.pv (x : Lk) : List PV := [ip x.fr, ip x.tt, ip x.ls]
def irow_pv (x : Int) : List PV := [ip x]
def prow_pv (l : List Int) : List PV := [.sl 1 (l.map irow_pv)]
def Mo.Net.pv (n : Net) : List PV := [ip n.nodes, .sl 1 (n.pow.map prow_pv), ip n.noise, ip n.thr, .sl 3 (n.lk.map Lk.pv), .sl 1 (n.mg.map irow_pv)]
theorem ints_rep {w : World} {R : Reader} {l : List Int} {u : Value} (hR : ∀ p v, R p = some v → w.cell? p = some v) (h : RepP R (.sl 1 (l.map irow_pv)) u) : ∃ A c, u = .slice A l.length c ∧ LiesI w w.heap.size A l := by
  rw [map_pv (f := irow_pv) (g := irow) (fun _ => rfl)] at h
  obtain ⟨A, c, rfl, hA⟩ := lies_of_rep hR (by decide) h
  rw [List.length_map]
  exact ⟨A, c, rfl, hA⟩
theorem links_rep {w : World} {R : Reader} {l : List Lk} {u : Value} (hR : ∀ p v, R p = some v → w.cell? p = some v) (h : RepP R (.sl 3 (l.map Lk.pv)) u) : ∃ A c, u = .slice A l.length c ∧ Lies w w.heap.size 3 A (l.map Lk.row) := by
  rw [map_pv (f := Lk.pv) (g := Lk.row) (fun _ => rfl)] at h
  obtain ⟨A, c, rfl, hA⟩ := lies_of_rep hR (by decide) h
  rw [List.length_map]
  exact ⟨A, c, rfl, hA⟩
theorem prows {w : World} {B : Nat} : ∀ (pow : List (List Int)) (g : Nat → Value), (∀ k l, pow[k]? = some l → ∃ A c, g k = .slice A l.length c ∧ LiesI w B A l) → (∀ l ∈ pow, l.length ≤ 1000000) → ∃ pw : List PRow, pw.map PRow.l = pow ∧ (∀ k p, pw[k]? = some p → g k = .slice p.A p.l.length p.c) ∧ ∀ p ∈ pw, LiesI w B p.A p.l ∧ p.l.length ≤ 1000000
  | [], g, _, _ => ⟨[], rfl, fun k p h => by simp at h, fun p h => by cases h⟩
  | l :: pow, g, h, hl => by
    obtain ⟨A, c, h1, h2⟩ := h 0 l rfl
    obtain ⟨pw, h3, h4, h5⟩ := prows pow (fun k => g (k + 1)) (fun k l' hk => h (k + 1) l' (by simpa using hk)) (fun l' hl' => hl l' (List.mem_cons_of_mem _ hl'))
    refine ⟨⟨l, A, c⟩ :: pw, by rw [List.map_cons, h3], fun k p hk => ?_, fun p hp => ?_⟩
    · cases k with
      | zero => simp at hk; subst hk; exact h1
      | succ k => exact h4 k p (by simpa using hk)
    · rcases List.mem_cons.1 hp with rfl | hp
      · exact ⟨h2, hl l List.mem_cons_self⟩
      · exact h5 p hp
theorem pow_rep {w : World} {R : Reader} {pow : List (List Int)} {u : Value} (hR : ∀ p v, R p = some v → w.cell? p = some v) (hl : ∀ l ∈ pow, l.length ≤ 1000000) (h : RepP R (.sl 1 (pow.map prow_pv)) u) : ∃ A c pw, u = .slice A pow.length c ∧ pw.map PRow.l = pow ∧ LiesP w w.heap.size A pw := by
  generalize hrows : pow.map prow_pv = rows at h
  cases h with
  | sl _ _ A cap f hsz hA hf hc =>
    have hlen : rows.length = pow.length := by rw [← hrows]; simp
    have hget : ∀ k l, pow[k]? = some l → rows[k]? = some (prow_pv l) := fun k l hk => by rw [← hrows, List.getElem?_map, hk]; rfl
    obtain ⟨pw, h1, h2, h3⟩ := prows (w := w) (B := w.heap.size) pow (fun k => f k 0) (fun k l hk => ints_rep hR (hf k _ 0 _ (hget k l hk) rfl)) hl
    refine ⟨A, cap, pw, by rw [hlen], h1, fun hne => ?_, h3⟩
    rcases hA with h0 | ⟨b, off, rfl, hA⟩
    · exfalso
      apply hne
      rw [h0] at hlen
      have : pow = [] := List.eq_nil_of_length_eq_zero hlen.symm
      rw [this] at h1
      rw [List.map_eq_nil_iff.1 h1]; rfl
    · have hcell : ∀ (k : Nat) (row : List Value), (pw.map PRow.row)[k]? = some row → ∀ (j : Nat) (x : Value), row[j]? = some x → w.cell? ⟨b, off + k * 1 + j, none⟩ = some x := fun k row hk j x hj => by
        rw [List.getElem?_map] at hk
        obtain ⟨p, hp, rfl⟩ := Option.map_eq_some_iff.1 hk
        have hpl : pow[k]? = some p.l := by rw [← h1, List.getElem?_map, hp]; rfl
        cases j with
        | zero =>
          simp [PRow.row] at hj
          subst hj
          have := hA k _ 0 _ (hget k p.l hpl) rfl
          rw [h2 k p hp] at this
          exact hR _ _ this
        | succ j => simp [PRow.row] at hj
      refine ⟨b, off, rfl, ?_, hcell⟩
      cases hpw : pw with
      | nil => rw [hpw] at hne; exact absurd rfl hne
      | cons p pw' => exact Rel.cell_lt (hcell 0 p.row (by rw [hpw]; rfl) 0 _ rfl)
theorem net_rep {w : World} {R : Reader} {bx : Nat → Nat} {n : Net} {u : Value} (hR : ∀ p v, R p = some v → w.cell? p = some v) (hl : ∀ l ∈ n.pow, l.length ≤ 1000000) (h : RepA R bx (.agg n.pv) u) :
    ∃ P L G cp cl cg pw, u = .agg #[.int .i64 n.nodes, .slice P n.pow.length cp, .int .i64 n.noise, .int .i64 n.thr, .slice L n.lk.length cl, .slice G n.mg.length cg] ∧ pw.map PRow.l = n.pow ∧ LiesP w w.heap.size P pw ∧ Lies w w.heap.size 3 L (n.lk.map Lk.row) ∧ LiesI w w.heap.size G n.mg := by
  obtain ⟨us, rfl, h⟩ := h
  cases h with
  | cons h1 h =>
  cases h with
  | cons h2 h =>
  cases h with
  | cons h3 h =>
  cases h with
  | cons h4 h =>
  cases h with
  | cons h5 h =>
  cases h with
  | cons h6 h =>
    cases h
    cases h1
    cases h3
    cases h4
    obtain ⟨P, cp, pw, rfl, e1, e2⟩ := pow_rep hR hl h2
    obtain ⟨L, cl, rfl, e3⟩ := links_rep hR h5
    obtain ⟨G, cg, rfl, e4⟩ := ints_rep hR h6
    exact ⟨P, L, G, cp, cl, cg, pw, rfl, e1, e2, e3, e4⟩
theorem ncheck_ok (n : Net) (hp : n.pow.length ≤ 1000000) (hl : ∀ l ∈ n.pow, l.length ≤ 1000000) (hk : n.lk.length ≤ 1000000) (hg : n.mg.length ≤ 1000000) : FnOK Tryz.prog 55 [.agg n.pv] ⟨iv (chkN n), none⟩ := fn_of ⟨Tryz.f55, _, Tryz.func55, by kernel_rfl, rfl⟩ fun w R hR us hus => by
  cases hus with | cons h0 _ hus =>
  cases hus
  obtain ⟨P, L, G, cp, cl, cg, pw, rfl, e1, e2, e3, e4⟩ := net_rep hR hl h0
  have hlen : n.pow.length = pw.length := by rw [← e1, List.length_map]
  rw [hlen]
  refine (netCheck_any n.nodes n.noise n.thr pw n.lk n.mg P L G cp cl cg w e2 (by omega) e3 hk e4 hg).mono ?_
  rintro e w' ⟨rfl, hb⟩
  rw [e1]
  exact ⟨_, rfl, hb, res_v⟩
end Go.Proofs.YticnppnejafhdaaGreatDoor
/- Explanations, and what the layer computes with them: plain. -/
namespace Go.Proofs.YticnppnejafhdaaGreatDoor
open Go.RowKit
open Nd Rc Mo
open Av
structure Br where
  fl : Int
  fr : Int
  fm : Int
  tt : Int
  sl : List Int
deriving DecidableEq
def Br.pv (b : Br) : List PV := [ip b.fl, ip b.fr, ip b.fm, ip b.tt, .sl 1 (b.sl.map fun x => [ip x])]
structure Ex where
  lt : Lt
  ca : List Br
deriving DecidableEq
def Ex.pv (x : Ex) : List PV := [ip x.lt.fl, ip x.lt.fr, ip x.lt.sl, .sl 5 (x.ca.map Br.pv)]
def lt0 : Lt := ⟨0, 0, 0⟩
def ex0 : Ex := ⟨lt0, []⟩

/-- The fault of a flow among some nodes. -/
def faultN (nodes : Int) (f : Fl) : Int :=
  if f.id < 0 ∨ 255 < f.id ∨ f.fr < 0 ∨ nodes ≤ f.fr ∨ f.tn < 0 ∨ nodes ≤ f.tn ∨ f.pe < 1 ∨ 512 < f.pe ∨ f.ph < 0 ∨ f.pe ≤ f.ph ∨ f.dl < 1 ∨ f.pe < f.dl then 2 else if f.fr = f.tn then 1 else 0
def chkF1 (nodes : Int) (f : Fl) : Int × Int := if nodes < 2 ∨ 32 < nodes then (-1, 2) else if faultN nodes f = 0 then (-1, 0) else (0, faultN nodes f)
theorem fault_of_N {nodes : Int} {f : Fl} (hn : nodes ≤ 32) (h : faultN nodes f = 0) : fault f = 0 ∧ 0 ≤ f.fr ∧ f.fr < nodes ∧ 0 ≤ f.tn ∧ f.tn < nodes ∧ f.fr ≠ f.tn := by
  unfold faultN at h
  split at h
  · cases h
  · rename_i hb
    split at h
    · cases h
    · rename_i hne
      refine ⟨?_, by omega, by omega, by omega, by omega, hne⟩
      unfold fault
      rw [if_pos, if_neg hne]
      simp only [boundsB, Nd.inB, Bool.and_eq_true, decide_eq_true_eq]
      omega
def basicB (n : Net) (f : Fl) (r : Rec) : Bool := decide (chkN n = 0) && good r && decide ((chkF1 n.nodes f).2 = 0)
theorem basicB_inv {n : Net} {f : Fl} {r : Rec} (h : basicB n f r = true) : chkN n = 0 ∧ good r = true ∧ (2 ≤ n.nodes ∧ n.nodes ≤ 32) ∧ faultN n.nodes f = 0 ∧ fault f = 0 := by
  unfold basicB at h
  rw [Bool.and_eq_true, Bool.and_eq_true, decide_eq_true_eq, decide_eq_true_eq] at h
  obtain ⟨⟨h1, h2⟩, h3⟩ := h
  have hn : 2 ≤ n.nodes ∧ n.nodes ≤ 32 := by
    unfold chkN at h1
    split at h1
    · cases h1
    · omega
  unfold chkF1 at h3
  split at h3
  · cases h3
  · split at h3
    · rename_i h4
      exact ⟨h1, h2, hn, h4, (fault_of_N hn.2 h4).1⟩
    · rename_i h4
      exact absurd h3 h4

def lkP (a b : Int) (l : Lk) : Bool := l.fr == a && l.tt == b
/-- The place of a link, or -1. -/
def idxL (n : Net) (a b : Int) : Int := idxP (lkP a b) n.lk 0
def heardB (n : Net) (s : Int) : Bool := decide (n.thr * (n.noise + 0) ≤ s * 1000)
/-- Is there a usable link? -/
def goodL (n : Net) (a b : Int) : Bool := decide (0 ≤ idxL n a b) && (decide (0 ≤ idxL n b a) && (heardB n (n.mg.getD (idxL n a b).toNat 0) && heardB n (n.mg.getD (idxL n b a).toNat 0)))
def outN (n : Net) (x : Int) : Bool := decide (x < 0) || decide (n.nodes ≤ x)
def dupAt (p : List Int) (i : Nat) : Bool := (p.take i).any fun y => p.getD i 0 == y
def dupB (p : List Int) : Bool := (List.range p.length).any (dupAt p)
def gapAt (n : Net) (p : List Int) (i : Nat) : Bool := !goodL n (p.getD i 0) (p.getD (i + 1) 0)
def gapB (n : Net) (p : List Int) : Bool := (List.range (p.length - 1)).any (gapAt n p)
/-- The fault of a route. -/
def routeE (n : Net) (a b : Int) (p : List Int) : Int :=
  if p.length < 2 then 9 else if 9 < p.length then 8 else if p.any (outN n) = true then 2 else if p.getD 0 0 ≠ a ∨ p.getD (p.length - 1) 0 ≠ b then 11
  else if dupB p = true then 6 else if gapB n p = true then 17 else 0

/-- The attempts of a frame on a link. -/
def onLk (al : List Att) (fl fr a b : Int) : List Att := (ofFrame al fl fr).filter fun x => x.cf == a && x.ct == b
def failB (lo hi : Int) (a : Att) : Bool := !(a.o == 1) && (decide (lo ≤ a.s) && decide (a.s ≤ hi))
/-- The causes that begin at the first k attempts. -/
def causeAt (f : Fl) (fr a b lo hi : Int) (need : Nat) (l : List Att) (i : Nat) : List Br := if ((l.drop i).take need).all (failB lo hi) = true then [⟨f.id, fr, a, b, ((l.drop i).take need).map Att.s⟩] else []
def causesK (f : Fl) (fr a b lo hi : Int) (need : Nat) (l : List Att) (k : Nat) : List Br := (List.range k).flatMap (causeAt f fr a b lo hi need l)
def lossL (n : Net) (a b : Int) : Int := (n.lk.getD (idxL n a b).toNat ⟨0, 0, 0⟩).ls
def causesX (n : Net) (f : Fl) (r : Rec) (fr a b : Int) : List Br :=
  causesK f fr a b (rel f fr) (rel f fr + f.dl - 1) ((lossL n a b).toNat + 1) (onLk r.al f.id fr a b) ((onLk r.al f.id fr a b).length - (lossL n a b).toNat)
theorem causesK_succ (f : Fl) (fr a b lo hi : Int) (need : Nat) (l : List Att) (k : Nat) : causesK f fr a b lo hi need l (k + 1) = causesK f fr a b lo hi need l k ++ causeAt f fr a b lo hi need l k := by
  unfold causesK
  rw [List.range_succ, List.flatMap_append]
  simp
theorem causesK_len (f : Fl) (fr a b lo hi : Int) (need : Nat) (l : List Att) (k : Nat) : (causesK f fr a b lo hi need l k).length ≤ k := by
  induction k with
  | zero => exact Nat.le_refl _
  | succ k ih =>
    rw [causesK_succ, List.length_append]
    have : (causeAt f fr a b lo hi need l k).length ≤ 1 := by unfold causeAt; split <;> simp
    omega
def causesR (n : Net) (f : Fl) (r : Rec) (fr a b : Int) : List Br × Int :=
  if basicB n f r = false then ([], 1) else if fr < 0 ∨ 1048576 ≤ fr then ([], 2) else if idxL n a b < 0 then ([], 7) else (causesX n f r fr a b, 0)

/-- The late frame of a case. -/
def lateX (n : Net) (f : Fl) (ps : List (List Int)) (r : Rec) (fr : Int) : Lt × Int :=
  if basicB n f r = false ∨ ps.length < 1 ∨ 2 < ps.length then (lt0, 1) else if ps.any (fun p => !(routeE n f.fr f.tn p == 0)) = true then (lt0, 1)
  else match (late [f] r).1.find? (fun x => x.fr == fr) with
    | none => (lt0, 12)
    | some x => (x, 0)
/-- The first cause on a route, from its k-th link on. -/
def firstC (n : Net) (f : Fl) (r : Rec) (fr : Int) : List Int → Option Br
  | a :: b :: p => match (causesX n f r fr a b).head? with
    | some c => some c
    | none => firstC n f r fr (b :: p)
  | _ => none
def findX (n : Net) (f : Fl) (ps : List (List Int)) (r : Rec) (fr : Int) : Ex × Int :=
  if (lateX n f ps r fr).2 ≠ 0 then (ex0, (lateX n f ps r fr).2) else if ps.any (fun p => (firstC n f r fr p).isNone) = true then (ex0, 7) else (⟨(lateX n f ps r fr).1, ps.filterMap (firstC n f r fr)⟩, 0)
def onB : List Int → Int → Int → Bool
  | a :: b :: p, x, y => (a == x && b == y) || onB (b :: p) x y
  | _, _, _ => false
def okC (n : Net) (f : Fl) (r : Rec) (fr : Int) (p : List Int) (c : Br) : Bool := onB p c.fm c.tt && (causesX n f r fr c.fm c.tt).contains c
def checkX (n : Net) (f : Fl) (ps : List (List Int)) (r : Rec) (x : Ex) : Int :=
  if (lateX n f ps r x.lt.fr).2 ≠ 0 then (lateX n f ps r x.lt.fr).2 else if (lateX n f ps r x.lt.fr).1 ≠ x.lt ∨ x.ca.length ≠ ps.length then 20
  else if (List.zip ps x.ca).all (fun q => okC n f r x.lt.fr q.1 q.2) = true then 0 else 20
end Go.Proofs.YticnppnejafhdaaGreatDoor
/- Abstract states: a list that the frame holds alone, and what DeleteFunc makes of it in place: by hand. -/
namespace Go.Proofs.YticnppnejafhdaaGreatDoor
open Go.RowKit
open Nd Rc Mo
open Av
namespace Av
/-- A row in memory, read. -/
theorem own_repR {R : Reader} {w : World} {base : Nat} {e : TypeId} {sz : Nat} {v : Value} {xs : List (List Value)} (h : w.ownsRow base e sz v xs.length xs.flatten) (hl : ∀ row ∈ xs, row.length = sz) (h1 : ∀ row ∈ xs, ∀ x ∈ row, x.oneCell' = true)
    (hR : ∀ g, v.ownBlock = some g → ∀ (p : Addr) x, p.block = g → w.cell? p = some x → R p = some x) : RepP R (.sl sz (xs.map fun row => row.map PV.v)) v := by
  have hz : ∀ (k : Nat) (row : List PV) (j : Nat) (p : PV), (xs.map fun row => row.map PV.v)[k]? = some row → row[j]? = some p → ∃ x, xs.flatten[k * sz + j]? = some x ∧ RepP R p x := fun k row j p hk hj => by
    rw [List.getElem?_map] at hk
    cases hx : xs[k]? with
    | none => rw [hx] at hk; cases hk
    | some r =>
      rw [hx] at hk
      simp only [Option.map_some, Option.some.injEq] at hk
      subst hk
      rw [List.getElem?_map] at hj
      cases hy : r[j]? with
      | none => rw [hy] at hj; cases hj
      | some y =>
        rw [hy] at hj
        simp only [Option.map_some, Option.some.injEq] at hj
        subst hj
        exact ⟨y, flatten_get hl hx hy, .v y (h1 r (List.mem_of_getElem? hx) y (List.mem_of_getElem? hy))⟩
  have hsz : ∀ (k : Nat) (row : List PV), (xs.map fun row => row.map PV.v)[k]? = some row → row.length = sz := fun k row hk => by
    rw [List.getElem?_map] at hk
    cases hx : xs[k]? with
    | none => rw [hx] at hk; cases hk
    | some r =>
      rw [hx] at hk
      simp only [Option.map_some, Option.some.injEq] at hk
      subst hk
      rw [List.length_map]
      exact hl r (List.mem_of_getElem? hx)
  have hmk : ∀ {A : Option Addr} {cap : Nat}, (xs = [] ∨ ∃ b off, A = some ⟨b, off, none⟩ ∧ ∀ (i : Nat) (x : Value), xs.flatten[i]? = some x → i < xs.length * sz → R ⟨b, off + i, none⟩ = some x) → xs.length ≤ cap → RepP R (.sl sz (xs.map fun row => row.map PV.v)) (.slice A xs.length cap) := fun {A cap} hA hc => by
    have := rep_mk (R := R) (A := A) (cap := cap) (zs := xs.flatten) hsz hz (by
      rcases hA with h2 | ⟨b, off, h2, h3⟩
      · left; rw [h2]; rfl
      · exact .inr ⟨b, off, h2, fun i x hx hi => h3 i x hx (by simpa using hi)⟩) (by simpa using hc)
    simpa using this
  obtain ⟨_, h2⟩ := h
  rcases h2 with ⟨rfl, hn⟩ | ⟨g, cap, cur, rfl, hb, hg, hnc, hcm, hcs, htake⟩
  · have hx : xs = [] := List.eq_nil_of_length_eq_zero hn
    subst hx
    exact hmk (A := none) (cap := 0) (.inl rfl) (Nat.le_refl _)
  · refine hmk (.inr ⟨g, 0, rfl, fun i x hx hi => hR g rfl _ _ rfl ?_⟩) hnc
    rw [Nat.zero_add, cell_of_row w g i cur e (0, 0) hg]
    rw [← htake, List.getElem?_take, if_pos hi] at hx
    rw [← Array.getElem?_toList]
    exact hx
/-- A list that nothing else reads. -/
def ownE (e : TypeId) (sz : Nat) (V : Value) (n : Nat) (xs : List Value) : Ext where
  foot b := V.ownBlock = some b
  froz _ := False
  holds w := w.ownsRow 0 e sz V n xs
  stable h hw := own_kept hw fun g _ hg hb => (h g (.inl hg)).trans hb
theorem own_low {w : World} {base : Nat} {e : TypeId} {sz : Nat} {v : Value} {n : Nat} {xs : List Value} (h : w.ownsRow base e sz v n xs) : w.ownsRow 0 e sz v n xs := by
  obtain ⟨h1, h2⟩ := h
  refine ⟨h1, ?_⟩
  rcases h2 with h2 | ⟨g, cap, cur, e1, _, h2⟩
  · exact .inl h2
  · exact .inr ⟨g, cap, cur, e1, Nat.zero_le _, h2⟩
section
variable {n d : Nat} {σ : St} {o : Oper} {K : St → Prop}
/-- The attempts of a frame, as a list that nothing else reads. -/
theorem hand_attempts {x y z : Operand} {ats : Array TypeId} (r : Rec) (fl fr : Int) (hla : r.al.length ≤ 1000000) (ho : o.op = .call { callee := .value (.func 73), args := #[x, y, z], argTypes := ats }) (hd : o.dst = some d) (hdn : d < n)
    (hx : evo (look σ.slot) x = some (.agg r.pv)) (hy : evo (look σ.slot) y = some (iv fl)) (hz : evo (look σ.slot) z = some (iv fr))
    (h : ∀ V, K (({ σ with ext := σ.ext.and (ownE 66 8 V (ofFrame r.al fl fr).length (flatA (ofFrame r.al fl fr))) } : St).put d (.v V))) : Hand Tryz.prog n σ o K := by
  refine hand_call hd fun F γ a w hF hr => ?_
  obtain ⟨A, D, ca, cd, e1, hA, _⟩ := rec_rep (fun p v hp => hr.cell hp) (evo_ok hr (fun _ _ _ hy => hy) hx).1
  have e2 : a.eval y = .int .i64 fl := (evo_ok hr (fun _ _ _ hy => hy) hy).1
  have e3 : a.eval z = .int .i64 fr := (evo_ok hr (fun _ _ _ hy => hy) hz).1
  refine ⟨73, #[a.eval x, a.eval y, a.eval z], ?_, ?_⟩
  · have henter : Enters Tryz.prog 73 := ⟨Tryz.f73, _, Tryz.func73, by kernel_rfl, rfl⟩
    have hf : a.eval (.func 73) = .func (.func 73) #[] #[] := rfl
    simp [execOp, ho, resolve, hf, Deferred.ofValue, invoke, run_callFunc henter]
  rw [e1, e2, e3]
  refine (attempts2_any r A D ca cd fl fr w hA hla).mono ?_
  rintro e w1 ⟨hb, va, rfl, hown⟩
  have hlow := own_low hown
  refine ⟨va, _, γ, rfl, h va, (hr.turn (Turn.more (fun b hb => (hr.extf b hb).2.1) hr.exth (Turn.below (E := ownE 66 8 va (ofFrame r.al fl fr).length (flatA (ofFrame r.al fl fr))) hb hlow (fun b hb' => .inr ?_) (fun b (hf : False) => hf.elim)))).put (by rw [hF]; exact hdn) rfl (fun k hk => by cases hk)⟩
  rcases hown.2 with ⟨rfl, _⟩ | ⟨g, cap, cur, rfl, hg, hh, _⟩
  · cases hb'
  · simp only [ownE, Value.ownBlock, Option.some.injEq] at hb'
    subst hb'
    exact ⟨hg, (Array.getElem?_eq_some_iff.1 hh).1⟩
/-- DeleteFunc of a list that nothing else reads, with a closure of two numbers. -/
theorem hand_delete {x y : Operand} {ats : Array TypeId} {fid k1 k2 : Nat} {V : Value} {l : List Att} {m1 m2 : Int} (p : Att → Bool) (E0 : Ext) (ho : o.op = .call { callee := .value (.func 72), args := #[x, y], argTypes := ats }) (hd : o.dst = some d) (hdn : d < n)
    (hE : σ.ext = E0.and (ownE 66 8 V l.length (flatA l))) (hx : evo (look σ.slot) x = some (.v V)) (hy : evo (look σ.slot) y = some (.clo fid [(k1, 0), (k2, 0)])) (hb1 : look σ.box k1 = some [ip m1]) (hb2 : look σ.box k2 = some [ip m2]) (hl : l.length ≤ 1000000)
    (hcl : ∀ a : Att, FnOK Tryz.prog fid [.agg a.pv, .ept [ip m1], .ept [ip m2]] ⟨bv (p a), none⟩)
    (h : K (({ σ with ext := E0 } : St).put d (.sl 8 ((keepP p l).map Att.pv)))) : Hand Tryz.prog n σ o K := by
  refine hand_call hd fun F γ a w hF hr => ?_
  have e1 : a.eval x = V := (evo_ok hr (fun _ _ _ hy => hy) hx).1
  have e2 : a.eval y = .func (.func fid) #[] #[.pointer (some ⟨γ.bx k1, 0, none⟩), .pointer (some ⟨γ.bx k2, 0, none⟩)] := (evo_ok hr (fun _ _ _ hy => hy) hy).1
  refine ⟨72, #[a.eval x, a.eval y], ?_, ?_⟩
  · have henter : Enters Tryz.prog 72 := ⟨Tryz.f72, _, Tryz.func72, by kernel_rfl, rfl⟩
    have hf : a.eval (.func 72) = .func (.func 72) #[] #[] := rfl
    simp [execOp, ho, resolve, hf, Deferred.ofValue, invoke, run_callFunc henter]
  have hext := hr.exth
  rw [hE] at hext
  obtain ⟨hh0, hown, hdis⟩ := hext
  have hfoot : ∀ b, V.ownBlock = some b → F.w0.heap.size ≤ b ∧ b < w.heap.size ∧ (∀ k, (look σ.box k).isSome → γ.bx k ≠ b) ∧ (∀ L, (lookL σ.own L).isSome → γ.rw L ≠ some b) := fun b hb => hr.extf b (.inl (by rw [hE]; exact .inr hb))
  obtain ⟨A, c, hV⟩ : ∃ A c, V = .slice A l.length c := by
    rcases hown.2 with ⟨h1, h2⟩ | ⟨g, cap, cur, h1, _⟩
    · exact ⟨none, 0, by rw [h1, h2]⟩
    · exact ⟨_, _, h1⟩
  have hcell : ∀ k m, look σ.box k = some [ip m] → (look σ.box k).isSome ∧ γ.bx k < w.heap.size ∧ w.cell? ⟨γ.bx k, 0, none⟩ = some (.int .i64 m) := fun k m hk => by
    obtain ⟨us, ty, h1, _, h3⟩ := hr.boxes k _ hk
    cases h3 with | cons h3 h4 =>
    cases h4
    cases h3
    refine ⟨by rw [hk]; rfl, (Array.getElem?_eq_some_iff.1 h1).1, ?_⟩
    rw [cell_of_row w _ 0 _ ty (0, 0) h1]
    rfl
  obtain ⟨s1, l1, c1⟩ := hcell k1 m1 hb1
  obtain ⟨s2, l2, c2⟩ := hcell k2 m2 hb2
  rw [e1, e2, hV]
  rw [hV] at hown hfoot hdis
  refine (deleteA_any p fid _ l A c 0 w (fun args w => run_callFunc (hcl ⟨0, 0, 0, 0, 0, 0, 0, 0⟩).1 args w) hown hl (fun W hW x => ?_)).mono ?_
  · have hne : ∀ k, (look σ.box k).isSome → some (γ.bx k) ≠ (Value.slice A l.length c).ownBlock := fun k hk h => (hfoot _ h.symm).2.2.1 k hk rfl
    have hk1 : W.cell? ⟨γ.bx k1, 0, none⟩ = some (.int .i64 m1) := (World.cell?_of_block (hW.block _ l1 (hne k1 s1))).trans c1
    have hk2 : W.cell? ⟨γ.bx k2, 0, none⟩ = some (.int .i64 m2) := (World.cell?_of_block (hW.block _ l2 (hne k2 s2))).trans c2
    have hept : ∀ k m, W.cell? ⟨γ.bx k, 0, none⟩ = some (.int .i64 m) → RepA (fun q => W.cell? q) (fun _ => 0) (.ept [ip m]) (.pointer (some ⟨γ.bx k, 0, none⟩)) := fun k m hk => ⟨_, 0, [.int .i64 m], rfl, .cons (.v _ rfl) .nil, fun i x hx => by
      cases i with
      | zero => simp at hx; subst hx; exact hk
      | succ i => simp at hx⟩
    have := (hcl x).2 W (fun q => W.cell? q) (fun _ _ h => h) [.agg #[.int .i64 x.s, .int .i64 x.f, .int .i64 x.cs, .int .i64 x.co, .int .i64 x.cf, .int .i64 x.ct, .int .i64 x.cl, .int .i64 x.o], .pointer (some ⟨γ.bx k1, 0, none⟩), .pointer (some ⟨γ.bx k2, 0, none⟩)]
      (.cons ⟨_, rfl, rep_of_ints (xs := [.int .i64 x.s, .int .i64 x.f, .int .i64 x.cs, .int .i64 x.co, .int .i64 x.cf, .int .i64 x.ct, .int .i64 x.cl, .int .i64 x.o]) (by intro u hu; simp at hu; rcases hu with rfl | rfl | rfl | rfl | rfl | rfl | rfl | rfl <;> rfl)⟩ rfl (.cons (hept k1 m1 hk1) rfl (.cons (hept k2 m2 hk2) rfl .nil)))
    refine this.mono ?_
    rintro e w' ⟨u, rfl, hb, hres⟩
    exact ⟨by rw [show u = .bool (p x) from hres.2], hb⟩
  · rintro e w1 ⟨hg, A', c', hA', rfl, hown'⟩
    subst hA'
    have hturn : Turn σ.ext w w1 E0 := by
      refine ⟨hg.os, hg.tape, hg.output, hg.size, fun k hk hn => hg.block k hk (fun h => hn (by rw [hE, hV]; exact .inr h.symm)), E0.stable (fun b hb => ?_) hh0, fun b hb => .inl (by rw [hE]; exact .inl hb), fun b hb => .inr (.inl (by rw [hE]; exact .inl hb)), fun w0 h => by rw [hE] at h; exact h.1⟩
      have hlt := (hr.extf b (by rw [hE]; exact hb.elim (fun h => .inl (.inl h)) (fun h => .inr (.inl h)))).2.1
      exact hg.block b hlt (fun h => hdis b hb (.inl h.symm))
    refine ⟨_, _, γ, rfl, h, (hr.turn hturn).put (by rw [hF]; exact hdn) ?_ (fun k hk => by cases hk)⟩
    have hlen : (keepP p l).length = ((keepP p l).map Att.row).length := (List.length_map _).symm
    have hfl : flatA (keepP p l) = ((keepP p l).map Att.row).flatten := by unfold flatA; rw [List.flatMap_def]
    rw [hlen, hfl] at hown'
    rw [hlen, att_pv]
    refine own_repR hown' (fun row hr => by obtain ⟨x, _, rfl⟩ := List.mem_map.1 hr; rfl) (fun row hr x hx => by obtain ⟨y, _, rfl⟩ := List.mem_map.1 hr; simp only [Att.row, List.mem_cons, List.not_mem_nil, or_false] at hx; rcases hx with rfl | rfl | rfl | rfl | rfl | rfl | rfl | rfl <;> rfl) (fun g hgb q x hq hc => ?_)
    have hgb' : (Value.slice A' l.length c).ownBlock = some g := by cases A' with | none => cases hgb | some b => exact hgb
    obtain ⟨f1, f2, f3, f4⟩ := hfoot g hgb'
    unfold rdr
    rw [if_neg (by omega), if_neg]
    · exact hc
    · rintro (⟨k, cs, hk, hpk⟩ | ⟨L, e, sz, rows, q1, q2, q3, q4⟩ | hx)
      · exact f3 k (by rw [show look σ.box k = some cs from hk]; rfl) (by rw [← hpk, hq])
      · exact f4 L (by rw [show lookL σ.own L = some (e, sz) from q1]; rfl) (by rw [q3, hq])
      · exact hdis g (.inl (by rw [← hq]; exact hx)) (.inl hgb')
end
end Av
end Go.Proofs.YticnppnejafhdaaGreatDoor
/- A record in which all attempts of a frame are acknowledged has no causes, and its frames no explanation: plain. -/
namespace Go.Proofs.YticnppnejafhdaaGreatDoor
open Go.RowKit
open Nd Rc Mo
open Av
/-- The attempt, acknowledged if it is one of the frame's. -/
def ackA (fl fr : Int) (a : Att) : Att := if (a.cl == fl && a.f == fr) = true then { a with o := 1 } else a
/-- The list, as far as it has been written. -/
def ackK (fl fr : Int) (l : List Att) (k : Nat) : List Att := (l.take k).map (ackA fl fr) ++ l.drop k
theorem ackK_zero (fl fr : Int) (l : List Att) : ackK fl fr l 0 = l := by simp [ackK]
theorem ackK_all (fl fr : Int) (l : List Att) : ackK fl fr l l.length = l.map (ackA fl fr) := by simp [ackK]
theorem ackK_len (fl fr : Int) (l : List Att) (k : Nat) : (ackK fl fr l k).length = l.length := by simp [ackK]; omega
theorem ackK_get {fl fr : Int} {l : List Att} {k : Nat} {a : Att} (h : l[k]? = some a) : (ackK fl fr l k)[k]? = some a := by
  have hk := (List.getElem?_eq_some_iff.1 h).1
  unfold ackK
  rw [List.getElem?_append_right (by simp; omega)]
  simp [Nat.min_eq_left (Nat.le_of_lt hk), h]
theorem ackK_succ {fl fr : Int} {l : List Att} {k : Nat} {a : Att} (h : l[k]? = some a) : ackK fl fr l (k + 1) = (ackK fl fr l k).set k (ackA fl fr a) := by
  obtain ⟨hk, rfl⟩ := List.getElem?_eq_some_iff.1 h
  unfold ackK
  rw [List.set_append_right _ _ (by simp; omega)]
  rw [List.take_succ_eq_append_getElem hk, List.map_append, List.map_cons, List.map_nil, List.append_assoc, List.singleton_append]
  congr 1
  have : k - ((l.take k).map (ackA fl fr)).length = 0 := by simp; omega
  rw [this, List.drop_eq_getElem_cons hk, List.set_cons_zero]
theorem ackK_same {fl fr : Int} {l : List Att} {k : Nat} {a : Att} (h : l[k]? = some a) (hn : (a.cl == fl && a.f == fr) = false) : ackK fl fr l (k + 1) = ackK fl fr l k := by
  rw [ackK_succ h]
  have : ackA fl fr a = a := by unfold ackA; rw [hn]; rfl
  rw [this]
  obtain ⟨h1, h2⟩ := List.getElem?_eq_some_iff.1 (ackK_get (fl := fl) (fr := fr) h)
  rw [← h2, List.set_getElem_self]
theorem flatA_put {l : List Att} : ∀ {k : Nat} {a : Att} (o : Int), l[k]? = some a → flatA (l.set k { a with o := o }) = (flatA l).set (k * 8 + 7) (.int .i64 o) := by
  induction l with
  | nil => intro k a o h; cases h
  | cons x l ih =>
    intro k a o h
    cases k with
    | zero =>
      simp at h
      subst h
      simp [flatA, Att.row]
    | succ k =>
      have h' : l[k]? = some a := by simpa using h
      have := ih o h'
      unfold flatA at this ⊢
      rw [List.set_cons_succ, List.flatMap_cons, List.flatMap_cons, this, List.set_append_right _ _ (by simp [Att.row]; omega)]
      congr 2
      simp [Att.row]
      omega
/-- The record with the acknowledged attempts. -/
def ackR (fl fr : Int) (r : Rec) : Rec := { r with al := r.al.map (ackA fl fr) }
theorem on_ack {fl fr : Int} {l : List Att} {a b : Int} : ∀ x ∈ onLk (l.map (ackA fl fr)) fl fr a b, x.o = 1 := by
  intro x hx
  unfold onLk ofFrame at hx
  obtain ⟨h1, _⟩ := List.mem_filter.1 hx
  obtain ⟨h2, h3⟩ := List.mem_filter.1 h1
  obtain ⟨y, _, rfl⟩ := List.mem_map.1 h2
  unfold ackA at h3 ⊢
  split
  · rfl
  · rename_i hn
    rw [if_neg hn] at h3
    exact absurd h3 hn
theorem causesX_none (n : Net) (f : Fl) (r : Rec) (fr a b : Int) : causesX n f (ackR f.id fr r) fr a b = [] := by
  unfold causesX causesK
  rw [List.flatMap_eq_nil_iff]
  intro i hi
  have hi' := List.mem_range.1 hi
  unfold causeAt
  rw [if_neg]
  intro hall
  obtain ⟨x, hx⟩ := get_of_lt (l := onLk (ackR f.id fr r).al f.id fr a b) (k := i) (by omega)
  have h1 : x ∈ ((onLk (ackR f.id fr r).al f.id fr a b).drop i).take ((lossL n a b).toNat + 1) := by
    refine List.mem_of_getElem? (i := 0) ?_
    rw [List.getElem?_take_of_lt (by omega), List.getElem?_drop, Nat.add_zero]
    exact hx
  have h2 := List.all_eq_true.1 hall x h1
  have h3 := on_ack x (List.mem_of_getElem? hx)
  unfold failB at h2
  rw [h3] at h2
  simp at h2
theorem causesR_none (n : Net) (f : Fl) (r : Rec) (fr a b : Int) : (causesR n f (ackR f.id fr r) fr a b).1 = [] := by
  unfold causesR
  split
  · rfl
  split
  · rfl
  split
  · rfl
  exact causesX_none n f r fr a b
theorem firstC_none (n : Net) (f : Fl) (r : Rec) (fr : Int) : ∀ p, firstC n f (ackR f.id fr r) fr p = none
  | [] => rfl
  | [_] => rfl
  | x :: y :: p => by
    rw [firstC, causesX_none]
    exact firstC_none n f r fr (y :: p)
theorem findX_none (n : Net) (f : Fl) (ps : List (List Int)) (r : Rec) (fr : Int) : (findX n f ps (ackR f.id fr r) fr).1 = ex0 ∧ (findX n f ps (ackR f.id fr r) fr).2 ≠ 0 := by
  unfold findX
  split
  · rename_i h
    exact ⟨rfl, h⟩
  rename_i h
  have hne : ps ≠ [] := by
    rintro rfl
    apply h
    unfold lateX
    rw [if_pos (.inr (.inl (by decide)))]
    decide
  rw [if_pos]
  · exact ⟨rfl, by decide⟩
  cases ps with
  | nil => exact absurd rfl hne
  | cons p ps =>
    rw [List.any_cons, firstC_none]
    rfl
end Go.Proofs.YticnppnejafhdaaGreatDoor

import Derived.Test.YtkdigdnacggknaaZMon2
/- Walk: Late of package monitor. -/
namespace Go.Proofs.Ytkdigdnacggknaa
open Go.RowKit
open Nd Rc Mo

def Mo.Lt.row (x : Lt) : List Value := [.int .i64 x.fl, .int .i64 x.fr, .int .i64 x.sl]
theorem Lt.row_len (x : Lt) : x.row.length = 3 := rfl
theorem Try.infoL : (Try.prog.info? 68).map (fun i => (i.zero, i.size, i.bytes)) = some (some (.agg #[.int .i64 0, .int .i64 0, .int .i64 0]), 3, 24) := by kernel_rfl
theorem lateN_len (f : Fl) (dl : List Dlv) (n : Nat) : (lateN f dl n).length ≤ 1 := by unfold lateN; split <;> simp
theorem range_len (f : Fl) (dl : List Dlv) : ∀ n : Nat, ((List.range n).flatMap (lateN f dl)).length ≤ n
  | 0 => by simp
  | n + 1 => by
    rw [List.range_succ, List.flatMap_append, List.length_append]
    have := range_len f dl n
    have h := lateN_len f dl n
    simp only [List.flatMap_cons, List.flatMap_nil, List.append_nil]
    omega
theorem late_len {r : Rec} (hs : r.slots ≤ 4096) : ∀ (l : List Fl), (∀ f ∈ l, fault f = 0) → (l.flatMap (fun f => lateF f r)).length ≤ l.length * 4096
  | [], _ => by simp
  | f :: l, h => by
    rw [List.flatMap_cons, List.length_append, List.length_cons]
    have h1 := late_len hs l (fun g hg => h g (List.mem_cons_of_mem _ hg))
    have h2 := range_len f r.dl (complete f r.slots).toNat
    have h3 := complete_bounds (h f List.mem_cons_self) hs
    have : (lateF f r).length ≤ 4096 := by unfold lateF; omega
    omega
theorem take_snoc {α : Type} {l : List α} {k : Nat} {a : α} (h : l[k]? = some a) : l.take (k + 1) = l.take k ++ [a] := by
  obtain ⟨hk, rfl⟩ := List.getElem?_eq_some_iff.1 h
  rw [List.take_succ_eq_append_getElem hk]
/-- What has been found behind n frames of flow k. -/
def lateQ (fs : List Fl) (r : Rec) (k : Nat) (f : Fl) (n : Nat) : List Lt := (fs.take k).flatMap (fun f => lateF f r) ++ (List.range n).flatMap (lateN f r.dl)
theorem lateQ_succ (fs : List Fl) (r : Rec) (k : Nat) (f : Fl) (n : Nat) : lateQ fs r k f (n + 1) = lateQ fs r k f n ++ lateN f r.dl n := by
  unfold lateQ
  rw [List.range_succ, List.flatMap_append, ← List.append_assoc]
  simp
theorem lateQ_end {fs : List Fl} {r : Rec} {k : Nat} {f : Fl} (h : fs[k]? = some f) : lateQ fs r k f (complete f r.slots).toNat = (fs.take (k + 1)).flatMap (fun f => lateF f r) := by
  unfold lateQ
  rw [take_snoc h, List.flatMap_append]
  simp [lateF]
theorem num_small {a : Int} (h : 0 ≤ a ∧ a ≤ 1000000000) : Num64 a := num64_of (by omega)

set_option maxRecDepth 100000 in
set_option maxHeartbeats 4000000 in
theorem late_any (fs : List Fl) (r : Rec) (F A D : Option Addr) (cf ca cd : Nat) (w : World) (hF : Lies w w.heap.size 6 F (fs.map Fl.row)) (hf : fs.length ≤ 1000000) (hA : LiesA w w.heap.size A r.al) (hD : LiesD w w.heap.size D r.dl) (hla : r.al.length ≤ 1000000) (hld : r.dl.length ≤ 1000000) :
    Calls Try.prog 11 #[.slice F fs.length cf, .agg #[.int .i64 r.slots, .slice A r.al.length ca, .slice D r.dl.length cd]] w fun e w' => Below w.heap.size w w' ∧ ∃ v, e = .returned (.tuple #[v, .int .i64 (late fs r).2]) ∧ w'.ownsRow w.heap.size 68 3 v (late fs r).1.length ((late fs r).1.flatMap Lt.row) := by
  obtain ⟨i0, hi, hz0, hz1, hz2⟩ := info_parts Try.infoL
  obtain ⟨N, hN⟩ : ∃ N, N = w.heap.size := ⟨_, rfl⟩
  obtain ⟨na, hna⟩ : ∃ n, n = r.al.length := ⟨_, rfl⟩
  obtain ⟨nd, hnd⟩ : ∃ n, n = r.dl.length := ⟨_, rfl⟩
  obtain ⟨m, hm⟩ : ∃ m, m = fs.length := ⟨_, rfl⟩
  obtain ⟨slots, hsl⟩ : ∃ s, s = r.slots := ⟨_, rfl⟩
  obtain ⟨W1, hW1⟩ : ∃ W1, W1 = w.alloc (.cells #[.int .i64 slots, .slice A na ca, .slice D nd cd] 28) := ⟨_, rfl⟩
  have hb1 : Below N w W1 := by rw [hW1, hN]; exact (Below.refl _ _).alloc (Nat.le_refl _) _
  have bR : Blk W1 N 28 [.int .i64 slots, .slice A na ca, .slice D nd cd] := by rw [hW1]; exact Blk.new2 _ [.int .i64 slots, .slice A na ca, .slice D nd cd] hN
  have HW := Lib.hid (fun W (h' : Below W1.heap.size W1 W) => (show Below w.heap.size w W ∧ Row W N [.int .i64 slots, .slice A na ca, .slice D nd cd] from ⟨by rw [← hN]; exact hb1.trans (h'.mono (by have := bR.lt; omega)), (bR.below h' bR.lt).row⟩))
  have HF := Lib.hid (fun W (h' : Below W1.heap.size W1 W) => Lies.later hF (HW.out W h').1)
  have HRt := Lib.hid (right_any fs r F A D cf ca cd W1 (HF.out _ (Below.refl _ _)) hf ((hA.below (HW.out _ (Below.refl _ _)).1).more (HW.out _ (Below.refl _ _)).1.size) ((hD.below (HW.out _ (Below.refl _ _)).1).more (HW.out _ (Below.refl _ _)).1.size) hla hld)
  have HAr := Lib.hid (fun (hg : good r = true) W (h' : Below W1.heap.size W1 W) => arrivals_any r A D ca cd W ((hD.below (HW.out W h').1).more (HW.out W h').1.size) hld (fun d hd => by
    obtain ⟨a1, a2, a3, a4, a5, a6⟩ := good_dlv hg hd
    have := (good_slots hg).2
    exact ⟨num_small (by omega), num_small (by omega), num_small (by omega)⟩))
  rw [← hna, ← hnd, ← hsl] at HRt HAr ⊢
  rw [← hm] at HRt ⊢
  rw [← hnd] at hld
  have HM := Lib.hid hm
  have HSl := Lib.hid hsl
  have HNd := Lib.hid hnd
  have HW1 := Lib.hid hW1
  have HN := Lib.hid hN
  have hNlt : N < W1.heap.size := bR.lt
  clear hF hA hD hna hnd hm hsl hb1 bR hN hf hla
  have r1 := (HW.out _ (Below.refl _ _)).2
  unfold Row at r1
  subst hW1
  go_enter Try.func11, Try.ntmps11
  clear r1
  go_wp2_with fail
  rw [← HN.out]
  refine HRt.out.mono ?_
  rintro e w2 ⟨rfl, hb2⟩
  clear HRt
  cases hr : right fs r with
  | false =>
    have hl : Hid (late fs r = ([], 1)) := Lib.hid (by unfold late; rw [hr]; rfl)
    clear hr HAr
    go_wp2_with fail
    go_ret2
    exact ⟨(HW.out _ hb2).1, _, by rw [hl.out]; rfl, by rw [hl.out]; exact World.ownsRow_nil _ _ _ _⟩
  | true =>
    have hl : Hid (late fs r = (fs.flatMap (fun f => lateF f r), 0)) := Lib.hid (by unfold late; rw [if_pos hr])
    obtain ⟨hc, hg⟩ := right_inv hr
    obtain ⟨hfa, _, hm16⟩ := chkF_ok hc
    obtain ⟨hs0, hs1⟩ := good_slots hg
    have HFa := Lib.hid hfa
    have HAr := Lib.hid (HAr.out hg _ hb2)
    rw [← HSl.out] at hs0 hs1
    have hm16' : m ≤ 16 := by rw [HM.out]; exact hm16
    have r2 := (HW.out _ hb2).2
    unfold Row at r2
    clear hc hg hfa hr hm16
    go_wp2_with fail
    refine HAr.out.mono ?_
    rintro e w3 ⟨hb3, b, rfl, hbb, hO⟩
    clear HAr r2
    have hB3 : Below (World.heap (w.alloc (.cells #[.int .i64 slots, .slice A na ca, .slice D nd cd] 28))).size (w.alloc (.cells #[.int .i64 slots, .slice A na ca, .slice D nd cd] 28)) w3 := hb2.trans (hb3.mono hb2.size)
    have HG := Lib.hid (fun W (h' : Below w3.heap.size w3 W) => (show OwnsGr W (b + 1) b nd (slotsOf r.dl) from hO.below h'))
    have HX := Lib.hid (fun W (h' : Below w3.heap.size w3 W) => (show Below w.heap.size w W ∧ Row W N [.int .i64 slots, .slice A na ca, .slice D nd cd] ∧ Lies W W.heap.size 6 F (fs.map Fl.row) ∧ w3.heap.size ≤ W.heap.size from ⟨(HW.out _ (hB3.trans (h'.mono hB3.size))).1, (HW.out _ (hB3.trans (h'.mono hB3.size))).2, HF.out _ (hB3.trans (h'.mono hB3.size)), h'.size⟩))
    have hMN : N < w3.heap.size := Nat.lt_of_lt_of_le hNlt hB3.size
    have hbM : b < w3.heap.size := by
      obtain ⟨D0, h1, _⟩ := hO
      obtain ⟨es, clock, hb0, _⟩ := h1
      exact (Array.getElem?_eq_some_iff.1 hb0).1
    clear hO hb3 hb2 HW HF hbb
    go_wp2_with fail
    go_loopw [7, 21] (fun s7 i wr => ∃ (k : Nat) (v : Value), v = s7 ∧ k ≤ m ∧ i = .int .i64 k ∧ Below w3.heap.size w3 wr ∧ Hid (wr.ownsRow w3.heap.size 68 3 v ((fs.take k).flatMap (fun f => lateF f r)).length (((fs.take k).flatMap (fun f => lateF f r)).flatMap Lt.row))) (fun _ i _ => m - (intOf i).toNat)
    case atStart => exact ⟨0, _, rfl, by omega, rfl, Below.refl _ _, Lib.hid (World.ownsRow_nil _ _ _ _)⟩
    case round =>
      obtain ⟨k, v, rfl, hk, rfl, hb, HO⟩ := hrel
      by_cases hlt : k < m
      · obtain ⟨f, hfk⟩ := get_of_lt (l := fs) (k := k) (by rw [← HM.out]; exact hlt)
        have hff := HFa.out f (List.mem_of_getElem? hfk)
        obtain ⟨fb, foff, rfl, hfB, hcs⟩ := (HX.out _ hb).2.2.1.at_ hfk
        have c0 := hcs k f hfk 0 _ rfl
        have c1 := hcs k f hfk 1 _ rfl
        have c2 := hcs k f hfk 2 _ rfl
        have c3 := hcs k f hfk 3 _ rfl
        have c4 := hcs k f hfk 4 _ rfl
        have c5 := hcs k f hfk 5 _ rfl
        simp only [Nat.add_zero] at c0 c1 c2 c3 c4 c5
        have HFk := Lib.hid hfk
        clear hcs
        go_upto_region 8 with fail
        clear c0 c1 c2 c3 c4 c5 hfk
        obtain ⟨X, hX⟩ : ∃ X, X = wr.heap.size := ⟨_, rfl⟩
        generalize hWa : World.alloc _ _ = Wa
        have bX : Blk Wa X 37 [.int .i64 f.id, .int .i64 f.fr, .int .i64 f.tn, .int .i64 f.pe, .int .i64 f.ph, .int .i64 f.dl] := by rw [← hWa]; exact Blk.new2 _ [.int .i64 f.id, .int .i64 f.fr, .int .i64 f.tn, .int .i64 f.pe, .int .i64 f.ph, .int .i64 f.dl] hX
        have hba : Below w3.heap.size w3 Wa := by rw [← hWa]; exact hb.alloc hb.size _
        have HOa : Hid (Wa.ownsRow w3.heap.size 68 3 v ((fs.take k).flatMap (fun f => lateF f r)).length (((fs.take k).flatMap (fun f => lateF f r)).flatMap Lt.row)) := Lib.hid (by rw [← hWa]; exact HO.out.alloc _)
        rw [← hX]
        have hXM : w3.heap.size ≤ X := by rw [hX]; exact hb.size
        clear hWa hX HO hb
        have Con := Lib.hid (complete_any f slots (.slice A na ca) (.slice D nd cd) hff hs0 hs1 rfl rfl Wa)
        have hcb := complete_bounds hff hs1
        obtain ⟨cn, hcn⟩ : ∃ cn : Nat, complete f slots = (cn : Int) := ⟨(complete f slots).toNat, by omega⟩
        have HCN : Hid (cn = (complete f r.slots).toNat) := Lib.hid (by rw [← HSl.out, hcn]; rfl)
        have hcn4 : cn ≤ 4096 := by omega
        rw [hcn] at Con
        have rX := bX.row
        have r3 := (HX.out _ hba).2.1
        unfold Row at rX r3
        clear hcb hcn
        go_wp2_with fail
        refine Con.out.mono ?_
        rintro e w4 ⟨rfl, hb4⟩
        have hB4 : Below w3.heap.size w3 w4 := hba.trans (hb4.mono hba.size)
        have HX4 : Hid (Blk w4 X 37 [.int .i64 f.id, .int .i64 f.fr, .int .i64 f.tn, .int .i64 f.pe, .int .i64 f.ph, .int .i64 f.dl]) := Lib.hid (bX.below hb4 bX.lt)
        have HO4 : Hid (w4.ownsRow w3.heap.size 68 3 v (lateQ fs r k f 0).length ((lateQ fs r k f 0).flatMap Lt.row)) := Lib.hid (by have := own_below HOa.out hb4 (Nat.le_refl _); unfold lateQ; simpa using this)
        have HQl : Hid (∀ n, n ≤ 4096 → (lateQ fs r k f n).length ≤ 100000) := Lib.hid (fun n hn => by
          unfold lateQ
          rw [List.length_append]
          have h1 := late_len (r := r) (by rw [← HSl.out]; exact hs1) (fs.take k) (fun g hg => HFa.out g (List.mem_of_mem_take hg))
          have h2 := range_len f r.dl n
          have h3 := List.length_take_le k fs
          rw [List.length_take] at h1
          have h4 : min k fs.length ≤ 16 := by omega
          omega)
        clear Con rX r3 bX hba HOa hb4
        go_wp2_with fail
        go_loopw [7, 28] (fun s7 j wr => ∃ (n : Nat) (v : Value), v = s7 ∧ n ≤ cn ∧ j = .int .i64 n ∧ Below w3.heap.size w3 wr ∧ Hid (Blk wr X 37 [.int .i64 f.id, .int .i64 f.fr, .int .i64 f.tn, .int .i64 f.pe, .int .i64 f.ph, .int .i64 f.dl]) ∧ Hid (wr.ownsRow w3.heap.size 68 3 v (lateQ fs r k f n).length ((lateQ fs r k f n).flatMap Lt.row))) (fun _ j _ => cn - (intOf j).toNat)
        case atStart => exact ⟨0, _, rfl, by omega, rfl, hB4, HX4, HO4⟩
        case round =>
          clear HX4 HO4 hB4
          obtain ⟨n, v2, rfl, hn, rfl, hb, HXb, HO⟩ := hrel
          by_cases hlt2 : n < cn
          · obtain ⟨wd, hwd⟩ : ∃ wd, wd = wr.drew := ⟨_, rfl⟩
            have hbd : Below wr.heap.size wr wd := by rw [hwd]; exact (Below.refl _ _).drew
            obtain ⟨u5, hlook', hoi⟩ := (HG.out wd (hb.trans (hbd.mono hb.size))).look (by unfold maxLen; omega) (a := f.id) (c := (n : Int)) (num_small (by obtain ⟨h1, _⟩ := fault_zero hff; omega)) (num_small (by omega))
            obtain ⟨A5, c5, hu5⟩ := own_form2 hoi.1
            have hl5 : (slotsOf r.dl f.id (n : Int)).length ≤ 1000000 := by
              have h1 : (slotsOf r.dl f.id (n : Int)).length ≤ r.dl.length := by unfold slotsOf; rw [List.length_map]; exact List.length_filter_le _ _
              have := HNd.out
              omega
            have hI5 : LiesI wd wd.heap.size A5 (slotsOf r.dl f.id (n : Int)) := by
              have h1 := hoi.1
              rw [hu5] at h1
              exact own_I (by rw [flatI_map]; exact h1)
            have Con := Lib.hid (arrival_any f n (slotsOf r.dl f.id (n : Int)) A5 c5 wd hff (by omega) (by omega) hI5 hl5)
            rw [hu5] at hlook'
            obtain ⟨T5, hT5⟩ : ∃ T5, T5 = arrival f n (slotsOf r.dl f.id (n : Int)) := ⟨_, rfl⟩
            rw [← hT5] at Con
            have HT5 : Hid (lateN f r.dl n = if T5.2 = true then [] else [⟨f.id, n, T5.1⟩]) := Lib.hid (by unfold lateN; rw [← hT5])
            obtain ⟨q5, hq5⟩ : ∃ q, q = (slotsOf r.dl f.id (n : Int)).length := ⟨_, rfl⟩
            rw [← hq5] at Con hlook'
            have HXd : Hid (Blk wd X 37 [.int .i64 f.id, .int .i64 f.fr, .int .i64 f.tn, .int .i64 f.pe, .int .i64 f.ph, .int .i64 f.dl]) := Lib.hid (by rw [hwd]; exact HXb.out.drew)
            have hXl : X < wr.heap.size := HXb.out.lt
            have HDZ : Hid (wr.heap.size = wd.heap.size) := Lib.hid (by rw [hwd]; rfl)
            have hBd : Below w3.heap.size w3 wd := hb.trans (hbd.mono hb.size)
            have HOd : Hid (wd.ownsRow w3.heap.size 68 3 v2 (lateQ fs r k f n).length ((lateQ fs r k f n).flatMap Lt.row)) := Lib.hid (own_below HO.out hbd (Nat.le_refl _))
            have hn6 : (n : Int) ≤ 1000000 := by omega
            clear hoi hu5 hI5 hl5 hT5 hq5 hbd
            go_upto_region 11 with fail
            refine wp_region_rough (wr.heap.size) 14 [] #[false, false, false, false, false, false, false, false, false, false, false, false, false, false] (by kernel_rfl) rfl rfl ?_
            rw [← hwd]
            clear hwd
            have y0 : ∀ (x' : ExtW wr.heap.size wd), x'.val.cell? ⟨X, 0, none⟩ = some (.int .i64 f.id) := fun x' => (x'.cell _ hXl).trans (HXd.out.row 0)
            have y1 : ∀ (x' : ExtW wr.heap.size wd), x'.val.cell? ⟨X, 1, none⟩ = some (.int .i64 f.fr) := fun x' => (x'.cell _ hXl).trans (HXd.out.row 1)
            have y2 : ∀ (x' : ExtW wr.heap.size wd), x'.val.cell? ⟨X, 2, none⟩ = some (.int .i64 f.tn) := fun x' => (x'.cell _ hXl).trans (HXd.out.row 2)
            have y3 : ∀ (x' : ExtW wr.heap.size wd), x'.val.cell? ⟨X, 3, none⟩ = some (.int .i64 f.pe) := fun x' => (x'.cell _ hXl).trans (HXd.out.row 3)
            have y4 : ∀ (x' : ExtW wr.heap.size wd), x'.val.cell? ⟨X, 4, none⟩ = some (.int .i64 f.ph) := fun x' => (x'.cell _ hXl).trans (HXd.out.row 4)
            have y5 : ∀ (x' : ExtW wr.heap.size wd), x'.val.cell? ⟨X, 5, none⟩ = some (.int .i64 f.dl) := fun x' => (x'.cell _ hXl).trans (HXd.out.row 5)
            refine anyR_take 0 _ (nth0) rfl (by kernel_rfl) (by kernel_rfl) (by kernel_rfl) (by kernel_rfl) (l' := #[true, false, false, false, false, false, false, false, false, false, false, false, false, false]) rfl rfl ?_; intro K hK; go_big_quiet_op; go_big_quiet_on
            refine anyR_take0 1 _ (nthS (nth0)) rfl (by kernel_rfl) (by kernel_rfl) (by kernel_rfl) (l' := #[true, true, false, false, false, false, false, false, false, false, false, false, false, false]) rfl rfl ?_; intro K hK; go_big_quiet_op; go_big_quiet_on
            refine anyR_take0 2 _ (nthS (nthS (nth0))) rfl (by kernel_rfl) (by kernel_rfl) (by kernel_rfl) (l' := #[true, true, true, false, false, false, false, false, false, false, false, false, false, false]) rfl rfl ?_; intro K hK; go_big_quiet_op; go_big_quiet_on
            refine anyR_take0 3 _ (nthS (nthS (nthS (nth0)))) rfl (by kernel_rfl) (by kernel_rfl) (by kernel_rfl) (l' := #[true, true, true, true, false, false, false, false, false, false, false, false, false, false]) rfl rfl ?_; intro K hK; go_big_quiet_op; go_big_quiet_on
            refine anyR_take 4 _ (nthS (nthS (nthS (nthS (nth0))))) rfl (by kernel_rfl) (by kernel_rfl) (by kernel_rfl) (by kernel_rfl) (l' := #[true, true, true, true, true, false, false, false, false, false, false, false, false, false]) rfl rfl ?_; intro K hK; go_big_quiet_op; go_big_quiet_on
            refine anyR_take0 5 _ (nthS (nthS (nthS (nthS (nthS (nth0)))))) rfl (by kernel_rfl) (by kernel_rfl) (by kernel_rfl) (l' := #[true, true, true, true, true, true, false, false, false, false, false, false, false, false]) rfl rfl ?_; intro K hK; go_big_quiet_op; go_big_quiet_on
            refine anyR_take0 6 _ (nthS (nthS (nthS (nthS (nthS (nthS (nth0))))))) rfl (by kernel_rfl) (by kernel_rfl) (by kernel_rfl) (l' := #[true, true, true, true, true, true, true, false, false, false, false, false, false, false]) rfl rfl ?_; intro K hK; go_big_quiet_op; go_big_quiet_on
            refine anyR_one 7 _ (nthS (nthS (nthS (nthS (nthS (nthS (nthS (nth0)))))))) (by kernel_rfl) (l' := #[true, true, true, true, true, true, true, true, false, false, false, false, false, false]) rfl ?_
            clear y0 y1 y2 y3 y4 y5
            go_wp2_with fail
            clear hlook'
            refine OneR_mk (Below.refl _ _) ?_
            refine anyR_one 8 _ (nthS (nthS (nthS (nthS (nthS (nthS (nthS (nthS (nth0))))))))) (by kernel_rfl) (l' := #[true, true, true, true, true, true, true, true, true, false, false, false, false, false]) rfl ?_
            go_wp2_with fail
            refine Con.out.mono ?_
            rintro e w5 ⟨rfl, hb5⟩
            clear Con
            go_wp2_with fail
            refine OneR_mk (hb5.mono (Nat.le_of_eq HDZ.out)) ?_
            refine anyR_take0 9 _ (nthS (nthS (nthS (nthS (nthS (nthS (nthS (nthS (nthS (nth0)))))))))) rfl (by kernel_rfl) (by kernel_rfl) (by kernel_rfl) (l' := #[true, true, true, true, true, true, true, true, true, true, false, false, false, false]) rfl rfl ?_; intro K hK; go_big_quiet_op; go_big_quiet_on
            refine anyR_take0 10 _ (nthS (nthS (nthS (nthS (nthS (nthS (nthS (nthS (nthS (nthS (nth0))))))))))) rfl (by kernel_rfl) (by kernel_rfl) (by kernel_rfl) (l' := #[true, true, true, true, true, true, true, true, true, true, true, false, false, false]) rfl rfl ?_; intro K hK; go_big_quiet_op; go_big_quiet_on
            refine anyR_take0 11 _ (nthS (nthS (nthS (nthS (nthS (nthS (nthS (nthS (nthS (nthS (nthS (nth0)))))))))))) rfl (by kernel_rfl) (by kernel_rfl) (by kernel_rfl) (l' := #[true, true, true, true, true, true, true, true, true, true, true, true, false, false]) rfl rfl ?_; intro K hK; go_big_quiet_op; go_big_quiet_on
            refine anyR_take0 12 _ (nthS (nthS (nthS (nthS (nthS (nthS (nthS (nthS (nthS (nthS (nthS (nthS (nth0))))))))))))) rfl (by kernel_rfl) (by kernel_rfl) (by kernel_rfl) (l' := #[true, true, true, true, true, true, true, true, true, true, true, true, true, false]) rfl rfl ?_; intro K hK; go_big_quiet_op; go_big_quiet_on
            refine anyR_take0 13 _ (nthS (nthS (nthS (nthS (nthS (nthS (nthS (nthS (nthS (nthS (nthS (nthS (nthS (nth0)))))))))))))) rfl (by kernel_rfl) (by kernel_rfl) (by kernel_rfl) (l' := #[true, true, true, true, true, true, true, true, true, true, true, true, true, true]) rfl rfl ?_; intro K hK; go_big_quiet_op; go_big_quiet_on
            refine anyR_end (by kernel_rfl) ?_
            have hB5 : Below w3.heap.size w3 w5 := hBd.trans (hb5.mono hBd.size)
            have HX5 : Hid (Blk w5 X 37 [.int .i64 f.id, .int .i64 f.fr, .int .i64 f.tn, .int .i64 f.pe, .int .i64 f.ph, .int .i64 f.dl]) := Lib.hid (HXd.out.below hb5 HXd.out.lt)
            have HO5 : Hid (w5.ownsRow w3.heap.size 68 3 v2 (lateQ fs r k f n).length ((lateQ fs r k f n).flatMap Lt.row)) := Lib.hid (own_below HOd.out hb5 (Nat.le_refl _))
            clear HOd HXd hBd HDZ hb5 HO HXb hb hXl hn6
            cases hok : T5.2 with
            | true =>
              have hQ : Hid (lateQ fs r k f (n + 1) = lateQ fs r k f n) := Lib.hid (by rw [lateQ_succ, HT5.out, hok]; simp)
              clear hok
              go_wp2_with fail
              go_roundw
              case rel => exact ⟨n + 1, v2, rfl, by omega, by go_num, hB5, HX5, Lib.hid (by rw [hQ.out]; exact HO5.out)⟩
              case measure => simp [intOf]; omega
            | false =>
              have hQ : Hid (lateQ fs r k f (n + 1) = lateQ fs r k f n ++ [⟨f.id, n, T5.1⟩]) := Lib.hid (by rw [lateQ_succ, HT5.out, hok]; simp)
              clear hok
              have hl5 := HQl.out n (by omega)
              have rX := HX5.out.row
              unfold Row at rX
              go_wp2_with (at_builtin; refine wpList_append_own_at _ rfl (.tmp 45) (.tmp 51) 31 rfl w3.heap.size 68 i0 (.agg #[.int .i64 0, .int .i64 0, .int .i64 0]) 3 24 Try.underlying31 hi hz0 hz1 hz2 rfl (by decide) v2 _ _ rfl (HO5.out.alloc _) ⟨w5.heap.size, 0, none⟩ 1 1 [.int .i64 f.id, .int .i64 (n : Int), .int .i64 T5.1] rfl rfl ?e0 ?e1 ?e2 ?e3 ?e4 ?_)
              case e0 => exact (Blk.new2 68 [.int .i64 f.id, .int .i64 (n : Int), .int .i64 T5.1] rfl).news2
              case e1 => intro u hu; simp only [List.mem_cons, List.not_mem_nil, or_false] at hu; rcases hu with rfl | rfl | rfl <;> rfl
              case e2 => unfold maxLen; omega
              case e3 => omega
              case e4 => simp; have := hB5.size; omega
              intro v7 w7 ho7 hg7 hnil7 hat7
              clear hnil7 hat7
              have hB6 : Below w3.heap.size w3 (w5.alloc (.cells #[.int .i64 f.id, .int .i64 (n : Int), .int .i64 T5.1] 68)) := hB5.alloc hB5.size _
              have hB7 : Below w3.heap.size w3 w7 := hB6.grown hg7 hB6.size (fun j hj => (HO5.out.lt j hj).1)
              have HX7 : Hid (Blk w7 X 37 [.int .i64 f.id, .int .i64 f.fr, .int .i64 f.tn, .int .i64 f.pe, .int .i64 f.ph, .int .i64 f.dl]) := Lib.hid ((hg7.block X (by have := HX5.out.lt; simp; omega) (fun e => by have := own_type2 HO5.out e HX5.out; revert this; decide)).trans (HX5.out.alloc _))
              have HO7 : Hid (w7.ownsRow w3.heap.size 68 3 v7 (lateQ fs r k f (n + 1)).length ((lateQ fs r k f (n + 1)).flatMap Lt.row)) := Lib.hid (by rw [hQ.out]; simpa [Mo.Lt.row] using ho7)
              obtain ⟨A7, c7, hv7⟩ := own_form2 ho7
              clear ho7 hg7 hB6 rX hl5
              subst hv7
              go_wp2_with fail
              go_roundw
              case rel => exact ⟨n + 1, _, rfl, by omega, by go_num, hB7, HX7, HO7⟩
              case measure => simp [intOf]; omega
          · have h1 : n = cn := by omega
            subst h1
            have HOn : Hid (wr.ownsRow w3.heap.size 68 3 v2 ((fs.take (k + 1)).flatMap (fun f => lateF f r)).length (((fs.take (k + 1)).flatMap (fun f => lateF f r)).flatMap Lt.row)) := Lib.hid (by rw [← lateQ_end HFk.out, ← HCN.out]; exact HO.out)
            clear HO HXb
            go_wp2_with fail
            go_roundw
            case rel => exact ⟨k + 1, v2, rfl, by omega, by go_num, hb, HOn⟩
            case measure => simp [intOf]; omega
      · have h1 : k = m := by omega
        subst h1
        have hto : fs.take k = fs := List.take_of_length_le (by rw [← HM.out]; exact Nat.le_refl _)
        rw [hto] at HO
        obtain ⟨A7, c7, hv7⟩ := own_form2 HO.out
        subst hv7
        go_wp2_with fail
        go_ret2
        exact ⟨(HX.out _ hb).1, _, by rw [hl.out]; rfl, by rw [hl.out]; exact own_base HO.out (by have := HN.out; omega)⟩
end Go.Proofs.Ytkdigdnacggknaa
/- Walk: Stray of package monitor. -/
namespace Go.Proofs.Ytkdigdnacggknaa
open Go.RowKit
open Nd Rc Mo

theorem Try.infoA : (Try.prog.info? 66).map (fun i => (i.zero, i.size, i.bytes)) = some (some (.agg #[.int .i64 0, .int .i64 0, .int .i64 0, .int .i64 0, .int .i64 0, .int .i64 0, .int .i64 0, .int .i64 0]), 8, 64) := by kernel_rfl
theorem findF_cases (fs : List Fl) (id : Int) : (findF fs id = -1 ∧ fs.find? (fun f => f.id == id) = none) ∨ ∃ (i : Nat) (f : Fl), fs[i]? = some f ∧ findF fs id = (i : Int) ∧ fs.find? (fun f => f.id == id) = some f := by
  rcases idxP_spec (fun f : Fl => f.id == id) fs 0 with ⟨h1, h2⟩ | ⟨i, a, h1, h2, h3, h4⟩
  · refine .inl ⟨h1, List.find?_eq_none.2 fun x hx => ?_⟩
    have := List.all_eq_true.1 h2 x hx
    simpa using this
  · refine .inr ⟨i, a, h1, by unfold findF; rw [h3]; omega, ?_⟩
    obtain ⟨hi, e⟩ := List.getElem?_eq_some_iff.1 h1
    rw [List.find?_eq_some_iff_append]
    refine ⟨h2, fs.take i, fs.drop (i + 1), ?_, fun x hx => ?_⟩
    · rw [← e, List.getElem_cons_drop, List.take_append_drop]
    · exact List.all_eq_true.1 h4 x hx
/-- The strays among the first k attempts. -/
def strayK (fs : List Fl) (al : List Att) (k : Nat) : List Att := (al.take k).filter (fun a => !onWay fs a)
theorem strayK_succ {fs : List Fl} {al : List Att} {k : Nat} {a : Att} (h : al[k]? = some a) : strayK fs al (k + 1) = strayK fs al k ++ (if onWay fs a = true then [] else [a]) := by
  unfold strayK
  rw [take_snoc h, List.filter_append]
  congr 1
  by_cases hw : onWay fs a = true <;> simp [hw]
theorem strayK_len (fs : List Fl) (al : List Att) (k : Nat) : (strayK fs al k).length ≤ al.length := by
  unfold strayK
  have h1 := List.length_filter_le (fun a => !onWay fs a) (al.take k)
  have h2 : (al.take k).length ≤ al.length := by rw [List.length_take]; exact Nat.min_le_right _ _
  omega

set_option maxRecDepth 100000 in
set_option maxHeartbeats 4000000 in
theorem stray_any (fs : List Fl) (r : Rec) (F A D : Option Addr) (cf ca cd : Nat) (w : World) (hF : Lies w w.heap.size 6 F (fs.map Fl.row)) (hf : fs.length ≤ 1000000) (hA : LiesA w w.heap.size A r.al) (hD : LiesD w w.heap.size D r.dl) (hla : r.al.length ≤ 1000000) (hld : r.dl.length ≤ 1000000) :
    Calls Try.prog 25 #[.slice F fs.length cf, .agg #[.int .i64 r.slots, .slice A r.al.length ca, .slice D r.dl.length cd]] w fun e w' => Below w.heap.size w w' ∧ ∃ v, e = .returned (.tuple #[v, .int .i64 (stray fs r).2]) ∧ w'.ownsRow w.heap.size 66 8 v (stray fs r).1.length ((stray fs r).1.flatMap Att.row) := by
  obtain ⟨N, hN⟩ : ∃ N, N = w.heap.size := ⟨_, rfl⟩
  obtain ⟨na, hna⟩ : ∃ n, n = r.al.length := ⟨_, rfl⟩
  obtain ⟨nd, hnd⟩ : ∃ n, n = r.dl.length := ⟨_, rfl⟩
  obtain ⟨m, hm⟩ : ∃ m, m = fs.length := ⟨_, rfl⟩
  obtain ⟨slots, hsl⟩ : ∃ s, s = r.slots := ⟨_, rfl⟩
  obtain ⟨W1, hW1⟩ : ∃ W1, W1 = w.alloc (.cells #[.int .i64 slots, .slice A na ca, .slice D nd cd] 28) := ⟨_, rfl⟩
  have hb1 : Below N w W1 := by rw [hW1, hN]; exact (Below.refl _ _).alloc (Nat.le_refl _) _
  have bR : Blk W1 N 28 [.int .i64 slots, .slice A na ca, .slice D nd cd] := by rw [hW1]; exact Blk.new2 _ [.int .i64 slots, .slice A na ca, .slice D nd cd] hN
  have HW := Lib.hid (fun W (h' : Below W1.heap.size W1 W) => (show Below w.heap.size w W ∧ Row W N [.int .i64 slots, .slice A na ca, .slice D nd cd] from ⟨by rw [← hN]; exact hb1.trans (h'.mono (by have := bR.lt; omega)), (bR.below h' bR.lt).row⟩))
  have HF := Lib.hid (fun W (h' : Below W1.heap.size W1 W) => Lies.later hF (HW.out W h').1)
  have HA := Lib.hid (fun W (h' : Below W1.heap.size W1 W) => (show LiesA W W.heap.size A r.al from (hA.below (HW.out W h').1).more (HW.out W h').1.size))
  have HD := Lib.hid (fun W (h' : Below W1.heap.size W1 W) => (show LiesD W W.heap.size D r.dl from (hD.below (HW.out W h').1).more (HW.out W h').1.size))
  have HRt := Lib.hid (right_any fs r F A D cf ca cd W1 (HF.out _ (Below.refl _ _)) hf (HA.out _ (Below.refl _ _)) (HD.out _ (Below.refl _ _)) hla hld)
  have HFind := Lib.hid (fun (x : Int) W (h' : Below W1.heap.size W1 W) => find_any fs x F cf W (HF.out W h') hf)
  rw [← hna, ← hnd, ← hsl] at HRt ⊢
  rw [← hm] at HRt HFind ⊢
  rw [← hnd] at hld
  rw [← hna] at hla
  have HM := Lib.hid hm
  have HSl := Lib.hid hsl
  have HNd := Lib.hid hnd
  have HNa := Lib.hid hna
  have HW1 := Lib.hid hW1
  have HN := Lib.hid hN
  have hNlt : N < W1.heap.size := bR.lt
  clear hF hA hD hna hnd hm hsl hb1 bR hN hf
  have r1 := (HW.out _ (Below.refl _ _)).2
  unfold Row at r1
  subst hW1
  obtain ⟨i0, hi, hz0, hz1, hz2⟩ := info_parts Try.infoA
  go_enter Try.func25, Try.ntmps25
  clear r1
  go_wp2_with fail
  rw [← HN.out]
  refine HRt.out.mono ?_
  rintro e w2 ⟨rfl, hb2⟩
  clear HRt
  cases hr : right fs r with
  | false =>
    have hl : Hid (stray fs r = ([], 1)) := Lib.hid (by unfold stray; rw [hr]; rfl)
    clear hr
    go_wp2_with fail
    go_ret2
    exact ⟨(HW.out _ hb2).1, _, by rw [hl.out]; rfl, by rw [hl.out]; exact World.ownsRow_nil _ _ _ _⟩
  | true =>
    have hl : Hid (stray fs r = (strayK fs r.al na, 0)) := Lib.hid (by unfold stray strayK; rw [if_pos hr, HNa.out, List.take_of_length_le (Nat.le_refl _)])
    have r2 := (HW.out _ hb2).2
    unfold Row at r2
    have HX := Lib.hid (fun W (h' : Below w2.heap.size w2 W) => (show Below w.heap.size w W ∧ Row W N [.int .i64 slots, .slice A na ca, .slice D nd cd] ∧ Lies W W.heap.size 6 F (fs.map Fl.row) ∧ LiesA W W.heap.size A r.al from ⟨(HW.out _ (hb2.trans (h'.mono hb2.size))).1, (HW.out _ (hb2.trans (h'.mono hb2.size))).2, HF.out _ (hb2.trans (h'.mono hb2.size)), HA.out _ (hb2.trans (h'.mono hb2.size))⟩))
    have HFd := Lib.hid (fun (x : Int) W (h' : Below w2.heap.size w2 W) => HFind.out x W (hb2.trans (h'.mono hb2.size)))
    have hMN : N < w2.heap.size := Nat.lt_of_lt_of_le hNlt hb2.size
    have hw2N : w.heap.size ≤ w2.heap.size := (HW.out _ hb2).1.size
    clear hr HW HF HA HD HFind hb2 HW1
    go_wp2_with fail
    clear r2
    go_loopw [6, 20] (fun s6 i wr => ∃ (k : Nat) (v : Value), v = s6 ∧ k ≤ na ∧ i = .int .i64 k ∧ Below w2.heap.size w2 wr ∧ Hid (wr.ownsRow w2.heap.size 66 8 v (strayK fs r.al k).length ((strayK fs r.al k).flatMap Att.row))) (fun _ i _ => na - (intOf i).toNat)
    case atStart => exact ⟨0, _, rfl, by omega, rfl, Below.refl _ _, Lib.hid (World.ownsRow_nil _ _ _ _)⟩
    case round =>
      obtain ⟨k, v, rfl, hk, rfl, hb, HO⟩ := hrel
      by_cases hlt : k < na
      · obtain ⟨a, hak⟩ := get_of_lt (l := r.al) (k := k) (by rw [← HNa.out]; exact hlt)
        obtain ⟨ab, aoff, rfl, haB, hcs⟩ := (HX.out _ hb).2.2.2.at_ hak
        obtain ⟨c0, c1, c2, c3, c4, c5, c6, c7⟩ := hcs k a hak
        have HSu := Lib.hid (strayK_succ (fs := fs) hak)
        have HLn := Lib.hid (fun k => strayK_len fs r.al k)
        clear hcs hak
        go_upto_region 7 with fail
        clear c0 c1 c2 c3 c4 c5 c6 c7
        obtain ⟨X, hX⟩ : ∃ X, X = wr.heap.size := ⟨_, rfl⟩
        generalize hWa : World.alloc _ _ = Wa
        have bX : Blk Wa X 66 [.int .i64 a.s, .int .i64 a.f, .int .i64 a.cs, .int .i64 a.co, .int .i64 a.cf, .int .i64 a.ct, .int .i64 a.cl, .int .i64 a.o] := by rw [← hWa]; exact Blk.new2 _ [.int .i64 a.s, .int .i64 a.f, .int .i64 a.cs, .int .i64 a.co, .int .i64 a.cf, .int .i64 a.ct, .int .i64 a.cl, .int .i64 a.o] hX
        have hba : Below w2.heap.size w2 Wa := by rw [← hWa]; exact hb.alloc hb.size _
        have HOa : Hid (Wa.ownsRow w2.heap.size 66 8 v (strayK fs r.al k).length ((strayK fs r.al k).flatMap Att.row)) := Lib.hid (by rw [← hWa]; exact HO.out.alloc _)
        have HXv : Hid (v.ownBlock ≠ some X) := Lib.hid (fun e => by have := (HO.out.lt X e).2; omega)
        rw [← hX]
        clear hWa hX HO hb
        have Con := Lib.hid (HFd.out a.cl _ hba)
        have rX := bX.row
        unfold Row at rX
        go_wp2_with fail
        refine Con.out.mono ?_
        rintro e w4 ⟨rfl, hb4⟩
        have hB4 : Below w2.heap.size w2 w4 := hba.trans (hb4.mono hba.size)
        have bX4 : Blk w4 X 66 [.int .i64 a.s, .int .i64 a.f, .int .i64 a.cs, .int .i64 a.co, .int .i64 a.cf, .int .i64 a.ct, .int .i64 a.cl, .int .i64 a.o] := bX.below hb4 bX.lt
        have HO4 : Hid (w4.ownsRow w2.heap.size 66 8 v (strayK fs r.al k).length ((strayK fs r.al k).flatMap Att.row)) := Lib.hid (own_below HOa.out hb4 (Nat.le_refl _))
        clear Con rX bX hba HOa hb4
        rcases findF_cases fs a.cl with ⟨hT, hfn⟩ | ⟨i, f, hfi, hT, hfs⟩
        · have hon : onWay fs a = false := by unfold onWay; rw [hfn]
          rw [hT]
          clear hT hfn
          have hQ : Hid (strayK fs r.al (k + 1) = strayK fs r.al k ++ [a]) := Lib.hid (by rw [HSu.out, if_neg (by rw [hon]; decide)])
          clear hon
          have hl5 := HLn.out k
          have hl6 := HNa.out
          have rX := bX4.row
          unfold Row at rX
          clear hl6
          have hl7 : (strayK fs r.al k).length ≤ 1000000 := by have := HNa.out; omega
          go_wp2_with (at_builtin; refine wpList_append_own_at _ rfl (.tmp 48) (.tmp 50) 23 rfl w2.heap.size 66 i0 (.agg #[.int .i64 0, .int .i64 0, .int .i64 0, .int .i64 0, .int .i64 0, .int .i64 0, .int .i64 0, .int .i64 0]) 8 64 Try.underlying23 hi hz0 hz1 hz2 rfl (by decide) v _ _ rfl (HO4.out.alloc _) ⟨w4.heap.size, 0, none⟩ 1 1 [.int .i64 a.s, .int .i64 a.f, .int .i64 a.cs, .int .i64 a.co, .int .i64 a.cf, .int .i64 a.ct, .int .i64 a.cl, .int .i64 a.o] rfl rfl ?e0 ?e1 ?e2 ?e3 ?e4 ?_)
          case e0 => exact (Blk.new2 66 [.int .i64 a.s, .int .i64 a.f, .int .i64 a.cs, .int .i64 a.co, .int .i64 a.cf, .int .i64 a.ct, .int .i64 a.cl, .int .i64 a.o] rfl).news2
          case e1 => intro u hu; simp only [List.mem_cons, List.not_mem_nil, or_false] at hu; rcases hu with rfl | rfl | rfl | rfl | rfl | rfl | rfl | rfl <;> rfl
          case e2 => unfold maxLen; omega
          case e3 => omega
          case e4 => simp; have := hB4.size; omega
          intro v7 w7 ho7 hg7 hnil7 hat7
          clear hnil7 hat7
          have hB6 : Below w2.heap.size w2 (w4.alloc (.cells #[.int .i64 a.s, .int .i64 a.f, .int .i64 a.cs, .int .i64 a.co, .int .i64 a.cf, .int .i64 a.ct, .int .i64 a.cl, .int .i64 a.o] 66)) := hB4.alloc hB4.size _
          have hB7 : Below w2.heap.size w2 w7 := hB6.grown hg7 hB6.size (fun j hj => (HO4.out.lt j hj).1)
          have HO7 : Hid (w7.ownsRow w2.heap.size 66 8 v7 (strayK fs r.al (k + 1)).length ((strayK fs r.al (k + 1)).flatMap Att.row)) := Lib.hid (by rw [hQ.out]; simpa [Rc.Att.row] using ho7)
          obtain ⟨A7, c7, hv7⟩ := own_form2 ho7
          clear ho7 hg7 hB6 rX hl5
          subst hv7
          go_wp2_with fail
          go_roundw
          case rel => exact ⟨k + 1, _, rfl, by omega, by go_num, hB7, HO7⟩
          case measure => simp [intOf]; omega
        · obtain ⟨fb, foff, hFe, hfB, hcs⟩ := (HX.out _ hB4).2.2.1.at_ hfi
          have him : i < m := by rw [HM.out]; exact (List.getElem?_eq_some_iff.1 hfi).1
          have hi0 : decide ((0 : Int) ≤ (i : Int)) = true := decide_eq_true (by omega)
          have q0 := hcs i f hfi 0 _ rfl
          have q1 := hcs i f hfi 1 _ rfl
          have q2 := hcs i f hfi 2 _ rfl
          have q3 := hcs i f hfi 3 _ rfl
          have q4 := hcs i f hfi 4 _ rfl
          have q5 := hcs i f hfi 5 _ rfl
          simp only [Nat.add_zero] at q0 q1 q2 q3 q4 q5
          have hon0 : onWay fs a = ((cur f a.s).2 && (cur f a.s).1 == a.f) := by unfold onWay; rw [hfs]
          rw [hT]
          obtain ⟨wd, hwd⟩ : ∃ wd, wd = w4.drew := ⟨_, rfl⟩
          have hbd : Below w4.heap.size w4 wd := by rw [hwd]; exact (Below.refl _ _).drew
          have Con := Lib.hid (current_any f a.s wd)
          obtain ⟨T5, hT5⟩ : ∃ T5, T5 = cur f a.s := ⟨_, rfl⟩
          rw [← hT5] at Con hon0
          have bXd : Blk wd X 66 [.int .i64 a.s, .int .i64 a.f, .int .i64 a.cs, .int .i64 a.co, .int .i64 a.cf, .int .i64 a.ct, .int .i64 a.cl, .int .i64 a.o] := by rw [hwd]; exact bX4.drew
          have hXl : X < w4.heap.size := bX4.lt
          have HDZ : Hid (w4.heap.size = wd.heap.size) := Lib.hid (by rw [hwd]; rfl)
          have hBd : Below w2.heap.size w2 wd := hB4.trans (hbd.mono hB4.size)
          have HOd : Hid (wd.ownsRow w2.heap.size 66 8 v (strayK fs r.al k).length ((strayK fs r.al k).flatMap Att.row)) := Lib.hid (own_below HO4.out hbd (Nat.le_refl _))
          subst hFe
          clear hcs hfi hT hfs hT5
          go_upto_region 9 with fail
          refine wp_region_rough (w4.heap.size) 12 [] #[false, false, false, false, false, false, false, false, false, false, false, false] (by kernel_rfl) rfl rfl ?_
          rw [← hwd]
          clear hwd
          have y0 : ∀ (x' : ExtW w4.heap.size wd), x'.val.cell? ⟨fb, foff + i * 6, none⟩ = some (.int .i64 f.id) := fun x' => (x'.cell _ hfB).trans ((hbd.cell (p := ⟨fb, foff + i * 6, none⟩) hfB).trans q0)
          have y1 : ∀ (x' : ExtW w4.heap.size wd), x'.val.cell? ⟨fb, foff + i * 6 + 1, none⟩ = some (.int .i64 f.fr) := fun x' => (x'.cell _ hfB).trans ((hbd.cell (p := ⟨fb, foff + i * 6 + 1, none⟩) hfB).trans q1)
          have y2 : ∀ (x' : ExtW w4.heap.size wd), x'.val.cell? ⟨fb, foff + i * 6 + 2, none⟩ = some (.int .i64 f.tn) := fun x' => (x'.cell _ hfB).trans ((hbd.cell (p := ⟨fb, foff + i * 6 + 2, none⟩) hfB).trans q2)
          have y3 : ∀ (x' : ExtW w4.heap.size wd), x'.val.cell? ⟨fb, foff + i * 6 + 3, none⟩ = some (.int .i64 f.pe) := fun x' => (x'.cell _ hfB).trans ((hbd.cell (p := ⟨fb, foff + i * 6 + 3, none⟩) hfB).trans q3)
          have y4 : ∀ (x' : ExtW w4.heap.size wd), x'.val.cell? ⟨fb, foff + i * 6 + 4, none⟩ = some (.int .i64 f.ph) := fun x' => (x'.cell _ hfB).trans ((hbd.cell (p := ⟨fb, foff + i * 6 + 4, none⟩) hfB).trans q4)
          have y5 : ∀ (x' : ExtW w4.heap.size wd), x'.val.cell? ⟨fb, foff + i * 6 + 5, none⟩ = some (.int .i64 f.dl) := fun x' => (x'.cell _ hfB).trans ((hbd.cell (p := ⟨fb, foff + i * 6 + 5, none⟩) hfB).trans q5)
          have ya : ∀ (x' : ExtW w4.heap.size wd), x'.val.cell? ⟨X, 0, none⟩ = some (.int .i64 a.s) := fun x' => (x'.cell _ hXl).trans (bXd.row 0)
          clear q0 q1 q2 q3 q4 q5
          refine anyR_take0 0 _ (nth0) rfl (by kernel_rfl) (by kernel_rfl) (by kernel_rfl) (l' := #[true, false, false, false, false, false, false, false, false, false, false, false]) rfl rfl ?_; intro K hK; go_big_quiet_op; go_big_quiet_on
          refine anyR_take0 1 _ (nthS (nth0)) rfl (by kernel_rfl) (by kernel_rfl) (by kernel_rfl) (l' := #[true, true, false, false, false, false, false, false, false, false, false, false]) rfl rfl ?_; intro K hK; go_big_quiet_op; go_big_quiet_on
          refine anyR_take0 2 _ (nthS (nthS (nth0))) rfl (by kernel_rfl) (by kernel_rfl) (by kernel_rfl) (l' := #[true, true, true, false, false, false, false, false, false, false, false, false]) rfl rfl ?_; intro K hK; go_big_quiet_op; go_big_quiet_on
          refine anyR_take 3 _ (nthS (nthS (nthS (nth0)))) rfl (by kernel_rfl) (by kernel_rfl) (by kernel_rfl) (by kernel_rfl) (l' := #[true, true, true, true, false, false, false, false, false, false, false, false]) rfl rfl ?_; intro K hK; go_big_quiet_op; go_big_quiet_on
          refine anyR_take0 4 _ (nthS (nthS (nthS (nthS (nth0))))) rfl (by kernel_rfl) (by kernel_rfl) (by kernel_rfl) (l' := #[true, true, true, true, true, false, false, false, false, false, false, false]) rfl rfl ?_; intro K hK; go_big_quiet_op; go_big_quiet_on
          refine anyR_take 5 _ (nthS (nthS (nthS (nthS (nthS (nth0)))))) rfl (by kernel_rfl) (by kernel_rfl) (by kernel_rfl) (by kernel_rfl) (l' := #[true, true, true, true, true, true, false, false, false, false, false, false]) rfl rfl ?_; intro K hK; go_big_quiet_op; go_big_quiet_on
          refine anyR_one 6 _ (nthS (nthS (nthS (nthS (nthS (nthS (nth0))))))) (by kernel_rfl) (l' := #[true, true, true, true, true, true, true, false, false, false, false, false]) rfl ?_
          clear y0 y1 y2 y3 y4 y5 ya
          go_wp2_with fail
          refine Con.out.mono ?_
          rintro e w5 ⟨rfl, hb5⟩
          clear Con
          go_wp2_with fail
          refine OneR_mk (hb5.mono (Nat.le_of_eq HDZ.out)) ?_
          refine anyR_take0 7 _ (nthS (nthS (nthS (nthS (nthS (nthS (nthS (nth0)))))))) rfl (by kernel_rfl) (by kernel_rfl) (by kernel_rfl) (l' := #[true, true, true, true, true, true, true, true, false, false, false, false]) rfl rfl ?_; intro K hK; go_big_quiet_op; go_big_quiet_on
          refine anyR_take0 8 _ (nthS (nthS (nthS (nthS (nthS (nthS (nthS (nthS (nth0))))))))) rfl (by kernel_rfl) (by kernel_rfl) (by kernel_rfl) (l' := #[true, true, true, true, true, true, true, true, true, false, false, false]) rfl rfl ?_; intro K hK; go_big_quiet_op; go_big_quiet_on
          refine anyR_take0 9 _ (nthS (nthS (nthS (nthS (nthS (nthS (nthS (nthS (nthS (nth0)))))))))) rfl (by kernel_rfl) (by kernel_rfl) (by kernel_rfl) (l' := #[true, true, true, true, true, true, true, true, true, true, false, false]) rfl rfl ?_; intro K hK; go_big_quiet_op; go_big_quiet_on
          refine anyR_take0 10 _ (nthS (nthS (nthS (nthS (nthS (nthS (nthS (nthS (nthS (nthS (nth0))))))))))) rfl (by kernel_rfl) (by kernel_rfl) (by kernel_rfl) (l' := #[true, true, true, true, true, true, true, true, true, true, true, false]) rfl rfl ?_; intro K hK; go_big_quiet_op; go_big_quiet_on
          refine anyR_take0 11 _ (nthS (nthS (nthS (nthS (nthS (nthS (nthS (nthS (nthS (nthS (nthS (nth0)))))))))))) rfl (by kernel_rfl) (by kernel_rfl) (by kernel_rfl) (l' := #[true, true, true, true, true, true, true, true, true, true, true, true]) rfl rfl ?_; intro K hK; go_big_quiet_op; go_big_quiet_on
          refine anyR_end (by kernel_rfl) ?_
          have hB5 : Below w2.heap.size w2 w5 := hBd.trans (hb5.mono hBd.size)
          have bX5 : Blk w5 X 66 [.int .i64 a.s, .int .i64 a.f, .int .i64 a.cs, .int .i64 a.co, .int .i64 a.cf, .int .i64 a.ct, .int .i64 a.cl, .int .i64 a.o] := bXd.below hb5 bXd.lt
          have HO5 : Hid (w5.ownsRow w2.heap.size 66 8 v (strayK fs r.al k).length ((strayK fs r.al k).flatMap Att.row)) := Lib.hid (own_below HOd.out hb5 (Nat.le_refl _))
          clear HOd bXd hBd HDZ hb5 HO4 bX4 hB4 hXl hbd
          have x1 := bX5.row 1
          simp only [List.getElem?_cons_succ, List.getElem?_cons_zero] at x1
          cases h2 : T5.2 with
          | false =>
            have hon : onWay fs a = false := by rw [hon0, h2]; rfl
            clear hon0 h2
            have hQ : Hid (strayK fs r.al (k + 1) = strayK fs r.al k ++ [a]) := Lib.hid (by rw [HSu.out, if_neg (by rw [hon]; decide)])
            clear hon
            have hl5 := HLn.out k
            have hl6 := HNa.out
            have rX := bX5.row
            unfold Row at rX
            clear hl6
            have hl7 : (strayK fs r.al k).length ≤ 1000000 := by have := HNa.out; omega
            go_wp2_with (at_builtin; refine wpList_append_own_at _ rfl (.tmp 48) (.tmp 50) 23 rfl w2.heap.size 66 i0 (.agg #[.int .i64 0, .int .i64 0, .int .i64 0, .int .i64 0, .int .i64 0, .int .i64 0, .int .i64 0, .int .i64 0]) 8 64 Try.underlying23 hi hz0 hz1 hz2 rfl (by decide) v _ _ rfl (HO5.out.alloc _) ⟨w5.heap.size, 0, none⟩ 1 1 [.int .i64 a.s, .int .i64 a.f, .int .i64 a.cs, .int .i64 a.co, .int .i64 a.cf, .int .i64 a.ct, .int .i64 a.cl, .int .i64 a.o] rfl rfl ?e0 ?e1 ?e2 ?e3 ?e4 ?_)
            case e0 => exact (Blk.new2 66 [.int .i64 a.s, .int .i64 a.f, .int .i64 a.cs, .int .i64 a.co, .int .i64 a.cf, .int .i64 a.ct, .int .i64 a.cl, .int .i64 a.o] rfl).news2
            case e1 => intro u hu; simp only [List.mem_cons, List.not_mem_nil, or_false] at hu; rcases hu with rfl | rfl | rfl | rfl | rfl | rfl | rfl | rfl <;> rfl
            case e2 => unfold maxLen; omega
            case e3 => omega
            case e4 => simp; have := hB5.size; omega
            intro v7 w7 ho7 hg7 hnil7 hat7
            clear hnil7 hat7
            have hB6 : Below w2.heap.size w2 (w5.alloc (.cells #[.int .i64 a.s, .int .i64 a.f, .int .i64 a.cs, .int .i64 a.co, .int .i64 a.cf, .int .i64 a.ct, .int .i64 a.cl, .int .i64 a.o] 66)) := hB5.alloc hB5.size _
            have hB7 : Below w2.heap.size w2 w7 := hB6.grown hg7 hB6.size (fun j hj => (HO5.out.lt j hj).1)
            have HO7 : Hid (w7.ownsRow w2.heap.size 66 8 v7 (strayK fs r.al (k + 1)).length ((strayK fs r.al (k + 1)).flatMap Att.row)) := Lib.hid (by rw [hQ.out]; simpa [Rc.Att.row] using ho7)
            obtain ⟨A7, c7, hv7⟩ := own_form2 ho7
            clear ho7 hg7 hB6 rX hl5
            subst hv7
            go_wp2_with fail
            go_roundw
            case rel => exact ⟨k + 1, _, rfl, by omega, by go_num, hB7, HO7⟩
            case measure => simp [intOf]; omega
          | true =>
            cases h3 : (T5.1 == a.f) with
            | true =>
              have hon : onWay fs a = true := by rw [hon0, h2, h3]; rfl
              clear hon0 h2
              have hQ : Hid (strayK fs r.al (k + 1) = strayK fs r.al k) := Lib.hid (by rw [HSu.out, if_pos hon]; simp)
              clear hon
              go_wp2_with fail
              go_roundw
              case rel => exact ⟨k + 1, v, rfl, by omega, by go_num, hB5, Lib.hid (by rw [hQ.out]; exact HO5.out)⟩
              case measure => simp [intOf]; omega
            | false =>
              have hon : onWay fs a = false := by rw [hon0, h2, h3]; rfl
              clear hon0 h2
              have hQ : Hid (strayK fs r.al (k + 1) = strayK fs r.al k ++ [a]) := Lib.hid (by rw [HSu.out, if_neg (by rw [hon]; decide)])
              clear hon
              have hl5 := HLn.out k
              have hl6 := HNa.out
              have rX := bX5.row
              unfold Row at rX
              clear hl6
              have hl7 : (strayK fs r.al k).length ≤ 1000000 := by have := HNa.out; omega
              go_wp2_with (at_builtin; refine wpList_append_own_at _ rfl (.tmp 48) (.tmp 50) 23 rfl w2.heap.size 66 i0 (.agg #[.int .i64 0, .int .i64 0, .int .i64 0, .int .i64 0, .int .i64 0, .int .i64 0, .int .i64 0, .int .i64 0]) 8 64 Try.underlying23 hi hz0 hz1 hz2 rfl (by decide) v _ _ rfl (HO5.out.alloc _) ⟨w5.heap.size, 0, none⟩ 1 1 [.int .i64 a.s, .int .i64 a.f, .int .i64 a.cs, .int .i64 a.co, .int .i64 a.cf, .int .i64 a.ct, .int .i64 a.cl, .int .i64 a.o] rfl rfl ?e0 ?e1 ?e2 ?e3 ?e4 ?_)
              case e0 => exact (Blk.new2 66 [.int .i64 a.s, .int .i64 a.f, .int .i64 a.cs, .int .i64 a.co, .int .i64 a.cf, .int .i64 a.ct, .int .i64 a.cl, .int .i64 a.o] rfl).news2
              case e1 => intro u hu; simp only [List.mem_cons, List.not_mem_nil, or_false] at hu; rcases hu with rfl | rfl | rfl | rfl | rfl | rfl | rfl | rfl <;> rfl
              case e2 => unfold maxLen; omega
              case e3 => omega
              case e4 => simp; have := hB5.size; omega
              intro v7 w7 ho7 hg7 hnil7 hat7
              clear hnil7 hat7
              have hB6 : Below w2.heap.size w2 (w5.alloc (.cells #[.int .i64 a.s, .int .i64 a.f, .int .i64 a.cs, .int .i64 a.co, .int .i64 a.cf, .int .i64 a.ct, .int .i64 a.cl, .int .i64 a.o] 66)) := hB5.alloc hB5.size _
              have hB7 : Below w2.heap.size w2 w7 := hB6.grown hg7 hB6.size (fun j hj => (HO5.out.lt j hj).1)
              have HO7 : Hid (w7.ownsRow w2.heap.size 66 8 v7 (strayK fs r.al (k + 1)).length ((strayK fs r.al (k + 1)).flatMap Att.row)) := Lib.hid (by rw [hQ.out]; simpa [Rc.Att.row] using ho7)
              obtain ⟨A7, c7, hv7⟩ := own_form2 ho7
              clear ho7 hg7 hB6 rX hl5
              subst hv7
              go_wp2_with fail
              go_roundw
              case rel => exact ⟨k + 1, _, rfl, by omega, by go_num, hB7, HO7⟩
              case measure => simp [intOf]; omega
      · have h1 : k = na := by omega
        subst h1
        obtain ⟨A7, c7, hv7⟩ := own_form2 HO.out
        subst hv7
        go_wp2_with fail
        go_ret2
        exact ⟨(HX.out _ hb).1, _, by rw [hl.out]; rfl, by rw [hl.out]; exact own_base HO.out hw2N⟩
end Go.Proofs.Ytkdigdnacggknaa

import Derived.Test.YtkdigdnacggknaaZMonS
import Derived.Test.YtkdigdnacggknaaZRchk
import Derived.Test.YtkdigdnacggknaaZMix
/- Walks: the reference of the monitor layer: the check, where a frame was delivered. -/
namespace Go.Proofs.Ytkdigdnacggknaa
open Go.RowKit
open Nd Rc Mo

set_option maxHeartbeats 1000000 in
theorem rfchk_any (fs : List Fl) (r : Rec) (F A D : Option Addr) (cf ca cd : Nat) (w : World) (hF : Lies w w.heap.size 6 F (fs.map Fl.row)) (hf : fs.length ≤ 1000000) (hA : LiesA w w.heap.size A r.al) (hD : LiesD w w.heap.size D r.dl) (hla : r.al.length ≤ 1000000) (hld : r.dl.length ≤ 1000000) :
    Calls Try.prog 46 #[.slice F fs.length cf, .agg #[.int .i64 r.slots, .slice A r.al.length ca, .slice D r.dl.length cd]] w fun e w' => e = .returned (.int .i64 (if right fs r = true then 0 else 1)) ∧ Below w.heap.size w w' := by
  obtain ⟨slots, al, dl⟩ := r
  dsimp only at *
  obtain ⟨na, hna⟩ : ∃ n, n = al.length := ⟨_, rfl⟩
  obtain ⟨nd, hnd⟩ : ∃ n, n = dl.length := ⟨_, rfl⟩
  obtain ⟨W1, hW1⟩ : ∃ W1, W1 = w.alloc (.cells #[.int .i64 slots, .slice A na ca, .slice D nd cd] 28) := ⟨_, rfl⟩
  have hb1 : Below w.heap.size w W1 := by rw [hW1]; exact (Below.refl _ _).alloc (Nat.le_refl _) _
  have bR : Blk W1 w.heap.size 28 [.int .i64 slots, .slice A na ca, .slice D nd cd] := by rw [hW1]; exact Blk.new2 _ [.int .i64 slots, .slice A na ca, .slice D nd cd] rfl
  have Con := Lib.hid (rCheck_any fs F cf W1 (Lies.later hF hb1) hf)
  have Con2 := Lib.hid (fun W (h' : Below W1.heap.size W1 W) => rcheck_any ⟨slots, al, dl⟩ A D ca cd W ((hA.below hb1).more hb1.size |>.below h' |>.more h'.size) ((hD.below hb1).more hb1.size |>.below h' |>.more h'.size) (by dsimp only; omega) (by dsimp only; omega))
  obtain ⟨V, hV⟩ : ∃ V : Int, V = if right fs ⟨slots, al, dl⟩ = true then 0 else 1 := ⟨_, rfl⟩
  have hT : right fs ⟨slots, al, dl⟩ = (decide ((chkF fs).2 = 0) && (rcheckE ⟨slots, al, dl⟩ == 0)) := by
    rw [← check_agree]
    unfold right checkE
    cases good ⟨slots, al, dl⟩ <;> rfl
  rw [← hV]
  rw [hT] at hV
  generalize chkF fs = T at *
  generalize hE : rcheckE ⟨slots, al, dl⟩ = E at *
  dsimp only at Con2
  rw [← hna, ← hnd] at Con2 ⊢
  generalize fs.length = m at *
  have HR := Lib.hid (fun W (h' : Below W1.heap.size W1 W) => (bR.below h' bR.lt).row)
  have HB1 := Lib.hid hb1
  have HV := Lib.hid hV
  have hlt : w.heap.size < W1.heap.size := bR.lt
  clear hF hA hD hna hnd hT hE hV hb1 bR
  subst hW1
  go_enter Try.func46, Try.ntmps46
  go_wp2_with fail
  refine Con.out.mono ?_
  rintro e w2 ⟨rfl, hb2⟩
  have r2 := HR.out _ hb2
  unfold Row at r2
  have hfin := HB1.out.trans (hb2.mono HB1.out.size)
  have Con3 := Lib.hid (Con2.out _ hb2)
  by_cases hc : T.2 = 0
  · have e1 : (T.2 != 0) = false := by simpa using hc
    have e2 : decide (T.2 = 0) = true := decide_eq_true hc
    by_cases hE : E = 0
    · have e3 : (E != 0) = false := by simpa using hE
      have E2 : Hid (V = 0) := Lib.hid (by rw [HV.out, e2, hE]; rfl)
      clear hc hE e2 Con Con2 HR
      go_wp2_with (go_at_call 58; (with_reducible refine Con3.out.mono ?_); rintro e w3 ⟨rfl, hb3⟩)
      go_ret
      exact ⟨ret_int (by rw [E2.out]), hfin.trans (hb3.mono hfin.size)⟩
    · have e3 : (E != 0) = true := by simpa using hE
      have E2 : Hid (V = 1) := Lib.hid (by rw [HV.out, e2, show (E == 0) = false from by simpa using hE]; rfl)
      clear hc hE e2 Con Con2 HR
      go_wp2_with (go_at_call 58; (with_reducible refine Con3.out.mono ?_); rintro e w3 ⟨rfl, hb3⟩)
      go_ret
      exact ⟨ret_int (by rw [E2.out]), hfin.trans (hb3.mono hfin.size)⟩
  · have e1 : (T.2 != 0) = true := by simpa using hc
    have E2 : Hid (V = 1) := Lib.hid (by rw [HV.out, decide_eq_false hc]; rfl)
    clear hc Con Con2 HR Con3
    go_wp2_with fail
    go_ret
    exact ⟨ret_int (by rw [E2.out]), hfin⟩

theorem deliv_cons (d : Dlv) (l : List Dlv) (fl fr a b : Int) : deliv (d :: l) fl fr a b = if (d.fl == fl && d.fr == fr && decide (a ≤ d.sl) && decide (d.sl ≤ b)) = true then d.sl else deliv l fl fr a b := by
  unfold deliv slotsOf
  cases h1 : (d.fl == fl && d.fr == fr) with
  | false => rw [List.filter_cons_of_neg (by simp [h1])]; simp
  | true =>
    rw [List.filter_cons_of_pos (by simpa using h1), List.map_cons, Bool.true_and]
    cases h2 : (decide (a ≤ d.sl) && decide (d.sl ≤ b)) with
    | false => rw [List.find?_cons_of_neg (by simp [h2])]; simp
    | true => rw [List.find?_cons_of_pos (by simpa using h2)]; rfl

set_option maxRecDepth 100000 in
set_option maxHeartbeats 2000000 in
theorem deliv_any (r : Rec) (f : Fl) (fr x y : Int) (A D : Option Addr) (ca cd : Nat) (w : World) (hD : LiesD w w.heap.size D r.dl) (hld : r.dl.length ≤ 1000000) :
    Calls Try.prog 48 #[.agg #[.int .i64 r.slots, .slice A r.al.length ca, .slice D r.dl.length cd], .agg #[.int .i64 f.id, .int .i64 f.fr, .int .i64 f.tn, .int .i64 f.pe, .int .i64 f.ph, .int .i64 f.dl], .int .i64 fr, .int .i64 x, .int .i64 y] w fun e w' => e = .returned (.int .i64 (deliv r.dl f.id fr x y)) ∧ Below w.heap.size w w' := by
  obtain ⟨N, hN⟩ : ∃ N, N = w.heap.size := ⟨_, rfl⟩
  obtain ⟨na, hna⟩ : ∃ n, n = r.al.length := ⟨_, rfl⟩
  obtain ⟨nd, hnd⟩ : ∃ n, n = r.dl.length := ⟨_, rfl⟩
  obtain ⟨slots, hsl⟩ : ∃ s, s = r.slots := ⟨_, rfl⟩
  obtain ⟨T, hT⟩ : ∃ T, T = deliv r.dl f.id fr x y := ⟨_, rfl⟩
  obtain ⟨W1, hW1⟩ : ∃ W1, W1 = (w.alloc (.cells #[.int .i64 slots, .slice A na ca, .slice D nd cd] 28)).alloc (.cells #[.int .i64 f.id, .int .i64 f.fr, .int .i64 f.tn, .int .i64 f.pe, .int .i64 f.ph, .int .i64 f.dl] 37) := ⟨_, rfl⟩
  have hb1 : Below N w W1 := by rw [hW1, hN]; exact ((Below.refl _ _).alloc (Nat.le_refl _) _).alloc (by simp) _
  have bR : Blk W1 N 28 [.int .i64 slots, .slice A na ca, .slice D nd cd] := by rw [hW1]; exact Blk.alloc (Blk.new2 _ [.int .i64 slots, .slice A na ca, .slice D nd cd] hN) _
  have bF : Blk W1 (N + 1) 37 [.int .i64 f.id, .int .i64 f.fr, .int .i64 f.tn, .int .i64 f.pe, .int .i64 f.ph, .int .i64 f.dl] := by rw [hW1]; exact Blk.new2 _ [.int .i64 f.id, .int .i64 f.fr, .int .i64 f.tn, .int .i64 f.pe, .int .i64 f.ph, .int .i64 f.dl] (by simp [hN])
  have HW := Lib.hid (fun W (h' : Below W1.heap.size W1 W) => (show Below w.heap.size w W ∧ Row W N [.int .i64 slots, .slice A na ca, .slice D nd cd] ∧ Row W (N + 1) [.int .i64 f.id, .int .i64 f.fr, .int .i64 f.tn, .int .i64 f.pe, .int .i64 f.ph, .int .i64 f.dl] ∧ LiesD W W.heap.size D r.dl from by
    have hB : Below w.heap.size w W := by rw [← hN]; exact hb1.trans (h'.mono (by have := bR.lt; omega))
    exact ⟨hB, (bR.below h' bR.lt).row, (bF.below h' bF.lt).row, (hD.below hB).more hB.size⟩))
  rw [← hT, ← hna, ← hnd, ← hsl]
  rw [← hnd] at hld
  have HT := Lib.hid (show T = deliv (r.dl.drop 0) f.id fr x y from hT)
  have HNd := Lib.hid hnd
  have HW1 := Lib.hid hW1
  have HN := Lib.hid hN
  have hNlt : N + 1 < W1.heap.size := bF.lt
  clear hD hT hna hnd hsl hN hW1 hb1 bR bF
  go_enter Try.func48, Try.ntmps48
  go_wp2_with fail
  rw [← HW1.out, ← HN.out]
  go_loopw [11] (fun i wr => ∃ (k : Nat), k ≤ nd ∧ i = .int .i64 k ∧ Below W1.heap.size W1 wr ∧ Hid (T = deliv (r.dl.drop k) f.id fr x y)) (fun i _ => nd - (intOf i).toNat)
  case atStart => exact ⟨0, by omega, rfl, Below.refl _ _, HT⟩
  case round =>
    clear HT
    obtain ⟨k, hk, rfl, hb, HTk⟩ := hrel
    by_cases hlt : k < nd
    · obtain ⟨d, hdk⟩ := get_of_lt (l := r.dl) (k := k) (by rw [← HNd.out]; exact hlt)
      have r1 := (HW.out _ hb).2.1
      obtain ⟨ab, aoff, rfl, haB, hcs⟩ := (HW.out _ hb).2.2.2.at_ hdk
      obtain ⟨c0, c1, c2⟩ := hcs k d hdk
      have HT' : Hid (T = if (d.fl == f.id && d.fr == fr && decide (x ≤ d.sl) && decide (d.sl ≤ y)) = true then d.sl else deliv (r.dl.drop (k + 1)) f.id fr x y) := Lib.hid (by rw [HTk.out, drop_of_get hdk, deliv_cons])
      unfold Row at r1
      clear hcs hdk HTk
      go_upto_region 5 with fail
      clear c0 c1 c2 r1
      obtain ⟨X, hX⟩ : ∃ X, X = wr.heap.size := ⟨_, rfl⟩
      generalize hWa : World.alloc _ _ = Wa
      have b1 : Blk Wa X 54 [.int .i64 d.fl, .int .i64 d.fr, .int .i64 d.sl] := by rw [← hWa]; exact Blk.new2 _ [.int .i64 d.fl, .int .i64 d.fr, .int .i64 d.sl] hX
      have hba : Below W1.heap.size W1 Wa := by rw [← hWa]; exact hb.alloc hb.size _
      rw [← hX]
      clear hWa hX hb
      have r1 := (HW.out _ hba).2.1
      have r2 := (HW.out _ hba).2.2.1
      have r3 := b1.row
      unfold Row at r1 r2 r3
      clear b1
      by_cases h1 : d.fl = f.id
      case neg =>
        have e1 : (d.fl == f.id) = false := by simpa using h1
        have HN2 : Hid (T = deliv (r.dl.drop (k + 1)) f.id fr x y) := Lib.hid (by rw [HT'.out, if_neg (by simp only [Bool.and_eq_true, beq_iff_eq, decide_eq_true_eq]; omega)])
        clear HT'
        go_wp2_with fail
        go_roundw
        case rel => exact ⟨k + 1, by omega, by go_num, hba, HN2⟩
        case measure => simp [intOf]; omega
      have e1 : (d.fl == f.id) = true := by simpa using h1
      by_cases h2 : d.fr = fr
      case neg =>
        have e2 : (d.fr == fr) = false := by simpa using h2
        have HN2 : Hid (T = deliv (r.dl.drop (k + 1)) f.id fr x y) := Lib.hid (by rw [HT'.out, if_neg (by simp only [Bool.and_eq_true, beq_iff_eq, decide_eq_true_eq]; omega)])
        clear HT'
        go_wp2_with fail
        go_roundw
        case rel => exact ⟨k + 1, by omega, by go_num, hba, HN2⟩
        case measure => simp [intOf]; omega
      have e2 : (d.fr == fr) = true := by simpa using h2
      by_cases h3 : x ≤ d.sl
      case neg =>
        have e3 : decide (x ≤ d.sl) = false := by simpa using h3
        have HN2 : Hid (T = deliv (r.dl.drop (k + 1)) f.id fr x y) := Lib.hid (by rw [HT'.out, if_neg (by simp only [Bool.and_eq_true, beq_iff_eq, decide_eq_true_eq]; omega)])
        clear HT'
        go_wp2_with fail
        go_roundw
        case rel => exact ⟨k + 1, by omega, by go_num, hba, HN2⟩
        case measure => simp [intOf]; omega
      have e3 : decide (x ≤ d.sl) = true := by simpa using h3
      by_cases h4 : d.sl ≤ y
      case neg =>
        have e4 : decide (d.sl ≤ y) = false := by simpa using h4
        have HN2 : Hid (T = deliv (r.dl.drop (k + 1)) f.id fr x y) := Lib.hid (by rw [HT'.out, if_neg (by simp only [Bool.and_eq_true, beq_iff_eq, decide_eq_true_eq]; omega)])
        clear HT'
        go_wp2_with fail
        go_roundw
        case rel => exact ⟨k + 1, by omega, by go_num, hba, HN2⟩
        case measure => simp [intOf]; omega
      have e4 : decide (d.sl ≤ y) = true := by simpa using h4
      have hf : Hid (T = d.sl) := Lib.hid (by rw [HT'.out, if_pos (by simp only [Bool.and_eq_true, beq_iff_eq, decide_eq_true_eq]; omega)])
      clear HT'
      go_wp2_with fail
      go_ret
      exact ⟨ret_int (by rw [hf.out]), (HW.out _ hba).1⟩
    · have hf : Hid (T = -1) := Lib.hid (by rw [HTk.out, List.drop_of_length_le (by rw [← HNd.out]; omega)]; rfl)
      have r1 := (HW.out _ hb).2.1
      unfold Row at r1
      go_wp2_with fail
      go_ret
      exact ⟨ret_int (by rw [hf.out]), (HW.out _ hb).1⟩
end Go.Proofs.Ytkdigdnacggknaa
/- Walk: the reference of Late. -/
namespace Go.Proofs.Ytkdigdnacggknaa
open Go.RowKit
open Nd Rc Mo

theorem Calls.ext_below {P : Program} {g : FuncId} {args : Array Value} {w : World} {B : Nat} {x : ExtW B w} {v : Value}
    (h : Calls P g args x.val fun e w' => e = .returned v ∧ Below x.val.heap.size x.val w') (hB : B ≤ w.heap.size) : Calls P g args x.val fun e w'' => e = .returned v ∧ ∃ y : ExtW B w, w'' = y.val :=
  h.mono fun _ w2 ⟨he, hb⟩ => ⟨he, ⟨w2, x.below.trans (hb.mono (Nat.le_trans hB x.below.size))⟩, rfl⟩
theorem lateN_ref {f : Fl} {dl : List Dlv} (hd : ∀ d ∈ dl, 0 ≤ d.sl) (n : Nat) : lateN f dl n = if deliv dl f.id n (rel f n) (rel f n + f.dl - 1) < 0 then [⟨f.id, n, deliv dl f.id n (rel f n + f.dl) (rel f n + f.pe - 1)⟩] else [] := by
  unfold lateN
  rw [arrival_eq hd n]
  split <;> simp

set_option maxRecDepth 100000 in
set_option maxHeartbeats 4000000 in
theorem rlate_any (fs : List Fl) (r : Rec) (F A D : Option Addr) (cf ca cd : Nat) (w : World) (hF : Lies w w.heap.size 6 F (fs.map Fl.row)) (hf : fs.length ≤ 1000000) (hA : LiesA w w.heap.size A r.al) (hD : LiesD w w.heap.size D r.dl) (hla : r.al.length ≤ 1000000) (hld : r.dl.length ≤ 1000000) :
    Calls Try.prog 14 #[.slice F fs.length cf, .agg #[.int .i64 r.slots, .slice A r.al.length ca, .slice D r.dl.length cd]] w fun e w' => Below w.heap.size w w' ∧ ∃ v, e = .returned (.tuple #[v, .int .i64 (late fs r).2]) ∧ w'.ownsRow w.heap.size 68 3 v (late fs r).1.length ((late fs r).1.flatMap Lt.row) := by
  obtain ⟨i0, hi, hz0, hz1, hz2⟩ := info_parts Try.infoL
  obtain ⟨N, hN⟩ : ∃ N, N = w.heap.size := ⟨_, rfl⟩
  obtain ⟨na, hna⟩ : ∃ n, n = r.al.length := ⟨_, rfl⟩
  obtain ⟨nd, hnd⟩ : ∃ n, n = r.dl.length := ⟨_, rfl⟩
  obtain ⟨m, hm⟩ : ∃ m, m = fs.length := ⟨_, rfl⟩
  obtain ⟨slots, hsl⟩ : ∃ s, s = r.slots := ⟨_, rfl⟩
  obtain ⟨W1, hW1⟩ : ∃ W1, W1 = w.alloc (.cells #[.int .i64 slots, .slice A na ca, .slice D nd cd] 28) := ⟨_, rfl⟩
  have hb1 : Below N w W1 := by rw [hW1, hN]; exact (Below.refl _ _).alloc (Nat.le_refl _) _
  have bR : Blk W1 N 28 [.int .i64 slots, .slice A na ca, .slice D nd cd] := by rw [hW1]; exact Blk.new2 _ [.int .i64 slots, .slice A na ca, .slice D nd cd] hN
  have HW := Lib.hid (fun W (h' : Below W1.heap.size W1 W) => (show Below w.heap.size w W ∧ Row W N [.int .i64 slots, .slice A na ca, .slice D nd cd] from ⟨by rw [← hN]; exact hb1.trans (h'.mono (by have := bR.lt; omega)), (bR.below h' bR.lt).row⟩))
  have HF := Lib.hid (fun W (h' : Below W1.heap.size W1 W) => Lies.later hF (HW.out W h').1)
  have HRt := Lib.hid (rfchk_any fs r F A D cf ca cd W1 (HF.out _ (Below.refl _ _)) hf ((hA.below (HW.out _ (Below.refl _ _)).1).more (HW.out _ (Below.refl _ _)).1.size) ((hD.below (HW.out _ (Below.refl _ _)).1).more (HW.out _ (Below.refl _ _)).1.size) hla hld)
  have HDv := Lib.hid (fun (f : Fl) (n : Int) (x y : Int) W (h' : Below W1.heap.size W1 W) => deliv_any r f n x y A D ca cd W ((hD.below (HW.out W h').1).more (HW.out W h').1.size) hld)
  rw [← hna, ← hnd, ← hsl] at HRt HDv ⊢
  rw [← hm] at HRt ⊢
  obtain ⟨E, hE⟩ : ∃ E : Int, E = if right fs r = true then 0 else 1 := ⟨_, rfl⟩
  have HE : Hid ((right fs r = true ∧ E = 0) ∨ (right fs r = false ∧ E = 1)) := Lib.hid (by rw [hE]; cases right fs r <;> simp)
  rw [← hE] at HRt
  have HM := Lib.hid hm
  have HSl := Lib.hid hsl
  have HW1 := Lib.hid hW1
  have HN := Lib.hid hN
  have hNlt : N < W1.heap.size := bR.lt
  have r1 := (HW.out _ (Below.refl _ _)).2
  unfold Row at r1
  clear hF hA hD hna hnd hm hsl hb1 bR hN hf hla hld hE
  subst hW1
  go_enter Try.func14, Try.ntmps14
  clear r1
  go_wp2_with fail
  rw [← HN.out]
  refine HRt.out.mono ?_
  rintro e w2 ⟨rfl, hb2⟩
  clear HRt
  rcases HE.out with ⟨hr, rfl⟩ | ⟨hr, rfl⟩
  case inr =>
    have hl : Hid (late fs r = ([], 1)) := Lib.hid (by unfold late; rw [hr]; rfl)
    clear hr HE
    go_wp2_with fail
    go_ret2
    exact ⟨(HW.out _ hb2).1, _, by rw [hl.out]; rfl, by rw [hl.out]; exact World.ownsRow_nil _ _ _ _⟩
  have hl : Hid (late fs r = (fs.flatMap (fun f => lateF f r), 0)) := Lib.hid (by unfold late; rw [if_pos hr])
  obtain ⟨hc, hg⟩ := right_inv hr
  obtain ⟨hfa, _, hm16⟩ := chkF_ok hc
  obtain ⟨hs0, hs1⟩ := good_slots hg
  have HFa := Lib.hid hfa
  have HLn := Lib.hid (fun (f : Fl) (n : Nat) => @lateN_ref f r.dl (fun d hd => (good_dlv hg hd).1) n)
  rw [← HSl.out] at hs0 hs1
  have hm16' : m ≤ 16 := by rw [HM.out]; exact hm16
  have HX := Lib.hid (fun W (h' : Below w2.heap.size w2 W) => (show Below w.heap.size w W ∧ Row W N [.int .i64 slots, .slice A na ca, .slice D nd cd] ∧ Lies W W.heap.size 6 F (fs.map Fl.row) from ⟨(HW.out _ (hb2.trans (h'.mono hb2.size))).1, (HW.out _ (hb2.trans (h'.mono hb2.size))).2, HF.out _ (hb2.trans (h'.mono hb2.size))⟩))
  have HDv2 := Lib.hid (fun (f : Fl) (n : Int) (x y : Int) W (h' : Below w2.heap.size w2 W) => HDv.out f n x y W (hb2.trans (h'.mono hb2.size)))
  have hMN : N < w2.heap.size := Nat.lt_of_lt_of_le hNlt hb2.size
  clear hc hg hfa hr hm16 HE hb2 HW HF HW1 HDv
  go_wp2_with fail
  go_loopw [7, 8] (fun s7 i wr => ∃ (k : Nat) (v : Value), v = s7 ∧ k ≤ m ∧ i = .int .i64 k ∧ Below w2.heap.size w2 wr ∧ Hid (wr.ownsRow w2.heap.size 68 3 v ((fs.take k).flatMap (fun f => lateF f r)).length (((fs.take k).flatMap (fun f => lateF f r)).flatMap Lt.row))) (fun _ i _ => m - (intOf i).toNat)
  case atStart => exact ⟨0, _, rfl, by omega, rfl, Below.refl _ _, Lib.hid (World.ownsRow_nil _ _ _ _)⟩
  case round =>
    obtain ⟨k, v, rfl, hk, rfl, hb, HO⟩ := hrel
    by_cases hlt : k < m
    · obtain ⟨f, hfk⟩ := get_of_lt (l := fs) (k := k) (by rw [← HM.out]; exact hlt)
      have hff := HFa.out f (List.mem_of_getElem? hfk)
      obtain ⟨fb, foff, rfl, hfB, hcs⟩ := (HX.out _ hb).2.2.at_ hfk
      have c0 := hcs k f hfk 0 _ rfl
      have c1 := hcs k f hfk 1 _ rfl
      have c2 := hcs k f hfk 2 _ rfl
      have c3 := hcs k f hfk 3 _ rfl
      have c4 := hcs k f hfk 4 _ rfl
      have c5 := hcs k f hfk 5 _ rfl
      simp only [Nat.add_zero] at c0 c1 c2 c3 c4 c5
      have HFk := Lib.hid hfk
      clear hcs
      go_upto_region 9 with fail
      clear c0 c1 c2 c3 c4 c5 hfk
      obtain ⟨X, hX⟩ : ∃ X, X = wr.heap.size := ⟨_, rfl⟩
      generalize hWa : World.alloc _ _ = Wa
      have bX : Blk Wa X 37 [.int .i64 f.id, .int .i64 f.fr, .int .i64 f.tn, .int .i64 f.pe, .int .i64 f.ph, .int .i64 f.dl] := by rw [← hWa]; exact Blk.new2 _ [.int .i64 f.id, .int .i64 f.fr, .int .i64 f.tn, .int .i64 f.pe, .int .i64 f.ph, .int .i64 f.dl] hX
      have hba : Below w2.heap.size w2 Wa := by rw [← hWa]; exact hb.alloc hb.size _
      have HO4 : Hid (Wa.ownsRow w2.heap.size 68 3 v (lateQ fs r k f 0).length ((lateQ fs r k f 0).flatMap Lt.row)) := Lib.hid (by rw [← hWa]; have := HO.out.alloc (.cells #[.int .i64 f.id, .int .i64 f.fr, .int .i64 f.tn, .int .i64 f.pe, .int .i64 f.ph, .int .i64 f.dl] 37); unfold lateQ; simpa using this)
      rw [← hX]
      clear hWa hX HO hb
      have HX4 := Lib.hid bX
      have hcb := complete_bounds hff hs1
      obtain ⟨cn, hcn⟩ : ∃ cn : Nat, complete f slots = (cn : Int) := ⟨(complete f slots).toNat, by omega⟩
      have HCN : Hid (cn = (complete f r.slots).toNat) := Lib.hid (by rw [← HSl.out, hcn]; rfl)
      have hcn4 : cn ≤ 4096 := by omega
      have HCi := Lib.hid (fun n : Nat => (complete_iff hff slots n).trans (by rw [hcn]; rfl : n < (complete f slots).toNat ↔ n < cn))
      have HQl : Hid (∀ n, n ≤ 4096 → (lateQ fs r k f n).length ≤ 100000) := Lib.hid (fun n hn => by
        unfold lateQ
        rw [List.length_append]
        have h1 := late_len (r := r) (by rw [← HSl.out]; exact hs1) (fs.take k) (fun g hg => HFa.out g (List.mem_of_mem_take hg))
        have h2 := range_len f r.dl n
        have h3 := List.length_take_le k fs
        rw [List.length_take] at h1
        have h4 : min k fs.length ≤ 16 := by omega
        omega)
      have HRl := Lib.hid (fun (n : Nat) (hn : n ≤ 4096) W => rrel_any f n hff (by omega) (by omega) W)
      have HRb : Hid (∀ n : Nat, n ≤ 4096 → 0 ≤ rel f n ∧ rel f n ≤ 10000000) := Lib.hid (fun n hn => by
        obtain ⟨_, _, _, hp, hq, hdl, _⟩ := fault_zero hff
        have hm0 : 0 ≤ (n : Int) * f.pe := Int.mul_nonneg (by omega) (by omega)
        have hm1 : (n : Int) * f.pe ≤ 4096 * f.pe := Int.mul_le_mul_of_nonneg_right (by omega) (by omega)
        unfold rel
        omega)
      have hfb : 0 ≤ f.dl ∧ f.dl ≤ 1000000 ∧ 0 ≤ f.pe ∧ f.pe ≤ 1000000 := by
        obtain ⟨_, _, _, hp, hq, hdl, _⟩ := fault_zero hff
        omega
      clear hcb hcn bX hff
      go_wp2_with fail
      go_loopw [7, 10] (fun s7 j wr => ∃ (n : Nat) (v : Value), v = s7 ∧ n ≤ cn ∧ j = .int .i64 n ∧ Below w2.heap.size w2 wr ∧ Hid (Blk wr X 37 [.int .i64 f.id, .int .i64 f.fr, .int .i64 f.tn, .int .i64 f.pe, .int .i64 f.ph, .int .i64 f.dl]) ∧ Hid (wr.ownsRow w2.heap.size 68 3 v (lateQ fs r k f n).length ((lateQ fs r k f n).flatMap Lt.row))) (fun _ j _ => cn - (intOf j).toNat)
      case atStart => exact ⟨0, _, rfl, by omega, rfl, hba, HX4, HO4⟩
      case round =>
        clear HX4 HO4 hba
        obtain ⟨n, v2, rfl, hn, rfl, hb, HXb, HO⟩ := hrel
        have hn4 : n ≤ 4096 := by omega
        obtain ⟨R, hR⟩ : ∃ R, R = rel f n := ⟨_, rfl⟩
        have Con := Lib.hid (HRl.out n hn4)
        have hRb := HRb.out n hn4
        have HCn := Lib.hid (HCi.out n)
        have HLn2 := Lib.hid (HLn.out f n)
        rw [← hR] at Con hRb HCn HLn2
        clear hR
        have hw1 : IntKind.i64.wrap (R + f.dl) = R + f.dl := by rw [IntKind.wrap_i64]; omega
        have hw2 : IntKind.i64.wrap (R + f.dl - 1) = R + f.dl - 1 := by rw [IntKind.wrap_i64]; omega
        have hw3 : IntKind.i64.wrap (R + f.pe) = R + f.pe := by rw [IntKind.wrap_i64]; omega
        have hw4 : IntKind.i64.wrap (R + f.pe - 1) = R + f.pe - 1 := by rw [IntKind.wrap_i64]; omega
        have xY := HXb.out.row.ext (B := wr.heap.size) HXb.out.lt
        have xN := (show Row wr N [.int .i64 slots, .slice A na ca, .slice D nd cd] from (HX.out _ hb).2.1).ext (B := wr.heap.size) (Nat.lt_of_lt_of_le hMN hb.size)
        go_upto_region 10 with fail
        refine wp_region_ext wr.heap.size (by kernel_rfl) (by kernel_rfl) ?_
        repeat (go_big_quiet_step ((go_at_call 47; exact Calls.ext_below (Con.out _) (Nat.le_refl _))))
        refine wpQuiet_nil ?_
        rintro w3 ⟨x, hw3⟩
        have hx3 : Below wr.heap.size wr w3 := by rw [hw3]; exact x.below
        clear hw3 x
        have hB3 : Below w2.heap.size w2 w3 := hb.trans (hx3.mono hb.size)
        have HX3 : Hid (Blk w3 X 37 [.int .i64 f.id, .int .i64 f.fr, .int .i64 f.tn, .int .i64 f.pe, .int .i64 f.ph, .int .i64 f.dl]) := Lib.hid (HXb.out.below hx3 HXb.out.lt)
        have HO3 : Hid (w3.ownsRow w2.heap.size 68 3 v2 (lateQ fs r k f n).length ((lateQ fs r k f n).flatMap Lt.row)) := Lib.hid (own_below HO.out hx3 (Nat.le_refl _))
        clear HO HXb hx3 hb xY xN
        by_cases hlt2 : n < cn
        · have d0 : decide (R + f.dl ≤ slots) = true := decide_eq_true (HCn.out.2 hlt2)
          rw [d0]
          obtain ⟨D1, hD1⟩ : ∃ D1, D1 = deliv r.dl f.id n R (R + f.dl - 1) := ⟨_, rfl⟩
          obtain ⟨D2, hD2⟩ : ∃ D2, D2 = deliv r.dl f.id n (R + f.dl) (R + f.pe - 1) := ⟨_, rfl⟩
          have C1 := Lib.hid (HDv2.out f n R (R + f.dl - 1))
          have C2 := Lib.hid (HDv2.out f n (R + f.dl) (R + f.pe - 1))
          rw [← hD1] at C1 HLn2
          rw [← hD2] at C2 HLn2
          have r3 := HX3.out.row
          unfold Row at r3
          clear hD1 hD2
          go_wp2_with fail
          refine (Con.out _).mono ?_
          rintro e w4 ⟨rfl, hb4⟩
          have hB4 : Below w2.heap.size w2 w4 := hB3.trans (hb4.mono hB3.size)
          have HX4 : Hid (Blk w4 X 37 [.int .i64 f.id, .int .i64 f.fr, .int .i64 f.tn, .int .i64 f.pe, .int .i64 f.ph, .int .i64 f.dl]) := Lib.hid (HX3.out.below hb4 HX3.out.lt)
          have HO4 : Hid (w4.ownsRow w2.heap.size 68 3 v2 (lateQ fs r k f n).length ((lateQ fs r k f n).flatMap Lt.row)) := Lib.hid (own_below HO3.out hb4 (Nat.le_refl _))
          clear HO3 HX3 hb4 r3 d0 Con hB3
          have r4 := HX4.out.row
          have n4 := (HX.out _ hB4).2.1
          unfold Row at r4 n4
          go_wp2_with fail
          refine (C1.out _ hB4).mono ?_
          rintro e w5 ⟨rfl, hb5⟩
          have hB5 : Below w2.heap.size w2 w5 := hB4.trans (hb5.mono hB4.size)
          have HX5 : Hid (Blk w5 X 37 [.int .i64 f.id, .int .i64 f.fr, .int .i64 f.tn, .int .i64 f.pe, .int .i64 f.ph, .int .i64 f.dl]) := Lib.hid (HX4.out.below hb5 HX4.out.lt)
          have HO5 : Hid (w5.ownsRow w2.heap.size 68 3 v2 (lateQ fs r k f n).length ((lateQ fs r k f n).flatMap Lt.row)) := Lib.hid (own_below HO4.out hb5 (Nat.le_refl _))
          clear HO4 HX4 hb5 r4 n4 C1 hB4
          by_cases hD : D1 < 0
          · have d1 : decide (D1 < 0) = true := decide_eq_true hD
            have hQ : Hid (lateQ fs r k f (n + 1) = lateQ fs r k f n ++ [⟨f.id, n, D2⟩]) := Lib.hid (by rw [lateQ_succ, HLn2.out, if_pos hD])
            obtain ⟨wd, hwd⟩ : ∃ wd, wd = w5.drew := ⟨_, rfl⟩
            have hbd : Below w5.heap.size w5 wd := by rw [hwd]; exact (Below.refl _ _).drew
            have HDZ : Hid (w5.heap.size = wd.heap.size) := Lib.hid (by rw [hwd]; rfl)
            have hBd : Below w2.heap.size w2 wd := hB5.trans (hbd.mono hB5.size)
            have HXd : Hid (Blk wd X 37 [.int .i64 f.id, .int .i64 f.fr, .int .i64 f.tn, .int .i64 f.pe, .int .i64 f.ph, .int .i64 f.dl]) := Lib.hid (HX5.out.below hbd HX5.out.lt)
            have HOd : Hid (wd.ownsRow w2.heap.size 68 3 v2 (lateQ fs r k f n).length ((lateQ fs r k f n).flatMap Lt.row)) := Lib.hid (own_below HO5.out hbd (Nat.le_refl _))
            have xY := HXd.out.row.ext (B := w5.heap.size) HX5.out.lt
            have xN := (show Row wd N [.int .i64 slots, .slice A na ca, .slice D nd cd] from (HX.out _ hBd).2.1).ext (B := w5.heap.size) (Nat.lt_of_lt_of_le hMN hB5.size)
            clear hbd
            go_upto_region 14 with fail
            refine wp_region_mixT (w5.heap.size) 19 2 #[false, false, false, false, false, false, false, false, false, false, false, false, false, false, false, false, false, false, false, false, false] (by kernel_rfl) rfl rfl ?_
            rw [← hwd]
            clear hwd
            refine anyT_take 0 _ (nth0) rfl (by kernel_rfl) (by kernel_rfl) (by kernel_rfl) (by kernel_rfl) (l' := #[true, false, false, false, false, false, false, false, false, false, false, false, false, false, false, false, false, false, false, false, false]) rfl rfl ?_; intro K hK; go_big_quiet_op; go_big_quiet_on
            refine anyT_take 1 _ (nthS (nth0)) rfl (by kernel_rfl) (by kernel_rfl) (by kernel_rfl) (by kernel_rfl) (l' := #[true, true, false, false, false, false, false, false, false, false, false, false, false, false, false, false, false, false, false, false, false]) rfl rfl ?_; intro K hK; go_big_quiet_op; go_big_quiet_on
            refine anyT_take 2 _ (nthS (nthS (nth0))) rfl (by kernel_rfl) (by kernel_rfl) (by kernel_rfl) (by kernel_rfl) (l' := #[true, true, true, false, false, false, false, false, false, false, false, false, false, false, false, false, false, false, false, false, false]) rfl rfl ?_; intro K hK; go_big_quiet_op; go_big_quiet_on
            refine anyT_take 3 _ (nthS (nthS (nthS (nth0)))) rfl (by kernel_rfl) (by kernel_rfl) (by kernel_rfl) (by kernel_rfl) (l' := #[true, true, true, true, false, false, false, false, false, false, false, false, false, false, false, false, false, false, false, false, false]) rfl rfl ?_; intro K hK; go_big_quiet_op; go_big_quiet_on
            refine anyT_take 4 _ (nthS (nthS (nthS (nthS (nth0))))) rfl (by kernel_rfl) (by kernel_rfl) (by kernel_rfl) (by kernel_rfl) (l' := #[true, true, true, true, true, false, false, false, false, false, false, false, false, false, false, false, false, false, false, false, false]) rfl rfl ?_; intro K hK; go_big_quiet_op; go_big_quiet_on
            refine anyT_take 5 _ (nthS (nthS (nthS (nthS (nthS (nth0)))))) rfl (by kernel_rfl) (by kernel_rfl) (by kernel_rfl) (by kernel_rfl) (l' := #[true, true, true, true, true, true, false, false, false, false, false, false, false, false, false, false, false, false, false, false, false]) rfl rfl ?_; intro K hK; go_big_quiet_op; go_big_quiet_on
            refine anyT_take 6 _ (nthS (nthS (nthS (nthS (nthS (nthS (nth0))))))) rfl (by kernel_rfl) (by kernel_rfl) (by kernel_rfl) (by kernel_rfl) (l' := #[true, true, true, true, true, true, true, false, false, false, false, false, false, false, false, false, false, false, false, false, false]) rfl rfl ?_; intro K hK; go_big_quiet_op; go_big_quiet_on
            refine anyT_take 7 _ (nthS (nthS (nthS (nthS (nthS (nthS (nthS (nth0)))))))) rfl (by kernel_rfl) (by kernel_rfl) (by kernel_rfl) (by kernel_rfl) (l' := #[true, true, true, true, true, true, true, true, false, false, false, false, false, false, false, false, false, false, false, false, false]) rfl rfl ?_; intro K hK; go_big_quiet_op; go_big_quiet_on
            refine anyT_take 8 _ (nthS (nthS (nthS (nthS (nthS (nthS (nthS (nthS (nth0))))))))) rfl (by kernel_rfl) (by kernel_rfl) (by kernel_rfl) (by kernel_rfl) (l' := #[true, true, true, true, true, true, true, true, true, false, false, false, false, false, false, false, false, false, false, false, false]) rfl rfl ?_; intro K hK; go_big_quiet_op; go_big_quiet_on
            refine anyT_take 9 _ (nthS (nthS (nthS (nthS (nthS (nthS (nthS (nthS (nthS (nth0)))))))))) rfl (by kernel_rfl) (by kernel_rfl) (by kernel_rfl) (by kernel_rfl) (l' := #[true, true, true, true, true, true, true, true, true, true, false, false, false, false, false, false, false, false, false, false, false]) rfl rfl ?_; intro K hK; go_big_quiet_op; go_big_quiet_on
            refine anyT_take 10 _ (nthS (nthS (nthS (nthS (nthS (nthS (nthS (nthS (nthS (nthS (nth0))))))))))) rfl (by kernel_rfl) (by kernel_rfl) (by kernel_rfl) (by kernel_rfl) (l' := #[true, true, true, true, true, true, true, true, true, true, true, false, false, false, false, false, false, false, false, false, false]) rfl rfl ?_; intro K hK; go_big_quiet_op; go_big_quiet_on
            refine anyT_take 11 _ (nthS (nthS (nthS (nthS (nthS (nthS (nthS (nthS (nthS (nthS (nthS (nth0)))))))))))) rfl (by kernel_rfl) (by kernel_rfl) (by kernel_rfl) (by kernel_rfl) (l' := #[true, true, true, true, true, true, true, true, true, true, true, true, false, false, false, false, false, false, false, false, false]) rfl rfl ?_; intro K hK; go_big_quiet_op; go_big_quiet_on
            refine anyT_take 12 _ (nthS (nthS (nthS (nthS (nthS (nthS (nthS (nthS (nthS (nthS (nthS (nthS (nth0))))))))))))) rfl (by kernel_rfl) (by kernel_rfl) (by kernel_rfl) (by kernel_rfl) (l' := #[true, true, true, true, true, true, true, true, true, true, true, true, true, false, false, false, false, false, false, false, false]) rfl rfl ?_; intro K hK; go_big_quiet_op; go_big_quiet_on
            refine anyT_take 13 _ (nthS (nthS (nthS (nthS (nthS (nthS (nthS (nthS (nthS (nthS (nthS (nthS (nthS (nth0)))))))))))))) rfl (by kernel_rfl) (by kernel_rfl) (by kernel_rfl) (by kernel_rfl) (l' := #[true, true, true, true, true, true, true, true, true, true, true, true, true, true, false, false, false, false, false, false, false]) rfl rfl ?_; intro K hK; go_big_quiet_op; go_big_quiet_on
            refine anyT_take 14 _ (nthS (nthS (nthS (nthS (nthS (nthS (nthS (nthS (nthS (nthS (nthS (nthS (nthS (nthS (nth0))))))))))))))) rfl (by kernel_rfl) (by kernel_rfl) (by kernel_rfl) (by kernel_rfl) (l' := #[true, true, true, true, true, true, true, true, true, true, true, true, true, true, true, false, false, false, false, false, false]) rfl rfl ?_; intro K hK; go_big_quiet_op; go_big_quiet_on
            refine anyT_take 15 _ (nthS (nthS (nthS (nthS (nthS (nthS (nthS (nthS (nthS (nthS (nthS (nthS (nthS (nthS (nthS (nth0)))))))))))))))) rfl (by kernel_rfl) (by kernel_rfl) (by kernel_rfl) (by kernel_rfl) (l' := #[true, true, true, true, true, true, true, true, true, true, true, true, true, true, true, true, false, false, false, false, false]) rfl rfl ?_; intro K hK; go_big_quiet_op; go_big_quiet_on
            refine anyT_one 16 _ (nthS (nthS (nthS (nthS (nthS (nthS (nthS (nthS (nthS (nthS (nthS (nthS (nthS (nthS (nthS (nthS (nth0))))))))))))))))) (by kernel_rfl) (l' := #[true, true, true, true, true, true, true, true, true, true, true, true, true, true, true, true, true, false, false, false, false]) rfl (by kernel_rfl) ?_
            go_wp2_with fail
            refine (C2.out _ hBd).mono ?_
            rintro e w6 ⟨rfl, hb6⟩
            have hz6 : w5.heap.size ≤ w6.heap.size := by rw [HDZ.out]; exact hb6.size
            clear xY xN
            go_wp2_with fail
            refine OneT_mk (hb6.mono (Nat.le_of_eq HDZ.out)) ?_
            refine anyT_take 17 _ (nthS (nthS (nthS (nthS (nthS (nthS (nthS (nthS (nthS (nthS (nthS (nthS (nthS (nthS (nthS (nthS (nthS (nth0)))))))))))))))))) rfl (by kernel_rfl) (by kernel_rfl) (by kernel_rfl) (by kernel_rfl) (l' := #[true, true, true, true, true, true, true, true, true, true, true, true, true, true, true, true, true, true, false, false, false]) rfl rfl ?_; intro K hK; go_big_quiet_op; go_big_quiet_on
            refine anyT_one 18 _ (nthS (nthS (nthS (nthS (nthS (nthS (nthS (nthS (nthS (nthS (nthS (nthS (nthS (nthS (nthS (nthS (nthS (nthS (nth0))))))))))))))))))) (by kernel_rfl) (l' := #[true, true, true, true, true, true, true, true, true, true, true, true, true, true, true, true, true, true, true, false, false]) rfl (by kernel_rfl) ?_
            go_wp2_with fail
            refine OneT_mk ((Below.refl _ _).alloc hz6 _) ?_
            refine anyT_end (by kernel_rfl) ?_
            simp only [List.drop_succ_cons, List.drop_zero]
            have hB6 : Below w2.heap.size w2 w6 := hBd.trans (hb6.mono hBd.size)
            have HX6 : Hid (Blk w6 X 37 [.int .i64 f.id, .int .i64 f.fr, .int .i64 f.tn, .int .i64 f.pe, .int .i64 f.ph, .int .i64 f.dl]) := Lib.hid (HXd.out.below hb6 (by have := HXd.out.lt; omega))
            have HO6 : Hid (w6.ownsRow w2.heap.size 68 3 v2 (lateQ fs r k f n).length ((lateQ fs r k f n).flatMap Lt.row)) := Lib.hid (own_below HOd.out hb6 (Nat.le_refl _))
            clear HO5 HX5 HXd HOd hb6 hBd hB5 d1
            have hl5 := HQl.out n hn4
            go_wp2_with (at_builtin; refine wpList_append_own_at _ rfl (.tmp 53) (.tmp 71) 31 rfl w2.heap.size 68 i0 (.agg #[.int .i64 0, .int .i64 0, .int .i64 0]) 3 24 Try.underlying31 hi hz0 hz1 hz2 rfl (by decide) v2 _ _ rfl (HO6.out.alloc _) ⟨w6.heap.size, 0, none⟩ 1 1 [.int .i64 f.id, .int .i64 (n : Int), .int .i64 D2] rfl rfl ?e0 ?e1 ?e2 ?e3 ?e4 ?_)
            case e0 => exact (Blk.new2 68 [.int .i64 f.id, .int .i64 (n : Int), .int .i64 D2] rfl).news2
            case e1 => intro u hu; simp only [List.mem_cons, List.not_mem_nil, or_false] at hu; rcases hu with rfl | rfl | rfl <;> rfl
            case e2 => unfold maxLen; omega
            case e3 => omega
            case e4 => simp; have := hB6.size; omega
            intro v7 w7 ho7 hg7 hnil7 hat7
            clear hnil7 hat7
            have hB61 : Below w2.heap.size w2 (w6.alloc (.cells #[.int .i64 f.id, .int .i64 (n : Int), .int .i64 D2] 68)) := hB6.alloc hB6.size _
            have hB7 : Below w2.heap.size w2 w7 := hB61.grown hg7 hB61.size (fun j hj => (HO6.out.lt j hj).1)
            have HX7 : Hid (Blk w7 X 37 [.int .i64 f.id, .int .i64 f.fr, .int .i64 f.tn, .int .i64 f.pe, .int .i64 f.ph, .int .i64 f.dl]) := Lib.hid ((hg7.block X (by have := HX6.out.lt; simp; omega) (fun e => by have := own_type2 HO6.out e HX6.out; revert this; decide)).trans (HX6.out.alloc _))
            have HO7 : Hid (w7.ownsRow w2.heap.size 68 3 v7 (lateQ fs r k f (n + 1)).length ((lateQ fs r k f (n + 1)).flatMap Lt.row)) := Lib.hid (by rw [hQ.out]; simpa [Mo.Lt.row] using ho7)
            obtain ⟨A7, c7, hv7⟩ := own_form2 ho7
            clear ho7 hg7 hB61 hl5
            subst hv7
            go_wp2_with fail
            refine NoPanic.normal ?_
            go_wp2_with fail
            go_roundw
            case rel => exact ⟨n + 1, _, rfl, by omega, by go_num, hB7, HX7, HO7⟩
            case measure => simp [intOf]; omega
          · have d1 : decide (D1 < 0) = false := decide_eq_false hD
            have HO7 : Hid (w5.ownsRow w2.heap.size 68 3 v2 (lateQ fs r k f (n + 1)).length ((lateQ fs r k f (n + 1)).flatMap Lt.row)) := Lib.hid (by rw [lateQ_succ, HLn2.out, if_neg hD, List.append_nil]; exact HO5.out)
            go_wp2_with fail
            go_roundw
            case rel => exact ⟨n + 1, v2, rfl, by omega, by go_num, hB5, HX5, HO7⟩
            case measure => simp [intOf]; omega
        · have d0 : decide (R + f.dl ≤ slots) = false := decide_eq_false (fun h => hlt2 (HCn.out.1 h))
          rw [d0]
          have h1 : n = cn := by omega
          subst h1
          have HOn : Hid (w3.ownsRow w2.heap.size 68 3 v2 ((fs.take (k + 1)).flatMap (fun f => lateF f r)).length (((fs.take (k + 1)).flatMap (fun f => lateF f r)).flatMap Lt.row)) := Lib.hid (by rw [← lateQ_end HFk.out, ← HCN.out]; exact HO3.out)
          go_wp2_with fail
          go_roundw
          case rel => exact ⟨k + 1, v2, rfl, by omega, by go_num, hB3, HOn⟩
          case measure => simp [intOf]; omega
    · have h1 : k = m := by omega
      subst h1
      have hto : fs.take k = fs := List.take_of_length_le (by rw [← HM.out]; exact Nat.le_refl _)
      rw [hto] at HO
      obtain ⟨A7, c7, hv7⟩ := own_form2 HO.out
      subst hv7
      go_wp2_with fail
      go_ret2
      exact ⟨(HX.out _ hb).1, _, by rw [hl.out]; rfl, by rw [hl.out]; exact own_base HO.out (HX.out _ (Below.refl _ _)).1.size⟩
end Go.Proofs.Ytkdigdnacggknaa

import Derived.Test.YtkdigdnacggknaaZMon1
import Derived.Test.YtkdigdnacggknaaZMonM
/- Walks: the flows and the record are right; where a frame arrived; the slots of deliveries by frame. -/
namespace Go.Proofs.Ytkdigdnacggknaa
open Go.RowKit
open Nd Rc Mo

theorem Try.infoInt : (Try.prog.info? 3).map (fun i => (i.zero, i.size, i.bytes)) = some (some (.int .i64 0), 1, 8) := by kernel_rfl

set_option maxHeartbeats 1000000 in
theorem right_any (fs : List Fl) (r : Rec) (F A D : Option Addr) (cf ca cd : Nat) (w : World) (hF : Lies w w.heap.size 6 F (fs.map Fl.row)) (hf : fs.length ≤ 1000000) (hA : LiesA w w.heap.size A r.al) (hD : LiesD w w.heap.size D r.dl) (hla : r.al.length ≤ 1000000) (hld : r.dl.length ≤ 1000000) :
    Calls Try.prog 40 #[.slice F fs.length cf, .agg #[.int .i64 r.slots, .slice A r.al.length ca, .slice D r.dl.length cd]] w fun e w' => e = .returned (.bool (right fs r)) ∧ Below w.heap.size w w' := by
  obtain ⟨slots, al, dl⟩ := r
  dsimp only at *
  obtain ⟨na, hna⟩ : ∃ n, n = al.length := ⟨_, rfl⟩
  obtain ⟨nd, hnd⟩ : ∃ n, n = dl.length := ⟨_, rfl⟩
  obtain ⟨W1, hW1⟩ : ∃ W1, W1 = w.alloc (.cells #[.int .i64 slots, .slice A na ca, .slice D nd cd] 28) := ⟨_, rfl⟩
  have hb1 : Below w.heap.size w W1 := by rw [hW1]; exact (Below.refl _ _).alloc (Nat.le_refl _) _
  have bR : Blk W1 w.heap.size 28 [.int .i64 slots, .slice A na ca, .slice D nd cd] := by rw [hW1]; exact Blk.new2 _ [.int .i64 slots, .slice A na ca, .slice D nd cd] rfl
  have Con := Lib.hid (fCheck_any fs F cf W1 (Lies.later hF hb1) hf)
  have Con2 := Lib.hid (fun W (h' : Below W1.heap.size W1 W) => check_any ⟨slots, al, dl⟩ A D ca cd W ((hA.below hb1).more hb1.size |>.below h' |>.more h'.size) ((hD.below hb1).more hb1.size |>.below h' |>.more h'.size) (by dsimp only; omega) (by dsimp only; omega))
  have hT : right fs ⟨slots, al, dl⟩ = (decide ((chkF fs).2 = 0) && (checkE ⟨slots, al, dl⟩ == 0)) := by
    unfold right checkE
    cases good ⟨slots, al, dl⟩ <;> rfl
  rw [hT]
  generalize chkF fs = T at *
  generalize hE : checkE ⟨slots, al, dl⟩ = E at *
  dsimp only at Con2
  rw [← hna, ← hnd] at Con2 ⊢
  generalize fs.length = m at *
  have HR := Lib.hid (fun W (h' : Below W1.heap.size W1 W) => (bR.below h' bR.lt).row)
  have HB1 := Lib.hid hb1
  have hlt : w.heap.size < W1.heap.size := bR.lt
  clear hF hA hD hna hnd hT hE hb1 bR
  subst hW1
  go_enter Try.func40, Try.ntmps40
  go_wp2_with fail
  refine Con.out.mono ?_
  rintro e w2 ⟨rfl, hb2⟩
  have r2 := HR.out _ hb2
  unfold Row at r2
  have hfin := HB1.out.trans (hb2.mono HB1.out.size)
  have Con3 := Lib.hid (Con2.out _ hb2)
  by_cases hc : T.2 = 0
  · have e1 : (T.2 == 0) = true := by simpa using hc
    have e2 : decide (T.2 = 0) = true := decide_eq_true hc
    have E2 := Lib.hid e2
    clear hc e2 Con Con2 HR
    go_wp2_with (go_at_call 50; (with_reducible refine Con3.out.mono ?_); rintro e w3 ⟨rfl, hb3⟩)
    go_ret
    exact ⟨ret_bool (by rw [E2.out]; first | rfl | simp), hfin.trans (hb3.mono hfin.size)⟩
  · have e1 : (T.2 == 0) = false := by simpa using hc
    have e2 : decide (T.2 = 0) = false := decide_eq_false hc
    have E2 := Lib.hid e2
    clear hc e2 Con Con2 HR Con3
    go_wp2_with fail
    go_ret
    exact ⟨ret_bool (by rw [E2.out]; first | rfl | simp), hfin⟩

set_option maxRecDepth 100000 in
set_option maxHeartbeats 2000000 in
theorem arrival_any (f : Fl) (n : Int) (l : List Int) (A : Option Addr) (c : Nat) (w : World) (hf : fault f = 0) (h0 : 0 ≤ n) (h1 : n ≤ 1000000) (hA : LiesI w w.heap.size A l) (hl : l.length ≤ 1000000) :
    Calls Try.prog 43 #[.agg #[.int .i64 f.id, .int .i64 f.fr, .int .i64 f.tn, .int .i64 f.pe, .int .i64 f.ph, .int .i64 f.dl], .int .i64 n, .slice A l.length c] w fun e w' => e = .returned (.tuple #[.int .i64 (arrival f n l).1, .bool (arrival f n l).2]) ∧ Below w.heap.size w w' := by
  obtain ⟨W1, hW1⟩ : ∃ W1, W1 = w.alloc (.cells #[.int .i64 f.id, .int .i64 f.fr, .int .i64 f.tn, .int .i64 f.pe, .int .i64 f.ph, .int .i64 f.dl] 37) := ⟨_, rfl⟩
  have hb1 : Below w.heap.size w W1 := by rw [hW1]; exact (Below.refl _ _).alloc (Nat.le_refl _) _
  have bF : Blk W1 w.heap.size 37 [.int .i64 f.id, .int .i64 f.fr, .int .i64 f.tn, .int .i64 f.pe, .int .i64 f.ph, .int .i64 f.dl] := by rw [hW1]; exact Blk.new2 _ [.int .i64 f.id, .int .i64 f.fr, .int .i64 f.tn, .int .i64 f.pe, .int .i64 f.ph, .int .i64 f.dl] rfl
  have Con := Lib.hid (fun W => Window_any f n hf h0 h1 W)
  have Con2 := Lib.hid (fun W => Due_any f n hf h0 h1 W)
  obtain ⟨q, hq⟩ : ∃ q, q = l.length := ⟨_, rfl⟩
  obtain ⟨T, hT⟩ : ∃ T, T = arrival f n l := ⟨_, rfl⟩
  rw [← hT, ← hq]
  unfold arrival at hT
  have HA := Lib.hid (fun W (h' : Below W1.heap.size W1 W) => (hA.below hb1).more hb1.size |>.below h' |>.more h'.size)
  have HR := Lib.hid (fun W (h' : Below W1.heap.size W1 W) => (bF.below h' bF.lt).row)
  have HB1 := Lib.hid hb1
  obtain ⟨id, fr, tn, pe, ph, dl⟩ := f
  dsimp only at *
  generalize rel ⟨id, fr, tn, pe, ph, dl⟩ n = a at *
  generalize a + dl - 1 = due at *
  generalize a + pe - 1 = last at *
  have HT := Lib.hid hT
  have HQ := Lib.hid hq
  have hlq : q ≤ 1000000 := by rw [hq]; exact hl
  clear hT hA hf hb1 bF hq h0 h1 hl
  subst hW1
  go_enter Try.func43, Try.ntmps43
  go_wp2_with fail
  refine (Con.out _).mono ?_
  rintro e w2 ⟨rfl, hb2⟩
  have r2 := HR.out _ hb2
  unfold Row at r2
  go_wp2_with fail
  refine (Con2.out _).mono ?_
  rintro e w3 ⟨rfl, hb3⟩
  have hb23 := hb2.trans (hb3.mono hb2.size)
  have HF3 := Lib.hid (HB1.out.trans (hb23.mono HB1.out.size))
  have HA3 := Lib.hid (HA.out _ hb23)
  clear r2 Con Con2 HR HA
  go_wp2_with fail
  go_loopw [13, 31] (fun s13 i wr => ∃ (k : Nat) (late : Int), k ≤ q ∧ s13 = .int .i64 late ∧ i = .int .i64 k ∧ wr = w3 ∧ Hid (T = arrGo a due last (l.drop k) late)) (fun _ i _ => q - (intOf i).toNat)
  case atStart => exact ⟨0, -1, Nat.zero_le _, rfl, rfl, rfl, Lib.hid (by rw [HT.out]; rfl)⟩
  case round =>
    obtain ⟨k, late, hk, rfl, rfl, rfl, hst⟩ := hrel
    by_cases hlt : k < q
    · obtain ⟨s, hs⟩ := get_of_lt (l := l) (k := k) (by rw [← HQ.out]; exact hlt)
      obtain ⟨b, off, rfl, _, hcs⟩ := HA3.out.at_ hs
      have c0 := hcs k s hs
      have hst' : Hid (T = if a ≤ s ∧ s ≤ due then (s, true) else if due < s ∧ s ≤ last ∧ late < 0 then arrGo a due last (l.drop (k + 1)) s else arrGo a due last (l.drop (k + 1)) late) := Lib.hid (by rw [hst.out, drop_of_get hs]; rfl)
      clear hcs hs hst
      by_cases g1 : a ≤ s
      · have d1 : decide (a ≤ s) = true := decide_eq_true g1
        by_cases g2 : s ≤ due
        · have d2 : decide (s ≤ due) = true := decide_eq_true g2
          have hf := Lib.hid (show T = (s, true) by rw [hst'.out, if_pos (by omega)])
          clear hst' g1 g2
          go_wp2_with fail
          go_ret2
          exact ⟨by rw [hf.out]; rfl, HF3.out⟩
        · have d2 : decide (s ≤ due) = false := decide_eq_false g2
          by_cases g3 : due < s
          · have d3 : decide (due < s) = true := decide_eq_true g3
            by_cases g4 : s ≤ last
            · have d4 : decide (s ≤ last) = true := decide_eq_true g4
              by_cases g5 : late < 0
              · have d5 : decide (late < 0) = true := decide_eq_true g5
                have hf := Lib.hid (show T = arrGo a due last (l.drop (k + 1)) s by rw [hst'.out, if_neg (by omega), if_pos (by omega)])
                clear hst' g1 g2 g3 g4 g5
                go_wp2_with fail
                go_roundw
                case rel => exact ⟨k + 1, s, by omega, rfl, by go_num, by trivial, hf⟩
                case measure => simp [intOf]; omega
              · have d5 : decide (late < 0) = false := decide_eq_false g5
                have hf := Lib.hid (show T = arrGo a due last (l.drop (k + 1)) late by rw [hst'.out, if_neg (by omega), if_neg (by omega)])
                clear hst' g1 g2 g3 g4 g5
                go_wp2_with fail
                go_roundw
                case rel => exact ⟨k + 1, late, by omega, rfl, by go_num, by trivial, hf⟩
                case measure => simp [intOf]; omega
            · have d4 : decide (s ≤ last) = false := decide_eq_false g4
              have hf := Lib.hid (show T = arrGo a due last (l.drop (k + 1)) late by rw [hst'.out, if_neg (by omega), if_neg (by omega)])
              clear hst' g1 g2 g3 g4
              go_wp2_with fail
              go_roundw
              case rel => exact ⟨k + 1, late, by omega, rfl, by go_num, by trivial, hf⟩
              case measure => simp [intOf]; omega
          · have d3 : decide (due < s) = false := decide_eq_false g3
            have hf := Lib.hid (show T = arrGo a due last (l.drop (k + 1)) late by rw [hst'.out, if_neg (by omega), if_neg (by omega)])
            clear hst' g1 g2 g3
            go_wp2_with fail
            go_roundw
            case rel => exact ⟨k + 1, late, by omega, rfl, by go_num, by trivial, hf⟩
            case measure => simp [intOf]; omega
      · have d1 : decide (a ≤ s) = false := decide_eq_false g1
        by_cases g3 : due < s
        · have d3 : decide (due < s) = true := decide_eq_true g3
          by_cases g4 : s ≤ last
          · have d4 : decide (s ≤ last) = true := decide_eq_true g4
            by_cases g5 : late < 0
            · have d5 : decide (late < 0) = true := decide_eq_true g5
              have hf := Lib.hid (show T = arrGo a due last (l.drop (k + 1)) s by rw [hst'.out, if_neg (by omega), if_pos (by omega)])
              clear hst' g1 g3 g4 g5
              go_wp2_with fail
              go_roundw
              case rel => exact ⟨k + 1, s, by omega, rfl, by go_num, by trivial, hf⟩
              case measure => simp [intOf]; omega
            · have d5 : decide (late < 0) = false := decide_eq_false g5
              have hf := Lib.hid (show T = arrGo a due last (l.drop (k + 1)) late by rw [hst'.out, if_neg (by omega), if_neg (by omega)])
              clear hst' g1 g3 g4 g5
              go_wp2_with fail
              go_roundw
              case rel => exact ⟨k + 1, late, by omega, rfl, by go_num, by trivial, hf⟩
              case measure => simp [intOf]; omega
          · have d4 : decide (s ≤ last) = false := decide_eq_false g4
            have hf := Lib.hid (show T = arrGo a due last (l.drop (k + 1)) late by rw [hst'.out, if_neg (by omega), if_neg (by omega)])
            clear hst' g1 g3 g4
            go_wp2_with fail
            go_roundw
            case rel => exact ⟨k + 1, late, by omega, rfl, by go_num, by trivial, hf⟩
            case measure => simp [intOf]; omega
        · have d3 : decide (due < s) = false := decide_eq_false g3
          have hf := Lib.hid (show T = arrGo a due last (l.drop (k + 1)) late by rw [hst'.out, if_neg (by omega), if_neg (by omega)])
          clear hst' g1 g3
          go_wp2_with fail
          go_roundw
          case rel => exact ⟨k + 1, late, by omega, rfl, by go_num, by trivial, hf⟩
          case measure => simp [intOf]; omega
    · have hf : Hid (T = (late, false)) := Lib.hid (by rw [hst.out, List.drop_of_length_le (by rw [← HQ.out]; omega)]; rfl)
      go_wp2_with fail
      go_ret2
      exact ⟨by rw [hf.out]; rfl, HF3.out⟩

theorem slots_succ {dl : List Dlv} {k : Nat} {d : Dlv} (h : dl[k]? = some d) (x y : Int) : slotsOf (dl.take (k + 1)) x y = updG (slotsOf (dl.take k)) d.fl d.fr (slotsOf (dl.take k) d.fl d.fr ++ [d.sl]) x y := by
  obtain ⟨hk, rfl⟩ := List.getElem?_eq_some_iff.1 h
  unfold updG slotsOf
  rw [List.take_succ_eq_append_getElem hk, List.filter_append, List.map_append]
  by_cases hq : x = dl[k].fl ∧ y = dl[k].fr
  · rw [if_pos hq, hq.1, hq.2]
    simp
  · rw [if_neg hq]
    have : ¬ ((dl[k].fl == x && dl[k].fr == y) = true) := by
      rw [Bool.and_eq_true, beq_iff_eq, beq_iff_eq]
      exact fun h => hq ⟨h.1.symm, h.2.symm⟩
    have h2 : List.filter (fun d : Dlv => d.fl == x && d.fr == y) [dl[k]] = [] := by
      rw [List.filter_eq_nil_iff]
      intro d hd
      rw [List.mem_singleton.1 hd]
      exact this
    rw [h2]
    simp

set_option maxRecDepth 100000 in
set_option maxHeartbeats 2000000 in
theorem arrivals_any (r : Rec) (A D : Option Addr) (ca cd : Nat) (w : World) (hD : LiesD w w.heap.size D r.dl) (hl : r.dl.length ≤ 1000000) (hn : ∀ d ∈ r.dl, Num64 d.fl ∧ Num64 d.fr ∧ Num64 d.sl) :
    Calls Try.prog 41 #[.agg #[.int .i64 r.slots, .slice A r.al.length ca, .slice D r.dl.length cd]] w fun e w' => Below w.heap.size w w' ∧ ∃ b, e = .returned (.map (some b)) ∧ w.heap.size ≤ b ∧ OwnsGr w' (b + 1) b r.dl.length (slotsOf r.dl) := by
  obtain ⟨slots, al, dl⟩ := r
  dsimp only at *
  obtain ⟨i0, hi, hz0, hz1, hz2⟩ := info_parts Try.infoInt
  obtain ⟨na, hna⟩ : ∃ n, n = al.length := ⟨_, rfl⟩
  obtain ⟨n, hnd⟩ : ∃ n, n = dl.length := ⟨_, rfl⟩
  rw [← hna, ← hnd]
  rw [← hnd] at hl
  have HN := Lib.hid hnd
  have HNum := Lib.hid hn
  have HD := Lib.hid (fun W (h' : Below w.heap.size w W) => (hD.below h').more h'.size)
  obtain ⟨B, hB⟩ : ∃ B, B = w.heap.size + 1 := ⟨_, rfl⟩
  have HB := Lib.hid hB
  have HS := Lib.hid (OwnsGr.made (w.alloc (.cells #[.int .i64 slots, .slice A na ca, .slice D n cd] 28)))
  have hs1 : (w.alloc (.cells #[.int .i64 slots, .slice A na ca, .slice D n cd] 28)).heap.size = B := by rw [hB]; simp
  rw [hs1] at HS
  clear hna hnd hn hD
  have hmm := @run_makeMap Try.prog
  go_enter Try.func41, Try.ntmps41
  go_wp2_with fail
  rw [← hB]
  clear hB hs1
  go_loopw [12] (fun i wr => ∃ (k : Nat), k ≤ n ∧ i = .int .i64 k ∧ Below w.heap.size w wr ∧ B + 1 ≤ wr.heap.size ∧ Hid (OwnsGr wr (B + 1) B k (slotsOf (dl.take k)))) (fun i _ => n - (intOf i).toNat)
  case atStart => exact ⟨0, Nat.zero_le _, rfl, by repeat (first | exact Below.refl _ _ | refine Below.alloc ?_ (by simp) _), by have := HB.out; simp; omega, HS⟩
  case round =>
    clear HS
    obtain ⟨k, hk, rfl, hb, hBw, HO⟩ := hrel
    by_cases hlt : k < n
    · obtain ⟨a, ha⟩ := get_of_lt (l := dl) (k := k) (by rw [← HN.out]; exact hlt)
      obtain ⟨b, off, rfl, hbB, hcs⟩ := (HD.out _ hb).at_ ha
      obtain ⟨c0, c1, c2⟩ := hcs k a ha
      obtain ⟨n1, n2, n3⟩ := HNum.out a (List.mem_of_getElem? ha)
      have HSt := Lib.hid (fun x y => slots_succ ha x y)
      clear hcs ha
      go_upto_region 6 with fail
      clear c0 c1 c2
      generalize hW1 : World.alloc _ _ = W1
      have b1 : Blk W1 wr.heap.size 54 [.int .i64 a.fl, .int .i64 a.fr, .int .i64 a.sl] := by rw [← hW1]; exact Blk.alloc (Blk.new2 _ [.int .i64 a.fl, .int .i64 a.fr, .int .i64 a.sl] rfl) _
      have b2 : Blk W1 (wr.heap.size + 1) 93 [.int .i64 a.fl, .int .i64 a.fr] := by rw [← hW1]; exact Blk.new2 _ [.int .i64 a.fl, .int .i64 a.fr] (by simp)
      have hbw : Below wr.heap.size wr W1 := by rw [← hW1]; exact ((Below.refl _ _).alloc (Nat.le_refl _) _).alloc (by simp) _
      have hb1 : Below w.heap.size w W1 := hb.trans (hbw.mono hb.size)
      have HO1 := Lib.hid (HO.out.below hbw)
      have hBw1 : B + 1 ≤ W1.heap.size := Nat.le_trans hBw hbw.size
      clear hW1 HO
      obtain ⟨W2, hW2⟩ : ∃ W2, W2 = W1.alloc (.cells #[.int .i64 a.sl] 3) := ⟨_, rfl⟩
      have hbw2 : Below W1.heap.size W1 W2 := by rw [hW2]; exact (Below.refl _ _).alloc (Nat.le_refl _) _
      have b3 : Blk W2 W1.heap.size 3 [.int .i64 a.sl] := by rw [hW2]; exact Blk.new2 _ [.int .i64 a.sl] rfl
      have hb2 : Below w.heap.size w W2 := hb1.trans (hbw2.mono hb1.size)
      have hBw2 : B + 1 ≤ W2.heap.size := Nat.le_trans hBw1 hbw2.size
      obtain ⟨v, w1, st, hent, hg1, hs1, hoi, hzl, hback⟩ := (HO1.out.below hbw2).entry (by unfold maxLen; omega) n1 n2
      have b4 : Blk w1 W1.heap.size 3 [.int .i64 a.sl] := (hg1.block _ b3.lt (fun e => by injection e; omega)).trans b3
      have hb4 : Below w.heap.size w w1 := hb2.grown hg1 hb2.size (fun j hj => by injection hj with hj; have := HB.out; omega)
      have HOI := Lib.hid hoi
      have HBack := Lib.hid hback
      have HB4 := Lib.hid hb4
      have HB4' := Lib.hid b4
      have HZ := Lib.hid hzl
      have hs1' : Hid (w1.heap.size = W2.heap.size) := Lib.hid hs1
      have c1 := b1.row
      have c2 := b2.row
      unfold Row at c1 c2
      clear hoi hback hb4 b4 b3 hzl hs1 hg1 hbw hbw2 HO1 hb2
      subst hW2
      go_wp2_with (at_builtin; refine wpList_append_own_at _ rfl (.tmp 23) (.tmp 26) 42 rfl (B + 1) 3 i0 (.int .i64 0) 1 8 Try.underlying42 hi hz0 hz1 hz2 rfl (by decide) v _ _ rfl HOI.out.1 ⟨W1.heap.size, 0, none⟩ 1 1 [.int .i64 a.sl] rfl rfl ?e0 ?e1 ?e2 ?e3 ?e4 ?_)
      case e0 => exact HB4'.out.news2
      case e1 => intro u hu; simp only [List.mem_cons, List.not_mem_nil, or_false] at hu; subst hu; rfl
      case e2 => have := HZ.out; unfold maxLen; omega
      case e3 => have := HZ.out; omega
      case e4 => have := hs1'.out; omega
      intro v' w2 hown' hgrow hnil hloc
      have hint : w2.ownsInts (B + 1) 3 .i64 v' (slotsOf (dl.take k) a.fl a.fr ++ [a.sl]) := ⟨by rw [List.length_append, List.map_append]; exact hown', fun z hz => by
        rcases List.mem_append.1 hz with h | h
        · exact HOI.out.2 z h
        · rw [List.mem_singleton.1 h]; exact n3⟩
      obtain ⟨w3, hsto, ho3, hg3⟩ := HBack.out w2 v' _ hgrow hint (by simp) (by rw [List.length_append]; have := HZ.out; simpa using this) (hloc.imp id (fun h => ⟨_, h, by rw [hs1'.out]; exact Nat.le_refl _⟩))
      have hb5 : Below w.heap.size w w2 := HB4.out.grown hgrow HB4.out.size (fun j hj => by have h1 := (HOI.out.1.lt j hj).1; have := HB.out; omega)
      have hb6 : Below w.heap.size w w3 := hb5.grown hg3 hb5.size (fun j hj => by injection hj with hj; have := HB.out; omega)
      have HB6 : Hid (B + 1 ≤ w3.heap.size) := Lib.hid (by have h1 := hgrow.size; have h2 := hg3.size; have := hs1'.out; omega)
      have HO3 : Hid (OwnsGr w3 (B + 1) B (k + 1) (slotsOf (dl.take (k + 1)))) := Lib.hid (by rw [show slotsOf (dl.take (k + 1)) = _ from funext fun x => funext fun y => HSt.out x y]; exact ho3)
      have hsto' : (Instr.entryStore 87 (.map (some B)) (.int .i64 (st : Int)) v').run Try.prog w2 = .ok () w3 := hsto
      clear hint hown' hgrow hnil hloc ho3 hg3 HBack HOI HB4 HB4' HZ HSt hb5 c1 c2 b1 b2 hsto
      go_wp2_with fail
      go_roundw
      case rel => exact ⟨k + 1, by omega, by go_num, hb6, HB6.out, HO3⟩
      case measure => simp [intOf]; omega
    · have hf : Hid (OwnsGr wr (B + 1) B n (slotsOf dl)) := Lib.hid (by
        have h1 : k = n := by omega
        subst h1
        have := HO.out
        rwa [List.take_of_length_le (by rw [← HN.out]; exact Nat.le_refl _)] at this)
      go_wp2_with fail
      go_ret
      exact ⟨hb, B, rfl, by have := HB.out; omega, hf.out⟩
end Go.Proofs.Ytkdigdnacggknaa

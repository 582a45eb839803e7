/- Walks: Insert of package slices at numbers. -/
import Derived.Test.YtepamedbbbfjkaaNodSe
namespace Go.Proofs.Ytepamedbbbfjkaa
open Go.RowKit
open Nd
set_option maxRecDepth 100000 in
set_option maxHeartbeats 4000000 in
/-- In the middle, with room. -/
theorem insertI_room (l : List Int) (i base bx g cap : Nat) (cur : Array Value) (x : Int) (w : World) (hi : i < l.length) (hgb : base ≤ g) (hg : w.heap[g]? = some (.cells cur 3 (0, 0))) (hcm : cap ≤ maxLen) (hcs : cur.size = cap * 1) (htake : cur.toList.take (l.length * 1) = l.flatMap irow)
    (hroom : l.length + 1 ≤ cap) (hx : Blk w bx 3 (irow x)) (hl : l.length ≤ 1000000) (hne : bx ≠ g) :
    Calls Try.prog 55 #[.slice (some ⟨g, 0, none⟩) l.length cap, .int .i64 (i : Nat), .slice (some ⟨bx, 0, none⟩) 1 1] w fun e w' => ∃ v', e = .returned v' ∧ w'.ownsRow base 3 1 v' (l.length + 1) ((l.take i ++ x :: l.drop i).flatMap irow) ∧ w.grownBy w' (some g) := by
  obtain ⟨i0, hi0, hz0, hz1, hz2⟩ := info_parts Try.infoI
  obtain ⟨n, hn⟩ : ∃ n, n = l.length := ⟨_, rfl⟩
  rw [← hn] at hi htake hroom hl ⊢
  have hfl : (l.flatMap irow).length = n * 1 := by rw [hn]; exact flat_len (f := irow) irow_len l
  have hcell : ∀ j u, (l.flatMap irow)[j]? = some u → cur[j]? = some u := fun j u hu => by
    rw [← htake, List.getElem?_take] at hu
    split at hu
    · simpa using hu
    · cases hu
  -- the first copy
  obtain ⟨cs, hcsd⟩ : ∃ cs, cs = (l.drop i).flatMap irow := ⟨_, rfl⟩
  have hcl : cs.length = (n - i) * 1 := by rw [hcsd, flat_len (f := irow) irow_len, List.length_drop, hn]
  have hsrc : ∀ j u, cs[j]? = some u → w.drew.cell? ((⟨g, i * 1, none⟩ : Addr).add j) = some u := fun j u hu => by
    rw [add_any]
    rw [hcsd, ← flat_drop (f := irow) irow_len l i, List.getElem?_drop] at hu
    have h2 := hcell _ _ hu
    simp only [Nat.mul_one] at h2
    show w.cell? _ = _
    simp [World.cell?, hg, h2]
  have hrow1 := fun ty sc dc => run_copy_own (P := Try.prog) w.drew 43 43 ty 3 i0 1 Try.underlying43 hi0 hz1 g ((i + 1) * 1) (n - i) dc ⟨g, i * 1, none⟩ (n + 1 - i) sc cur 3 cs (n - i) hg (by show min _ _ = _; omega) hcl hsrc (by rw [hcl, hcs]; omega) (by rw [hcsd]; exact flatI_one _)
  obtain ⟨row1, hr1⟩ : ∃ row1, row1 = (cur.toList.take ((i + 1) * 1) ++ cs ++ cur.toList.drop ((i + 1) * 1 + cs.length)).toArray := ⟨_, rfl⟩
  rw [← hr1] at hrow1
  have hr1s : row1.size = cap * 1 := by rw [hr1]; simp [hcl]; omega
  obtain ⟨W1, hW1⟩ : ∃ W1, W1 = w.drew.setRow g row1 := ⟨_, rfl⟩
  have hW1g : W1.heap[g]? = some (.cells row1 3 (0, 0)) := by rw [hW1]; exact setRow_heap w.drew g cur row1 3 _ hg
  have hW1x : Blk W1 bx 3 (irow x) := by rw [hW1]; exact (setRow_other w.drew g bx row1 hne).trans hx
  have hgr1 : w.grownBy W1 (some g) := by rw [hW1]; exact (grown_drew w _).trans (grown_setRow _ _ _)
  rw [← hW1] at hrow1
  -- the second
  have hrow2 := fun ty sc dc => run_copy_own (P := Try.prog) W1 43 43 ty 3 i0 1 Try.underlying43 hi0 hz1 g (i * 1) (n + 1 - i) dc ⟨bx, 0, none⟩ 1 sc row1 3 (irow x) 1 hW1g (by show min _ _ = _; omega) (by rw [irow_len]) (fun j u hu => by rw [add_off]; exact (hW1x.row j).trans hu) (by rw [irow_len, hr1s]; omega) (oneI x)
  obtain ⟨row2, hr2⟩ : ∃ row2, row2 = (row1.toList.take (i * 1) ++ irow x ++ row1.toList.drop (i * 1 + (irow x).length)).toArray := ⟨_, rfl⟩
  rw [← hr2] at hrow2
  obtain ⟨W2, hW2⟩ : ∃ W2, W2 = W1.setRow g row2 := ⟨_, rfl⟩
  rw [← hW2] at hrow2
  have hfin : W2.ownsRow base 3 1 (.slice (some ⟨g, 0, none⟩) (n + 1) cap) (n + 1) ((l.take i ++ x :: l.drop i).flatMap irow) := by
    have hr2s : row2.size = cap * 1 := by rw [hr2]; simp [hr1s, irow_len]; omega
    refine ⟨by rw [flat_len (f := irow) irow_len]; simp; omega, .inr ⟨g, cap, row2, rfl, hgb, by rw [hW2]; exact setRow_heap W1 g row1 row2 3 _ hW1g, hroom, hcm, hr2s, ?_⟩⟩
    have e1 : row1.toList.take (i * 1) = (l.take i).flatMap irow := by
      rw [hr1]
      simp only
      rw [List.append_assoc, List.take_append_of_le_length (by simp [hcs]; omega), List.take_take, Nat.min_eq_left (by omega), ← flat_take (f := irow) irow_len l i, ← htake, List.take_take, Nat.min_eq_left (by omega)]
    have e2 : (row1.toList.drop (i * 1 + (irow x).length)) = cs ++ cur.toList.drop ((i + 1) * 1 + cs.length) := by
      rw [hr1, irow_len]
      simp only
      rw [List.append_assoc, List.drop_append_of_le_length (by simp [hcs]; omega), List.drop_of_length_le (by simp; omega), List.nil_append]
    rw [hr2, e1, e2]
    simp only [List.flatMap_append, List.flatMap_cons]
    rw [← hcsd, ← List.append_assoc, List.take_append_of_le_length (by simp [hcl, irow_len, flat_len (f := irow) irow_len]; omega), List.take_of_length_le (by simp [hcl, irow_len, flat_len (f := irow) irow_len]; omega), List.append_assoc]
  have hgr : w.grownBy W2 (some g) := by rw [hW2]; exact hgr1.trans (grown_setRow _ _ _)
  have hov := fun lb cb => run_callFunc_extern (P := Try.prog) (w := w) (args := #[.slice (some ⟨bx, 0, none⟩) 1 1, .slice (some ⟨g, (i + 1) * 1, none⟩) lb cb]) Try.func68 (by kernel_rfl) (by kernel_rfl) (by kernel_rfl) (e := Extern.SlicesOverlaps.overlaps #[43, 43] #[4]) (by kernel_rfl)
  have hov2 := fun lb cb => Lib.run_overlaps_apart (P := Try.prog) w 43 4 3 Try.underlying43 1 Try.sizeOf3 ⟨bx, 0, none⟩ ⟨g, (i + 1) * 1, none⟩ 1 1 lb cb hne 3 3 (irow x).toArray.size cur.size (shape_of hx) (shape_of hg) (by rw [hcs]; omega) (hx.frozen 0) (hx.frozen _)
  simp only [Nat.mul_one] at hrow1 hrow2 hov hov2
  have HOV : Hid (∀ lb cb, (callFunc 68 #[.slice (some ⟨bx, 0, none⟩) 1 1, .slice (some ⟨g, i + 1, none⟩) lb cb]).run Try.prog w = .ok (.value (.bool false)) w) := Lib.hid (fun lb cb => by rw [hov lb cb, hov2 lb cb]; rfl)
  have HR1 := Lib.hid hrow1
  have HR2 := Lib.hid hrow2
  have HF := Lib.hid hfin
  have HG := Lib.hid hgr
  have hcm' : cap ≤ 9223372036854775807 := by unfold maxLen at hcm; omega
  have hq1 : ((i : Int) == (n : Int)) = false := by rw [beq_eq_false_iff_ne]; omega
  have hq2 : ¬ ((i : Int) = (n : Int)) := by omega
  have hw1 : IntKind.i64.wrap ((i : Int) + 1) = ((i + 1 : Nat) : Int) := by rw [IntKind.wrap_i64]; omega
  have hw2 : IntKind.i64.wrap ((n : Int) + 1) = ((n + 1 : Nat) : Int) := by rw [IntKind.wrap_i64]; omega
  have hd : decide ((cap : Int) < ((n + 1 : Nat) : Int)) = false := decide_eq_false (by omega)
  have hb2 : ¬ (cap = i + 1) := by omega
  have hb3 : i ≤ n + 1 := by omega
  have hb4 : ¬ (cap = i) := by omega
  have hb5 : i + 1 ≤ n + 1 := by omega
  have hin : i ≤ n := by omega
  have hp0 : (0 : Int) ≤ (i : Int) + 1 := by omega
  have hp1 : (0 : Int) ≤ (n : Int) + 1 := by omega
  have hp2 : (i : Int) ≤ (n : Int) + 1 := by omega
  have hp3 : (n : Int) + 1 ≤ (cap : Int) := by omega
  have HN := Lib.hid hn
  clear hn hov hov2 hrow1 hrow2 hfin hgr hgr1 hW1x hW1g hW1 hW2 hr1 hr2 hr1s hsrc hcl hcsd hcell hfl hi0 hz0 hz1 hz2 htake hcs hg hx hne
  go_enter Try.func55, Try.ntmps55
  go_wp2_with (simp only [HOV.out])
  go_region_law (refine step_copy_run rfl (.tmp 73) (.tmp 76) 43 43 rfl (.slice (some ⟨g, (i + 1), none⟩) (n - i) (cap - (i + 1))) (.slice (some ⟨g, i, none⟩) (n + 1 - i) (cap - i)) (by simp [Act.eval, Act.put]) (by simp [Act.eval, Act.put]) (HR1.out _ _ _) ?_)
  go_wp2_with fail
  rename_i hK
  rw [HR2.out]
  simp only [Result.andThen_ok, Oper.upon_value]
  refine hK _ _ ?_
  go_wp2_with fail
  go_ret
  exact ⟨_, rfl, HF.out, HG.out⟩

set_option maxRecDepth 100000 in
set_option maxHeartbeats 4000000 in
/-- In the middle, no room: a new row. -/
theorem insertI_grow (l : List Int) (i base bx g : Nat) (cur : Array Value) (x : Int) (w : World) (hi : i < l.length) (hB : base ≤ w.heap.size) (hg : w.heap[g]? = some (.cells cur 3 (0, 0))) (hcs : cur.size = l.length * 1) (htake : cur.toList.take (l.length * 1) = l.flatMap irow)
    (hx : Blk w bx 3 (irow x)) (hl : l.length ≤ 1000000) :
    Calls Try.prog 55 #[.slice (some ⟨g, 0, none⟩) l.length l.length, .int .i64 (i : Nat), .slice (some ⟨bx, 0, none⟩) 1 1] w fun e w' => ∃ v', e = .returned v' ∧ w'.ownsRow base 3 1 v' (l.length + 1) ((l.take i ++ x :: l.drop i).flatMap irow) ∧ w.grownBy w' (some g) := by
  obtain ⟨i0, hi0, hz0, hz1, hz2⟩ := info_parts Try.infoI
  obtain ⟨n, hn⟩ : ∃ n, n = l.length := ⟨_, rfl⟩
  rw [← hn] at hi htake hcs hl ⊢
  have hcell : ∀ j u, (l.flatMap irow)[j]? = some u → w.cell? ⟨g, j, none⟩ = some u := fun j u hu => by
    rw [← htake, List.getElem?_take] at hu
    split at hu
    · have : cur[j]? = some u := by simpa using hu
      simp [World.cell?, hg, this]
    · cases hu
  have hgl := heap_lt hg
  have hxl := hx.lt
  -- the new row
  have hold : (Builtin.firstCells i0.size i (.slice (some ⟨g, 0, none⟩) i n)).run Try.prog w.drew = .ok ((l.take i).flatMap irow).toArray w.drew := by
    rw [hz1]
    exact run_firstCells_some w.drew 1 i ⟨g, 0, none⟩ i n ((l.take i).flatMap irow) (by rw [flat_len (f := irow) irow_len, List.length_take]; omega) (fun j u hu => by
      rw [add_off]
      refine hcell j u ?_
      rw [← flat_take (f := irow) irow_len l i, List.getElem?_take] at hu
      split at hu
      · exact hu
      · cases hu)
  have hrz := fun ty => Lib.run_append_grow_zeros (P := Try.prog) w 43 3 ty 3 i0 (.int .i64 0) .i64 .i64 Try.underlying43 Try.underlying3 hi0 hz0 (some ⟨g, 0, none⟩) i n ((l.take i).flatMap irow) hold (n + 1 - i) (by omega) (by omega) (by omega) (by omega) (by rw [hz2]; omega) (by rw [hz2, show i + (n + 1 - i) = n + 1 by omega]; exact growslice_fits (by omega) (by omega))
  rw [show i + (n + 1 - i) = n + 1 by omega] at hrz
  have hGe : n + 1 ≤ grownCap w (n + 1) n 3 := grownCap_ge w (n + 1) n 3
  have hGm : grownCap w (n + 1) n 3 ≤ maxLen := grownCap_le_maxLen w (n + 1) n 3 (by unfold maxLen; omega)
  obtain ⟨G, hG⟩ : ∃ G, G = grownCap w (n + 1) n 3 := ⟨_, rfl⟩
  rw [← hG] at hrz hGe hGm
  obtain ⟨row0, hr0⟩ : ∃ row0 : Array Value, row0 = ((l.take i).flatMap irow).toArray ++ Builtin.zeroCells (.int .i64 0 : Value).cells (n + 1 - i) ++ Builtin.zeroCells (.int .i64 0 : Value).cells (G - (n + 1)) := ⟨_, rfl⟩
  rw [← hr0] at hrz
  have hr0s : row0.size = G * 1 := by
    rw [hr0]
    simp only [Array.size_append, List.size_toArray, size_zeroCells, flat_len (f := irow) irow_len, List.length_take]
    rw [show ((.int .i64 0 : Value).cells).size = 1 from rfl]
    omega
  have hr0t : row0.toList.take (i * 1) = (l.take i).flatMap irow := by
    rw [hr0]
    simp only [Array.toList_append, List.append_assoc]
    rw [List.take_append_of_le_length (by rw [flat_len (f := irow) irow_len, List.length_take]; omega), List.take_of_length_le (by rw [flat_len (f := irow) irow_len, List.length_take]; omega)]
  obtain ⟨N, hN⟩ : ∃ N, N = w.heap.size := ⟨_, rfl⟩
  obtain ⟨W0, hW0⟩ : ∃ W0, W0 = w.drew.alloc (.cells row0 3) := ⟨_, rfl⟩
  rw [← hW0, ← hN] at hrz
  have hW0N : W0.heap[N]? = some (.cells row0 3 (0, 0)) := by rw [hW0, hN]; exact heap_alloc_new w.drew _
  have hW0x : Blk W0 bx 3 (irow x) := by rw [hW0]; exact Blk.alloc hx.drew _
  have hW0g : W0.heap[g]? = some (.cells cur 3 (0, 0)) := by rw [hW0]; exact (Below.heap_alloc w.drew _ g hgl).trans hg
  have hgr0 : w.grownBy W0 (some g) := by rw [hW0]; exact (grown_drew w _).trans (World.grownBy_alloc _ _ _)
  have hxN : bx ≠ N := by omega
  have hgN : g ≠ N := by omega
  -- the first copy
  have hrow1 := fun ty sc dc => run_copy_own (P := Try.prog) W0 43 43 ty 3 i0 1 Try.underlying43 hi0 hz1 N (i * 1) (n + 1 - i) dc ⟨bx, 0, none⟩ 1 sc row0 3 (irow x) 1 hW0N (by show min _ _ = _; omega) (by rw [irow_len]) (fun j u hu => by rw [add_off]; exact (hW0x.row j).trans hu) (by rw [irow_len, hr0s]; omega) (oneI x)
  obtain ⟨row1, hr1⟩ : ∃ row1, row1 = (row0.toList.take (i * 1) ++ irow x ++ row0.toList.drop (i * 1 + (irow x).length)).toArray := ⟨_, rfl⟩
  rw [← hr1] at hrow1
  have hr1s : row1.size = G * 1 := by rw [hr1]; simp [hr0s, irow_len]; omega
  obtain ⟨W1, hW1⟩ : ∃ W1, W1 = W0.setRow N row1 := ⟨_, rfl⟩
  rw [← hW1] at hrow1
  have hW1N : W1.heap[N]? = some (.cells row1 3 (0, 0)) := by rw [hW1]; exact setRow_heap W0 N row0 row1 3 _ hW0N
  have hW1g : W1.heap[g]? = some (.cells cur 3 (0, 0)) := by rw [hW1]; exact (setRow_other W0 N g row1 hgN).trans hW0g
  have hgr1 : w.grownBy W1 (some g) := by
    have h2 := grown_setRow W0 N row1
    rw [hW1]
    exact ⟨hgr0.os, hgr0.tape, hgr0.output, Nat.le_trans hgr0.size h2.size, fun k hk hk' => (h2.block k (Nat.lt_of_lt_of_le hk hgr0.size) (by intro e; injection e with e; omega)).trans (hgr0.block k hk hk')⟩
  -- the second
  obtain ⟨cs, hcsd⟩ : ∃ cs, cs = (l.drop i).flatMap irow := ⟨_, rfl⟩
  have hcl : cs.length = (n - i) * 1 := by rw [hcsd, flat_len (f := irow) irow_len, List.length_drop, hn]
  have hsrc : ∀ j u, cs[j]? = some u → W1.drew.cell? ((⟨g, i * 1, none⟩ : Addr).add j) = some u := fun j u hu => by
    rw [add_any]
    rw [hcsd, ← flat_drop (f := irow) irow_len l i, List.getElem?_drop] at hu
    rw [← htake, List.getElem?_take] at hu
    split at hu
    · have : cur[i + j]? = some u := by simpa using hu
      show W1.cell? _ = _
      simp [World.cell?, hW1g, this]
    · cases hu
  have hrow2 := fun ty sc dc => run_copy_own (P := Try.prog) W1.drew 43 43 ty 3 i0 1 Try.underlying43 hi0 hz1 N ((i + 1) * 1) (n - i) dc ⟨g, i * 1, none⟩ (n - i) sc row1 3 cs (n - i) hW1N (by show min _ _ = _; omega) hcl hsrc (by rw [hcl, hr1s]; omega) (by rw [hcsd]; exact flatI_one _)
  obtain ⟨row2, hr2⟩ : ∃ row2, row2 = (row1.toList.take ((i + 1) * 1) ++ cs ++ row1.toList.drop ((i + 1) * 1 + cs.length)).toArray := ⟨_, rfl⟩
  rw [← hr2] at hrow2
  obtain ⟨W2, hW2⟩ : ∃ W2, W2 = W1.drew.setRow N row2 := ⟨_, rfl⟩
  rw [← hW2] at hrow2
  have hfin : W2.ownsRow base 3 1 (.slice (some ⟨N, 0, none⟩) (n + 1) G) (n + 1) ((l.take i ++ x :: l.drop i).flatMap irow) := by
    have hr2s : row2.size = G * 1 := by rw [hr2]; simp [hr1s, hcl]; omega
    refine ⟨by rw [flat_len (f := irow) irow_len]; simp; omega, .inr ⟨N, G, row2, rfl, by omega, by rw [hW2]; exact setRow_heap W1.drew N row1 row2 3 _ hW1N, hGe, hGm, hr2s, ?_⟩⟩
    have e1 : row1.toList.take ((i + 1) * 1) = (l.take i).flatMap irow ++ irow x := by
      rw [hr1]
      simp only
      rw [hr0t, List.take_append_of_le_length (by simp [irow_len, flat_len (f := irow) irow_len]; omega), List.take_of_length_le (by simp [irow_len, flat_len (f := irow) irow_len]; omega)]
    rw [hr2, e1]
    simp only [List.flatMap_append, List.flatMap_cons]
    rw [← hcsd, List.take_append_of_le_length (by simp [hcl, irow_len, flat_len (f := irow) irow_len]; omega), List.take_of_length_le (by simp [hcl, irow_len, flat_len (f := irow) irow_len]; omega), List.append_assoc]
  have hgr : w.grownBy W2 (some g) := by
    have h2 := grown_setRow W1.drew N row2
    rw [hW2]
    exact ⟨hgr1.os, hgr1.tape, hgr1.output, Nat.le_trans hgr1.size h2.size, fun k hk hk' => (h2.block k (Nat.lt_of_lt_of_le hk hgr1.size) (by intro e; injection e with e; omega)).trans (hgr1.block k hk hk')⟩
  simp only [Nat.mul_one] at hrow1 hrow2 hrz
  have HZ := Lib.hid hrz
  have HR1 := Lib.hid hrow1
  have HR2 := Lib.hid hrow2
  have HF := Lib.hid hfin
  have HG := Lib.hid hgr
  have hq1 : ((i : Int) == (n : Int)) = false := by rw [beq_eq_false_iff_ne]; omega
  have hq2 : ¬ ((i : Int) = (n : Int)) := by omega
  have hw1 : IntKind.i64.wrap ((i : Int) + 1) = ((i + 1 : Nat) : Int) := by rw [IntKind.wrap_i64]; omega
  have hw2 : IntKind.i64.wrap ((n : Int) + 1) = ((n + 1 : Nat) : Int) := by rw [IntKind.wrap_i64]; omega
  have hw3 : IntKind.i64.wrap ((n : Int) + 1 - (i : Int)) = ((n + 1 - i : Nat) : Int) := by rw [IntKind.wrap_i64]; omega
  have hw4 : IntKind.i64.wrap (((n + 1 : Nat) : Int) - (i : Int)) = ((n + 1 - i : Nat) : Int) := by rw [IntKind.wrap_i64]; omega
  have hw5 : (n : Int) + 1 - (i : Int) = ((n + 1 - i : Nat) : Int) := by omega
  have hb2 : ¬ (G = i + 1) := by omega
  have hb3 : i ≤ n + 1 := by omega
  have hb4 : ¬ (G = i) := by omega
  have hb5 : i + 1 ≤ n + 1 := by omega
  have hb6 : ¬ (n = i) := by omega
  have hin : i ≤ n := by omega
  have hp0 : (0 : Int) ≤ (i : Int) + 1 := by omega
  have hp1 : (0 : Int) ≤ (n : Int) + 1 := by omega
  have hp2 : (i : Int) ≤ (n : Int) + 1 := by omega
  have HNN := Lib.hid hn
  have HN := Lib.hid hN
  clear hn hN hrz hrow1 hrow2 hfin hgr hgr1 hgr0 hW0x hW0g hW0N hW0 hW1N hW1g hW1 hW2 hr0 hr1 hr2 hr0s hr0t hr1s hsrc hcl hcsd hcell hold hi0 hz0 hz1 hz2 htake hcs hg hx hG hgl hxl hxN hgN hGm
  go_enter Try.func55, Try.ntmps55
  go_wp2_with (at_builtin; refine Lib.wpList_append_run _ rfl (.tmp 34) (.tmp 39) 43 3 rfl (.slice (some ⟨g, 0, none⟩) i n) (.int .i64 ((n + 1 - i : Nat) : Int)) rfl (by first | rfl | (simp [Act.eval]; omega)) _ _ (HZ.out _) ?_)
  rename_i hK
  rw [HR1.out]
  simp only [Result.andThen_ok, Oper.upon_value]
  refine hK _ _ ?_
  go_wp2_with fail
  go_region_law (refine step_copy_run rfl (.tmp 50) (.tmp 53) 43 43 rfl (.slice (some ⟨N, (i + 1), none⟩) (n - i) (G - (i + 1))) (.slice (some ⟨g, i, none⟩) (n - i) (n - i)) (by simp [Act.eval, Act.put]) (by simp [Act.eval, Act.put]) (HR2.out _ _ _) ?_)
  go_wp2_with fail
  go_ret
  exact ⟨_, rfl, HF.out, HG.out⟩

/-- One element is laid in. -/
theorem insertI_any (l : List Int) (i base bx : Nat) (v : Value) (x : Int) (w : World) (ho : w.ownsRow base 3 1 v l.length (l.flatMap irow)) (hi : i ≤ l.length) (hx : Blk w bx 3 (irow x)) (hl : l.length ≤ 1000000) (hB : base ≤ w.heap.size) (hne : some bx ≠ v.ownBlock) :
    Calls Try.prog 55 #[v, .int .i64 (i : Nat), .slice (some ⟨bx, 0, none⟩) 1 1] w fun e w' => ∃ v', e = .returned v' ∧ w'.ownsRow base 3 1 v' (l.length + 1) ((l.take i ++ x :: l.drop i).flatMap irow) ∧ w.grownBy w' v.ownBlock := by
  by_cases he : i = l.length
  · subst he
    have := insertI_end l base bx v x w ho hx hl hB
    rw [List.take_length, List.drop_length, List.flatMap_append, List.flatMap_cons, List.flatMap_nil, List.append_nil]
    exact this
  · rcases ho.2 with ⟨_, h0⟩ | ⟨g, cap, cur, rfl, hgb, hg, hnc, hcm, hcs, htake⟩
    · omega
    · have hne' : bx ≠ g := fun e => hne (by rw [e]; rfl)
      by_cases hroom : l.length + 1 ≤ cap
      · exact insertI_room l i base bx g cap cur x w (by omega) hgb hg hcm hcs htake hroom hx hl hne'
      · obtain rfl : cap = l.length := by omega
        exact insertI_grow l i base bx g cur x w (by omega) hB hg hcs htake hx hl
end Go.Proofs.Ytepamedbbbfjkaa

/- Walks for the example of the node layer: Contains of numbers; the duties of a slot, where there is one. -/
import Derived.Test.YtepamedbbbfjkaaNodW
import Derived.Laws.EntriesVeiled
namespace Go.Proofs.Ytepamedbbbfjkaa
open Go.RowKit
open Nd
def conI (l : List Int) (x : Int) : Bool := decide (0 ≤ idxP (fun y => x == y) l 0)

set_option maxHeartbeats 1000000 in
theorem indexOf_any (l : List Int) (x : Int) (A : Option Addr) (c : Nat) (w : World) (hA : LiesI w w.heap.size A l) (hl : l.length ≤ 1000000) :
    Calls Try.prog 52 #[.slice A l.length c, .int .i64 x] w fun e w' => e = .returned (.int .i64 (idxP (fun y => x == y) l 0)) ∧ w = w' := by
  obtain ⟨n, hn⟩ : ∃ n, n = l.length := ⟨_, rfl⟩
  rw [← hn] at hl ⊢
  have HN := Lib.hid hn
  obtain ⟨T, hT⟩ : ∃ T, T = idxP (fun y => x == y) l 0 := ⟨_, rfl⟩
  rw [← hT]
  have HT := Lib.hid hT
  clear hn hT
  go_enter Try.func52, Try.ntmps52
  go_wp2_with fail
  go_loop [8] (fun i => ∃ (k : Nat), k ≤ n ∧ i = .int .i64 k ∧ Hid (T = idxP (fun y => x == y) (l.drop k) k)) (fun i => n - (intOf i).toNat)
  case atStart => exact ⟨0, Nat.zero_le _, rfl, Lib.hid (by rw [HT.out]; rfl)⟩
  case round =>
    obtain ⟨k, hk, rfl, hst⟩ := hrel
    by_cases hlt : k < n
    · obtain ⟨a, ha⟩ := get_of_lt (l := l) (k := k) (by rw [← HN.out]; exact hlt)
      obtain ⟨b, off, rfl, hbB, hcs⟩ := hA.at_ ha
      have c0 := hcs k a ha
      have hst' : Hid (T = if (x == a) = true then (k : Int) else idxP (fun y => x == y) (l.drop (k + 1)) ((k : Int) + 1)) := Lib.hid (by rw [hst.out, drop_of_get ha]; rfl)
      clear hcs ha hst
      cases hq : (x == a) with
      | true =>
        have hf := Lib.hid (show T = (k : Int) by rw [hst'.out, if_pos hq])
        clear hst'
        go_wp2_with fail
        go_ret
        exact ⟨ret_int (by rw [hf.out]), rfl⟩
      | false =>
        have hf := Lib.hid (show T = idxP (fun y => x == y) (l.drop (k + 1)) ((k + 1 : Nat) : Int) by rw [hst'.out, if_neg (by rw [hq]; decide)]; rfl)
        clear hst'
        go_wp2_with fail
        go_round
        case rel => exact ⟨k + 1, by omega, by go_num, hf⟩
        case measure => simp [intOf]; omega
    · have hf : Hid (T = -1) := Lib.hid (by rw [hst.out, List.drop_of_length_le (by rw [← HN.out]; omega)]; rfl)
      go_wp2_with fail
      go_ret
      exact ⟨ret_int (by rw [hf.out]), rfl⟩
theorem contains_any (l : List Int) (x : Int) (A : Option Addr) (c : Nat) (w : World) (hA : LiesI w w.heap.size A l) (hl : l.length ≤ 1000000) :
    Calls Try.prog 24 #[.slice A l.length c, .int .i64 x] w fun e w' => e = .returned (.bool (conI l x)) ∧ w = w' := by
  have con := indexOf_any l x A c w hA hl
  have HC : Hid (conI l x = decide (0 ≤ idxP (fun y => x == y) l 0)) := Lib.hid rfl
  generalize conI l x = C at *
  generalize idxP (fun y => x == y) l 0 = T at *
  generalize l.length = n at *
  have Con := Lib.hid con
  clear con hA
  go_enter Try.func24, Try.ntmps24
  go_wp2_with (go_at_call 52; (with_reducible refine Con.out.mono ?_); rintro e w' ⟨rfl, rfl⟩)
  go_ret
  exact ⟨ret_bool HC.out.symm, rfl⟩

theorem insort1 (A : Option Addr) (c : Nat) (fv : Value) (w : World) :
    Calls Try.prog 75 #[.slice A 1 c, .int .i64 0, .int .i64 1, fv] w fun e w' => e = .returned (.tuple #[]) ∧ w = w' := by
  go_enter Try.func75, Try.ntmps75
  go_wp2_with fail
  go_loop [8] (fun i => i = .int .i64 1) (fun _ => 0)
  case atStart => rfl
  case round =>
    obtain rfl := hrel
    go_wp2_with fail
    go_end0
    exact ⟨rfl, rfl⟩
theorem stable1 (A : Option Addr) (c : Nat) (fv : Value) (w : World) :
    Calls Try.prog 67 #[.slice A 1 c, .int .i64 1, fv] w fun e w' => e = .returned (.tuple #[]) ∧ w = w' := by
  go_enter Try.func67, Try.ntmps67
  go_wp2_with fail
  go_loop [7, 8] (fun a b => a = .int .i64 0 ∧ b = .int .i64 20) (fun _ _ => 0)
  case atStart => exact ⟨rfl, rfl⟩
  case round =>
    obtain ⟨rfl, rfl⟩ := hrel
    go_wp2_with fail
    refine (insort1 A c fv w).mono ?_
    rintro e w' ⟨rfl, rfl⟩
    go_wp2_with fail
    go_loop [6] (fun a => a = .int .i64 20) (fun _ => 0)
    case atStart => rfl
    case round =>
      obtain rfl := hrel
      go_wp2_with fail
      go_end0
      exact ⟨rfl, rfl⟩
theorem sort1 (A : Option Addr) (c : Nat) (fv : Value) (w : World) :
    Calls Try.prog 50 #[.slice A 1 c, fv] w fun e w' => e = .returned (.tuple #[]) ∧ w = w' := by
  go_enter Try.func50, Try.ntmps50
  go_wp2_with (go_at_call 67; (with_reducible refine (stable1 _ _ _ _).mono ?_); rintro e w' ⟨rfl, rfl⟩)
  go_end0
  exact ⟨rfl, rfl⟩
theorem Try.infoD : (Try.prog.info? 63).map (fun i => (i.zero, i.size, i.bytes)) = some (some (.agg #[.int .i64 0, .int .i64 0, .int .i64 0, .int .i64 0, .int .i64 0, .bool false, .bool false, .int .i64 0, .int .i64 0]), 9, 64) := by kernel_rfl

/-- The duty of the example. -/
def exD : List Value := [.int .i64 1, .int .i64 0, .int .i64 1, .int .i64 0, .int .i64 7, .bool true, .bool false, .int .i64 0, .int .i64 (-1)]
set_option maxRecDepth 100000 in
set_option maxHeartbeats 2000000 in
theorem at1 (g : Nat) (w : World) (hr : Row w g [.int .i64 1, .int .i64 0, .int .i64 1, .int .i64 0, .int .i64 7, .bool true, .bool false, .int .i64 0, .int .i64 (-1)]) (hg : g < w.heap.size) :
    Calls Try.prog 20 #[.slice (some ⟨g, 0, none⟩) 1 1, .int .i64 8, .int .i64 9] w fun e w' => Below w.heap.size w w' ∧ ∃ g' c', e = .returned (.tuple #[.slice (some ⟨g', 0, none⟩) 1 c', .int .i64 0]) ∧ g' < w'.heap.size ∧ (∀ i u, [.int .i64 1, .int .i64 0, .int .i64 1, .int .i64 0, .int .i64 7, .bool true, .bool false, .int .i64 0, .int .i64 (-1)][i]? = some u → w'.cell? ⟨g', i, none⟩ = some u) := by
  obtain ⟨i0, hi, hz0, hz1, hz2⟩ := info_parts Try.infoD
  have HROW := Lib.hid (fun W (h : Below w.heap.size w W) => hr.below h hg)
  clear hr
  go_enter Try.func20, Try.ntmps20
  go_wp2_with fail
  generalize hW0 : World.alloc _ _ = W0
  have hb0 : Below w.heap.size w W0 := by rw [← hW0]; exact (Below.refl _ _).alloc (Nat.le_refl _) _
  clear hW0
  go_loopw [9, 24] (fun s9 i wr => ∃ (k : Nat) (v : Value), v = s9 ∧ k ≤ 1 ∧ i = .int .i64 k ∧ Below w.heap.size w wr ∧ Hid (wr.ownsRow w.heap.size 63 9 v k (if k = 0 then [] else [.int .i64 1, .int .i64 0, .int .i64 1, .int .i64 0, .int .i64 7, .bool true, .bool false, .int .i64 0, .int .i64 (-1)]))) (fun _ i _ => 1 - (intOf i).toNat)
  case atStart => exact ⟨0, _, rfl, by omega, rfl, hb0, Lib.hid (World.ownsRow_nil _ _ _ _)⟩
  case round =>
    clear hb0
    obtain ⟨k, v, rfl, hk, rfl, hb, HO⟩ := hrel
    by_cases hk0 : k = 0
    · subst hk0
      have r0 := HROW.out _ hb
      unfold Row at r0
      go_upto_region 8 with fail
      generalize hW1 : wr.alloc _ = W1
      have ba : Blk W1 wr.heap.size 63 [.int .i64 1, .int .i64 0, .int .i64 1, .int .i64 0, .int .i64 7, .bool true, .bool false, .int .i64 0, .int .i64 (-1)] := by rw [← hW1]; exact Blk.new2 _ [.int .i64 1, .int .i64 0, .int .i64 1, .int .i64 0, .int .i64 7, .bool true, .bool false, .int .i64 0, .int .i64 (-1)] rfl
      have hb1 : Below w.heap.size w W1 := by rw [← hW1]; exact hb.alloc hb.size _
      have HO1 : Hid (W1.ownsRow w.heap.size 63 9 v 0 []) := Lib.hid (by rw [← hW1]; exact HO.out.alloc _)
      clear hW1 r0 HO
      have ca := ba.row
      unfold Row at ca
      go_quiet (fail)
      generalize hWq : W1.drewN nq = Wq
      have hbq : Below w.heap.size w Wq := by rw [← hWq]; exact below_drewN hb1 _
      have bq : Blk Wq wr.heap.size 63 [.int .i64 1, .int .i64 0, .int .i64 1, .int .i64 0, .int .i64 7, .bool true, .bool false, .int .i64 0, .int .i64 (-1)] := by rw [← hWq]; exact ba.drewN _
      have HOq : Hid (Wq.ownsRow w.heap.size 63 9 v 0 []) := Lib.hid (by rw [← hWq]; exact HO1.out)
      clear hWq ca ba hb1 HO1
      have cq := bq.row
      unfold Row at cq
      go_wp2_with (at_builtin; refine wpList_append_own_at _ rfl (.tmp 52) (.tmp 54) 54 rfl w.heap.size 63 i0 (.agg #[.int .i64 0, .int .i64 0, .int .i64 0, .int .i64 0, .int .i64 0, .bool false, .bool false, .int .i64 0, .int .i64 0]) 9 64 Try.underlying54 hi hz0 hz1 hz2 rfl (by decide) v 0 [] rfl (HOq.out.alloc _) ⟨Wq.heap.size, 0, none⟩ 1 1 [.int .i64 1, .int .i64 0, .int .i64 1, .int .i64 0, .int .i64 7, .bool true, .bool false, .int .i64 0, .int .i64 (-1)] rfl rfl ?e0 ?e1 ?e2 ?e3 ?e4 ?_)
      case e0 => exact (Blk.new2 63 [.int .i64 1, .int .i64 0, .int .i64 1, .int .i64 0, .int .i64 7, .bool true, .bool false, .int .i64 0, .int .i64 (-1)] rfl).news2
      case e1 => intro u hu; simp only [List.mem_cons, List.not_mem_nil, or_false] at hu; rcases hu with rfl | rfl | rfl | rfl | rfl | rfl | rfl | rfl | rfl <;> rfl
      case e2 => unfold maxLen; omega
      case e3 => omega
      case e4 => simp; have := hbq.size; omega
      intro v3 w3 ho3 hg3 hnil3 hat3
      have hb3 : Below w.heap.size w w3 := (hbq.alloc hbq.size _).grown hg3 (by simp; have := hbq.size; omega) (by intro g hg; exact (HOq.out.lt g hg).1)
      have O3 : Hid (w3.ownsRow w.heap.size 63 9 v3 (0 + 1) (if 0 + 1 = 0 then [] else [.int .i64 1, .int .i64 0, .int .i64 1, .int .i64 0, .int .i64 7, .bool true, .bool false, .int .i64 0, .int .i64 (-1)])) := Lib.hid (by simpa using ho3)
      obtain ⟨A3, c3, hv3⟩ := own_form2 ho3
      clear ho3 hg3 hnil3 hat3 HOq cq bq
      subst hv3
      go_wp2_with fail
      go_roundw
      case rel => exact ⟨0 + 1, _, rfl, by omega, by go_num, hb3, O3⟩
      case measure => simp [intOf]
    · obtain rfl : k = 1 := by omega
      have ho : wr.ownsRow w.heap.size 63 9 v 1 [.int .i64 1, .int .i64 0, .int .i64 1, .int .i64 0, .int .i64 7, .bool true, .bool false, .int .i64 0, .int .i64 (-1)] := HO.out
      rcases ho.2 with ⟨_, h0⟩ | ⟨g', cap, cur, hv, _, hgh, _⟩
      · cases h0
      subst hv
      have HF : Hid (g' < wr.heap.size ∧ ∀ i u, [.int .i64 1, .int .i64 0, .int .i64 1, .int .i64 0, .int .i64 7, .bool true, .bool false, .int .i64 0, .int .i64 (-1)][i]? = some u → wr.cell? ⟨g', i, none⟩ = some u) := Lib.hid ⟨heap_lt hgh, fun i u hu => by have := ho.cells (g := g') rfl i u hu; rwa [add_off] at this⟩
      clear ho HO hgh
      go_wp2_with fail
      refine (sort1 _ _ _ _).mono ?_
      rintro e w' ⟨rfl, rfl⟩
      go_wp2_with fail
      go_ret2
      exact ⟨hb, g', cap, rfl, HF.out.1, HF.out.2⟩
end Go.Proofs.Ytepamedbbbfjkaa

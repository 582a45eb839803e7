/- Holdings in memory; the reference's Find. -/
import Derived.Test.YtepamedbbbfjkaaNod3
namespace Go.Proofs.Ytepamedbbbfjkaa
open Go.RowKit
open Nd

/-- A holding with the place of its list of nodes. -/
structure Ho where
  (fl fr : Int) (ak : List Int) (A : Option Addr) (c : Nat)
def Ho.row (h : Ho) : List Value := [.int .i64 h.fl, .int .i64 h.fr, .slice h.A h.ak.length h.c]
def Ho.d (h : Ho) : Hd := ⟨h.fl, h.fr, h.ak⟩
theorem Ho.row_len (h : Ho) : h.row.length = 3 := rfl
theorem Fl.row_len (f : Fl) : f.row.length = 6 := rfl
def InnH (w : World) (B : Nat) (l : List Ho) : Prop := ∀ h ∈ l, LiesI w B h.A h.ak ∧ h.ak.length ≤ 1000000
def LiesH (w : World) (B : Nat) (A : Option Addr) (l : List Ho) : Prop := Lies w B 3 A (l.map Ho.row) ∧ InnH w B l
theorem LiesH.below {w w' : World} {B : Nat} {A : Option Addr} {l : List Ho} (h : LiesH w B A l) (hb : Below B w w') : LiesH w' B A l := ⟨h.1.below hb, fun x hx => ⟨(h.2 x hx).1.below hb, (h.2 x hx).2⟩⟩
theorem LiesH.more {w : World} {B B' : Nat} {A : Option Addr} {l : List Ho} (h : LiesH w B A l) (hB : B ≤ B') : LiesH w B' A l := ⟨h.1.more hB, fun x hx => ⟨(h.2 x hx).1.more hB, (h.2 x hx).2⟩⟩
/-- As it is at a later world. -/
theorem LiesH.later {w w' : World} {A : Option Addr} {l : List Ho} (h : LiesH w w.heap.size A l) (hb : Below w.heap.size w w') : LiesH w' w'.heap.size A l := (h.below hb).more hb.size
theorem Lies.later {w w' : World} {sz : Nat} {A : Option Addr} {xs : List (List Value)} (h : Lies w w.heap.size sz A xs) (hb : Below w.heap.size w w') : Lies w' w'.heap.size sz A xs := (h.below hb).more hb.size
theorem LiesH.inn {w : World} {B : Nat} {A : Option Addr} {l : List Ho} (h : LiesH w B A l) {k : Nat} {a : Ho} (ha : l[k]? = some a) : LiesI w B a.A a.ak ∧ a.ak.length ≤ 1000000 := h.2 a (List.mem_of_getElem? ha)

theorem map_get_d {l : List Ho} {k : Nat} {a : Ho} (h : l[k]? = some a) : (l.map Ho.d)[k]? = some a.d := by rw [List.getElem?_map, h]; rfl
theorem map_drop_d {l : List Ho} {k : Nat} {a : Ho} (h : l[k]? = some a) : (l.map Ho.d).drop k = a.d :: (l.map Ho.d).drop (k + 1) := drop_of_get (map_get_d h)

set_option maxHeartbeats 1000000 in
theorem rfind_any (l : List Fl) (id : Int) (A : Option Addr) (c : Nat) (w : World) (hA : Lies w w.heap.size 6 A (l.map Fl.row)) (hl : l.length ≤ 1000000) :
    Calls Try.prog 37 #[.slice A l.length c, .int .i64 id] w fun e w' => e = .returned (.int .i64 (findF l id)) ∧ w = w' := by
  obtain ⟨n, hn⟩ : ∃ n, n = l.length := ⟨_, rfl⟩
  rw [← hn] at hl ⊢
  have HN := Lib.hid hn
  obtain ⟨T, hT⟩ : ∃ T, T = findF l id := ⟨_, rfl⟩
  rw [← hT]
  have HT := Lib.hid hT
  clear hn hT
  go_enter Try.func37, Try.ntmps37
  go_wp2_with fail
  go_loop [5] (fun i => ∃ (k : Nat), k ≤ n ∧ i = .int .i64 k ∧ Hid (T = idxP (fun f : Fl => f.id == id) (l.drop k) k)) (fun i => n - (intOf i).toNat)
  case atStart => exact ⟨0, Nat.zero_le _, rfl, Lib.hid (by rw [HT.out]; rfl)⟩
  case round =>
    obtain ⟨k, hk, rfl, hst⟩ := hrel
    by_cases hlt : k < n
    · obtain ⟨a, ha⟩ := get_of_lt (l := l) (k := k) (by rw [← HN.out]; exact hlt)
      obtain ⟨b, off, rfl, hbB, hcs⟩ := hA.at_ ha
      have c0 := hcs k a ha 0 _ rfl
      simp only [Nat.add_zero] at c0
      have hst' : Hid (T = if (a.id == id) = true then (k : Int) else idxP (fun f : Fl => f.id == id) (l.drop (k + 1)) ((k : Int) + 1)) := Lib.hid (by rw [hst.out, drop_of_get ha]; rfl)
      clear hcs ha hst
      cases hq : (a.id == id) with
      | true =>
        have hf := Lib.hid (show T = (k : Int) by rw [hst'.out, if_pos hq])
        clear hst'
        go_wp2_with fail
        go_ret
        exact ⟨ret_int (by rw [hf.out]), rfl⟩
      | false =>
        have hf := Lib.hid (show T = idxP (fun f : Fl => f.id == id) (l.drop (k + 1)) ((k + 1 : Nat) : Int) by rw [hst'.out, if_neg (by rw [hq]; decide)]; rfl)
        clear hst'
        go_wp2_with fail
        go_round
        case rel => exact ⟨k + 1, by omega, by go_num, hf⟩
        case measure => simp [intOf]; omega
    · have hf : Hid (T = -1) := Lib.hid (by rw [hst.out, List.drop_of_length_le (by rw [← HN.out]; omega)]; rfl)
      go_wp2_with fail
      go_ret
      exact ⟨ret_int (by rw [hf.out]), rfl⟩

theorem ncheck1_any (n : Int) (w : World) :
    Calls Try.prog 43 #[.int .i64 n] w fun e w' => e = .returned (.bool (decide (0 ≤ n) && decide (n < 32))) ∧ w = w' := by
  go_enter Try.func43, Try.ntmps43
  go_wp2
  all_goals
    go_ret
    exact ⟨ret_bool (by first | (simp [*]; done) | (simp [*]; omega)), rfl⟩

def prevH (l : List Ho) (k : Nat) : Option Hd := if k = 0 then none else (l[k - 1]?).map Ho.d
theorem prevH_zero (l : List Ho) : prevH l 0 = none := rfl
theorem prevH_succ {l : List Ho} {k : Nat} {a : Ho} (h : l[k]? = some a) : prevH l (k + 1) = some a.d := by unfold prevH; rw [if_neg (by omega), Nat.add_sub_cancel, h]; rfl
def prevI (l : List Int) (k : Nat) : Option Int := if k = 0 then none else l[k - 1]?
theorem prevI_zero (l : List Int) : prevI l 0 = none := rfl
theorem prevI_succ {l : List Int} {k : Nat} {a : Int} (h : l[k]? = some a) : prevI l (k + 1) = some a := by unfold prevI; rw [if_neg (by omega), Nat.add_sub_cancel, h]
def upB (p : Option Hd) (h : Hd) : Bool := match p with | none => true | some q => decide (q.fl < h.fl)
theorem hdB_eq (fs : List Fl) (p : Option Hd) (h : Hd) : hdB fs p h = (decide (0 ≤ findF fs h.fl) && upB p h && decide (0 ≤ h.fr) && decide (h.fr ≤ 1073741824)) := rfl
def upI (p : Option Int) (n : Int) : Bool := match p with | none => true | some q => decide (q < n)
theorem akGo_cons (p : Option Int) (n : Int) (l : List Int) : akGo p (n :: l) = (decide (0 ≤ n) && decide (n < 32) && upI p n && akGo (some n) l) := rfl
theorem findF_bounds (l : List Fl) (id : Int) : (findF l id = -1) ∨ ∃ (i : Nat) (f : Fl), l[i]? = some f ∧ f.id = id ∧ findF l id = (i : Int) := by
  rcases idxP_spec (fun f : Fl => f.id == id) l 0 with ⟨h, _⟩ | ⟨i, a, h1, h2, h3, _⟩
  · exact .inl h
  · exact .inr ⟨i, a, h1, by simpa using h2, by unfold findF; rw [h3]; omega⟩
end Go.Proofs.Ytepamedbbbfjkaa

/- RecordDecodes: Decode accepts exactly the bytes of records in order, and restores them, as the reference does. -/
import Derived.Test.YtllakkepphpfmaaOpen
import Derived.Test.YtllakkepphpfmaaDecL
namespace Go.Proofs.Ytllakkepphpfmaa
open Go.RowKit
open Rc

/-- What either Decode answers: the record (an empty one where the bytes are refused) and the error. -/
def decV (data : List UInt8) : Rec := if decOk data then (decP data).r else ⟨0, [], []⟩
def decE (data : List UInt8) : Int := if decOk data then 0 else 10
theorem decode_res (data : List UInt8) (w : World) (hl : data.length ≤ 100000) : Calls Try.prog 11 #[.string ⟨data.toArray⟩] w (RecRes w (decV data) (decE data)) := by
  refine (decode_any data w hl).mono ?_
  rintro e w' ⟨hb, hp⟩
  refine ⟨hb, ?_⟩
  cases hok : decOk data with
  | true =>
    rw [if_pos hok] at hp
    simpa [decV, decE, hok] using hp
  | false =>
    rw [if_neg (by rw [hok]; simp)] at hp
    subst hp
    simp only [decV, decE, hok]
    exact ⟨none, none, 0, 0, rfl, LiesA.nil, LiesD.nil⟩
theorem rdecode_res (data : List UInt8) (w : World) (hl : data.length ≤ 100000) : Calls Try.prog 12 #[.string ⟨data.toArray⟩] w (RecRes w (decV data) (decE data)) := by
  refine (rdecode_any data w hl).mono ?_
  rintro e w' ⟨hb, hp⟩
  refine ⟨hb, ?_⟩
  cases hok : decOk data with
  | true =>
    obtain ⟨h1, h2⟩ := ref_of_dec hok
    rw [if_pos h1, h2] at hp
    simpa [decV, decE, hok] using hp
  | false =>
    have h1 : ¬ rdecOk data = true := fun h => by rw [dec_of_ref h] at hok; cases hok
    rw [if_neg h1] at hp
    subst hp
    simp only [decV, decE, hok]
    exact ⟨none, none, 0, 0, rfl, LiesA.nil, LiesD.nil⟩
theorem decV_len (data : List UInt8) : (decV data).al.length ≤ 65536 ∧ (decV data).dl.length ≤ 65536 := by
  unfold decV
  cases hok : decOk data with
  | true => simpa using dec_len hok
  | false => simp
theorem decV_enc {data : List UInt8} (h : decOk data = true) : encS (decV data) = data ∧ checkE (decV data) = 0 ∧ decE data = 0 := by
  obtain ⟨h1, h2⟩ := enc_of_dec h
  simp [decV, decE, h, encS, checkE, h1, h2]
theorem decE_no {data : List UInt8} (h : decOk data = false) : decE data = 10 := by simp [decE, h]

set_option maxRecDepth 100000 in
set_option maxHeartbeats 2000000 in
theorem recordDecodes_walk (data : List UInt8) (w : World) (hm : data.length ≤ 9223372036854775807) : Calls Try.prog 3 #[.string ⟨data.toArray⟩] w fun e w' => e = .returned (.bool true) ∧ Below w.heap.size w w' := by
  by_cases hlen : data.length ≤ 2000
  case neg =>
    have d0 : decide ((data.length : Int) > 2000) = true := by simp; omega
    have d1 : 2000 < data.length := by omega
    go_enter Try.func3, Try.ntmps3
    go_wp2_with fail
    refine (awake_any w).mono ?_
    rintro e w1 ⟨rfl, hb1⟩
    go_wp2_with fail
    refine (awake_any w1).mono ?_
    rintro e w2 ⟨rfl, hb2⟩
    go_wp2_with fail
    go_ret
    exact ⟨rfl, hb1.trans (hb2.mono hb1.size)⟩
  have hnl : ¬ 2000 < data.length := by omega
  have HD := Lib.hid (fun W => decode_res data W (by omega))
  have HR := Lib.hid (fun W => rdecode_res data W (by omega))
  obtain ⟨la, ld⟩ := decV_len data
  have HOK : Hid (decOk data = true → encS (decV data) = data ∧ checkE (decV data) = 0 ∧ decE data = 0) := Lib.hid decV_enc
  have HNO : Hid (decOk data = false → decE data = 10) := Lib.hid decE_no
  obtain ⟨V, hV⟩ : ∃ V, V = decV data := ⟨_, rfl⟩
  obtain ⟨E, hE⟩ : ∃ E, E = decE data := ⟨_, rfl⟩
  rw [← hV, ← hE] at HD HR HOK
  rw [← hE] at HNO
  rw [← hV] at la ld
  clear hV hE
  go_enter Try.func3, Try.ntmps3
  go_wp2_with fail
  refine (awake_any w).mono ?_
  rintro e w1 ⟨rfl, hb1⟩
  go_wp2_with fail
  refine (HD.out w1).mono ?_
  rintro e w2 ⟨hb2, A2, D2, ca2, cd2, rfl, lA2, lD2⟩
  have hbw2 : Below w.heap.size w w2 := hb1.trans (hb2.mono hb1.size)
  clear hb1 hb2
  go_wp2_with fail
  generalize hW3 : World.alloc _ _ = W3
  have b3 : Blk W3 w2.heap.size 28 [.int .i64 V.slots, .slice A2 V.al.length ca2, .slice D2 V.dl.length cd2] := by rw [← hW3]; exact Blk.new' _ [.int .i64 V.slots, .slice A2 V.al.length ca2, .slice D2 V.dl.length cd2] rfl
  have hw3 : Below w2.heap.size w2 W3 := by rw [← hW3]; exact (Below.refl _ _).alloc (Nat.le_refl _) _
  have lA3 := lA2.below hw3
  have lD3 := lD2.below hw3
  obtain ⟨G, hG⟩ : ∃ G, G = w2.heap.size := ⟨_, rfl⟩
  have hbw3 : Below w.heap.size w W3 := hbw2.trans (hw3.mono hbw2.size)
  rw [← hG] at b3 lA3 lD3 ⊢
  have hz3 : G < W3.heap.size := b3.lt
  obtain ⟨K, hK⟩ : ∃ K, K = W3.heap.size := ⟨_, rfl⟩
  rw [← hK] at hz3
  have H3 : Hid (∀ W, Below K W3 W → Row W G [.int .i64 V.slots, .slice A2 V.al.length ca2, .slice D2 V.dl.length cd2] ∧ LiesA W W.heap.size A2 V.al ∧ LiesD W W.heap.size D2 V.dl ∧ Below w.heap.size w W ∧ K ≤ W.heap.size) := Lib.hid fun W h =>
    ⟨(b3.below h hz3).row, (lA3.below_le h (by omega)).more (by have := h.size; omega), (lD3.below_le h (by omega)).more (by have := h.size; omega), hbw3.trans (h.mono (by have := hbw3.size; omega)), by have := h.size; omega⟩
  clear hW3 b3 lA2 lD2 hw3 lA3 lD3 hG hbw2
  refine (HR.out W3).mono ?_
  rintro e w4 ⟨hb4, A4, D4, ca4, cd4, rfl, lA4, lD4⟩
  rw [← hK] at hb4
  obtain ⟨r4, _, _, _, z4⟩ := H3.out _ hb4
  unfold Row at r4
  clear hK
  have hG4 : G < w4.heap.size := by omega
  have nE : (E != E) = false := by simp
  go_wp2_with fail
  generalize hW5 : World.alloc _ _ = W5
  have hw5 : Below w4.heap.size w4 W5 := by rw [← hW5]; exact (Below.refl _ _).alloc (Nat.le_refl _) _
  have hb5 : Below K W3 W5 := hb4.trans (hw5.mono z4)
  obtain ⟨_, lA5, lD5, _, z5⟩ := H3.out _ hb5
  clear hW5 r4
  refine (same_any V V A2 D2 A4 D4 ca2 cd2 ca4 cd4 W5 lA5 lD5 ((lA4.below hw5).more hw5.size) ((lD4.below hw5).more hw5.size) (by omega) (by omega) (by omega) (by omega)).mono ?_
  rw [show sameB V V = true by simp [sameB]]
  rintro e w6 ⟨rfl, hb6⟩
  have hb6' : Below K W3 w6 := hb5.trans (hb6.mono z5)
  obtain ⟨r6, lA6, lD6, _, z6⟩ := H3.out _ hb6'
  unfold Row at r6
  clear lA4 lD4 hw5 hb5 hb4 lA5 lD5 hb6
  go_wp2_with fail
  refine (encode_any V A2 D2 ca2 cd2 w6 lA6 lD6 (by omega) (by omega)).mono ?_
  rintro e w7 ⟨rfl, hb7⟩
  obtain ⟨_, _, _, hfin, _⟩ := H3.out _ (hb6'.trans (hb7.mono z6))
  clear r6
  cases hok : decOk data with
  | false =>
    have hE := HNO.out hok
    subst hE
    clear hok
    go_wp2_with fail
    go_ret
    exact ⟨rfl, hfin⟩
  | true =>
    obtain ⟨h1, h2, h3⟩ := HOK.out hok
    subst h3
    rw [h1, h2]
    clear hok h1 h2
    go_wp2_with fail
    go_ret
    exact ⟨rfl, hfin⟩

theorem recordDecodes_walk' (s : ByteArray) (w : World) (hs : s.size ≤ maxLen) : Calls Try.prog 3 #[.string s] w fun e w' => e = .returned (.bool true) ∧ Below w.heap.size w w' := by
  have e : (⟨s.data.toList.toArray⟩ : ByteArray) = s := by cases s; simp
  have h := recordDecodes_walk s.data.toList w (by unfold maxLen at hs; simpa using hs)
  rw [e] at h
  exact h

end Go.Proofs.Ytllakkepphpfmaa

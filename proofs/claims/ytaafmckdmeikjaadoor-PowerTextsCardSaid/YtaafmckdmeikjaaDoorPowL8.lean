/- The law PowerTexts. -/
import Derived.Test.YtaafmckdmeikjaaDoorPowV
namespace Go.Proofs.YtaafmckdmeikjaaDoor
open Go.RowKit

set_option maxRecDepth 100000 in
set_option maxHeartbeats 1000000 in
theorem powerTexts_walk (p : Int) (s : ByteArray) (w : World) (hT : TabC w) (hE : ErrC w) : Calls Tryd.prog 3 #[.int .i64 p, .string s] w fun e w' => e = .returned (.bool true) ∧ Below w.heap.size w w' := by
  have HT := Lib.hid hT
  have HE := Lib.hid hE
  clear hT hE
  by_cases hs : s.size ≤ 40
  case neg =>
    go_enter Tryd.func3, Tryd.ntmps3
    go_wp2_with (go_at_call 4; (with_reducible refine (awake_any _).mono ?_); rintro e w1 ⟨rfl, hb1⟩)
    go_ret
    exact ⟨rfl, hb1⟩
  have HF := Lib.hid fun W hW => format_any p W hW
  have HG := Lib.hid fun W => rformat_any p W
  have HP := Lib.hid fun W hW => parse_any s hs W hW
  have HQ := Lib.hid fun W => rparse_any s hs W
  generalize parR s.data.toList = R at *
  by_cases h : 1 ≤ p ∧ p ≤ 68719476736
  case neg =>
    rw [show fmtR p = (txt [], 2) from if_neg h] at HF HG
    dsimp only at HF HG
    have e1 : (txt []).toList.isEmpty = true := by unfold txt; rw [ByteArray.toList_eq]; rfl
    generalize txt [] = T at *
    clear h
    go_enter Tryd.func3, Tryd.ntmps3
    go_wp2_with (first
      | (go_at_call 4; (with_reducible refine (awake_any _).mono ?_); rintro e w1 ⟨rfl, hb1⟩)
      | (go_at_call 5; (with_reducible refine (HF.out _ (HT.out.below hb1)).mono ?_); rintro e w2 ⟨rfl, hb2⟩; have b2 := hb1.trans (hb2.mono hb1.size); clear hb2)
      | (go_at_call 6; (with_reducible refine (HG.out _).mono ?_); rintro e w3 ⟨rfl, hb3⟩; have b3 := b2.trans (hb3.mono b2.size); clear hb3)
      | (go_at_call 7; (with_reducible refine (HP.out _ (HE.out.below b3)).mono ?_); rintro e w4 ⟨rfl, hb4⟩; have b4 := b3.trans (hb4.mono b3.size); clear hb4)
      | (go_at_call 8; (with_reducible refine (HQ.out _).mono ?_); rintro e w5 ⟨rfl, hb5⟩; have b5 := b4.trans (hb5.mono b4.size); clear hb5))
    go_ret
    exact ⟨rfl, b5⟩
  have hd := dec_spec h.1
  rw [show fmtR p = (txt (Lib.decDigits (dec p) ++ unitB), 0) from if_pos h] at HF HG
  dsimp only at HF HG
  have hsz : (txt (Lib.decDigits (dec p) ++ unitB)).size ≤ 40 := by
    rw [txt_size, List.length_append]
    have := dec_len hd.1
    rw [txt_size] at this
    show _ + 3 ≤ _
    omega
  have HP2 := Lib.hid fun W hW => parse_any (txt (Lib.decDigits (dec p) ++ unitB)) hsz W hW
  rw [show (txt (Lib.decDigits (dec p) ++ unitB)).data.toList = Lib.decDigits (dec p) ++ unitB from rfl, parR_dec hd.1, levR_ok hd.1] at HP2
  dsimp only at HP2
  have hle : lev (dec p) ≤ p := hd.2.1
  generalize txt (Lib.decDigits (dec p) ++ unitB) = T at *
  generalize lev (dec p) = L at *
  clear hd h hsz
  go_enter Tryd.func3, Tryd.ntmps3
  go_wp2_with (first
    | (go_at_call 4; (with_reducible refine (awake_any _).mono ?_); rintro e w1 ⟨rfl, hb1⟩)
    | (go_at_call 5; (with_reducible refine (HF.out _ (HT.out.below hb1)).mono ?_); rintro e w2 ⟨rfl, hb2⟩; have b2 := hb1.trans (hb2.mono hb1.size); clear hb2)
    | (go_at_call 6; (with_reducible refine (HG.out _).mono ?_); rintro e w3 ⟨rfl, hb3⟩; have b3 := b2.trans (hb3.mono b2.size); clear hb3)
    | (go_at_call 7; (with_reducible refine (HP.out _ (HE.out.below b3)).mono ?_); rintro e w4 ⟨rfl, hb4⟩; have b4 := b3.trans (hb4.mono b3.size); clear hb4)
    | (go_at_call 8; (with_reducible refine (HQ.out _).mono ?_); rintro e w5 ⟨rfl, hb5⟩; have b5 := b4.trans (hb5.mono b4.size); clear hb5)
    | (go_at_call 7; (with_reducible refine (HP2.out _ (HE.out.below b5)).mono ?_); rintro e w6 ⟨rfl, hb6⟩; have b6 := b5.trans (hb6.mono b5.size); clear hb6))
  go_ret
  exact ⟨rfl, b6⟩
end Go.Proofs.YtaafmckdmeikjaaDoor

/- Walks: Parse of powers. -/
import Derived.Test.YtaafmckdmeikjaaDoorPowY
namespace Go.Proofs.YtaafmckdmeikjaaDoor
open Go.RowKit

def uB : ByteArray := ⟨#[32, 100, 66]⟩
theorem cut_no (s : ByteArray) (hs : s.size ≤ 40) (h : Lib.hasSuffix s.data.toList unitB = false) (w : World) : ∃ t, Calls Tryd.prog 16 #[.string s, .string ⟨#[32, 100, 66]⟩] w fun e w' => e = .returned (.tuple #[.string t, .bool false]) ∧ w' = w := by
  have h1 := Any.strings_CutSuffix Tryd.lays104 s ⟨#[32, 100, 66]⟩ w (by omega)
  have e1 : Lib.hasSuffix s.data.toList (⟨#[32, 100, 66]⟩ : ByteArray).data.toList = false := h
  rw [e1] at h1
  exact ⟨_, h1⟩
theorem cut_yes (s : ByteArray) (hs : s.size ≤ 40) (h : Lib.hasSuffix s.data.toList unitB = true) (w : World) : Calls Tryd.prog 16 #[.string s, .string ⟨#[32, 100, 66]⟩] w fun e w' => e = .returned (.tuple #[.string (txt (s.data.toList.take (s.data.toList.length - 3))), .bool true]) ∧ w' = w := by
  have h1 := Any.strings_CutSuffix Tryd.lays104 s ⟨#[32, 100, 66]⟩ w (by omega)
  have e1 : Lib.hasSuffix s.data.toList (⟨#[32, 100, 66]⟩ : ByteArray).data.toList = true := h
  unfold Lib.trimSuffix at h1
  rw [e1, if_pos rfl] at h1
  exact h1
theorem trim_any (d : List UInt8) (hd : d.length ≤ 40) (w : World) : Calls Tryd.prog 17 #[.string (txt d), .string ⟨#[48, 49, 50, 51, 52, 53, 54, 55, 56, 57]⟩] w fun e w' => e = .returned (.string (txt (Lib.trimS d decB))) ∧ Below w.heap.size w w' :=
  Any.strings_Trim_laid Tryd.lays160 (by kernel_rfl) (txt d) ⟨#[48, 49, 50, 51, 52, 53, 54, 55, 56, 57]⟩ w (by rw [txt_size]; omega) (by decide) (ascii_of_all (by decide))

theorem atoi_yes (d : List UInt8) (hd : d.length ≤ 40) (hn : d ≠ []) (ha : d.all dg = true) (hlt : dvalF 0 d < 9223372036854775808) (w : World) : Calls Tryd.prog 18 #[.string (txt d)] w fun e w' => e = .returned (.tuple #[.int .i64 (dvalF 0 d : Nat), .nilIface]) ∧ Below w.heap.size w w' := by
  have h : Lib.atoiAll (txt d).data.toList = .ok ((dvalF 0 d : Nat) : Int) := by
    rcases atoi_dg hn ha with ⟨h, _⟩ | ⟨_, h⟩
    · exact h
    · omega
  refine (Any.strconv_Atoi_ok Tryd.laysC172 (txt d) (by rw [txt_size]; omega) _ h w).mono ?_
  rintro e w' ⟨rfl, hw⟩
  refine ⟨rfl, ?_⟩
  rcases hw with rfl | ⟨t, rfl⟩
  · exact Below.refl _ _
  · exact Lib.bytesWorld_below _ _ _
theorem atoi_no (d : List UInt8) (hd : d.length ≤ 40) (hn : d ≠ []) (ha : d.all dg = true) (hlt : 9223372036854775808 ≤ dvalF 0 d) (w : World) (hE : ErrC w) : Calls Tryd.prog 18 #[.string (txt d)] w fun e w' => ∃ v N tp, e = .returned (.tuple #[.int .i64 v, .iface tp (.pointer (some ⟨N, 0, none⟩))]) ∧ Below w.heap.size w w' := by
  have h : Lib.atoiAll (txt d).data.toList = .range := by
    rcases atoi_dg hn ha with ⟨_, h⟩ | ⟨h, _⟩
    · omega
    · exact h
  obtain ⟨tp, p, hv⟩ := hE
  refine (Any.strconv_Atoi_range_var Tryd.laysC172 (txt d) (by rw [txt_size]; omega) h tp p w hv).mono ?_
  rintro e w' ⟨N, rfl, -, -, hb⟩
  exact ⟨_, _, _, rfl, hb⟩

set_option maxRecDepth 100000 in
set_option maxHeartbeats 1000000 in
theorem parse_any (s : ByteArray) (hs : s.size ≤ 40) (w : World) (hE : ErrC w) : Calls Tryd.prog 7 #[.string s] w fun e w' => e = .returned (.tuple #[.int .i64 (parR s.data.toList).1, .int .i64 (parR s.data.toList).2]) ∧ Below w.heap.size w w' := by
  cases hB : Lib.hasSuffix s.data.toList unitB with
  | false =>
    rw [show parR s.data.toList = (0, 3) by unfold parR; rw [hB]; rfl]
    have HC := Lib.hid fun W => cut_no s hs hB W
    dsimp only
    clear hB hE
    go_enter Tryd.func7, Tryd.ntmps7
    go_wp2_with (go_at_call 16; obtain ⟨t, hq⟩ := HC.out w; (with_reducible refine hq.mono ?_); rintro e w' ⟨rfl, rfl⟩)
    go_ret2
    exact ⟨rfl, Below.refl _ _⟩
  | true =>
    have HC := Lib.hid fun W => cut_yes s hs hB W
    have hl : (s.data.toList.take (s.data.toList.length - 3)).length ≤ 40 := by rw [List.length_take]; have : s.data.toList.length = s.size := rfl; omega
    rw [show parR s.data.toList = digR (s.data.toList.take (s.data.toList.length - 3)) by unfold parR; rw [hB]; rfl]
    generalize s.data.toList.take (s.data.toList.length - 3) = d at *
    have HTr := Lib.hid fun W => trim_any d hl W
    obtain ⟨D, hD⟩ : ∃ D, D = txt d := ⟨_, rfl⟩
    obtain ⟨V, hV⟩ : ∃ V, V = txt (Lib.trimS d decB) := ⟨_, rfl⟩
    rw [← hD] at HC HTr
    rw [← hV] at HTr
    have hDl : D.toList = d := by rw [hD, ByteArray.toList_eq]; rfl
    have hVl : V.toList = Lib.trimS d decB := by rw [hV, ByteArray.toList_eq]; rfl
    have hDs : D.size = d.length := by rw [hD]; rfl
    obtain ⟨R, hR⟩ : ∃ R, R = digR d := ⟨_, rfl⟩
    rw [← hR]
    have HR := Lib.hid hR
    clear hR
    by_cases hn : d = []
    · have h1 : D.toList.isEmpty = true := by rw [hDl, hn]; rfl
      have e := Lib.hid (show R = (0, 3) by rw [HR.out, digR, if_neg (by rw [hn]; simp)])
      clear hDl hVl hDs hn hV hD hB
      go_enter Tryd.func7, Tryd.ntmps7
      go_wp2_with (first | (go_at_call 16; (with_reducible refine (HC.out _).mono ?_); rintro e w' ⟨rfl, rfl⟩) | (go_at_call 17; (with_reducible refine (HTr.out _).mono ?_); rintro e w2 ⟨rfl, hb⟩))
      go_ret2
      exact ⟨by rw [e.out]; rfl, Below.refl _ _⟩
    · have h1 : D.toList.isEmpty = false := by rw [hDl]; simpa using hn
      cases hall : d.all dg with
      | false =>
        have h2 : V.toList.isEmpty = false := by
          rw [hVl]
          cases hq : Lib.trimS d decB with
          | nil => rw [(trim_dg d).1 hq] at hall; cases hall
          | cons => rfl
        have e := Lib.hid (show R = (0, 3) by rw [HR.out, digR, if_neg (by rw [hall]; simp)])
        clear hDl hVl hDs hn hV hD hB hall
        go_enter Tryd.func7, Tryd.ntmps7
        go_wp2_with (first | (go_at_call 16; (with_reducible refine (HC.out _).mono ?_); rintro e w' ⟨rfl, rfl⟩) | (go_at_call 17; (with_reducible refine (HTr.out _).mono ?_); rintro e w2 ⟨rfl, hb⟩))
        go_ret2
        exact ⟨by rw [e.out]; rfl, hb⟩
      | true =>
        have h2 : V.toList.isEmpty = true := by rw [hVl, (trim_dg d).2 hall]; rfl
        have HE := Lib.hid hE
        have HY := Lib.hid fun h W => atoi_yes d hl hn hall h W
        have HN := Lib.hid fun h W hW => atoi_no d hl hn hall h W hW
        rw [← hD] at HY HN
        obtain ⟨c, r, hcr⟩ : ∃ c r, d = c :: r := by cases d with | nil => exact absurd rfl hn | cons c r => exact ⟨c, r, rfl⟩
        have hc0 : ∀ h : 0 < D.size, D[0]'h = c := by rw [hD, hcr]; exact fun _ => rfl
        clear hDl hVl hV hB hE
        cases hz : zlead d with
        | true =>
          have e := Lib.hid (show R = (0, 3) by rw [HR.out, digR, if_neg (by rw [hz]; simp)])
          have hz' : 1 < d.length ∧ c = 48 := by
            unfold zlead at hz
            rw [hcr] at hz ⊢
            simpa using hz
          have h3 : decide (1 < d.length) = true := decide_eq_true hz'.1
          have h4 : ((c.toNat : Int) == 48) = true := by rw [hz'.2]; rfl
          have h5 := hz'.1
          clear hz' hz hD hn hcr hall
          go_enter Tryd.func7, Tryd.ntmps7
          go_wp2_with (first | (go_at_call 16; (with_reducible refine (HC.out _).mono ?_); rintro e w' ⟨rfl, rfl⟩) | (go_at_call 17; (with_reducible refine (HTr.out _).mono ?_); rintro e w2 ⟨rfl, hb⟩))
          go_ret2
          exact ⟨by rw [e.out]; rfl, hb⟩
        | false =>
          have hR' : R = levR (satF 0 d : Nat) := by rw [HR.out, digR, if_pos ⟨hn, hall, hz⟩]
          have h6 : d.length ≤ 1 ∨ ((c.toNat : Int) == 48) = false := by
            unfold zlead at hz
            rw [hcr] at hz ⊢
            simp at hz
            rcases Nat.lt_or_ge 1 (c :: r).length with h | h
            · right
              rw [beq_eq_false_iff_ne]
              intro h7
              exact hz (by simpa using h) (UInt8.toNat_inj.1 (by show c.toNat = 48; omega))
            · exact Or.inl h
          by_cases hbig : 9223372036854775808 ≤ dvalF 0 d
          · rw [lev_big hbig] at hR'
            have e := Lib.hid hR'
            have HN' := Lib.hid (HN.out hbig)
            clear hbig hR' hz hD hn hcr hall HY HN
            rcases h6 with h6 | h6
            · have h7 : ¬ 1 < d.length := by omega
              clear h6
              go_enter Tryd.func7, Tryd.ntmps7
              go_wp2_with (first | (go_at_call 16; (with_reducible refine (HC.out _).mono ?_); rintro e w' ⟨rfl, rfl⟩) | (go_at_call 17; (with_reducible refine (HTr.out _).mono ?_); rintro e w2 ⟨rfl, hb⟩) | (go_at_call 18; (with_reducible refine (HN'.out _ (HE.out.below hb)).mono ?_); rintro e w3 ⟨v, N, tp, rfl, hb3⟩))
              go_ret2
              exact ⟨by rw [e.out]; rfl, hb.trans (hb3.mono hb.size)⟩
            · by_cases h7 : 1 < d.length
              · go_enter Tryd.func7, Tryd.ntmps7
                go_wp2_with (first | (go_at_call 16; (with_reducible refine (HC.out _).mono ?_); rintro e w' ⟨rfl, rfl⟩) | (go_at_call 17; (with_reducible refine (HTr.out _).mono ?_); rintro e w2 ⟨rfl, hb⟩) | (go_at_call 18; (with_reducible refine (HN'.out _ (HE.out.below hb)).mono ?_); rintro e w3 ⟨v, N, tp, rfl, hb3⟩))
                go_ret2
                exact ⟨by rw [e.out]; rfl, hb.trans (hb3.mono hb.size)⟩
              · go_enter Tryd.func7, Tryd.ntmps7
                go_wp2_with (first | (go_at_call 16; (with_reducible refine (HC.out _).mono ?_); rintro e w' ⟨rfl, rfl⟩) | (go_at_call 17; (with_reducible refine (HTr.out _).mono ?_); rintro e w2 ⟨rfl, hb⟩) | (go_at_call 18; (with_reducible refine (HN'.out _ (HE.out.below hb)).mono ?_); rintro e w3 ⟨v, N, tp, rfl, hb3⟩))
                go_ret2
                exact ⟨by rw [e.out]; rfl, hb.trans (hb3.mono hb.size)⟩
          · have HY' := Lib.hid (HY.out (by omega))
            rw [← lev_sat] at hR'
            have HL := Lib.hid fun W => Level_any (dvalF 0 d : Nat) W
            rw [← hR'] at HL
            generalize ((dvalF 0 d : Nat) : Int) = v at *
            clear hbig hR' hz hD hn hcr hall HY HN
            by_cases h7 : 1 < d.length
            · have h6 := h6.resolve_left (by omega)
              go_enter Tryd.func7, Tryd.ntmps7
              go_wp2_with (first | (go_at_call 16; (with_reducible refine (HC.out _).mono ?_); rintro e w' ⟨rfl, rfl⟩) | (go_at_call 17; (with_reducible refine (HTr.out _).mono ?_); rintro e w2 ⟨rfl, hb⟩) | (go_at_call 18; (with_reducible refine (HY'.out _).mono ?_); rintro e w3 ⟨rfl, hb3⟩) | (go_at_call 9; (with_reducible refine (HL.out _).mono ?_); rintro e w4 ⟨rfl, rfl⟩))
              go_ret2
              exact ⟨rfl, hb.trans (hb3.mono hb.size)⟩
            · clear h6
              go_enter Tryd.func7, Tryd.ntmps7
              go_wp2_with (first | (go_at_call 16; (with_reducible refine (HC.out _).mono ?_); rintro e w' ⟨rfl, rfl⟩) | (go_at_call 17; (with_reducible refine (HTr.out _).mono ?_); rintro e w2 ⟨rfl, hb⟩) | (go_at_call 18; (with_reducible refine (HY'.out _).mono ?_); rintro e w3 ⟨rfl, hb3⟩) | (go_at_call 9; (with_reducible refine (HL.out _).mono ?_); rintro e w4 ⟨rfl, rfl⟩))
              go_ret2
              exact ⟨rfl, hb.trans (hb3.mono hb.size)⟩
end Go.Proofs.YtaafmckdmeikjaaDoor

/- Walk: Losses of the reference. -/
import Derived.Test.YtllakkepphpfmaaRatt
namespace Go.Proofs.Ytllakkepphpfmaa
open Go.RowKit
open Rc

set_option maxRecDepth 100000 in
set_option maxHeartbeats 8000000 in
theorem rlosses_any (r : Rec) (A D : Option Addr) (ca cd : Nat) (flow frame fr to_ : Int) (w : World) (hA : LiesA w w.heap.size A r.al) (hla : r.al.length ≤ 1000000) :
    Calls Try.prog 27 #[.agg #[.int .i64 r.slots, .slice A r.al.length ca, .slice D r.dl.length cd], .int .i64 flow, .int .i64 frame, .int .i64 fr, .int .i64 to_] w fun e w' => Below w.heap.size w w' ∧ ∃ vo vs, e = .returned vo ∧ w'.ownsRow w.heap.size 48 1 vo vs.length vs ∧ Runs w' w.heap.size w'.heap.size vs (lossP r.al flow frame fr to_) := by
  have hcon := fun W (h : Below w.heap.size w W) => rattempts_any r A D ca cd flow frame W ((hA.below h).more h.size) hla
  obtain ⟨slots, al, dl⟩ := r
  dsimp only at *
  obtain ⟨F, hF⟩ : ∃ F, F = ofFrame al flow frame := ⟨_, rfl⟩
  have hFl : F.length ≤ 1000000 := by rw [hF]; exact Nat.le_trans (List.length_filter_le _ _) hla
  obtain ⟨na, hna⟩ : ∃ n, n = al.length := ⟨_, rfl⟩
  obtain ⟨nd, hnd⟩ : ∃ n, n = dl.length := ⟨_, rfl⟩
  unfold lossP
  rw [← hF, ← hna, ← hnd] at hcon
  rw [← hF, ← hna, ← hnd]
  have Con := Lib.hid hcon
  clear hF hcon hna hnd hA
  obtain ⟨T, hT⟩ : ∃ T, T = lossGo fr to_ F [] [] := ⟨_, rfl⟩
  rw [← hT]
  have HT := Lib.hid hT
  clear hT
  obtain ⟨n, hn⟩ : ∃ n, n = F.length := ⟨_, rfl⟩
  rw [← hn] at hFl
  have HL := Lib.hid hn
  clear hn
  obtain ⟨i0, hi, hz0, hz1, hz2⟩ := info_parts Try.infoInt
  obtain ⟨j0, ji, jz0, jz1, jz2⟩ := info_parts Try.infoInts
  have HI := Lib.hid (And.intro hi (And.intro hz0 (And.intro hz1 hz2)))
  have HJ := Lib.hid (And.intro ji (And.intro jz0 (And.intro jz1 jz2)))
  clear hi hz0 hz1 hz2 ji jz0 jz1 jz2
  go_enter Try.func27, Try.ntmps27
  go_wp2_with fail
  generalize hW0 : World.alloc _ _ = W0
  have hb0 : Below w.heap.size w W0 := by rw [← hW0]; exact (Below.refl _ _).alloc (Nat.le_refl _) _
  have hz : W0.heap.size = w.heap.size + 1 := by rw [← hW0]; simp
  clear hW0
  refine (Con.out W0 hb0).mono ?_
  rintro e w1 ⟨hb1, va, rfl, hva⟩
  rw [hz] at hb1 hva
  obtain ⟨N, hN⟩ : ∃ N, N = w.heap.size := ⟨_, rfl⟩
  rw [← hN] at hb0 hb1 hva ⊢
  have HN := Lib.hid hN
  replace hb0 := hb0.trans (hb1.mono (by omega))
  have hM : N + 1 ≤ w1.heap.size := by have := hb1.size; omega
  have hva1 : ∀ g, va.ownBlock = some g → N + 1 ≤ g ∧ g < w1.heap.size := hva.lt
  clear hb1 hN hz
  obtain ⟨M, hMe⟩ : ∃ M, M = w1.heap.size := ⟨_, rfl⟩
  rw [← hMe] at hM hva1
  have HM := Lib.hid hMe
  have HV1 := Lib.hid hva1
  clear hMe hva1
  rw [← HL.out] at hva
  obtain ⟨A1, cA, hv1⟩ := own_form hva
  have HVA := Lib.hid hva
  clear hva
  subst hv1
  obtain ⟨Rel, hRel⟩ : ∃ Rel : Nat → Value → Value → World → Prop, Rel = fun k vo vr wr => ∃ (R : Nat) (run : List Int) (out : List (List Int)) (vs : List Value), run.length ≤ k ∧ out.length ≤ k ∧ M ≤ R ∧ R ≤ wr.heap.size ∧
      wr.ownsRow (N + 1) 45 8 (.slice A1 n cA) n (flatA F) ∧ wr.ownsRow M 48 1 vo vs.length vs ∧ wr.ownsRow R 3 1 vr run.length (run.map (Value.int .i64)) ∧ Runs wr M R vs out ∧ Below N w wr ∧ Hid (T = lossGo fr to_ (F.drop k) run out) := ⟨_, rfl⟩
  have HRel := Lib.hid hRel
  clear hRel
  have hst0 : Rel 0 (.slice none 0 0) (.slice none 0 0) w1 := by
    rw [HRel.out]
    exact ⟨M, [], [], [], Nat.le_refl _, Nat.le_refl _, Nat.le_refl _, by rw [HM.out]; exact Nat.le_refl _, HVA.out, World.ownsRow_nil _ _ _ _, World.ownsRow_nil _ _ _ _, Runs.nil _ _ _, hb0, Lib.hid (by rw [HT.out]; simp)⟩
  go_wp2_with fail
  go_loopw [11, 12, 14] (fun s11 s12 i wr => ∃ (k : Nat) (vo vr : Value), vo = s11 ∧ vr = s12 ∧ k ≤ n ∧ i = .int .i64 k ∧ Rel k vo vr wr) (fun _ _ i _ => n - (intOf i).toNat)
  case atStart => exact ⟨0, _, _, rfl, rfl, Nat.zero_le _, rfl, hst0⟩
  case round =>
    clear HVA hb0 hst0
    obtain ⟨k, vo, vr, rfl, rfl, hk, rfl, hrel⟩ := hrel
    rw [HRel.out] at hrel
    obtain ⟨R, run, out, vs, hrl, hol, hMR, hRw, hoa, hoo, hor, hrs, hb, hst⟩ := hrel
    have hvl : vs.length ≤ k := by rw [hrs.1]; exact hol
    have HVO : Hid (∀ g, vo.ownBlock = some g → M ≤ g ∧ g < wr.heap.size) := Lib.hid hoo.lt
    have HVR : Hid (∀ g, vr.ownBlock = some g → R ≤ g ∧ g < wr.heap.size) := Lib.hid hor.lt
    obtain ⟨Ar, cr, hvr⟩ := own_form hor
    obtain ⟨Ao, co, hvo⟩ := own_form hoo
    subst hvr hvo
    have HA1 := Lib.hid hoa
    have HO1 := Lib.hid hoo
    have HR1 := Lib.hid hor
    have HRS := Lib.hid hrs
    clear hoo hor hrs
    by_cases hlt : k < n
    · obtain ⟨a, ha⟩ := get_of_lt (l := F) (k := k) (by rw [← HL.out]; exact hlt)
      have hoa2 : wr.ownsRow (N + 1) 45 8 (.slice A1 n cA) F.length (flatA F) := by rw [← HL.out]; exact hoa
      have hl2 := own_A hoa2
      obtain ⟨b, off, rfl, hbB, hcs⟩ := hl2.at_ ha
      obtain ⟨c0, c1, c2, c3, c4, c5, c6, c7⟩ := hcs k a ha
      have hd := Lib.hid (drop_of_get ha)
      clear hcs ha hl2 hoa2 hoa
      by_cases hskip : ¬ a.cf = fr ∨ ¬ a.ct = to_
      · have hst' : Hid (T = lossGo fr to_ (F.drop (k + 1)) run out) := Lib.hid (by rw [hst.out, hd.out]; simp only [lossGo]; rw [if_pos hskip])
        clear hst
        have hnew : Rel (k + 1) (.slice Ao vs.length co) (.slice Ar run.length cr) wr := by
          rw [HRel.out]
          exact ⟨R, run, out, vs, by omega, by omega, hMR, by omega, HA1.out, HO1.out, HR1.out, HRS.out, hb, hst'⟩
        by_cases h1 : a.cf = fr
        · have h2 : ¬ a.ct = to_ := by rcases hskip with h | h; exact absurd h1 h; exact h
          go_wp2_with fail
          go_roundw
          case rel => exact ⟨k + 1, _, _, rfl, rfl, by omega, by go_num, hnew⟩
          case measure => simp [intOf]; omega
        · go_wp2_with fail
          go_roundw
          case rel => exact ⟨k + 1, _, _, rfl, rfl, by omega, by go_num, hnew⟩
          case measure => simp [intOf]; omega
      · have hs1 : a.cf = fr := Classical.byContradiction fun h => hskip (Or.inl h)
        have hs2 : a.ct = to_ := Classical.byContradiction fun h => hskip (Or.inr h)
        by_cases hack : a.o = 1
        · have hst' : Hid (T = lossGo fr to_ (F.drop (k + 1)) [] (flush run out)) := Lib.hid (by rw [hst.out, hd.out]; simp only [lossGo]; rw [if_neg hskip, if_pos hack])
          clear hst
          by_cases h0 : run.length = 0
          · have hf : flush run out = out := by simp [flush, h0]
            have hnew : Rel (k + 1) (.slice Ao vs.length co) (.slice none 0 0) wr := by
              rw [HRel.out]
              exact ⟨R, [], out, vs, by simp, by omega, hMR, by omega, HA1.out, HO1.out, World.ownsRow_nil _ _ _ _, HRS.out, hb, Lib.hid (by rw [hst'.out, hf])⟩
            clear hf
            rw [h0]
            go_wp2_with fail
            go_roundw
            case rel => exact ⟨k + 1, _, _, rfl, rfl, by omega, by go_num, hnew⟩
            case measure => simp [intOf]; omega
          · have hf : flush run out = out ++ [run] := by simp [flush, h0]
            have hpos : 0 < run.length := by omega
            have HF2 := Lib.hid hf
            clear hf
            go_wp2_with (at_builtin; refine wpList_append_own_at _ rfl (.tmp 60) (.tmp 62) 46 rfl M 48 j0 (.slice none 0 0) 1 24 Try.underlying46 HJ.out.1 HJ.out.2.1 HJ.out.2.2.1 HJ.out.2.2.2 rfl (by decide) (.slice Ao vs.length co) vs.length vs rfl (HO1.out.alloc _) ⟨wr.heap.size, 0, none⟩ 1 1 [.slice Ar run.length cr] rfl rfl ?e0 ?e1 ?e2 ?e3 ?e4 ?_)
            case e0 => exact (Blk.new' 48 [.slice Ar run.length cr] rfl).news
            case e1 => intro u hu; simp at hu; subst hu; rfl
            case e2 => unfold maxLen; omega
            case e3 => omega
            case e4 => simp; omega
            intro v3 w3 ho3 hg3 hnil3 hat3
            clear hnil3 hat3
            have hkp : ∀ g t cs, t ≠ 48 → Blk wr g t cs → Blk w3 g t cs := fun g t cs h1 h => (h.alloc _).grown_ hg3 (by
              intro e
              exact h1 (own_type HO1.out e h))
            have oa3 := own_kept HA1.out fun g cs _ h => hkp g _ cs (by decide) h
            have or3 := own_kept HR1.out fun g cs _ h => hkp g _ cs (by decide) h
            have rs3 := HRS.out.kept (R' := R) (Nat.le_refl _) fun g cs _ h1 h => hkp g _ cs (by decide) h
            have hb3 : Below N w w3 := (hb.alloc (by omega) _).grown hg3 (by simp; omega) (by intro g hg; have := HVO.out g hg; omega)
            have hz3 : wr.heap.size + 1 ≤ w3.heap.size := by have := hg3.size; simpa using this
            obtain ⟨A3, c3', hv3⟩ := own_form ho3
            have hnew : Rel (k + 1) v3 (.slice none 0 0) w3 := by
              rw [HRel.out]
              refine ⟨w3.heap.size, [], out ++ [run], vs ++ [.slice Ar run.length cr], by simp, by simp; omega, by omega, by omega, oa3, by simpa using ho3, World.ownsRow_nil _ _ _ _, ?_, hb3, Lib.hid (by rw [hst'.out, HF2.out])⟩
              exact Runs.snoc (rs3.kept (by omega) fun g cs _ _ h => h) (own_weak or3 hMR) fun g hg => by have := HVR.out g hg; omega
            have HNEW := Lib.hid hnew
            clear oa3 or3 rs3 ho3 hg3 hkp HRS HO1 HR1 HA1 hnew
            subst hv3
            go_wp2_with fail
            go_roundw
            case rel => exact ⟨k + 1, _, _, rfl, rfl, by omega, by go_num, HNEW.out⟩
            case measure => simp [intOf]; omega
        · have hst' : Hid (T = lossGo fr to_ (F.drop (k + 1)) (run ++ [a.s]) out) := Lib.hid (by rw [hst.out, hd.out]; simp only [lossGo]; rw [if_neg hskip, if_neg hack])
          clear hst
          go_wp2_with (at_builtin; refine wpList_append_own_at _ rfl (.tmp 49) (.tmp 55) 48 rfl R 3 i0 (.int .i64 0) 1 8 Try.underlying48 HI.out.1 HI.out.2.1 HI.out.2.2.1 HI.out.2.2.2 rfl (by decide) (.slice Ar run.length cr) run.length (run.map (Value.int .i64)) rfl (HR1.out.alloc _) ⟨wr.heap.size, 0, none⟩ 1 1 [.int .i64 a.s] rfl rfl ?e0 ?e1 ?e2 ?e3 ?e4 ?_)
          case e0 => exact (Blk.new' 3 [.int .i64 a.s] rfl).news
          case e1 => exact ints_one (l := [a.s])
          case e2 => unfold maxLen; omega
          case e3 => omega
          case e4 => simp; omega
          intro v3 w3 ho3 hg3 hnil3 hat3
          clear hnil3 hat3
          have hkp : ∀ g t cs, g < R ∨ t ≠ 3 → Blk wr g t cs → Blk w3 g t cs := fun g t cs h1 h => (h.alloc _).grown_ hg3 (by
            intro e
            rcases h1 with h1 | h1
            · have := HVR.out g e.symm; omega
            · exact h1 (own_type HR1.out e h))
          have oa3 := own_kept HA1.out fun g cs _ h => hkp g _ cs (Or.inr (by decide)) h
          have oo3 := own_kept HO1.out fun g cs _ h => hkp g _ cs (Or.inr (by decide)) h
          have rs3 := HRS.out.kept (R' := R) (Nat.le_refl _) fun g cs _ h1 h => hkp g _ cs (Or.inl h1) h
          have hb3 : Below N w w3 := (hb.alloc (by omega) _).grown hg3 (by simp; omega) (by intro g hg; have := HVR.out g hg; omega)
          have hz3 : wr.heap.size + 1 ≤ w3.heap.size := by have := hg3.size; simpa using this
          obtain ⟨A3, c3', hv3⟩ := own_form ho3
          have hnew : Rel (k + 1) (.slice Ao vs.length co) v3 w3 := by
            rw [HRel.out]
            exact ⟨R, run ++ [a.s], out, vs, by simp; omega, by omega, hMR, by omega, oa3, oo3, by simpa using ho3, rs3, hb3, hst'⟩
          have HNEW := Lib.hid hnew
          clear oa3 oo3 rs3 ho3 hg3 hkp HRS HO1 HR1 HA1 hnew
          subst hv3
          go_wp2_with fail
          go_roundw
          case rel => exact ⟨k + 1, _, _, rfl, rfl, by omega, by go_num, HNEW.out⟩
          case measure => simp [intOf]; omega
    · have hst' : Hid (T = flush run out) := Lib.hid (by rw [hst.out, List.drop_of_length_le (by rw [← HL.out]; omega)]; rfl)
      clear hst hoa
      by_cases h0 : run.length = 0
      · have hf : Hid (T = out) := Lib.hid (by rw [hst'.out]; simp [flush, h0])
        rw [h0]
        go_wp2_with fail
        go_ret
        refine ⟨by rw [← HN.out]; exact hb, _, vs, rfl, own_weak HO1.out (by rw [← HN.out]; omega), ?_⟩
        rw [hf.out]
        refine ⟨HRS.out.1, fun i v l hv hl => ?_⟩
        obtain ⟨q1, q2⟩ := HRS.out.2 i v l hv hl
        exact ⟨own_weak q1 (by rw [← HN.out]; omega), fun g hg => (q1.lt g hg).2⟩
      · have hf : Hid (T = out ++ [run]) := Lib.hid (by rw [hst'.out]; simp [flush, h0])
        have hpos : 0 < run.length := by omega
        clear hst'
        go_wp2_with (at_builtin; refine wpList_append_own_at _ rfl (.tmp 67) (.tmp 69) 46 rfl M 48 j0 (.slice none 0 0) 1 24 Try.underlying46 HJ.out.1 HJ.out.2.1 HJ.out.2.2.1 HJ.out.2.2.2 rfl (by decide) (.slice Ao vs.length co) vs.length vs rfl (HO1.out.alloc _) ⟨wr.heap.size, 0, none⟩ 1 1 [.slice Ar run.length cr] rfl rfl ?e0 ?e1 ?e2 ?e3 ?e4 ?_)
        case e0 => exact (Blk.new' 48 [.slice Ar run.length cr] rfl).news
        case e1 => intro u hu; simp at hu; subst hu; rfl
        case e2 => unfold maxLen; omega
        case e3 => omega
        case e4 => simp; omega
        intro v3 w3 ho3 hg3 hnil3 hat3
        clear hnil3 hat3
        have hkp : ∀ g t cs, t ≠ 48 → Blk wr g t cs → Blk w3 g t cs := fun g t cs h1 h => (h.alloc _).grown_ hg3 (by
          intro e
          exact h1 (own_type HO1.out e h))
        have or3 := own_kept HR1.out fun g cs _ h => hkp g _ cs (by decide) h
        have rs3 := HRS.out.kept (R' := R) (Nat.le_refl _) fun g cs _ h1 h => hkp g _ cs (by decide) h
        have hb3 : Below N w w3 := (hb.alloc (by omega) _).grown hg3 (by simp; omega) (by intro g hg; have := HVO.out g hg; omega)
        have hz3 : wr.heap.size + 1 ≤ w3.heap.size := by have := hg3.size; simpa using this
        obtain ⟨A3, c3', hv3⟩ := own_form ho3
        have OO := Lib.hid ho3
        have RS := Lib.hid (Runs.snoc (rs3.kept (R' := w3.heap.size) (by omega) fun g cs _ _ h => h) (own_weak or3 hMR) fun g hg => by have := HVR.out g hg; omega)
        clear or3 rs3 ho3 hg3 hkp HRS HO1 HR1 HA1
        subst hv3
        go_wp2_with fail
        go_ret
        refine ⟨by rw [← HN.out]; exact hb3, _, vs ++ [.slice Ar run.length cr], rfl, own_weak (by simpa using OO.out) (show w.heap.size ≤ M by rw [← HN.out]; omega), ?_⟩
        rw [hf.out]
        refine ⟨RS.out.1, fun i v l hv hl => ?_⟩
        obtain ⟨q1, q2⟩ := RS.out.2 i v l hv hl
        exact ⟨own_weak q1 (by rw [← HN.out]; omega), fun g hg => (q1.lt g hg).2⟩

end Go.Proofs.Ytllakkepphpfmaa

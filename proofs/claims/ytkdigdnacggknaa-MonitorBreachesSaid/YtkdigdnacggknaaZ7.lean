import Derived.Sort.Grow
import Derived.Deep.Draws
import Derived.Shelf.SlSortCmp.WholeK
import Derived.Test.YtkdigdnacggknaaZ6
import Derived.Test.YtkdigdnacggknaaProg
set_option linter.unusedVariables false
set_option linter.unusedSimpArgs false
/- Walk: Attempts of the reference. -/
namespace Go.Proofs.Ytkdigdnacggknaa
open Go.RowKit
open Rc

set_option maxRecDepth 100000 in
set_option maxHeartbeats 8000000 in
theorem rattempts_any (r : Rec) (A D : Option Addr) (ca cd : Nat) (flow frame : Int) (w : World) (hA : LiesA w w.heap.size A r.al) (hla : r.al.length ≤ 1000000) :
    Calls Try.prog 86 #[.agg #[.int .i64 r.slots, .slice A r.al.length ca, .slice D r.dl.length cd], .int .i64 flow, .int .i64 frame] w fun e w' => Below w.heap.size w w' ∧ ∃ va, e = .returned va ∧ w'.ownsRow w.heap.size 66 8 va (ofFrame r.al flow frame).length (flatA (ofFrame r.al flow frame)) := by
  obtain ⟨slots, al, dl⟩ := r
  dsimp only at *
  obtain ⟨na, hna⟩ : ∃ n, n = al.length := ⟨_, rfl⟩
  obtain ⟨nd, hnd⟩ : ∃ n, n = dl.length := ⟨_, rfl⟩
  rw [← hna, ← hnd]
  rw [← hna] at hla
  have HA := Lib.hid hna
  clear hna hnd
  obtain ⟨F, hF⟩ : ∃ F, F = ofFrame al flow frame := ⟨_, rfl⟩
  rw [← hF]
  have HF := Lib.hid hF
  clear hF
  obtain ⟨i0, hi, hz0, hz1, hz2⟩ := info_parts Try.infoAtt
  go_enter Try.func86, Try.ntmps86
  go_wp2_with fail
  generalize hW0 : World.alloc _ _ = W0
  have bR : Blk W0 w.heap.size 28 [.int .i64 slots, .slice A na ca, .slice D nd cd] := by rw [← hW0]; exact Blk.new' _ [.int .i64 slots, .slice A na ca, .slice D nd cd] rfl
  have hb0 : Below w.heap.size w W0 := by rw [← hW0]; exact (Below.refl _ _).alloc (Nat.le_refl _) _
  clear hW0
  obtain ⟨N, hN⟩ : ∃ N, N = w.heap.size := ⟨_, rfl⟩
  rw [← hN] at bR hb0 ⊢
  have hA' : LiesA w N A al := by rw [hN]; exact hA
  have HN := Lib.hid hN
  clear hN hA
  go_loopw [7, 8] (fun s7 i wr => ∃ (k : Nat) (acc : List Att) (va : Value), va = s7 ∧ Blk wr N 28 [.int .i64 slots, .slice A na ca, .slice D nd cd] ∧ k ≤ na ∧ i = .int .i64 k ∧ acc.length ≤ k ∧ wr.ownsRow (N + 1) 66 8 va acc.length (flatA acc) ∧ Below N w wr ∧ N + 1 ≤ wr.heap.size ∧ Hid (F = acc ++ ofFrame (al.drop k) flow frame)) (fun _ i _ => na - (intOf i).toNat)
  case atStart => exact ⟨0, [], _, rfl, bR, Nat.zero_le _, rfl, Nat.le_refl _, World.ownsRow_nil _ _ _ _, hb0, bR.lt, Lib.hid (by rw [HF.out]; simp)⟩
  case round =>
    obtain ⟨k, acc, va, rfl, bR2, hk, rfl, hal, hown, hb, hMw, hst⟩ := hrel
    have cR := bR2.row
    unfold Row at cR
    by_cases hlt : k < na
    · obtain ⟨a, ha⟩ := get_of_lt (l := al) (k := k) (by rw [← HA.out]; exact hlt)
      obtain ⟨b, off, rfl, hbB, hcs⟩ := (hA'.below hb).at_ ha
      obtain ⟨c0, c1, c2, c3, c4, c5, c6, c7⟩ := hcs k a ha
      have hd := Lib.hid (drop_of_get ha)
      have hvl : ∀ g, va.ownBlock = some g → N + 1 ≤ g ∧ g < wr.heap.size := hown.lt
      have HV := Lib.hid hvl
      clear hcs ha hvl
      go_upto_region 6 with fail
      generalize hW1 : wr.alloc _ = W1
      have ba : Blk W1 wr.heap.size 66 [.int .i64 a.s, .int .i64 a.f, .int .i64 a.cs, .int .i64 a.co, .int .i64 a.cf, .int .i64 a.ct, .int .i64 a.cl, .int .i64 a.o] := by rw [← hW1]; exact Blk.new' _ [.int .i64 a.s, .int .i64 a.f, .int .i64 a.cs, .int .i64 a.co, .int .i64 a.cf, .int .i64 a.ct, .int .i64 a.cl, .int .i64 a.o] rfl
      have hb1 : Below N w W1 := by rw [← hW1]; exact hb.alloc (by omega) _
      have hsz : wr.heap.size + 1 ≤ W1.heap.size := by rw [← hW1]; simp
      have hown1 : W1.ownsRow (N + 1) 66 8 va acc.length (flatA acc) := by rw [← hW1]; exact hown.alloc _
      have bR3 : Blk W1 N 28 [.int .i64 slots, .slice (some ⟨b, off, none⟩) na ca, .slice D nd cd] := by rw [← hW1]; exact bR2.alloc _
      have ca' := ba.row
      unfold Row at ca'
      clear cR bR2 hW1 c0 c1 c2 c3 c4 c5 c6 c7 hown
      by_cases hm : a.cl = flow ∧ a.f = frame
      · obtain ⟨h1, h2⟩ := hm
        have e1 : (a.cl == flow) = true := by simp [h1]
        have e2 : (a.f == frame) = true := by simp [h2]
        have hst' : Hid (F = (acc ++ [a]) ++ ofFrame (al.drop (k + 1)) flow frame) := Lib.hid (by rw [hst.out, hd.out]; simp [ofFrame, h1, h2])
        have HO := Lib.hid hown1
        clear hown1 hst h1 h2
        go_wp2_with (at_builtin; refine wpList_append_own_at _ rfl (.tmp 35) (.tmp 37) 23 rfl (N + 1) 66 i0 (.agg #[.int .i64 0, .int .i64 0, .int .i64 0, .int .i64 0, .int .i64 0, .int .i64 0, .int .i64 0, .int .i64 0]) 8 64 Try.underlying23 hi hz0 hz1 hz2 rfl (by decide) va acc.length (flatA acc) rfl (HO.out.alloc _) ⟨W1.heap.size, 0, none⟩ 1 1 [.int .i64 a.s, .int .i64 a.f, .int .i64 a.cs, .int .i64 a.co, .int .i64 a.cf, .int .i64 a.ct, .int .i64 a.cl, .int .i64 a.o] rfl rfl ?e0 ?e1 ?e2 ?e3 ?e4 ?_)
        case e0 => exact (Blk.new' 66 [.int .i64 a.s, .int .i64 a.f, .int .i64 a.cs, .int .i64 a.co, .int .i64 a.cf, .int .i64 a.ct, .int .i64 a.cl, .int .i64 a.o] rfl).news
        case e1 => exact ints_one (l := [a.s, a.f, a.cs, a.co, a.cf, a.ct, a.cl, a.o])
        case e2 => unfold maxLen; omega
        case e3 => omega
        case e4 => simp; omega
        intro v3 w3 ho3 hg3 hnil3 hat3
        clear hnil3 hat3
        have hb3 : Below N w w3 := (hb1.alloc (by omega) _).grown hg3 (by simp; omega) (by intro g hg; have := HV.out g hg; omega)
        have hz3 : N + 1 ≤ w3.heap.size := by have := hg3.size; simp at this; omega
        have bR4 : Blk w3 N 28 [.int .i64 slots, .slice (some ⟨b, off, none⟩) na ca, .slice D nd cd] := (bR3.alloc _).grown_ hg3 (by intro e; have := HV.out _ e.symm; omega)
        have O3 : w3.ownsRow (N + 1) 66 8 v3 (acc ++ [a]).length (flatA (acc ++ [a])) := by simpa [flatA, Att.row] using ho3
        obtain ⟨A3, c3, hv3⟩ := own_form ho3
        clear ho3 hg3 HO
        subst hv3
        go_wp2_with fail
        go_roundw
        case rel => exact ⟨k + 1, acc ++ [a], _, rfl, bR4, by omega, by go_num, by simp; omega, O3, hb3, hz3, hst'⟩
        case measure => simp [intOf]; omega
      · have hst' : Hid (F = acc ++ ofFrame (al.drop (k + 1)) flow frame) := Lib.hid (by
          rw [hst.out, hd.out]
          have : (a.cl == flow && a.f == frame) = false := by
            rw [Bool.eq_false_iff]
            intro h
            simp at h
            exact hm h
          simp only [ofFrame, List.filter_cons, this, Bool.false_eq_true, if_false])
        clear hst
        by_cases h1 : a.cl = flow
        · have h2 : ¬ a.f = frame := fun h => hm ⟨h1, h⟩
          have e1 : (a.cl == flow) = true := by simp [h1]
          have e2 : (a.f == frame) = false := by simp [h2]
          go_wp2_with fail
          go_roundw
          case rel => exact ⟨k + 1, acc, _, rfl, bR3, by omega, by go_num, by omega, hown1, hb1, by omega, hst'⟩
          case measure => simp [intOf]; omega
        · have e1 : (a.cl == flow) = false := by simp [h1]
          go_wp2_with fail
          go_roundw
          case rel => exact ⟨k + 1, acc, _, rfl, bR3, by omega, by go_num, by omega, hown1, hb1, by omega, hst'⟩
          case measure => simp [intOf]; omega
    · have hst' : Hid (F = acc) := Lib.hid (by rw [hst.out, List.drop_of_length_le (by rw [← HA.out]; omega)]; simp [ofFrame])
      obtain ⟨A3, c3, hv3⟩ := own_form hown
      have HO := Lib.hid hown
      clear hst hown
      subst hv3
      go_wp2_with fail
      go_ret
      exact ⟨by rw [← HN.out]; exact hb, _, rfl, by rw [hst'.out, ← HN.out]; exact own_weak HO.out (by omega)⟩

end Go.Proofs.Ytkdigdnacggknaa
/- Walk: Losses of the reference. -/
namespace Go.Proofs.Ytkdigdnacggknaa
open Go.RowKit
open Rc

set_option maxRecDepth 100000 in
set_option maxHeartbeats 8000000 in
theorem rlosses_any (r : Rec) (A D : Option Addr) (ca cd : Nat) (flow frame fr to_ : Int) (w : World) (hA : LiesA w w.heap.size A r.al) (hla : r.al.length ≤ 1000000) :
    Calls Try.prog 61 #[.agg #[.int .i64 r.slots, .slice A r.al.length ca, .slice D r.dl.length cd], .int .i64 flow, .int .i64 frame, .int .i64 fr, .int .i64 to_] w fun e w' => Below w.heap.size w w' ∧ ∃ vo vs, e = .returned vo ∧ w'.ownsRow w.heap.size 42 1 vo vs.length vs ∧ Runs w' w.heap.size w'.heap.size vs (lossP r.al flow frame fr to_) := by
  have hcon := fun W (h : Below w.heap.size w W) => rattempts_any r A D ca cd flow frame W ((hA.below h).more h.size) hla
  obtain ⟨slots, al, dl⟩ := r
  dsimp only at *
  obtain ⟨F, hF⟩ : ∃ F, F = ofFrame al flow frame := ⟨_, rfl⟩
  have hFl : F.length ≤ 1000000 := by rw [hF]; exact Nat.le_trans (List.length_filter_le _ _) hla
  obtain ⟨na, hna⟩ : ∃ n, n = al.length := ⟨_, rfl⟩
  obtain ⟨nd, hnd⟩ : ∃ n, n = dl.length := ⟨_, rfl⟩
  unfold lossP
  rw [← hF, ← hna, ← hnd] at hcon
  rw [← hF, ← hna, ← hnd]
  have Con := Lib.hid hcon
  clear hF hcon hna hnd hA
  obtain ⟨T, hT⟩ : ∃ T, T = lossGo fr to_ F [] [] := ⟨_, rfl⟩
  rw [← hT]
  have HT := Lib.hid hT
  clear hT
  obtain ⟨n, hn⟩ : ∃ n, n = F.length := ⟨_, rfl⟩
  rw [← hn] at hFl
  have HL := Lib.hid hn
  clear hn
  obtain ⟨i0, hi, hz0, hz1, hz2⟩ := info_parts Try.infoInt
  obtain ⟨j0, ji, jz0, jz1, jz2⟩ := info_parts Try.infoInts
  have HI := Lib.hid (And.intro hi (And.intro hz0 (And.intro hz1 hz2)))
  have HJ := Lib.hid (And.intro ji (And.intro jz0 (And.intro jz1 jz2)))
  clear hi hz0 hz1 hz2 ji jz0 jz1 jz2
  go_enter Try.func61, Try.ntmps61
  go_wp2_with fail
  generalize hW0 : World.alloc _ _ = W0
  have hb0 : Below w.heap.size w W0 := by rw [← hW0]; exact (Below.refl _ _).alloc (Nat.le_refl _) _
  have hz : W0.heap.size = w.heap.size + 1 := by rw [← hW0]; simp
  clear hW0
  refine (Con.out W0 hb0).mono ?_
  rintro e w1 ⟨hb1, va, rfl, hva⟩
  rw [hz] at hb1 hva
  obtain ⟨N, hN⟩ : ∃ N, N = w.heap.size := ⟨_, rfl⟩
  rw [← hN] at hb0 hb1 hva ⊢
  have HN := Lib.hid hN
  replace hb0 := hb0.trans (hb1.mono (by omega))
  have hM : N + 1 ≤ w1.heap.size := by have := hb1.size; omega
  have hva1 : ∀ g, va.ownBlock = some g → N + 1 ≤ g ∧ g < w1.heap.size := hva.lt
  clear hb1 hN hz
  obtain ⟨M, hMe⟩ : ∃ M, M = w1.heap.size := ⟨_, rfl⟩
  rw [← hMe] at hM hva1
  have HM := Lib.hid hMe
  have HV1 := Lib.hid hva1
  clear hMe hva1
  rw [← HL.out] at hva
  obtain ⟨A1, cA, hv1⟩ := own_form hva
  have HVA := Lib.hid hva
  clear hva
  subst hv1
  obtain ⟨Rel, hRel⟩ : ∃ Rel : Nat → Value → Value → World → Prop, Rel = fun k vo vr wr => ∃ (R : Nat) (run : List Int) (out : List (List Int)) (vs : List Value), run.length ≤ k ∧ out.length ≤ k ∧ M ≤ R ∧ R ≤ wr.heap.size ∧
      wr.ownsRow (N + 1) 66 8 (.slice A1 n cA) n (flatA F) ∧ wr.ownsRow M 42 1 vo vs.length vs ∧ wr.ownsRow R 3 1 vr run.length (run.map (Value.int .i64)) ∧ Runs wr M R vs out ∧ Below N w wr ∧ Hid (T = lossGo fr to_ (F.drop k) run out) := ⟨_, rfl⟩
  have HRel := Lib.hid hRel
  clear hRel
  have hst0 : Rel 0 (.slice none 0 0) (.slice none 0 0) w1 := by
    rw [HRel.out]
    exact ⟨M, [], [], [], Nat.le_refl _, Nat.le_refl _, Nat.le_refl _, by rw [HM.out]; exact Nat.le_refl _, HVA.out, World.ownsRow_nil _ _ _ _, World.ownsRow_nil _ _ _ _, Runs.nil _ _ _, hb0, Lib.hid (by rw [HT.out]; simp)⟩
  go_wp2_with fail
  go_loopw [11, 12, 14] (fun s11 s12 i wr => ∃ (k : Nat) (vo vr : Value), vo = s11 ∧ vr = s12 ∧ k ≤ n ∧ i = .int .i64 k ∧ Rel k vo vr wr) (fun _ _ i _ => n - (intOf i).toNat)
  case atStart => exact ⟨0, _, _, rfl, rfl, Nat.zero_le _, rfl, hst0⟩
  case round =>
    clear HVA hb0 hst0
    obtain ⟨k, vo, vr, rfl, rfl, hk, rfl, hrel⟩ := hrel
    rw [HRel.out] at hrel
    obtain ⟨R, run, out, vs, hrl, hol, hMR, hRw, hoa, hoo, hor, hrs, hb, hst⟩ := hrel
    have hvl : vs.length ≤ k := by rw [hrs.1]; exact hol
    have HVO : Hid (∀ g, vo.ownBlock = some g → M ≤ g ∧ g < wr.heap.size) := Lib.hid hoo.lt
    have HVR : Hid (∀ g, vr.ownBlock = some g → R ≤ g ∧ g < wr.heap.size) := Lib.hid hor.lt
    obtain ⟨Ar, cr, hvr⟩ := own_form hor
    obtain ⟨Ao, co, hvo⟩ := own_form hoo
    subst hvr hvo
    have HA1 := Lib.hid hoa
    have HO1 := Lib.hid hoo
    have HR1 := Lib.hid hor
    have HRS := Lib.hid hrs
    clear hoo hor hrs
    by_cases hlt : k < n
    · obtain ⟨a, ha⟩ := get_of_lt (l := F) (k := k) (by rw [← HL.out]; exact hlt)
      have hoa2 : wr.ownsRow (N + 1) 66 8 (.slice A1 n cA) F.length (flatA F) := by rw [← HL.out]; exact hoa
      have hl2 := own_A hoa2
      obtain ⟨b, off, rfl, hbB, hcs⟩ := hl2.at_ ha
      obtain ⟨c0, c1, c2, c3, c4, c5, c6, c7⟩ := hcs k a ha
      have hd := Lib.hid (drop_of_get ha)
      clear hcs ha hl2 hoa2 hoa
      by_cases hskip : ¬ a.cf = fr ∨ ¬ a.ct = to_
      · have hst' : Hid (T = lossGo fr to_ (F.drop (k + 1)) run out) := Lib.hid (by rw [hst.out, hd.out]; simp only [lossGo]; rw [if_pos hskip])
        clear hst
        have hnew : Rel (k + 1) (.slice Ao vs.length co) (.slice Ar run.length cr) wr := by
          rw [HRel.out]
          exact ⟨R, run, out, vs, by omega, by omega, hMR, by omega, HA1.out, HO1.out, HR1.out, HRS.out, hb, hst'⟩
        by_cases h1 : a.cf = fr
        · have h2 : ¬ a.ct = to_ := by rcases hskip with h | h; exact absurd h1 h; exact h
          go_wp2_with fail
          go_roundw
          case rel => exact ⟨k + 1, _, _, rfl, rfl, by omega, by go_num, hnew⟩
          case measure => simp [intOf]; omega
        · go_wp2_with fail
          go_roundw
          case rel => exact ⟨k + 1, _, _, rfl, rfl, by omega, by go_num, hnew⟩
          case measure => simp [intOf]; omega
      · have hs1 : a.cf = fr := Classical.byContradiction fun h => hskip (Or.inl h)
        have hs2 : a.ct = to_ := Classical.byContradiction fun h => hskip (Or.inr h)
        by_cases hack : a.o = 1
        · have hst' : Hid (T = lossGo fr to_ (F.drop (k + 1)) [] (flush run out)) := Lib.hid (by rw [hst.out, hd.out]; simp only [lossGo]; rw [if_neg hskip, if_pos hack])
          clear hst
          by_cases h0 : run.length = 0
          · have hf : flush run out = out := by simp [flush, h0]
            have hnew : Rel (k + 1) (.slice Ao vs.length co) (.slice none 0 0) wr := by
              rw [HRel.out]
              exact ⟨R, [], out, vs, by simp, by omega, hMR, by omega, HA1.out, HO1.out, World.ownsRow_nil _ _ _ _, HRS.out, hb, Lib.hid (by rw [hst'.out, hf])⟩
            clear hf
            rw [h0]
            go_wp2_with fail
            go_roundw
            case rel => exact ⟨k + 1, _, _, rfl, rfl, by omega, by go_num, hnew⟩
            case measure => simp [intOf]; omega
          · have hf : flush run out = out ++ [run] := by simp [flush, h0]
            have hpos : 0 < run.length := by omega
            have HF2 := Lib.hid hf
            clear hf
            go_wp2_with (at_builtin; refine wpList_append_own_at _ rfl (.tmp 60) (.tmp 62) 40 rfl M 42 j0 (.slice none 0 0) 1 24 Try.underlying40 HJ.out.1 HJ.out.2.1 HJ.out.2.2.1 HJ.out.2.2.2 rfl (by decide) (.slice Ao vs.length co) vs.length vs rfl (HO1.out.alloc _) ⟨wr.heap.size, 0, none⟩ 1 1 [.slice Ar run.length cr] rfl rfl ?e0 ?e1 ?e2 ?e3 ?e4 ?_)
            case e0 => exact (Blk.new' 42 [.slice Ar run.length cr] rfl).news
            case e1 => intro u hu; simp at hu; subst hu; rfl
            case e2 => unfold maxLen; omega
            case e3 => omega
            case e4 => simp; omega
            intro v3 w3 ho3 hg3 hnil3 hat3
            clear hnil3 hat3
            have hkp : ∀ g t cs, t ≠ 42 → Blk wr g t cs → Blk w3 g t cs := fun g t cs h1 h => (h.alloc _).grown_ hg3 (by
              intro e
              exact h1 (own_type HO1.out e h))
            have oa3 := own_kept HA1.out fun g cs _ h => hkp g _ cs (by decide) h
            have or3 := own_kept HR1.out fun g cs _ h => hkp g _ cs (by decide) h
            have rs3 := HRS.out.kept (R' := R) (Nat.le_refl _) fun g cs _ h1 h => hkp g _ cs (by decide) h
            have hb3 : Below N w w3 := (hb.alloc (by omega) _).grown hg3 (by simp; omega) (by intro g hg; have := HVO.out g hg; omega)
            have hz3 : wr.heap.size + 1 ≤ w3.heap.size := by have := hg3.size; simpa using this
            obtain ⟨A3, c3', hv3⟩ := own_form ho3
            have hnew : Rel (k + 1) v3 (.slice none 0 0) w3 := by
              rw [HRel.out]
              refine ⟨w3.heap.size, [], out ++ [run], vs ++ [.slice Ar run.length cr], by simp, by simp; omega, by omega, by omega, oa3, by simpa using ho3, World.ownsRow_nil _ _ _ _, ?_, hb3, Lib.hid (by rw [hst'.out, HF2.out])⟩
              exact Runs.snoc (rs3.kept (by omega) fun g cs _ _ h => h) (own_weak or3 hMR) fun g hg => by have := HVR.out g hg; omega
            have HNEW := Lib.hid hnew
            clear oa3 or3 rs3 ho3 hg3 hkp HRS HO1 HR1 HA1 hnew
            subst hv3
            go_wp2_with fail
            go_roundw
            case rel => exact ⟨k + 1, _, _, rfl, rfl, by omega, by go_num, HNEW.out⟩
            case measure => simp [intOf]; omega
        · have hst' : Hid (T = lossGo fr to_ (F.drop (k + 1)) (run ++ [a.s]) out) := Lib.hid (by rw [hst.out, hd.out]; simp only [lossGo]; rw [if_neg hskip, if_neg hack])
          clear hst
          go_wp2_with (at_builtin; refine wpList_append_own_at _ rfl (.tmp 49) (.tmp 55) 42 rfl R 3 i0 (.int .i64 0) 1 8 Try.underlying42 HI.out.1 HI.out.2.1 HI.out.2.2.1 HI.out.2.2.2 rfl (by decide) (.slice Ar run.length cr) run.length (run.map (Value.int .i64)) rfl (HR1.out.alloc _) ⟨wr.heap.size, 0, none⟩ 1 1 [.int .i64 a.s] rfl rfl ?e0 ?e1 ?e2 ?e3 ?e4 ?_)
          case e0 => exact (Blk.new' 3 [.int .i64 a.s] rfl).news
          case e1 => exact ints_one (l := [a.s])
          case e2 => unfold maxLen; omega
          case e3 => omega
          case e4 => simp; omega
          intro v3 w3 ho3 hg3 hnil3 hat3
          clear hnil3 hat3
          have hkp : ∀ g t cs, g < R ∨ t ≠ 3 → Blk wr g t cs → Blk w3 g t cs := fun g t cs h1 h => (h.alloc _).grown_ hg3 (by
            intro e
            rcases h1 with h1 | h1
            · have := HVR.out g e.symm; omega
            · exact h1 (own_type HR1.out e h))
          have oa3 := own_kept HA1.out fun g cs _ h => hkp g _ cs (Or.inr (by decide)) h
          have oo3 := own_kept HO1.out fun g cs _ h => hkp g _ cs (Or.inr (by decide)) h
          have rs3 := HRS.out.kept (R' := R) (Nat.le_refl _) fun g cs _ h1 h => hkp g _ cs (Or.inl h1) h
          have hb3 : Below N w w3 := (hb.alloc (by omega) _).grown hg3 (by simp; omega) (by intro g hg; have := HVR.out g hg; omega)
          have hz3 : wr.heap.size + 1 ≤ w3.heap.size := by have := hg3.size; simpa using this
          obtain ⟨A3, c3', hv3⟩ := own_form ho3
          have hnew : Rel (k + 1) (.slice Ao vs.length co) v3 w3 := by
            rw [HRel.out]
            exact ⟨R, run ++ [a.s], out, vs, by simp; omega, by omega, hMR, by omega, oa3, oo3, by simpa using ho3, rs3, hb3, hst'⟩
          have HNEW := Lib.hid hnew
          clear oa3 oo3 rs3 ho3 hg3 hkp HRS HO1 HR1 HA1 hnew
          subst hv3
          go_wp2_with fail
          go_roundw
          case rel => exact ⟨k + 1, _, _, rfl, rfl, by omega, by go_num, HNEW.out⟩
          case measure => simp [intOf]; omega
    · have hst' : Hid (T = flush run out) := Lib.hid (by rw [hst.out, List.drop_of_length_le (by rw [← HL.out]; omega)]; rfl)
      clear hst hoa
      by_cases h0 : run.length = 0
      · have hf : Hid (T = out) := Lib.hid (by rw [hst'.out]; simp [flush, h0])
        rw [h0]
        go_wp2_with fail
        go_ret
        refine ⟨by rw [← HN.out]; exact hb, _, vs, rfl, own_weak HO1.out (by rw [← HN.out]; omega), ?_⟩
        rw [hf.out]
        refine ⟨HRS.out.1, fun i v l hv hl => ?_⟩
        obtain ⟨q1, q2⟩ := HRS.out.2 i v l hv hl
        exact ⟨own_weak q1 (by rw [← HN.out]; omega), fun g hg => (q1.lt g hg).2⟩
      · have hf : Hid (T = out ++ [run]) := Lib.hid (by rw [hst'.out]; simp [flush, h0])
        have hpos : 0 < run.length := by omega
        clear hst'
        go_wp2_with (at_builtin; refine wpList_append_own_at _ rfl (.tmp 67) (.tmp 69) 40 rfl M 42 j0 (.slice none 0 0) 1 24 Try.underlying40 HJ.out.1 HJ.out.2.1 HJ.out.2.2.1 HJ.out.2.2.2 rfl (by decide) (.slice Ao vs.length co) vs.length vs rfl (HO1.out.alloc _) ⟨wr.heap.size, 0, none⟩ 1 1 [.slice Ar run.length cr] rfl rfl ?e0 ?e1 ?e2 ?e3 ?e4 ?_)
        case e0 => exact (Blk.new' 42 [.slice Ar run.length cr] rfl).news
        case e1 => intro u hu; simp at hu; subst hu; rfl
        case e2 => unfold maxLen; omega
        case e3 => omega
        case e4 => simp; omega
        intro v3 w3 ho3 hg3 hnil3 hat3
        clear hnil3 hat3
        have hkp : ∀ g t cs, t ≠ 42 → Blk wr g t cs → Blk w3 g t cs := fun g t cs h1 h => (h.alloc _).grown_ hg3 (by
          intro e
          exact h1 (own_type HO1.out e h))
        have or3 := own_kept HR1.out fun g cs _ h => hkp g _ cs (by decide) h
        have rs3 := HRS.out.kept (R' := R) (Nat.le_refl _) fun g cs _ h1 h => hkp g _ cs (by decide) h
        have hb3 : Below N w w3 := (hb.alloc (by omega) _).grown hg3 (by simp; omega) (by intro g hg; have := HVO.out g hg; omega)
        have hz3 : wr.heap.size + 1 ≤ w3.heap.size := by have := hg3.size; simpa using this
        obtain ⟨A3, c3', hv3⟩ := own_form ho3
        have OO := Lib.hid ho3
        have RS := Lib.hid (Runs.snoc (rs3.kept (R' := w3.heap.size) (by omega) fun g cs _ _ h => h) (own_weak or3 hMR) fun g hg => by have := HVR.out g hg; omega)
        clear or3 rs3 ho3 hg3 hkp HRS HO1 HR1 HA1
        subst hv3
        go_wp2_with fail
        go_ret
        refine ⟨by rw [← HN.out]; exact hb3, _, vs ++ [.slice Ar run.length cr], rfl, own_weak (by simpa using OO.out) (show w.heap.size ≤ M by rw [← HN.out]; omega), ?_⟩
        rw [hf.out]
        refine ⟨RS.out.1, fun i v l hv hl => ?_⟩
        obtain ⟨q1, q2⟩ := RS.out.2 i v l hv hl
        exact ⟨own_weak q1 (by rw [← HN.out]; omega), fun g hg => (q1.lt g hg).2⟩

end Go.Proofs.Ytkdigdnacggknaa
/- Losses of package record and of the reference, lifted: runs of slots. -/
namespace Go.Proofs.Ytkdigdnacggknaa
open Go.RowKit
open Nd Rc Mo
open Av
set_option maxRecDepth 100000

def runPv (l : List Int) : List PV := [.sl 1 (l.map fun x => [ip x])]
theorem fresh_none {R : Reader} {w w' : World} {m m' : Nat} {p : Addr} {v : Value} (h : fresh R w w' none m p = some v) : fresh R w w' none m' p = some v := by
  unfold fresh at h ⊢
  split at h
  · rename_i hb; rw [if_pos hb]; exact h
  · rename_i hb
    rw [if_neg hb, if_neg (by rintro ⟨h4, _⟩; cases h4)]
    split at h
    · cases h
    · exact h
theorem flatten_ints : ∀ l : List Int, (l.map fun x => [Value.int .i64 x]).flatten = l.map (Value.int .i64)
  | [] => rfl
  | a :: l => by rw [List.map_cons, List.flatten_cons, flatten_ints l, List.map_cons]; rfl
theorem rep_runs {R : Reader} {w w' : World} {t : TypeId} {vo : Value} {vs : List Value} {out : List (List Int)} {N : Nat} (h : w'.ownsRow w.heap.size t 1 vo vs.length vs) (hr : Runs w' w.heap.size N vs out) : RepP (fresh R w w' none 0) (.sl 1 (out.map runPv)) vo := by
  obtain ⟨hlen, hget⟩ := hr
  have hsz : ∀ (k : Nat) (row : List PV), (out.map runPv)[k]? = some row → row.length = 1 := fun k row hk => by
    rw [List.getElem?_map] at hk
    cases hx : out[k]? with
    | none => rw [hx] at hk; cases hk
    | some l => rw [hx] at hk; simp only [Option.map_some, Option.some.injEq] at hk; subst hk; rfl
  have hz : ∀ (k : Nat) (row : List PV) (j : Nat) (p : PV), (out.map runPv)[k]? = some row → row[j]? = some p → ∃ x, vs[k * 1 + j]? = some x ∧ RepP (fresh R w w' none 0) p x := fun k row j p hk hj => by
    rw [List.getElem?_map] at hk
    cases hx : out[k]? with
    | none => rw [hx] at hk; cases hk
    | some l =>
      rw [hx] at hk
      simp only [Option.map_some, Option.some.injEq] at hk
      subst hk
      cases j with
      | succ j => simp [runPv] at hj
      | zero =>
        simp only [runPv, List.getElem?_cons_zero, Option.some.injEq] at hj
        subst hj
        obtain ⟨v, hv⟩ := get_of_lt (l := vs) (k := k) (by rw [hlen]; exact (List.getElem?_eq_some_iff.1 hx).1)
        refine ⟨v, by simpa using hv, ?_⟩
        obtain ⟨h1, _⟩ := hget k v l hv hx
        have h2 : w'.ownsRow w.heap.size 3 1 v (l.map fun x => [Value.int .i64 x]).length (l.map fun x => [Value.int .i64 x]).flatten := by
          rw [List.length_map, show (l.map fun x => [Value.int .i64 x]).flatten = l.map (Value.int .i64) from flatten_ints l]
          exact h1
        obtain ⟨_, _, h3⟩ := owns_rep (R := R) (by decide) h2 (fun row hr => by obtain ⟨x, _, rfl⟩ := List.mem_map.1 hr; rfl) (fun row hr x hx => by obtain ⟨y, _, rfl⟩ := List.mem_map.1 hr; simp only [List.mem_cons, List.not_mem_nil, or_false] at hx; subst hx; rfl)
        have h4 := (h3 none (.inl rfl)).mono (fun p v => fresh_none (m' := 0))
        rw [List.map_map] at h4
        exact h4
  obtain ⟨_, h2⟩ := h
  rcases h2 with ⟨rfl, hn⟩ | ⟨g, cap, cur, rfl, hb, hg, hnc, hcm, hcs, htake⟩
  · have h0 : out = [] := List.eq_nil_of_length_eq_zero (by omega)
    subst h0
    exact .sl 1 [] none 0 (fun _ _ => undef) (fun k row hk => by cases hk) (.inl rfl) (fun k row j p hk => by cases hk) (Nat.le_refl _)
  · have := rep_mk (R := fresh R w w' none 0) (A := some ⟨g, 0, none⟩) (cap := cap) (zs := vs) hsz hz (.inr ⟨g, 0, rfl, fun i x hx hi => by
      unfold fresh
      rw [if_neg (by dsimp only; omega), if_neg (by rintro ⟨h4, _⟩; cases h4), Nat.zero_add, cell_of_row w' g i cur t (0, 0) hg]
      rw [← htake, List.getElem?_take] at hx
      split at hx
      · rw [← Array.getElem?_toList]; exact hx
      · cases hx⟩) (by rw [List.length_map, ← hlen]; exact hnc)
    rw [List.length_map, ← hlen] at this
    exact this
theorem losses_ok (r : Rec) (fl fr a b : Int) (hla : r.al.length ≤ 1000000) : FnOK Try.prog 51 [.agg r.pv, iv fl, iv fr, iv a, iv b] ⟨.sl 1 ((lossP r.al fl fr a b).map runPv), none⟩ := fn_of ⟨Try.f51, _, Try.func51, by kernel_rfl, rfl⟩ fun w R hR us hus => by
  cases hus with | cons h0 _ hus =>
  cases hus with | cons h1 _ hus =>
  cases hus with | cons h2 _ hus =>
  cases hus with | cons h3 _ hus =>
  cases hus with | cons h4 _ hus =>
  cases hus
  obtain ⟨A, D, ca, cd, rfl, hA, hD⟩ := rec_rep hR h0
  rw [h1, h2, h3, h4]
  refine (losses_any r A D ca cd fl fr a b w hA hla).mono ?_
  rintro e w' ⟨hb, vo, vs, rfl, hown, hruns⟩
  exact ⟨_, rfl, hb, rfl, rep_runs hown hruns⟩
theorem rlosses_ok (r : Rec) (fl fr a b : Int) (hla : r.al.length ≤ 1000000) : FnOK Try.prog 61 [.agg r.pv, iv fl, iv fr, iv a, iv b] ⟨.sl 1 ((lossP r.al fl fr a b).map runPv), none⟩ := fn_of ⟨Try.f61, _, Try.func61, by kernel_rfl, rfl⟩ fun w R hR us hus => by
  cases hus with | cons h0 _ hus =>
  cases hus with | cons h1 _ hus =>
  cases hus with | cons h2 _ hus =>
  cases hus with | cons h3 _ hus =>
  cases hus with | cons h4 _ hus =>
  cases hus
  obtain ⟨A, D, ca, cd, rfl, hA, hD⟩ := rec_rep hR h0
  rw [h1, h2, h3, h4]
  refine (rlosses_any r A D ca cd fl fr a b w hA hla).mono ?_
  rintro e w' ⟨hb, vo, vs, rfl, hown, hruns⟩
  exact ⟨_, rfl, hb, rfl, rep_runs hown hruns⟩
end Go.Proofs.Ytkdigdnacggknaa
/- The runs of losses, plain: what they are in the list of a link's attempts. -/
namespace Go.Proofs.Ytkdigdnacggknaa
open Rc
namespace Rc

def nonA (a : Att) : Bool := !(a.o == 1)
def linkB (fr to_ : Int) (a : Att) : Bool := a.cf == fr && a.ct == to_
/-- The runs of those that were not acknowledged. -/
def runsOf : List Att → List (List Int)
  | [] => []
  | a :: l => if a.o = 1 then runsOf l else (a.s :: (l.takeWhile nonA).map Att.s) :: runsOf (l.dropWhile nonA)
termination_by l => l.length
decreasing_by
  · simp
  · have := (List.dropWhile_sublist (l := l) nonA).length_le
    simp; omega

theorem runsOf_nil : runsOf [] = [] := by rw [runsOf]
theorem runsOf_acked {a : Att} {l : List Att} (h : a.o = 1) : runsOf (a :: l) = runsOf l := by rw [runsOf, if_pos h]
theorem runsOf_lost {a : Att} {l : List Att} (h : ¬ a.o = 1) : runsOf (a :: l) = (a.s :: (l.takeWhile nonA).map Att.s) :: runsOf (l.dropWhile nonA) := by rw [runsOf, if_neg h]

/-- Losses over the link's attempts alone. -/
def lossL : List Att → List Int → List (List Int) → List (List Int)
  | [], run, out => flush run out
  | a :: l, run, out => if a.o = 1 then lossL l [] (flush run out) else lossL l (run ++ [a.s]) out

theorem lossGo_lossL (fr to_ : Int) : ∀ (F : List Att) (run : List Int) (out : List (List Int)), lossGo fr to_ F run out = lossL (F.filter (linkB fr to_)) run out
  | [], run, out => rfl
  | a :: F, run, out => by
    simp only [lossGo]
    by_cases h : ¬ a.cf = fr ∨ ¬ a.ct = to_
    · have hb : linkB fr to_ a = false := by
        unfold linkB
        rw [Bool.and_eq_false_iff]
        rcases h with h | h
        · exact .inl (by simpa using h)
        · exact .inr (by simpa using h)
      rw [if_pos h, lossGo_lossL fr to_ F, List.filter_cons, hb]
      simp
    · have hb : linkB fr to_ a = true := by
        unfold linkB
        have h1 : a.cf = fr := Classical.byContradiction fun hh => h (.inl hh)
        have h2 : a.ct = to_ := Classical.byContradiction fun hh => h (.inr hh)
        simp [h1, h2]
      rw [if_neg h, List.filter_cons, hb, if_pos rfl]
      simp only [lossL]
      rw [lossGo_lossL fr to_ F, lossGo_lossL fr to_ F]

theorem lossL_runs : ∀ (l : List Att) (run : List Int) (out : List (List Int)), lossL l run out = if run.length = 0 then out ++ runsOf l else out ++ (run ++ (l.takeWhile nonA).map Att.s) :: runsOf (l.dropWhile nonA)
  | [], run, out => by
    simp only [lossL, flush, runsOf_nil, List.append_nil, List.takeWhile_nil, List.map_nil, List.dropWhile_nil]
  | a :: l, run, out => by
    simp only [lossL]
    by_cases ho : a.o = 1
    · have hn : nonA a = false := by simp [nonA, ho]
      rw [if_pos ho, lossL_runs l]
      simp only [List.length_nil, if_true, flush, runsOf_acked ho, List.takeWhile_cons, List.dropWhile_cons, hn, Bool.false_eq_true, if_false, List.map_nil, List.append_nil]
      split
      · rfl
      · simp
    · have hn : nonA a = true := by simp [nonA, ho]
      rw [if_neg ho, lossL_runs l, if_neg (by simp)]
      simp only [runsOf_lost ho, List.takeWhile_cons, List.dropWhile_cons, hn, if_true, List.map_cons]
      by_cases h0 : run.length = 0
      · have : run = [] := List.eq_nil_of_length_eq_zero h0
        subst this
        simp
      · rw [if_neg h0]
        simp

theorem lossP_runs (al : List Att) (flow frame fr to_ : Int) : lossP al flow frame fr to_ = runsOf ((ofFrame al flow frame).filter (linkB fr to_)) := by
  unfold lossP
  rw [lossGo_lossL, lossL_runs]
  simp

theorem runsOf_len : ∀ (n : Nat) (l : List Att), l.length ≤ n → (runsOf l).length ≤ l.length
  | _, [], _ => by simp [runsOf_nil]
  | 0, a :: l, h => by simp at h
  | n + 1, a :: l, h => by
    by_cases ho : a.o = 1
    · rw [runsOf_acked ho]
      have := runsOf_len n l (by simpa using h)
      simp; omega
    · rw [runsOf_lost ho]
      have h1 := (List.dropWhile_sublist (l := l) nonA).length_le
      have := runsOf_len n (l.dropWhile nonA) (by simp at h; omega)
      simp; omega

/-! ### what the law's loops meet -/
end Rc
end Go.Proofs.Ytkdigdnacggknaa
/- Breaches, sorted: plain. -/
namespace Go.Proofs.Ytkdigdnacggknaa
open Go.RowKit
open Nd Rc Mo
open Av
set_option maxRecDepth 100000
set_option linter.unusedSimpArgs false
open Go.Maps
structure Br where
  fl : Int
  fr : Int
  fm : Int
  tt : Int
  sl : List Int
deriving DecidableEq
def Br.key (b : Br) : List Int := [b.fl, b.fr, b.fm, b.tt, b.sl.headD 0]
def lexB : List Int → List Int → Bool
  | x :: l, y :: m => if x = y then lexB l m else decide (x < y)
  | _, _ => false
theorem lexB_irrefl : ∀ l : List Int, lexB l l = false
  | [] => rfl
  | x :: l => by unfold lexB; rw [if_pos rfl]; exact lexB_irrefl l
theorem lexB_trans : ∀ {l m k : List Int}, lexB l m = true → lexB m k = true → lexB l k = true
  | [], _, _, h, _ => by simp [lexB] at h
  | _ :: _, [], _, h, _ => by simp [lexB] at h
  | _ :: _, _ :: _, [], _, h => by simp [lexB] at h
  | x :: l, y :: m, z :: k, h1, h2 => by
    unfold lexB at h1 h2 ⊢
    by_cases e1 : x = y
    · subst e1
      rw [if_pos rfl] at h1
      by_cases e2 : x = z
      · subst e2; rw [if_pos rfl] at h2 ⊢; exact lexB_trans h1 h2
      · rw [if_neg e2] at h2 ⊢; exact h2
    · rw [if_neg e1] at h1
      have h1 := of_decide_eq_true h1
      by_cases e2 : y = z
      · subst e2; rw [if_neg e1]; exact decide_eq_true h1
      · rw [if_neg e2] at h2
        have h2 := of_decide_eq_true h2
        rw [if_neg (by omega)]; exact decide_eq_true (by omega)
theorem lexB_total : ∀ {l m : List Int}, l.length = m.length → lexB l m = false → l ≠ m → lexB m l = true
  | [], [], _, _, h => absurd rfl h
  | [], _ :: _, h, _, _ => by cases h
  | _ :: _, [], h, _, _ => by cases h
  | x :: l, y :: m, hl, h, hn => by
    unfold lexB at h ⊢
    by_cases e : x = y
    · subst e
      rw [if_pos rfl] at h ⊢
      exact lexB_total (by simpa using hl) h (fun e => hn (by rw [e]))
    · rw [if_neg e] at h
      have h := of_decide_eq_false h
      rw [if_neg (fun e' => e e'.symm)]
      exact decide_eq_true (by omega)
def Br.lt (a b : Br) : Bool := lexB a.key b.key
theorem Br.lt_irrefl (a : Br) : a.lt a = false := lexB_irrefl _
theorem Br.lt_trans {a b c : Br} (h1 : a.lt b = true) (h2 : b.lt c = true) : a.lt c = true := lexB_trans h1 h2
theorem Br.lt_total {a b : Br} (h : a.lt b = false) (hn : a.key ≠ b.key) : b.lt a = true := lexB_total rfl h hn
def insB (l : List Br) (b : Br) : List Br := l.takeWhile (·.lt b) ++ b :: l.dropWhile (·.lt b)
def sortB (l : List Br) : List Br := l.foldl insB []
theorem insB_perm (l : List Br) (b : Br) : (insB l b).Perm (b :: l) := by
  unfold insB
  refine List.perm_middle.trans (List.Perm.cons _ ?_)
  rw [List.takeWhile_append_dropWhile]
theorem foldl_insB_perm : ∀ (l m : List Br), (l.foldl insB m).Perm (m ++ l)
  | [], m => by rw [List.append_nil]; exact List.Perm.refl _
  | b :: l, m => by
    rw [List.foldl_cons]
    refine (foldl_insB_perm l (insB m b)).trans ?_
    refine ((insB_perm m b).append_right l).trans ?_
    exact List.perm_middle.symm
theorem sortB_perm (l : List Br) : (sortB l).Perm l := by simpa [sortB] using foldl_insB_perm l []
def BrSorted (l : List Br) : Prop := l.Pairwise fun a b => a.lt b = true
theorem insB_sorted {l : List Br} {b : Br} (h : BrSorted l) (hk : ∀ x ∈ l, x.key ≠ b.key) : BrSorted (insB l b) := by
  induction l with
  | nil => exact List.pairwise_singleton _ _
  | cons x l ih =>
    obtain ⟨h1, h2⟩ := List.pairwise_cons.1 h
    unfold insB
    by_cases hx : x.lt b = true
    · rw [List.takeWhile_cons_of_pos (p := fun y : Br => y.lt b) hx, List.dropWhile_cons_of_pos (p := fun y : Br => y.lt b) hx, List.cons_append]
      refine List.pairwise_cons.2 ⟨fun y hy => ?_, ih h2 (fun y hy => hk y (List.mem_cons_of_mem _ hy))⟩
      rcases List.mem_cons.1 ((insB_perm l b).mem_iff.1 hy) with rfl | hy
      · exact hx
      · exact h1 y hy
    · rw [List.takeWhile_cons_of_neg (p := fun y : Br => y.lt b) hx, List.dropWhile_cons_of_neg (p := fun y : Br => y.lt b) hx, List.nil_append]
      have hb : b.lt x = true := Br.lt_total (Bool.eq_false_iff.2 hx) (hk x List.mem_cons_self)
      refine List.pairwise_cons.2 ⟨fun y hy => ?_, h⟩
      rcases List.mem_cons.1 hy with rfl | hy
      · exact hb
      · exact Br.lt_trans hb (h1 y hy)
theorem foldl_insB_sorted : ∀ (l m : List Br), BrSorted m → ((m ++ l).map Br.key).Nodup → BrSorted (l.foldl insB m)
  | [], m, h, _ => h
  | b :: l, m, h, hn => by
    rw [List.foldl_cons]
    refine foldl_insB_sorted l (insB m b) (insB_sorted h fun x hx e => ?_) ?_
    · rw [List.map_append, List.map_cons] at hn
      exact (List.nodup_append.1 hn).2.2 _ (List.mem_map_of_mem hx) _ List.mem_cons_self e
    · have : ((insB m b) ++ l).Perm (m ++ b :: l) := ((insB_perm m b).append_right l).trans List.perm_middle.symm
      exact (this.map Br.key).nodup_iff.2 hn
theorem sortB_sorted {l : List Br} (h : (l.map Br.key).Nodup) : BrSorted (sortB l) := foldl_insB_sorted l [] List.Pairwise.nil (by simpa using h)
theorem sortB_eq {l m s : List Br} (hn : (l.map Br.key).Nodup) (hm : l.Perm m) (hs : s.Perm m) (h : s.Pairwise fun a b => b.lt a = false) : s = sortB l := by
  have hp : s.Perm (sortB l) := hs.trans (hm.symm.trans (sortB_perm l).symm)
  have hk : (s.map Br.key).Nodup := ((hs.trans hm.symm).map Br.key).nodup_iff.2 hn
  have hso : BrSorted (sortB l) := sortB_sorted hn
  refine List.Perm.eq_of_pairwise (le := fun a b => b.lt a = false) (fun a b ha hb h1 h2 => ?_) h (hso.imp fun {a b} hab => ?_) hp
  · by_cases e : a.key = b.key
    · have hb' : b ∈ s := hp.mem_iff.2 hb
      refine Classical.byContradiction fun hne => ?_
      have : ∀ {l : List Br}, (l.map Br.key).Nodup → ∀ {a b}, a ∈ l → b ∈ l → a.key = b.key → a = b := by
        intro l
        induction l with
        | nil => intro _ a b ha; cases ha
        | cons x l ih =>
          intro hn a b ha hb e
          rw [List.map_cons, List.nodup_cons] at hn
          rcases List.mem_cons.1 ha with e1 | ha1
          · rcases List.mem_cons.1 hb with e2 | hb1
            · rw [e1, e2]
            · exact absurd (by rw [← e1, e]; exact List.mem_map_of_mem hb1) hn.1
          · rcases List.mem_cons.1 hb with e2 | hb1
            · exact absurd (by rw [← e2, ← e]; exact List.mem_map_of_mem ha1) hn.1
            · exact ih hn.2 ha1 hb1 e
      exact hne (this hk ha hb' e)
    · have := Br.lt_total h2 e
      rw [h1] at this; cases this
  · cases hc : b.lt a with
    | false => rfl
    | true =>
      have := Br.lt_trans hab hc
      rw [Br.lt_irrefl] at this; cases this
/-- A use of a link for a frame. -/
structure UK where
  fl : Int
  fr : Int
  fm : Int
  tt : Int
deriving DecidableEq
def Us.k (u : Us) : UK := ⟨u.fl, u.fr, u.fm, u.tt⟩
def attK (a : Att) : UK := ⟨a.cl, a.f, a.cf, a.ct⟩
def UK.val (k : UK) : Value := .agg [.int .i64 k.fl, .int .i64 k.fr, .int .i64 k.fm, .int .i64 k.tt].toArray
def inK (k : UK) (a : Att) : Bool := k.fl == a.cl && k.fr == a.f && k.fm == a.cf && k.tt == a.ct
theorem inK_iff {k : UK} {a : Att} : inK k a = true ↔ attK a = k := by
  obtain ⟨x, y, z, t⟩ := k
  simp only [inK, attK, Bool.and_eq_true, beq_iff_eq, UK.mk.injEq, and_assoc]
  constructor
  · rintro ⟨rfl, rfl, rfl, rfl⟩; exact ⟨rfl, rfl, rfl, rfl⟩
  · rintro ⟨rfl, rfl, rfl, rfl⟩; exact ⟨rfl, rfl, rfl, rfl⟩
theorem inUse_k (u : Us) : inUse u = inK u.k := rfl
theorem UK.val_inj {k m : UK} (h : k.val = m.val) : k = m := by
  obtain ⟨a, b, c, d⟩ := k
  obtain ⟨a', b', c', d'⟩ := m
  simpa [UK.val] using h
theorem lossP_k (al : List Att) (k : UK) : lossP al k.fl k.fr k.fm k.tt = runsOf (al.filter (inK k)) := by
  rw [lossP_runs]
  unfold ofFrame
  rw [List.filter_filter]
  congr 1
  refine List.filter_congr fun a _ => ?_
  unfold inK linkB
  rw [Bool.eq_iff_iff]
  simp only [Bool.and_eq_true, beq_iff_eq]
  constructor
  · rintro ⟨⟨h1, h2⟩, h3, h4⟩; exact ⟨⟨⟨h3.symm, h4.symm⟩, h1.symm⟩, h2.symm⟩
  · rintro ⟨⟨⟨h3, h4⟩, h1⟩, h2⟩; exact ⟨⟨h1.symm, h2.symm⟩, h3.symm, h4.symm⟩
theorem lossP_part (al : List Att) (k : UK) : lossP (al.filter (inK k)) k.fl k.fr k.fm k.tt = lossP al k.fl k.fr k.fm k.tt := by
  rw [lossP_k, lossP_k, List.filter_filter]
  congr 1
  exact List.filter_congr fun a _ => by rw [Bool.and_self]
theorem runsOf_len : ∀ (n : Nat) (l : List Att), l.length ≤ n → (runsOf l).length ≤ l.length
  | _, [], _ => by rw [runsOf_nil]; exact Nat.le_refl _
  | 0, _ :: _, h => by cases h
  | n + 1, a :: l, h => by
    have h : l.length ≤ n := Nat.le_of_succ_le_succ h
    by_cases ho : a.o = 1
    · rw [runsOf_acked ho]
      have := runsOf_len n l h
      rw [List.length_cons]; omega
    · rw [runsOf_lost ho, List.length_cons, List.length_cons]
      have h1 := (List.dropWhile_sublist nonA (l := l)).length_le
      have := runsOf_len n _ (Nat.le_trans h1 h)
      omega
theorem runsOf_mem : ∀ (n : Nat) (l : List Att), l.length ≤ n → ∀ x ∈ runsOf l, x ≠ [] ∧ x.length ≤ l.length
  | _, [], _, x, hx => by rw [runsOf_nil] at hx; cases hx
  | 0, _ :: _, h, _, _ => by cases h
  | n + 1, a :: l, h, x, hx => by
    have h : l.length ≤ n := Nat.le_of_succ_le_succ h
    by_cases ho : a.o = 1
    · rw [runsOf_acked ho] at hx
      have := runsOf_mem n l h x hx
      rw [List.length_cons]; exact ⟨this.1, by omega⟩
    · rw [runsOf_lost ho] at hx
      rcases List.mem_cons.1 hx with rfl | hx
      · refine ⟨by simp, ?_⟩
        have h1 := (List.takeWhile_sublist nonA (l := l)).length_le
        rw [List.length_cons, List.length_map, List.length_cons]; omega
      · have h1 := (List.dropWhile_sublist nonA (l := l)).length_le
        have := runsOf_mem n _ (Nat.le_trans h1 h) x hx
        rw [List.length_cons]; exact ⟨this.1, by omega⟩
def lossOf (lk : List Lk) (a b : Int) : Int := (lossAt lk a b).getD 0
def overs (m : Int) (k : UK) (runs : List (List Int)) : List Br := (runs.filter fun x => decide (m < (x.length : Int))).map fun x => ⟨k.fl, k.fr, k.fm, k.tt, x.take (m + 1).toNat⟩
/-- The breaches of a use. -/
def brK (lk : List Lk) (al : List Att) (k : UK) : List Br := overs (lossOf lk k.fm k.tt) k (lossP al k.fl k.fr k.fm k.tt)
def Br.pv (b : Br) : List PV := [ip b.fl, ip b.fr, ip b.fm, ip b.tt, .sl 1 (b.sl.map fun x => [ip x])]
def brs (lk : List Lk) (al : List Att) (V : List UK) : List Br := V.flatMap (brK lk al)
def firstK (al : List Att) : List UK := (al.map attK).eraseDups
/-- All breaches, each use at its first attempt. -/
def brAll (lk : List Lk) (al : List Att) : List Br := brs lk al (firstK al)
theorem overs_len (m : Int) (k : UK) (l : List (List Int)) : (overs m k l).length ≤ l.length := by
  unfold overs
  rw [List.length_map]; exact List.length_filter_le _ _
theorem brK_len (lk : List Lk) (al : List Att) (k : UK) : (brK lk al k).length ≤ (al.filter (inK k)).length := by
  unfold brK
  refine Nat.le_trans (overs_len _ _ _) ?_
  rw [lossP_k]
  exact runsOf_len _ _ (Nat.le_refl _)
theorem len_split {α : Type} (p : α → Bool) : ∀ l : List α, l.length = (l.filter p).length + (l.filter fun a => !p a).length
  | [] => rfl
  | a :: l => by
    have := len_split p l
    cases h : p a with
    | true => rw [List.filter_cons_of_pos h, List.filter_cons_of_neg (by rw [h]; decide), List.length_cons, List.length_cons]; omega
    | false => rw [List.filter_cons_of_neg (by rw [h]; decide), List.filter_cons_of_pos (by rw [h]; rfl), List.length_cons, List.length_cons]; omega
theorem sum_inK : ∀ (V : List UK), V.Nodup → ∀ al : List Att, (V.map fun k => (al.filter (inK k)).length).sum ≤ al.length
  | [], _, _ => Nat.zero_le _
  | k :: V, h, al => by
    obtain ⟨h1, h2⟩ := List.nodup_cons.1 h
    rw [List.map_cons, List.sum_cons]
    have e : (V.map fun m => (al.filter (inK m)).length) = V.map fun m => ((al.filter fun a => !inK k a).filter (inK m)).length := by
      refine List.map_congr_left fun m hm => ?_
      rw [List.filter_filter]
      congr 1
      refine List.filter_congr fun a _ => ?_
      cases hb : inK m a with
      | false => rfl
      | true =>
        have : inK k a = false := by
          refine Bool.eq_false_iff.2 fun hk => ?_
          have e1 := inK_iff.1 hb
          have e2 := inK_iff.1 hk
          exact h1 (by rw [← e2, e1]; exact hm)
        rw [this]; rfl
    have h3 := sum_inK V h2 (al.filter fun a => !inK k a)
    have h4 : al.length = (al.filter (inK k)).length + (al.filter fun a => !inK k a).length := len_split _ _
    rw [e]; omega
theorem brs_len {lk : List Lk} {al : List Att} {V : List UK} (h : V.Nodup) : (brs lk al V).length ≤ al.length := by
  unfold brs
  rw [List.length_flatMap]
  refine Nat.le_trans ?_ (sum_inK V h al)
  clear h
  induction V with
  | nil => exact Nat.le_refl _
  | cons k V ih =>
    rw [List.map_cons, List.sum_cons, List.map_cons, List.sum_cons]
    exact Nat.add_le_add (brK_len lk al k) ih
theorem brs_snoc (lk : List Lk) (al : List Att) (V : List UK) (k : UK) : brs lk al (V ++ [k]) = brs lk al V ++ brK lk al k := by
  unfold brs
  rw [List.flatMap_append, List.flatMap_singleton]
theorem eraseDups_nodup {α : Type} [BEq α] [LawfulBEq α] : ∀ (n : Nat) (l : List α), l.length ≤ n → l.eraseDups.Nodup
  | _, [], _ => by simp [List.eraseDups_nil]
  | 0, _ :: _, h => by cases h
  | n + 1, a :: l, h => by
    rw [List.eraseDups_cons, List.nodup_cons]
    refine ⟨fun hm => ?_, eraseDups_nodup n _ (Nat.le_trans (List.length_filter_le _ _) (Nat.le_of_succ_le_succ h))⟩
    rw [List.mem_eraseDups, List.mem_filter] at hm
    simp at hm
theorem firstK_nodup (al : List Att) : (firstK al).Nodup := eraseDups_nodup _ _ (Nat.le_refl _)
theorem mem_firstK {al : List Att} {k : UK} : k ∈ firstK al ↔ ∃ a ∈ al, attK a = k := by
  unfold firstK
  rw [List.mem_eraseDups, List.mem_map]
theorem brs_perm {lk : List Lk} {al : List Att} {V : List UK} (h : V.Nodup) (hm : ∀ k, k ∈ V ↔ ∃ a ∈ al, attK a = k) : (brAll lk al).Perm (brs lk al V) :=
  ((List.perm_ext_iff_of_nodup (firstK_nodup al) h).2 fun k => by rw [mem_firstK, hm]).flatMap_right _
theorem overs_snoc {m : Int} {k : UK} {runs : List (List Int)} {j : Nat} {x : List Int} (hx : runs[j]? = some x) : overs m k (runs.take (j + 1)) = if m < (x.length : Int) then overs m k (runs.take j) ++ [⟨k.fl, k.fr, k.fm, k.tt, x.take (m + 1).toNat⟩] else overs m k (runs.take j) := by
  have hT : runs.take (j + 1) = runs.take j ++ [x] := by rw [List.take_add_one, hx]; rfl
  unfold overs
  rw [hT, List.filter_append]
  by_cases h : m < (x.length : Int)
  · rw [if_pos h, List.filter_cons_of_pos (by simpa using h), List.filter_nil, List.map_append]; rfl
  · rw [if_neg h, List.filter_cons_of_neg (by simpa using h), List.filter_nil, List.append_nil]
/-- The uses, all of them with attempts. -/
def UsesFull (lk : List Lk) (al : List Att) (k : Nat) (U : List Us) (G : Value → Option (DataW Unit)) : Prop := UsesOK lk al k U G ∧ ∀ u ∈ U, u.al ≠ []
theorem UsesFull.nil {lk : List Lk} {al : List Att} : UsesFull lk al 0 [] (fun _ => none) := ⟨UsesOK.nil, fun u hu => by cases hu⟩
theorem UsesFull.snoc {lk : List Lk} {al : List Att} {k : Nat} {U : List Us} {G : Value → Option (DataW Unit)} {a b c d : Int} {g : Nat} {l : List Att} {x : Att} (h : UsesOK lk al k (⟨a, b, c, d, g, l ++ [x]⟩ :: dropU g U) G) (hf : ∀ u ∈ U, u.al ≠ []) : UsesFull lk al k (⟨a, b, c, d, g, l ++ [x]⟩ :: dropU g U) G :=
  ⟨h, fun u hu => by
    rcases List.mem_cons.1 hu with rfl | hu
    · simp
    · exact hf u (mem_dropU.1 hu).1⟩
/-- The keys of the map. -/
theorem UsesFull.keys_iff {lk : List Lk} {al : List Att} {U : List Us} {G : Value → Option (DataW Unit)} (h : UsesFull lk al al.length U G) (k : UK) : (G k.val).isSome = true ↔ ∃ a ∈ al, attK a = k := by
  have h1 : G k.val = _ := h.1.map k.fl k.fr k.fm k.tt
  rw [h1, Option.isSome_map]
  constructor
  · intro hs
    obtain ⟨u, hu⟩ := Option.isSome_iff_exists.1 hs
    have hm : u ∈ U := List.mem_of_find?_eq_some hu
    have hk : u.key k.fl k.fr k.fm k.tt = true := List.find?_some (p := fun u : Us => u.key k.fl k.fr k.fm k.tt) hu
    have hne := h.2 u hm
    have ha := h.1.att u hm
    rw [List.take_length] at ha
    cases hl : u.al with
    | nil => exact absurd hl hne
    | cons a l =>
      have : a ∈ al.filter (inUse u) := by rw [← ha, hl]; exact List.mem_cons_self
      obtain ⟨m1, m2⟩ := List.mem_filter.1 this
      refine ⟨a, m1, ?_⟩
      rw [inUse_k, inK_iff] at m2
      rw [m2]
      obtain ⟨q1, q2, q3, q4⟩ := key_iff.1 hk
      obtain ⟨x, y, z, t⟩ := k
      simp only [Us.k, UK.mk.injEq]
      exact ⟨q1, q2, q3, q4⟩
  · rintro ⟨a, ha, rfl⟩
    exact h.1.cover a (by rw [List.take_length]; exact ha)
theorem UsesFull.val {lk : List Lk} {al : List Att} {U : List Us} {G : Value → Option (DataW Unit)} (h : UsesFull lk al al.length U G) {k : UK} {g : Nat} (hg : G k.val = some (.lit (.int .i64 (g : Int)))) : ∃ u ∈ U, u.g = g ∧ u.k = k ∧ u.al = al.filter (inK k) := by
  obtain ⟨u, hu, hg, hat⟩ := h.1.at hg
  have hk : u.key k.fl k.fr k.fm k.tt = true := List.find?_some (p := fun u : Us => u.key k.fl k.fr k.fm k.tt) hat
  obtain ⟨q1, q2, q3, q4⟩ := key_iff.1 hk
  have e : u.k = k := by
    obtain ⟨x, y, z, t⟩ := k
    simp only [Us.k, UK.mk.injEq]
    exact ⟨q1, q2, q3, q4⟩
  refine ⟨u, hu, hg, e, ?_⟩
  have ha := h.1.att u hu
  rw [List.take_length, inUse_k, e] at ha
  exact ha
/-- What Breaches computes. -/
def breachesP (n : Net) (r : Rec) : List Br × Int := if chkN n ≠ 0 ∨ good r = false then ([], 1) else if r.al.any (fun a => (lossAt n.lk a.cf a.ct).isNone) then ([], 7) else (sortB (brAll n.lk r.al), 0)
end Go.Proofs.Ytkdigdnacggknaa
/- Breaches: what the end of the walk needs. -/
namespace Go.Proofs.Ytkdigdnacggknaa
open Go.RowKit
open Nd Rc Mo
open Av
set_option maxRecDepth 100000
set_option linter.unusedSimpArgs false
open Go.Maps
theorem fnOK_args {P : Program} {f : FuncId} {args args' : List AV} {res : FRes} (h : FnOK P f args' res) (ha : ∀ R us, RepAL R args us → RepAL R args' us) : FnOK P f args res := ⟨h.1, fun w R hR us hus => h.2 w R hR us (ha R us hus)⟩
/-- The losses of a record that has attempts alone. -/
theorem lossesN_ok (s : Int) (al : List Att) (fl fr a b : Int) (hla : al.length ≤ 1000000) : FnOK Try.prog 51 [.agg [ip s, .sl 8 (al.map Att.pv), .v (.slice none 0 0)], iv fl, iv fr, iv a, iv b] ⟨.sl 1 ((lossP al fl fr a b).map runPv), none⟩ :=
  fnOK_args (losses_ok ⟨s, al, []⟩ fl fr a b hla) fun R us hus => by
    cases hus with | cons h0 hx hus =>
    refine .cons ?_ hx hus
    obtain ⟨vs, e, hv⟩ := h0
    refine ⟨vs, e, ?_⟩
    cases hv with | cons g0 hv =>
    cases hv with | cons g1 hv =>
    cases hv with | cons g2 hv =>
    cases hv
    refine .cons g0 (.cons g1 (.cons ?_ .nil))
    cases g2
    exact .sl 3 [] none 0 (fun _ _ => undef) (fun k row hk => by cases hk) (.inl rfl) (fun k row j p hk => by cases hk) (Nat.le_refl _)
theorem lossAt_mem {l : List Lk} {a b x : Int} (h : lossAt l a b = some x) : ∃ y ∈ l, y.ls = x := by
  unfold lossAt at h
  cases hf : l.reverse.find? (fun x => x.fr == a && x.tt == b) with
  | none => rw [hf] at h; cases h
  | some y =>
    rw [hf] at h
    exact ⟨y, List.mem_reverse.1 (List.mem_of_find?_eq_some hf), Option.some.inj h⟩
/-- The entry to which the loop has come; the frame holds it otherwise then. -/
theorem hand_entry_ext {P : Program} {n d : Nat} {σ : St} {o : Oper} {K : St → Prop} {it : Operand} {r : Nat} {xs : List Value} {v : Value} {E : Ext} (ho : o.op = .entry it) (hd : o.dst = some d) (hdn : d < n) (hm : evo (Av.look σ.slot) it = some (.v (.pointer (some ⟨r, 0, none⟩)))) (hE : ∀ w, σ.ext.holds w → (Instr.entry (.pointer (some ⟨r, 0, none⟩))).run P w = .ok (.tuple #[.agg xs.toArray, v]) w)
    (hx1 : ∀ x ∈ xs, x.oneCell' = true) (hv1 : v.oneCell' = true) (hT : ∀ w, (∀ b, σ.ext.all b → b < w.heap.size) → σ.ext.holds w → Turn σ.ext w w E) (h : K (({ σ with ext := E } : St).put d (.tup [.g (xs.map PV.v), .c (.v v)]))) : Hand P n σ o K := by
  refine hand_value hd hdn fun F γ a w _ hr => ?_
  have e1 := eval_raw hr hm
  refine ⟨.tup [.g (xs.map PV.v), .c (.v v)], .tuple #[.agg xs.toArray, v], w, E, ?_, hT w (fun b hb => (hr.extf b hb).2.1) hr.exth, ⟨[_, _], rfl, .cons (.g (rep_of_ints hx1)) (.cons (.c (.v _ hv1)) .nil)⟩, (fun k hk => by cases hk), h⟩
  have hen := hE w hr.exth
  simp [execOp, ho, e1, hen]
theorem Turn.stepped {P : Program} {k : TypeId} {R : MReader} {b r n cnt : Nat} {G : Value → Option (DataW Unit)} {S : Value → Prop} {key v : Value} {w : World} (h : (stepE P k R b r n G S cnt key v).holds w) : Turn (stepE P k R b r n G S cnt key v) w w (rangeE P k R b r n G S cnt) := Turn.same h.1 (fun _ h => h) (fun _ h => .inr h)
/-- A slot that holds a box's address points into the box. -/
theorem awp_ref {P : Program} {F : Fr} {σ : St} {c : Code} {Q : AX → St → Prop} (t g : Nat) (ht : t < F.n) (hs : Av.look σ.slot t = some (.v (.pointer (some ⟨g, 0, none⟩)))) (hb : (Av.look σ.box (g + 1000000)).isSome = true) (h : AWp P F c Q (σ.put t (.ref (g + 1000000) 0))) : AWp P F c Q σ :=
  awp_slot t _ ht (fun γ a w hr => ⟨by
    rw [hr.val hs]
    show _ = Value.pointer _
    rw [hr.dyn _ hb (by omega)]
    simp, fun k hk => by simp [AV.refs] at hk; subst hk; exact hb⟩) h
theorem runs_of_len {al : List Att} {k : UK} {j : Nat} {x : List Int} (hx : (lossP al k.fl k.fr k.fm k.tt)[j]? = some x) : x.length ≤ al.length := by
  rw [lossP_k] at hx
  exact Nat.le_trans (runsOf_mem _ _ (Nat.le_refl _) x (List.mem_of_getElem? hx)).2 (List.length_filter_le _ _)
theorem overs_len_al {al : List Att} {V : List UK} {lk : List Lk} {k : UK} {m : Int} {j : Nat} (hV : V.Nodup) (hk : k ∉ V) : (brs lk al V ++ overs m k ((lossP al k.fl k.fr k.fm k.tt).take j)).length ≤ al.length := by
  have h1 : (brs lk al V).length + (lossP al k.fl k.fr k.fm k.tt).length ≤ al.length := by
    have h2 := sum_inK (k :: V) (List.nodup_cons.2 ⟨hk, hV⟩) al
    have h3 : (brs lk al V).length ≤ (V.map fun k => (al.filter (inK k)).length).sum := by
      unfold brs
      rw [List.length_flatMap]
      clear h2 hk hV
      induction V with
      | nil => exact Nat.le_refl _
      | cons k V ih =>
        rw [List.map_cons, List.sum_cons, List.map_cons, List.sum_cons]
        exact Nat.add_le_add (brK_len lk al k) ih
    have h4 : (lossP al k.fl k.fr k.fm k.tt).length ≤ (al.filter (inK k)).length := by
      rw [lossP_k]; exact runsOf_len _ _ (Nat.le_refl _)
    rw [List.map_cons, List.sum_cons] at h2
    omega
  have h5 := overs_len m k ((lossP al k.fl k.fr k.fm k.tt).take j)
  have h6 : ((lossP al k.fl k.fr k.fm k.tt).take j).length ≤ (lossP al k.fl k.fr k.fm k.tt).length := by rw [List.length_take]; omega
  rw [List.length_append]; omega
end Go.Proofs.Ytkdigdnacggknaa
/- Abstract states: a list of rows that the frame holds alone, whose cells may be lists: append to it by hand, and its end. Generic. -/
namespace Go.Proofs.Ytkdigdnacggknaa
open Go.RowKit
namespace Av
structure RowsOK (w : World) (e : TypeId) (sz : Nat) (q : Option Nat) (V : Value) (xs : List Value) (n : Nat) : Prop where
  own : OwnV w 0 e sz n V q
  len : xs.length = n * sz
  at_ : ∀ g, q = some g → ∀ (j : Nat) (u : Value), xs[j]? = some u → w.cell? ⟨g, j, none⟩ = some u
structure RowsRd (R : Reader) (sz : Nat) (xs : List Value) (rows : List (List PV)) : Prop where
  len : ∀ (k : Nat) (row : List PV), rows[k]? = some row → row.length = sz
  rd : ∀ (k : Nat) (row : List PV) (j : Nat) (p : PV), rows[k]? = some row → row[j]? = some p → ∃ x, xs[k * sz + j]? = some x ∧ RepP R p x
/-- A list of rows that nothing else reads: its block, its value, its cells' values, and what its rows are. -/
def rowsE (e : TypeId) (sz : Nat) (q : Option Nat) (V : Value) (xs : List Value) (rows : List (List PV)) : Ext where
  foot b := q = some b
  froz _ := False
  holds w := RowsOK w e sz q V xs rows.length
  stable {w w'} h hw := ⟨hw.own.keep fun g hg => h g (.inl hg), hw.len, fun g hg j u hu => (World.cell?_of_block (w := w) (a := ⟨g, j, none⟩) (h g (.inl hg))).trans (hw.at_ g hg j u hu)⟩
  reads R := RowsRd R sz xs rows
  rmono h hr := ⟨hr.len, fun k row j p h1 h2 => by obtain ⟨x, h3, h4⟩ := hr.rd k row j p h1 h2; exact ⟨x, h3, h4.mono h⟩⟩
/-- The same, saying nothing of what can be read. -/
def Ext.mute (E : Ext) : Ext := { E with reads := fun _ => True, rmono := fun _ _ => trivial }
section
variable {P : Program} {F : Fr} {σ : St} {γ : Gh} {a : Act} {w w1 : World} {E : Ext}
theorem Turn.mute {A : Ext} (h : Turn A w w1 E) : Turn A w w1 E.mute := ⟨h.os, h.tape, h.output, h.size, h.block, h.holds, h.foot, h.froz, h.laid, fun _ _ => trivial⟩
theorem Turn.mute_right {A B C : Ext} (h : Turn A w w1 (B.and C.mute)) : Turn A w w1 (B.and C).mute := ⟨h.os, h.tape, h.output, h.size, h.block, h.holds, h.foot, h.froz, h.laid, fun _ _ => trivial⟩
/-- The frame's reader goes by what the frame holds alone as to its blocks. -/
theorem rdr_foot {E' : Ext} (hf : E'.foot = E.foot) : rdr F.R0 F.w0.heap.size { σ with ext := E' } γ w = rdr F.R0 F.w0.heap.size { σ with ext := E } γ w := by
  have hm : ∀ p, ({ σ with ext := E' } : St).mut γ p ↔ ({ σ with ext := E } : St).mut γ p := fun p => by
    unfold St.mut
    dsimp only
    rw [hf]
    constructor
    · rintro (h | ⟨L, e, sz, rows, h1, h2, h3⟩ | h)
      · exact .inl h
      · exact .inr (.inl ⟨L, e, sz, rows, h1, by cases L <;> exact h2, h3⟩)
      · exact .inr (.inr h)
    · rintro (h | ⟨L, e, sz, rows, h1, h2, h3⟩ | h)
      · exact .inl h
      · exact .inr (.inl ⟨L, e, sz, rows, h1, by cases L <;> exact h2, h3⟩)
      · exact .inr (.inr h)
  funext p
  unfold rdr
  by_cases hB : p.block < F.w0.heap.size
  · rw [if_pos hB, if_pos hB]
  · rw [if_neg hB, if_neg hB]
    by_cases h : ({ σ with ext := E } : St).mut γ p
    · rw [if_pos h, if_pos ((hm p).2 h)]
    · rw [if_neg h, if_neg (fun h' => h ((hm p).1 h'))]
/-- What else the frame holds has changed, and what of it can be read. -/
theorem Rel.turnR (h : Rel F σ γ a w) (ht : Turn σ.ext w w1 E.mute) (hr : ∀ R, (∀ p v, rdr F.R0 F.w0.heap.size σ γ w p = some v → R p = some v) → σ.ext.reads R → E.reads R) : Rel F { σ with ext := E } γ a w1 := by
  have h1 := h.turn ht
  have hle := h.turn_le ht
  have he : rdr F.R0 F.w0.heap.size { σ with ext := E } γ w1 = rdr F.R0 F.w0.heap.size { σ with ext := E.mute } γ w1 := rdr_foot rfl
  have h2 := hr _ hle (σ.ext.rmono hle h.extr)
  refine ⟨h1.defers, h1.size, h1.below, h1.r0, fun t x hx => ?_, fun k cs hk => ?_, h1.boxinj, fun L e sz hL => ?_, h1.rowinj, h1.rowbox, h1.exth, h1.extf, h1.small, h1.dyn, h1.laid, ?_⟩
  · rw [he]; exact h1.slots t x hx
  · rw [he]; exact h1.boxes k cs hk
  · obtain ⟨rows, v, h3, h4, h5⟩ := h1.owns L e sz hL
    exact ⟨rows, v, by cases L <;> exact h3, h4, h5⟩
  · rw [he]; exact h2
end
section
variable {P : Program} {n d : Nat} {σ : St} {o : Oper} {K : St → Prop}
/-- Append to such a list. -/
theorem hand_appendRow {s x : Operand} {t e : TypeId} {i : TypeInfo} {z : Value} {E0 : Ext} {q : Option Nat} {V : Value} {xs : List Value} {rows rows2 : List (List PV)} {sz : Nat}
    (ho : o.op = .call { callee := .builtin .append, args := #[s, x], argTypes := #[t, t] }) (hd : o.dst = some d) (hdn : d < n)
    (ht : P.underlying t = some (.slice e)) (hi : P.info? e = some i) (hz : i.zero = some z) (hsz : i.size = sz) (hzs : z.cells.size = i.size) (hs0 : 0 < i.size) (hby : i.bytes ≤ 1000000)
    (hE : σ.ext = E0.and (rowsE e sz q V xs rows)) (hs : evo (look σ.slot) s = some (.v V)) (hx : evo (look σ.slot) x = some (.sl sz rows2)) (hnm : rows.length + rows2.length ≤ 100000000)
    (h : ∀ q' V' xs', K (({ σ with ext := E0.and (rowsE e sz q' V' xs' (rows ++ rows2)) } : St).put d (.v V'))) : Hand P n σ o K := by
  subst hsz
  intro F γ a w hF hr Q
  have hext := hr.exth
  rw [hE] at hext
  obtain ⟨h0, hrow, hdis⟩ := hext
  have hrd := hr.extr
  rw [hE] at hrd
  have eV : a.eval s = V := eval_raw hr hs
  obtain ⟨A2, cap2, news, e2, hc2, hl2, hsz2, hz2, h12, hA2⟩ := rows_flat hs0 (show RepP _ (.sl i.size rows2) (a.eval x) from (evo_ok hr (fun _ _ _ hy => hy) hx).1)
  obtain ⟨v, w1, q', r1, r2, r3, r4, r5, r6, r7, r8, r9, r10⟩ := run_append_av (P := P) w 0 t o.type e i z ht hi hz hzs hs0 hby V rows.length xs q hrow.own hrow.len hrow.at_ A2 rows2.length cap2 news hl2 (by
    rcases hA2 with h1 | ⟨b, off, h1, h2⟩
    · exact .inl (by rw [h1]; rfl)
    · exact .inr ⟨b, off, h1, fun j x hx => hr.cell (h2 j x hx)⟩) h12 hnm (Nat.zero_le _)
  have hlen : (rows ++ rows2).length = rows.length + rows2.length := List.length_append
  unfold Oper.wp execOp
  simp only [ho, resolve, invoke, builtin, Sem.run_bind, Sem.run_pure, Result.andThen_ok, List.map_toArray, List.map_cons, List.map_nil, eV, e2, r1]
  show ∃ σ' γ', K σ' ∧ Rel F σ' γ' (a.put o.dst v) w1
  rw [hd]
  have hturn : Turn σ.ext w w1 (E0.and (rowsE e i.size q' v (xs ++ news) (rows ++ rows2))).mute := by
    rw [hE]
    refine Turn.mute_right (Turn.right (fun b hb => (hr.extf b (by rw [hE]; exact hb.elim (fun h => .inl (.inl h)) (fun h => .inr (.inl h)))).2.1) ⟨h0, hrow, hdis⟩ ⟨r7, r8, r9, r10, fun k hk hn => r4 k hk (fun e => hn e), ⟨by rw [hlen]; exact r2, by rw [List.length_append, hrow.len, hl2, hlen, Nat.add_mul], r3⟩, fun b hb => ?_, fun b hb => hb.elim, fun _ h => h, fun _ _ => trivial⟩)
    · rcases r6 with r6 | r6
      · exact .inl (by show q = some b; rw [← r6]; exact hb)
      · have hb' : q' = some b := hb
        rw [r6] at hb'
        cases hb'
        have : w.heap.size < w1.heap.size := by
          have := r2
          rw [r6] at this
          exact this.lt.2
        exact .inr ⟨Nat.le_refl _, this⟩
  refine ⟨_, γ, h q' v (xs ++ news), (hr.turnR hturn fun R hR hrdR => ?_).put (by rw [hF]; exact hdn) rfl (fun k hk => by cases hk)⟩
  rw [hE] at hrdR
  refine ⟨hrdR.1, fun k row hk => ?_, fun k row j p hk hj => ?_⟩
  · rcases Nat.lt_or_ge k rows.length with hlt | hge
    · rw [List.getElem?_append_left hlt] at hk; exact hrdR.2.len k row hk
    · rw [List.getElem?_append_right hge] at hk; exact hsz2 _ row hk
  · rcases Nat.lt_or_ge k rows.length with hlt | hge
    · rw [List.getElem?_append_left hlt] at hk
      obtain ⟨x, hx, h1⟩ := hrdR.2.rd k row j p hk hj
      exact ⟨x, by rw [List.getElem?_append_left (List.getElem?_eq_some_iff.1 hx).1]; exact hx, h1⟩
    · rw [List.getElem?_append_right hge] at hk
      obtain ⟨x, hx, h1⟩ := hz2 _ row j p hk hj
      refine ⟨x, ?_, h1.mono hR⟩
      have hge2 : xs.length ≤ k * i.size + j := by
        rw [hrow.len]
        have := Nat.mul_le_mul_right i.size hge
        omega
      rw [List.getElem?_append_right hge2, hrow.len]
      rw [show k * i.size + j - rows.length * i.size = (k - rows.length) * i.size + j by
        rw [Nat.sub_mul]
        have := Nat.mul_le_mul_right i.size hge
        omega]
      exact hx
def infoB (P : Program) (e : TypeId) (sz : Nat) : Bool :=
  match P.info? e with
  | some i => match i.zero with
    | some z => decide (i.size = sz) && decide (z.cells.size = i.size) && decide (0 < i.size) && decide (i.bytes ≤ 1000000)
    | none => false
  | none => false
theorem hand_appendB {s x : Operand} {t e : TypeId} {E0 : Ext} {q : Option Nat} {V : Value} {xs : List Value} {rows rows2 : List (List PV)} {sz : Nat}
    (ho : o.op = .call { callee := .builtin .append, args := #[s, x], argTypes := #[t, t] }) (hd : o.dst = some d) (hdn : d < n) (ht : P.underlying t = some (.slice e)) (hi : infoB P e sz = true)
    (hE : σ.ext = E0.and (rowsE e sz q V xs rows)) (hs : evo (look σ.slot) s = some (.v V)) (hx : evo (look σ.slot) x = some (.sl sz rows2)) (hnm : rows.length + rows2.length ≤ 100000000)
    (h : ∀ q' V' xs', K (({ σ with ext := E0.and (rowsE e sz q' V' xs' (rows ++ rows2)) } : St).put d (.v V'))) : Hand P n σ o K := by
  unfold infoB at hi
  cases h1 : P.info? e with
  | none => rw [h1] at hi; cases hi
  | some i =>
    rw [h1] at hi
    dsimp only at hi
    cases h2 : i.zero with
    | none => rw [h2] at hi; cases hi
    | some z =>
      rw [h2] at hi
      simp only [Bool.and_eq_true, decide_eq_true_eq] at hi
      obtain ⟨⟨⟨h3, h4⟩, h5⟩, h6⟩ := hi
      exact hand_appendRow ho hd hdn ht h1 h2 h3 h4 h5 h6 hE hs hx hnm h
/-- A list that is empty, held so. -/
theorem awp_rowsNil {F : Fr} {cd : Code} {Q : AX → St → Prop} (e : TypeId) (sz : Nat) (h : AWp P F cd Q { σ with ext := σ.ext.and (rowsE e sz none (.slice none 0 0) [] []) }) : AWp P F cd Q σ := fun γ a w hr => by
  have hk : ∀ {Q1 : Prop} {g : Nat}, (none : Option Nat) = some g → Q1 := fun h => by cases h
  have hd : (rowsE e sz none (.slice none 0 0) [] []).holds w := ⟨⟨rfl, rfl⟩, by simp, fun g hg => hk hg⟩
  have ht : Turn σ.ext w w (σ.ext.and (rowsE e sz none (.slice none 0 0) [] [])).mute :=
    Turn.mute_right (Turn.more (fun b hb => (hr.extf b hb).2.1) hr.exth (Turn.same (E0 := Ext.nil) (E := (rowsE e sz none (.slice none 0 0) [] []).mute) hd (fun b hb => hk (show (none : Option Nat) = some b from hb)) (fun b hb => hb.elim)))
  exact h γ a w (hr.turnR ht fun R _ hrd => ⟨hrd, fun k row hk' => by simp at hk', fun k row j p hk' => by simp at hk'⟩)
/-- Such a list becomes a datum. -/
theorem awp_rows {F : Fr} {cd : Code} {Q : AX → St → Prop} {t : Nat} {e : TypeId} {sz : Nat} {q : Option Nat} {V : Value} {xs : List Value} {rows : List (List PV)} {E0 : Ext} (hE : σ.ext = E0.and (rowsE e sz q V xs rows)) (ht : look σ.slot t = some (.v V)) (htn : t < F.n)
    (h : AWp P F cd Q (({ σ with ext := E0 } : St).put t (.sl sz rows))) : AWp P F cd Q σ := fun γ a w hr => by
  have hext := hr.exth
  rw [hE] at hext
  obtain ⟨h0, hrow, hdis⟩ := hext
  have hrd := hr.extr
  rw [hE] at hrd
  have hfoot : ∀ b, q = some b → F.w0.heap.size ≤ b ∧ b < w.heap.size ∧ (∀ k, (look σ.box k).isSome → γ.bx k ≠ b) ∧ (∀ L, (lookL σ.own L).isSome → γ.rw L ≠ some b) := fun b hb => hr.extf b (.inl (by rw [hE]; exact .inr hb))
  have hE0 : ∀ b, q = some b → ¬ E0.foot b := fun b hb hf => hdis b (.inl hf) (.inl hb)
  have ht1 : Turn σ.ext w w E0 := Turn.same h0 (fun b hb => by rw [hE]; exact .inl hb) (fun b hb => by rw [hE]; exact .inr (.inl hb)) (fun w0 h => by rw [hE] at h; exact h.1) (fun R h => by rw [hE] at h; exact h.1)
  have hr1 := hr.turn ht1
  have hle := hr.turn_le ht1
  have hv : a.tmps.getD t undef = V := (hr.slots t _ ht).1
  have hread : ∀ g, q = some g → ∀ (j : Nat) (u : Value), xs[j]? = some u → rdr F.R0 F.w0.heap.size { σ with ext := E0 } γ w ⟨g, j, none⟩ = some u := fun g hg j u hu => by
    obtain ⟨f1, f2, f3, f4⟩ := hfoot g hg
    unfold rdr
    rw [if_neg (by show ¬ g < _; omega), if_neg]
    · exact hrow.at_ g hg j u hu
    · rintro (⟨k, cs, hk, hpk⟩ | ⟨L, e', sz', rows', q1, q2, q3, q4⟩ | hx)
      · exact f3 k (by rw [show look σ.box k = some cs from hk]; rfl) hpk.symm
      · exact f4 L (by rw [show lookL σ.own L = some _ from q1]; rfl) q3
      · exact hE0 g hg hx
  have hrep : RepP (rdr F.R0 F.w0.heap.size { σ with ext := E0 } γ w) (.sl sz rows) V := by
    have hz : ∀ (k : Nat) (row : List PV) (j : Nat) (p : PV), rows[k]? = some row → row[j]? = some p → ∃ x, xs[k * sz + j]? = some x ∧ RepP (rdr F.R0 F.w0.heap.size { σ with ext := E0 } γ w) p x := fun k row j p h1 h2 => by
      obtain ⟨x, h3, h4⟩ := hrd.2.rd k row j p h1 h2
      exact ⟨x, h3, h4.mono hle⟩
    have ho := hrow.own
    cases q with
    | none =>
      obtain ⟨h1, h2⟩ := ho
      have hn : rows = [] := List.eq_nil_of_length_eq_zero h2
      subst hn
      rw [h1]
      exact rep_mk (R := rdr F.R0 F.w0.heap.size { σ with ext := E0 } γ w) (A := none) (cap := 0) (zs := xs) hrd.2.len hz (.inl rfl) (Nat.le_refl _)
    | some g =>
      obtain ⟨cap, cur, h1, _, _, h2, _⟩ := ho
      rw [h1]
      exact rep_mk (zs := xs) hrd.2.len hz (.inr ⟨g, 0, rfl, fun i x hx _ => by rw [Nat.zero_add]; exact hread g rfl i x hx⟩) h2
  have hp := hr1.put (d := t) htn (x := .sl sz rows) (u := V) hrep (fun k hk => by cases hk)
  have ha : a.put (some t) V = a := by
    rw [← hv]
    exact put_same (by rw [hr.size]; exact htn)
  rw [ha] at hp
  exact h γ a w hp
end
section
variable {P : Program} {n d : Nat} {σ : St} {o : Oper} {K : St → Prop}
/-- One operation: a store, or an append that is named, by hand. -/
def sopJ (P : Program) (n : Nat) (st : List Nat) (σ : St) (o : Oper) (K : St → Prop) : Prop :=
  match o.op, o.dst with
  | .store _ _ _, none => Hand P n σ o K
  | .call { callee := .builtin .append, .. }, some d => if st.contains (d + 1000000) = true then Hand P n σ o K else sop P n st σ o K
  | _, _ => sop P n st σ o K
def sopsJ (P : Program) (n : Nat) (st : List Nat) (ops : Array Oper) : List Oper → St → (St → Prop) → Prop
  | [], σ, K => K σ
  | o :: l, σ, K => match guardB ops (look σ.slot) o with
    | some true => sopJ P n st σ o fun σ' => sopsJ P n st ops l σ' K
    | some false => ∃ d, o.dst = some d ∧ d < n ∧ sopsJ P n st ops l (σ.put d (.v undef)) K
    | none => False
theorem sopsJ_go {st : List Nat} {ops : Array Oper} {l : List Oper} {K : St → Prop} (h : match guardB ops (look σ.slot) o with
    | some true => sopJ P n st σ o fun σ' => sopsJ P n st ops l σ' K
    | some false => ∃ d, o.dst = some d ∧ d < n ∧ sopsJ P n st ops l (σ.put d (.v undef)) K
    | none => False) : sopsJ P n st ops (o :: l) σ K := h
theorem sopsJ_end {st : List Nat} {ops : Array Oper} {K : St → Prop} (h : K σ) : sopsJ P n st ops [] σ K := h
theorem sopJ_ok {F : Fr} {st : List Nat} {γ : Gh} {a : Act} {w : World} (h : Rel F σ γ a w) (hs : sopJ P F.n st σ o K) (Q : Exit → Act → World → Prop) : o.wp P a w (fun a' w' => ∃ σ' γ', K σ' ∧ Rel F σ' γ' a' w') Q := by
  unfold sopJ at hs
  split at hs
  · exact hs F γ a w rfl h Q
  · split at hs
    · exact hs F γ a w rfl h Q
    · exact sop_ok h hs Q
  · exact sop_ok h hs Q
theorem sopsJ_ok {F : Fr} {st : List Nat} {ops : Array Oper} {Q : Exit → Act → World → Prop} (hQ : ∀ σ γ a w, K σ → Rel F σ γ a w → Q .normal a w) : ∀ (l : List Oper) (σ : St) (γ : Gh) (a : Act) (w : World), Rel F σ γ a w → sopsJ P F.n st ops l σ K → wpList P ops Q l a w
  | [], σ, γ, a, w, h, hs => hQ σ γ a w hs h
  | o :: l, σ, γ, a, w, h, hs => by
    unfold sopsJ at hs
    unfold wpList
    split at hs
    · rename_i hg
      rw [guard_ok h (fun j want t y _ _ hy => hy) hg, if_pos rfl]
      refine .inl (Oper.wp_mono (fun a2 w2 hst => ?_) (sopJ_ok h hs Q))
      obtain ⟨σ', γ', h1, h2⟩ := hst
      exact sopsJ_ok hQ l σ' γ' a2 w2 h2 h1
    · rename_i hg
      obtain ⟨d, hd, hdn, hs⟩ := hs
      rw [guard_ok h (fun j want t y _ _ hy => hy) hg, if_neg (by simp), hd]
      exact sopsJ_ok hQ l _ γ _ w (h.put hdn (x := .v undef) (u := undef) rfl (fun k hk => by cases hk)) hs
    · cases hs
theorem awp_drawJ {F : Fr} {id : Nat} {l l1 l2 : List Oper} {Q : AX → St → Prop} {σ : St} (st : List Nat) (n : Nat) (hm : P.follows .mixedOrders = true) (hc : (decide (n ≤ l.length) && ssaB l.toArray n && tailB l.toArray n) = true) (h1 : l.take n = l1) (h2 : l.drop n = l2)
    (h : ∀ bx0 : Nat → Option (List PV), bx0 = look σ.box → headW P F.n st l.toArray bx0 l1 σ [] fun σ1 sl => sopsJ P F.n st l.toArray l2 (steals σ1 sl) (Q .normal)) : AWp P F (Code.region id l.toArray true) Q σ := by
  simp only [Bool.and_eq_true, decide_eq_true_eq] at hc
  subst h1
  subst h2
  exact awp_drawG st n hm hc.1.1 hc.1.2 hc.2 (fun σ => sopsJ P F.n st l.toArray (l.drop n) σ (Q .normal))
    (fun σ2 γ2 a2 w2 hrel2 hK => sopsJ_ok (P := P) (F := F) (Q := fun e a' w' => ∃ x σ' γ', e = AX.exit_ x ∧ Q x σ' ∧ Rel F σ' γ' a' w') (fun σ'' γ'' a'' w'' hq hr'' => ⟨.normal, σ'', γ'', rfl, hq, hr''⟩) (l.drop n) _ γ2 a2 w2 hrel2 hK) (h _ rfl)
end
end Av
end Go.Proofs.Ytkdigdnacggknaa
/- Walk: how breaches are compared, in exact worlds. -/
namespace Go.Proofs.Ytkdigdnacggknaa
open Go.RowKit
open Rc
set_option maxRecDepth 100000
structure EqW (w : World) where
  val : World
  eq : val = w
instance (w : World) : Nonempty (EqW w) := ⟨⟨w, rfl⟩⟩
theorem wp_region_eq_tail {P : Program} {id : Nat} {Q : Exit → Act → World → Prop} {a : Act} {w : World} {l : List Oper} (n : Nat) (hm : P.follows .mixedOrders = true) (hB : Region.lexTailB .any l.toArray n = true)
    (h : wpQuiet P l.toArray (fun w' => ∃ x : EqW w.drew, w' = x.val) (fun a' => ∀ w', (∃ x : EqW w.drew, w' = x.val) → wpList P l.toArray Q (l.drop n) a' w') (l.take n) a) : (Code.region id l.toArray true).wp P Q a w :=
  wp_region_quiet_tail (C := fun w' => ∃ x : EqW w.drew, w' = x.val) n hm hB ⟨⟨w.drew, rfl⟩, rfl⟩ h
theorem Calls.eq_same {P : Program} {f : FuncId} {args : Array Value} {w : World} {x : EqW w} {v : Value} (h : Calls P f args x.val fun e w' => e = .returned v ∧ x.val = w') : Calls P f args x.val fun e w'' => e = .returned v ∧ ∃ y : EqW w, w'' = y.val :=
  h.mono fun _ w' ⟨he, hm⟩ => ⟨he, x, hm.symm⟩
theorem alloc_drew_grow (w : World) (o1 o2 o3 : Obj) : ((((w.alloc o1).alloc o2).alloc o3).drew) = Go.Sort.grow (w.drewN 1) #[o1, o2, o3] := by
  rw [Go.Sort.alloc_eq_grow w o1, Go.Sort.alloc_eq_grow _ o2, Go.Sort.grow_grow, Go.Sort.alloc_eq_grow _ o3, Go.Sort.grow_grow]
  rfl
set_option maxHeartbeats 4000000 in
theorem brcmp_any (f1 r1 m1 t1 f2 r2 m2 t2 s1 s2 : Int) (b1 o1 n1 c1 b2 o2 n2 c2 : Nat) (w : World) (h1 : w.cell? ⟨b1, o1, none⟩ = some (.int .i64 s1)) (h2 : w.cell? ⟨b2, o2, none⟩ = some (.int .i64 s2)) :
    Calls Try.prog 54 #[.agg #[.int .i64 f1, .int .i64 r1, .int .i64 m1, .int .i64 t1, .slice (some ⟨b1, o1, none⟩) (n1 + 1) c1], .agg #[.int .i64 f2, .int .i64 r2, .int .i64 m2, .int .i64 t2, .slice (some ⟨b2, o2, none⟩) (n2 + 1) c2]] w fun e w' => e = .returned (.int .i64 (orI [cmpI f1 f2, cmpI r1 r2, cmpI m1 m2, cmpI t1 t2, cmpI s1 s2])) ∧ ∃ q os', w' = Go.Sort.grow (w.drewN q) os' := by
  obtain ⟨g, hg⟩ : ∃ g, g = w.heap.size := ⟨_, rfl⟩
  obtain ⟨W1, hW1⟩ : ∃ W1, W1 = (w.alloc (.cells #[.int .i64 f1, .int .i64 r1, .int .i64 m1, .int .i64 t1, .slice (some ⟨b1, o1, none⟩) (n1 + 1) c1] 70)).alloc (.cells #[.int .i64 f2, .int .i64 r2, .int .i64 m2, .int .i64 t2, .slice (some ⟨b2, o2, none⟩) (n2 + 1) c2] 70) := ⟨_, rfl⟩
  have B1 : Blk W1 g 70 [.int .i64 f1, .int .i64 r1, .int .i64 m1, .int .i64 t1, .slice (some ⟨b1, o1, none⟩) (n1 + 1) c1] := by rw [hW1]; exact Blk.alloc (Blk.new2 _ [.int .i64 f1, .int .i64 r1, .int .i64 m1, .int .i64 t1, .slice (some ⟨b1, o1, none⟩) (n1 + 1) c1] hg) _
  have B2 : Blk W1 (g + 1) 70 [.int .i64 f2, .int .i64 r2, .int .i64 m2, .int .i64 t2, .slice (some ⟨b2, o2, none⟩) (n2 + 1) c2] := by rw [hW1]; exact Blk.new2 _ [.int .i64 f2, .int .i64 r2, .int .i64 m2, .int .i64 t2, .slice (some ⟨b2, o2, none⟩) (n2 + 1) c2] (by simp [hg])
  have hl1 : b1 < w.heap.size := block_lt_of_cell h1
  have hl2 : b2 < w.heap.size := block_lt_of_cell h2
  have S1 : W1.cell? ⟨b1, o1, none⟩ = some (.int .i64 s1) := by
    rw [hW1, World.cell?_alloc_lt _ _ _ (by simp; omega), World.cell?_alloc_lt _ _ _ hl1]; exact h1
  have S2 : W1.cell? ⟨b2, o2, none⟩ = some (.int .i64 s2) := by
    rw [hW1, World.cell?_alloc_lt _ _ _ (by simp; omega), World.cell?_alloc_lt _ _ _ hl2]; exact h2
  have e10 : ∀ x : EqW W1.drew, x.val.cell? ⟨g, 0, none⟩ = some (.int .i64 f1) := fun x => by rw [x.eq]; exact B1.row 0
  have e11 : ∀ x : EqW W1.drew, x.val.cell? ⟨g, 1, none⟩ = some (.int .i64 r1) := fun x => by rw [x.eq]; exact B1.row 1
  have e12 : ∀ x : EqW W1.drew, x.val.cell? ⟨g, 2, none⟩ = some (.int .i64 m1) := fun x => by rw [x.eq]; exact B1.row 2
  have e13 : ∀ x : EqW W1.drew, x.val.cell? ⟨g, 3, none⟩ = some (.int .i64 t1) := fun x => by rw [x.eq]; exact B1.row 3
  have e14 : ∀ x : EqW W1.drew, x.val.cell? ⟨g, 4, none⟩ = some (.slice (some ⟨b1, o1, none⟩) (n1 + 1) c1) := fun x => by rw [x.eq]; exact B1.row 4
  have es1 : ∀ x : EqW W1.drew, x.val.cell? ⟨b1, o1, none⟩ = some (.int .i64 s1) := fun x => by rw [x.eq]; exact S1
  have e20 : ∀ x : EqW W1.drew, x.val.cell? ⟨g + 1, 0, none⟩ = some (.int .i64 f2) := fun x => by rw [x.eq]; exact B2.row 0
  have e21 : ∀ x : EqW W1.drew, x.val.cell? ⟨g + 1, 1, none⟩ = some (.int .i64 r2) := fun x => by rw [x.eq]; exact B2.row 1
  have e22 : ∀ x : EqW W1.drew, x.val.cell? ⟨g + 1, 2, none⟩ = some (.int .i64 m2) := fun x => by rw [x.eq]; exact B2.row 2
  have e23 : ∀ x : EqW W1.drew, x.val.cell? ⟨g + 1, 3, none⟩ = some (.int .i64 t2) := fun x => by rw [x.eq]; exact B2.row 3
  have e24 : ∀ x : EqW W1.drew, x.val.cell? ⟨g + 1, 4, none⟩ = some (.slice (some ⟨b2, o2, none⟩) (n2 + 1) c2) := fun x => by rw [x.eq]; exact B2.row 4
  have es2 : ∀ x : EqW W1.drew, x.val.cell? ⟨b2, o2, none⟩ = some (.int .i64 s2) := fun x => by rw [x.eq]; exact S2
  clear h1 h2 hl1 hl2 S1 S2 B1 B2
  have HW := Lib.hid hW1
  clear hW1
  have HG := Lib.hid hg
  clear hg
  go_enter Try.func54, Try.ntmps54
  go_wp2_with fail
  rw [← HW.out, ← HG.out]
  refine wp_region_eq_tail 29 (by kernel_rfl) (by kernel_rfl) ?_
  simp only [List.take_succ_cons, List.take_zero, List.drop_succ_cons, List.drop_zero]
  repeat (go_big_quiet_step ((go_at_call 56; exact Calls.eq_same (cmp_any _ _ _))))
  refine wpQuiet_nil ?_
  rintro _ ⟨x, rfl⟩
  obtain ⟨W, hWe⟩ := x
  subst hWe
  go_wp2_with (go_at_call 55; refine (or_any [cmpI f1 f2, cmpI r1 r2, cmpI m1 m2, cmpI t1 t2, cmpI s1 s2] _ 0 5 _ (by simp) ?_).mono ?_)
  · exact Row.ints (l := [cmpI f1 f2, cmpI r1 r2, cmpI m1 m2, cmpI t1 t2, cmpI s1 s2]) (Row.drew (Row.new _ [.int .i64 (cmpI f1 f2), .int .i64 (cmpI r1 r2), .int .i64 (cmpI m1 m2), .int .i64 (cmpI t1 t2), .int .i64 (cmpI s1 s2)] _))
  rintro e w' ⟨rfl, rfl⟩
  go_wp2_with fail
  go_ret
  exact ⟨rfl, 1, _, by rw [HW.out, alloc_drew_grow]⟩
end Go.Proofs.Ytkdigdnacggknaa
/- The library's contract that this claim uses, laid for its program: written by a tool of the kit. -/
namespace Go.Proofs.Ytkdigdnacggknaa
open Go.Shelf
def Try.sortBr_ren : Go.Shelf.Ren := ⟨fun | 6 => 53 | 15 => 78 | 14 => 77 | 28 => 109 | 29 => 110 | 20 => 101 | 21 => 102 | 22 => 103 | 23 => 104 | 24 => 105 | 25 => 106 | 26 => 107 | 27 => 108 | 46 => 115 | 47 => 116 | 48 => 117 | 49 => 118 | 50 => 119 | 57 => 120 | n => n, fun | 22 => 46 | 24 => 70 | 25 => 112 | 3 => 3 | 39 => 127 | 0 => 0 | 53 => 139 | 55 => 151 | 4 => 4 | 46 => 144 | 45 => 143 | 50 => 90 | 5 => 5 | 9 => 9 | 66 => 157 | 70 => 161 | 76 => 163 | 77 => 164 | n => n, fun | n => n⟩
theorem Try.sortBr : Go.Proofs.SlLaysF0.n6 Try.prog Try.sortBr_ren := {
  mixed := by kernel_rfl
  f6 := ⟨Try.f53.name, by decide, Try.func53.trans (congrArg some (by kernel_rfl))⟩
  f14 := ⟨Try.f77.name, by decide, Try.func77.trans (congrArg some (by kernel_rfl))⟩
  f15 := Try.func78.trans (congrArg some (by kernel_rfl))
  f20 := ⟨Try.f101.name, by decide, Try.func101.trans (congrArg some (by kernel_rfl))⟩
  f21 := ⟨Try.f102.name, by decide, Try.func102.trans (congrArg some (by kernel_rfl))⟩
  f22 := ⟨Try.f103.name, by decide, Try.func103.trans (congrArg some (by kernel_rfl))⟩
  f23 := ⟨Try.f104.name, by decide, Try.func104.trans (congrArg some (by kernel_rfl))⟩
  f24 := ⟨Try.f105.name, by decide, Try.func105.trans (congrArg some (by kernel_rfl))⟩
  f25 := ⟨Try.f106.name, by decide, Try.func106.trans (congrArg some (by kernel_rfl))⟩
  f26 := ⟨Try.f107.name, by decide, Try.func107.trans (congrArg some (by kernel_rfl))⟩
  f27 := ⟨Try.f108.name, by decide, Try.func108.trans (congrArg some (by kernel_rfl))⟩
  f28 := Try.func109.trans (congrArg some (by kernel_rfl))
  f29 := Try.func110.trans (congrArg some (by kernel_rfl))
  f46 := ⟨Try.f115.name, by decide, Try.func115.trans (congrArg some (by kernel_rfl))⟩
  f47 := Try.func116.trans (congrArg some (by kernel_rfl))
  f48 := Try.func117.trans (congrArg some (by kernel_rfl))
  f49 := ⟨Try.f118.name, by decide, Try.func118.trans (congrArg some (by kernel_rfl))⟩
  f50 := ⟨Try.f119.name, by decide, Try.func119.trans (congrArg some (by kernel_rfl))⟩
  f57 := ⟨Try.f120.name, by decide, Try.func120.trans (congrArg some (by kernel_rfl))⟩
  t0 := Try.underlying0
  a0 := Try.isAgg0
  z0 := Try.sizeOf0
  v0 := Try.zeroValue0
  t3 := Try.underlying3
  a3 := Try.isAgg3
  z3 := Try.sizeOf3
  v3 := Try.zeroValue3
  t4 := Try.underlying4
  a4 := Try.isAgg4
  z4 := Try.sizeOf4
  v4 := Try.zeroValue4
  t5 := Try.underlying5
  a5 := Try.isAgg5
  z5 := Try.sizeOf5
  v5 := Try.zeroValue5
  t9 := Try.underlying9
  a9 := Try.isAgg9
  z9 := Try.sizeOf9
  v9 := Try.zeroValue9
  t22 := Try.underlying46
  a22 := Try.isAgg46
  z22 := Try.sizeOf46
  v22 := Try.zeroValue46
  t25 := Try.underlying112
  a25 := Try.isAgg112
  z25 := Try.sizeOf112
  v25 := Try.zeroValue112
  t39 := Try.underlying127
  a39 := Try.isAgg127
  z39 := Try.sizeOf127
  v39 := Try.zeroValue127
  t45 := Try.underlying143
  a45 := Try.isAgg143
  z45 := Try.sizeOf143
  v45 := Try.zeroValue143
  t46 := Try.underlying144
  a46 := Try.isAgg144
  z46 := Try.sizeOf144
  v46 := Try.zeroValue144
  t50 := Try.underlying90
  a50 := Try.isAgg90
  z50 := Try.sizeOf90
  v50 := Try.zeroValue90
  t53 := Try.underlying139
  a53 := Try.isAgg139
  z53 := Try.sizeOf139
  v53 := Try.zeroValue139
  t55 := Try.underlying151
  a55 := Try.isAgg151
  z55 := Try.sizeOf151
  v55 := Try.zeroValue151
  t66 := Try.underlying157
  a66 := Try.isAgg157
  z66 := Try.sizeOf157
  v66 := Try.zeroValue157
  t70 := Try.underlying161
  a70 := Try.isAgg161
  z70 := Try.sizeOf161
  v70 := Try.zeroValue161
  t76 := Try.underlying163
  a76 := Try.isAgg163
  z76 := Try.sizeOf163
  v76 := Try.zeroValue163
  t77 := Try.underlying164
  a77 := Try.isAgg164
  z77 := Try.sizeOf164
  v77 := Try.zeroValue164 }
end Go.Proofs.Ytkdigdnacggknaa
/- Abstract states: a call that is walked by hand; a box that gets its block's number as its name. Generic. -/
namespace Go.Proofs.Ytkdigdnacggknaa
open Go.RowKit
namespace Av
section
variable {P : Program} {F : Fr} {σ : St} {γ : Gh} {a : Act} {w : World}
/-- A call by hand. -/
theorem hand_call {n : Nat} {o : Oper} {d : Nat} {K : St → Prop} (hd : o.dst = some d)
    (h : ∀ (F : Fr) (γ : Gh) (a : Act) (w : World), F.n = n → Rel F σ γ a w → ∃ fid us, (execOp a.eval o).run P w = .ok (.enter fid us) w ∧
      Calls P fid us w fun e w1 => ∃ u σ' γ', e = .returned u ∧ K σ' ∧ Rel F σ' γ' (a.put (some d) u) w1) : Hand P n σ o K := by
  intro F γ a w hF hr Q
  obtain ⟨fid, us, hrun, hc⟩ := h F γ a w hF hr
  unfold Oper.wp
  rw [hrun, Oper.upon_enter, hd]
  refine hc.mono ?_
  rintro e w1 ⟨u, σ', γ', rfl, hK, hrel⟩
  exact ⟨σ', γ', hK, hrel⟩
end
end Av
end Go.Proofs.Ytkdigdnacggknaa
/- Plain: the breaches of a record that is right have different keys. -/
namespace Go.Proofs.Ytkdigdnacggknaa
open Nd Rc Mo
theorem cmpI_le {x y : Int} (h : cmpI x y ≤ 0) : x ≤ y := by
  unfold cmpI at h; split at h
  · omega
  · split at h <;> omega
theorem cmpA_slot {p a : Att} (h : cmpA p a < 0) : p.s ≤ a.s := by
  unfold cmpA orI at h
  split at h
  · rename_i h0
    exact cmpI_le (by rw [h0]; exact Int.le_refl _)
  · exact cmpI_le (by omega)
/-- A slot has a sender once; slots do not descend. -/
def Apart (x y : Att) : Prop := x.s < y.s ∨ (x.s = y.s ∧ x.cf ≠ y.cf)
theorem attsGo_pw (slots : Int) : ∀ (l : List Att) (p : Option Att) (S : List Int) (t : Int), attsGo slots p S t l = true → (∀ q, p = some q → q.s = t) → (p = none → S = []) →
    (∀ y ∈ l, (p.isSome = true → t ≤ y.s) ∧ (y.s = t → y.cf ∉ S)) ∧ l.Pairwise Apart
  | [], _, _, _, _, _, _ => ⟨fun y hy => (by cases hy), List.Pairwise.nil⟩
  | a :: l, p, S, t, h, hp, hS => by
    unfold attsGo at h
    split at h
    · cases h
    rename_i hb
    have hb2 : prevBad p a = false := by
      cases hq : prevBad p a with
      | false => rfl
      | true => rw [hq] at hb; simp at hb
    have hle : p.isSome = true → t ≤ a.s := fun hs => by
      cases p with
      | none => cases hs
      | some q =>
        rw [← hp q rfl]
        have : decide (0 ≤ cmpA q a) = false := hb2
        exact cmpA_slot (by have := of_decide_eq_false this; omega)
    split at h
    · rename_i ha
      split at h
      · cases h
      rename_i hn
      obtain ⟨h1, h2⟩ := attsGo_pw slots l (some a) (a.cf :: S) t h (fun q hq => by cases hq; exact ha) (fun hq => by cases hq)
      refine ⟨fun y hy => ?_, List.pairwise_cons.2 ⟨fun y hy => ?_, h2⟩⟩
      · rcases List.mem_cons.1 hy with rfl | hy
        · exact ⟨fun _ => by omega, fun _ => hn⟩
        · exact ⟨fun _ => (h1 y hy).1 rfl, fun e hm => (h1 y hy).2 e (List.mem_cons_of_mem _ hm)⟩
      · have h3 := (h1 y hy).1 rfl
        by_cases e : y.s = t
        · exact .inr ⟨by omega, fun e2 => (h1 y hy).2 e (by rw [e2]; exact List.mem_cons_self)⟩
        · exact .inl (by omega)
    · rename_i ha
      obtain ⟨h1, h2⟩ := attsGo_pw slots l (some a) [a.cf] a.s h (fun q hq => by cases hq; rfl) (fun hq => by cases hq)
      refine ⟨fun y hy => ?_, List.pairwise_cons.2 ⟨fun y hy => ?_, h2⟩⟩
      · have hge : a.s ≤ y.s := by
          rcases List.mem_cons.1 hy with rfl | hy
          · exact Int.le_refl _
          · exact (h1 y hy).1 rfl
        cases hp2 : p with
        | none => exact ⟨fun h => (by cases h), fun _ => by rw [hS hp2]; exact List.not_mem_nil⟩
        | some q =>
          have := hle (by rw [hp2]; rfl)
          exact ⟨fun _ => by omega, fun e => by omega⟩
      · have h3 := (h1 y hy).1 rfl
        by_cases e : y.s = a.s
        · exact .inr ⟨by omega, fun e2 => (h1 y hy).2 e (by rw [e2]; exact List.mem_cons_self)⟩
        · exact .inl (by omega)
theorem good_apart {r : Rec} (h : good r = true) : r.al.Pairwise Apart := by
  unfold good at h
  simp only [Bool.and_eq_true] at h
  exact (attsGo_pw _ _ _ _ _ h.2.2.2.2.1 (fun q hq => by cases hq) (fun _ => rfl)).2
/-- The attempts of one use ascend. -/
theorem use_asc {al : List Att} (h : al.Pairwise Apart) (k : UK) : (al.filter (inK k)).Pairwise fun x y => x.s < y.s := by
  refine (h.filter (inK k)).imp_of_mem fun {a b} ha hb hab => ?_
  have h1 := inK_iff.1 (List.mem_filter.1 ha).2
  have h2 := inK_iff.1 (List.mem_filter.1 hb).2
  rcases hab with hab | ⟨_, hne⟩
  · exact hab
  · exact absurd (by rw [show a.cf = (attK a).fm from rfl, show b.cf = (attK b).fm from rfl, h1, h2]) hne
theorem runs_heads : ∀ (n : Nat) (l : List Att), l.length ≤ n → l.Pairwise (fun x y => x.s < y.s) → (∀ x ∈ runsOf l, x ≠ [] ∧ ∃ a ∈ l, x.headD 0 = a.s) ∧ (runsOf l).Pairwise fun x y => x.headD 0 < y.headD 0
  | _, [], _, _ => by rw [runsOf_nil]; exact ⟨fun x hx => (by cases hx), List.Pairwise.nil⟩
  | 0, _ :: _, h, _ => by cases h
  | n + 1, a :: l, h, hp => by
    have h : l.length ≤ n := Nat.le_of_succ_le_succ h
    obtain ⟨hp1, hp2⟩ := List.pairwise_cons.1 hp
    by_cases ho : a.o = 1
    · rw [runsOf_acked ho]
      obtain ⟨h1, h2⟩ := runs_heads n l h hp2
      exact ⟨fun x hx => ⟨(h1 x hx).1, by obtain ⟨b, hb, e⟩ := (h1 x hx).2; exact ⟨b, List.mem_cons_of_mem _ hb, e⟩⟩, h2⟩
    · rw [runsOf_lost ho]
      have hs := List.dropWhile_sublist nonA (l := l)
      obtain ⟨h1, h2⟩ := runs_heads n (l.dropWhile nonA) (Nat.le_trans hs.length_le h) (hp2.sublist hs)
      refine ⟨fun x hx => ?_, List.pairwise_cons.2 ⟨fun x hx => ?_, h2⟩⟩
      · rcases List.mem_cons.1 hx with rfl | hx
        · exact ⟨by simp, a, List.mem_cons_self, rfl⟩
        · obtain ⟨q1, b, hb, e⟩ := h1 x hx
          exact ⟨q1, b, List.mem_cons_of_mem _ (hs.subset hb), e⟩
      · obtain ⟨_, b, hb, e⟩ := h1 x hx
        rw [e]
        exact hp1 b (hs.subset hb)
theorem head_take {x : List Int} {m : Int} (hm : 0 ≤ m) : (x.take (m + 1).toNat).headD 0 = x.headD 0 := by
  obtain ⟨j, hj⟩ : ∃ j, (m + 1).toNat = j + 1 := ⟨m.toNat, by omega⟩
  rw [hj]
  cases x <;> rfl
theorem brK_keys {lk : List Lk} {al : List Att} (hl : ∀ a b, 0 ≤ lossOf lk a b) (h : al.Pairwise Apart) (k : UK) : ((brK lk al k).map Br.key).Nodup := by
  unfold brK overs
  rw [lossP_k, List.map_map]
  have h1 := (runs_heads _ _ (Nat.le_refl _) (use_asc h k)).2.filter (fun x => decide (lossOf lk k.fm k.tt < (x.length : Int)))
  refine List.pairwise_map.2 (h1.imp fun {x y} hxy e => ?_)
  simp only [Function.comp, Br.key, List.cons.injEq, head_take (hl _ _), true_and, and_true] at e
  omega
theorem key_use {lk : List Lk} {al : List Att} {k : UK} {z : List Int} (h : z ∈ (brK lk al k).map Br.key) : z.take 4 = [k.fl, k.fr, k.fm, k.tt] := by
  obtain ⟨b, hb, rfl⟩ := List.mem_map.1 h
  unfold brK overs at hb
  obtain ⟨x, _, rfl⟩ := List.mem_map.1 hb
  rfl
theorem brs_keys {lk : List Lk} {al : List Att} (hl : ∀ a b, 0 ≤ lossOf lk a b) (h : al.Pairwise Apart) : ∀ (V : List UK), V.Nodup → ((brs lk al V).map Br.key).Nodup
  | [], _ => List.nodup_nil
  | k :: V, hV => by
    obtain ⟨h1, h2⟩ := List.nodup_cons.1 hV
    have e : brs lk al (k :: V) = brK lk al k ++ brs lk al V := by unfold brs; rw [List.flatMap_cons]
    rw [e, List.map_append]
    refine List.nodup_append.2 ⟨brK_keys hl h k, brs_keys hl h V h2, fun z hz z' hz' ez => ?_⟩
    subst ez
    have q1 := key_use hz
    obtain ⟨b, hb, eb⟩ := List.mem_map.1 hz'
    unfold brs at hb
    obtain ⟨k', hk', hb⟩ := List.mem_flatMap.1 hb
    have q2 := key_use (List.mem_map.2 ⟨b, hb, eb⟩)
    rw [q1] at q2
    simp only [List.cons.injEq, and_true] at q2
    have : k = k' := by
      obtain ⟨x, y, z, t⟩ := k
      obtain ⟨x', y', z', t'⟩ := k'
      obtain ⟨rfl, rfl, rfl, rfl⟩ := q2
      rfl
    exact h1 (this ▸ hk')
theorem brAll_keys {lk : List Lk} {r : Rec} (hl : ∀ a b, 0 ≤ lossOf lk a b) (h : good r = true) : ((brAll lk r.al).map Br.key).Nodup := brs_keys hl (good_apart h) _ (firstK_nodup _)
theorem lossOf_nn {lk : List Lk} (h : ∀ l ∈ lk, 0 ≤ l.ls) (a b : Int) : 0 ≤ lossOf lk a b := by
  unfold lossOf
  cases hl : lossAt lk a b with
  | none => exact Int.le_refl _
  | some x =>
    obtain ⟨y, hy, rfl⟩ := lossAt_mem hl
    exact h y hy
theorem brs_ne {lk : List Lk} {al : List Att} {V : List UK} (h : ∀ l ∈ lk, 0 ≤ l.ls) : ∀ b ∈ brs lk al V, b.sl ≠ [] := by
  intro b hb
  unfold brs at hb
  obtain ⟨k, _, hb⟩ := List.mem_flatMap.1 hb
  unfold brK overs at hb
  obtain ⟨x, hx, rfl⟩ := List.mem_map.1 hb
  have h1 : lossOf lk k.fm k.tt < (x.length : Int) := of_decide_eq_true (List.mem_filter.1 hx).2
  have h2 := lossOf_nn h k.fm k.tt
  intro h3
  have h4 := congrArg List.length h3
  rw [List.length_take] at h4
  simp only [List.length_nil] at h4
  omega
end Go.Proofs.Ytkdigdnacggknaa
/- Plain: what MonitorLosses looks for in each breach. -/
namespace Go.Proofs.Ytkdigdnacggknaa
open Nd Rc Mo
/-- Where a run lies among its use's attempts. -/
theorem run_at : ∀ (n : Nat) (l : List Att), l.length ≤ n → ∀ x ∈ runsOf l, ∃ p : Nat, p + x.length ≤ l.length ∧ (∀ j, j < x.length → ∃ a, l[p + j]? = some a ∧ x[j]? = some a.s ∧ a.o ≠ 1) ∧ (0 < p → ∃ a, l[p - 1]? = some a ∧ a.o = 1)
  | _, [], _, x, hx => by rw [runsOf_nil] at hx; cases hx
  | 0, _ :: _, h, _, _ => by cases h
  | n + 1, a :: l, h, x, hx => by
    have h : l.length ≤ n := Nat.le_of_succ_le_succ h
    by_cases ho : a.o = 1
    · rw [runsOf_acked ho] at hx
      obtain ⟨p, h1, h2, h3⟩ := run_at n l h x hx
      refine ⟨p + 1, by rw [List.length_cons]; omega, fun j hj => ?_, fun _ => ?_⟩
      · obtain ⟨b, q1, q2⟩ := h2 j hj
        exact ⟨b, by rw [show p + 1 + j = (p + j) + 1 by omega, List.getElem?_cons_succ]; exact q1, q2⟩
      · rw [Nat.add_sub_cancel]
        cases p with
        | zero => exact ⟨a, rfl, ho⟩
        | succ p => obtain ⟨b, q1, q2⟩ := h3 (by omega); exact ⟨b, by rw [List.getElem?_cons_succ]; exact q1, q2⟩
    · rw [runsOf_lost ho] at hx
      rcases List.mem_cons.1 hx with rfl | hx
      · have htl := (List.takeWhile_sublist nonA (l := l)).length_le
        refine ⟨0, by rw [List.length_cons, List.length_map, List.length_cons]; omega, fun j hj => ?_, fun h => absurd h (Nat.lt_irrefl _)⟩
        rw [Nat.zero_add]
        cases j with
        | zero => exact ⟨a, rfl, rfl, ho⟩
        | succ j =>
          rw [List.length_cons, List.length_map] at hj
          have hj' : j < (l.takeWhile nonA).length := by omega
          have e1 : (l.takeWhile nonA)[j]? = some ((l.takeWhile nonA)[j]) := List.getElem?_eq_getElem hj'
          have hm : nonA ((l.takeWhile nonA)[j]) = true := List.all_eq_true.1 List.all_takeWhile _ (List.getElem_mem hj')
          refine ⟨(l.takeWhile nonA)[j], ?_, ?_, fun e => ?_⟩
          · rw [List.getElem?_cons_succ]
            exact (List.prefix_iff_getElem?.1 (List.takeWhile_prefix nonA (l := l))) j hj'
          · rw [List.getElem?_cons_succ, List.getElem?_map, e1]; rfl
          · exact absurd hm (by rw [show nonA ((l.takeWhile nonA)[j]) = !((l.takeWhile nonA)[j].o == 1) from rfl, e]; decide)
      · have hd : l.takeWhile nonA ++ l.dropWhile nonA = l := List.takeWhile_append_dropWhile
        cases hq : l.dropWhile nonA with
        | nil => rw [hq, runsOf_nil] at hx; cases hx
        | cons c d =>
          have hc : c.o = 1 := by
            have := List.head?_dropWhile_not nonA l
            rw [hq] at this
            simp only [List.head?_cons] at this
            unfold nonA at this
            simpa using this
          have hlen : (l.takeWhile nonA).length + (d.length + 1) = l.length := by
            have := congrArg List.length hd
            rw [List.length_append, hq, List.length_cons] at this
            exact this
          rw [hq, runsOf_acked hc] at hx
          obtain ⟨p, h1, h2, h3⟩ := run_at n d (by omega) x hx
          have hget : ∀ i, (a :: l)[1 + (l.takeWhile nonA).length + 1 + i]? = d[i]? := fun i => by
            rw [show 1 + (l.takeWhile nonA).length + 1 + i = ((l.takeWhile nonA).length + (i + 1)) + 1 by omega, List.getElem?_cons_succ]
            have e : l = l.takeWhile nonA ++ c :: d := by rw [← hq]; exact hd.symm
            rw [e]
            rw [List.getElem?_append_right (by rw [← e]; omega)]
            rw [← e, Nat.add_sub_cancel_left, List.getElem?_cons_succ]
          refine ⟨1 + (l.takeWhile nonA).length + 1 + p, by rw [List.length_cons]; omega, fun j hj => ?_, fun _ => ?_⟩
          · obtain ⟨b, q1, q2⟩ := h2 j hj
            exact ⟨b, by rw [Nat.add_assoc _ p j, hget]; exact q1, q2⟩
          · cases p with
            | zero =>
              refine ⟨c, ?_, hc⟩
              rw [show 1 + (l.takeWhile nonA).length + 1 + 0 - 1 = (l.takeWhile nonA).length + 1 by omega, List.getElem?_cons_succ]
              have e : l = l.takeWhile nonA ++ c :: d := by rw [← hq]; exact hd.symm
              rw [e, List.getElem?_append_right (by rw [← e]; omega), ← e, Nat.sub_self]
              rfl
            | succ p =>
              obtain ⟨b, q1, q2⟩ := h3 (by omega)
              exact ⟨b, by rw [show 1 + (l.takeWhile nonA).length + 1 + (p + 1) - 1 = 1 + (l.takeWhile nonA).length + 1 + p by omega, hget]; exact q1, q2⟩
/-- Links ascend. -/
def LkApart (x y : Lk) : Prop := x.fr < y.fr ∨ (x.fr = y.fr ∧ x.tt < y.tt)
theorem prev_lk {q l : Lk} (h : prevBadL (some q) l = false) : LkApart q l := by
  unfold prevBadL at h
  simp only [Bool.or_eq_false_iff, Bool.and_eq_false_iff, decide_eq_false_iff_not, beq_eq_false_iff_ne] at h
  unfold LkApart
  omega
theorem lkGo_pw {nodes : Int} {pow : List (List Int)} : ∀ {p : Option Lk} {l : List Lk} {ms : List Int}, lkGo nodes pow p l ms = 0 → (∀ q, p = some q → ∀ x ∈ l, LkApart q x) ∧ l.Pairwise LkApart
  | _, [], _, _ => ⟨fun _ _ x hx => (by cases hx), List.Pairwise.nil⟩
  | p, y :: l, ms, h => by
    unfold lkGo at h
    split at h
    · rename_i h0
      obtain ⟨h1, h2⟩ := lkGo_pw h
      have hp : ∀ q, p = some q → LkApart q y := fun q hq => by
        subst hq
        refine prev_lk ?_
        cases hb : prevBadL (some q) y with
        | false => rfl
        | true =>
          unfold lkE at h0
          rw [hb] at h0
          split at h0 <;> simp at h0
      refine ⟨fun q hq x hx => ?_, List.pairwise_cons.2 ⟨h1 y rfl, h2⟩⟩
      rcases List.mem_cons.1 hx with rfl | hx
      · exact hp q hq
      · have a := hp q hq
        have b := h1 y rfl x hx
        unfold LkApart at *
        omega
    · rename_i h0; exact absurd h h0
theorem chkN_pw {n : Net} (h : chkN n = 0) : n.lk.Pairwise LkApart := by
  unfold chkN at h
  split at h
  · cases h
  · split at h
    · rename_i h2; exact absurd h h2
    · split at h
      · cases h
      · split at h
        · cases h
        · split at h
          · cases h
          · exact (lkGo_pw h).2
theorem lk_uniq {l : List Lk} (h : l.Pairwise LkApart) {x y : Lk} (hx : x ∈ l) (hy : y ∈ l) (h1 : x.fr = y.fr) (h2 : x.tt = y.tt) : x = y := by
  induction l with
  | nil => cases hx
  | cons z l ih =>
    obtain ⟨q1, q2⟩ := List.pairwise_cons.1 h
    rcases List.mem_cons.1 hx with ex | hx
    · rcases List.mem_cons.1 hy with ey | hy
      · rw [ex, ey]
      · have := q1 y hy; unfold LkApart at this; rw [← ex] at this; omega
    · rcases List.mem_cons.1 hy with ey | hy
      · have := q1 x hx; unfold LkApart at this; rw [← ey] at this; omega
      · exact ih q2 hx hy
theorem lossAt_at {l : List Lk} {a b x : Int} (h : lossAt l a b = some x) : ∃ y ∈ l, y.ls = x ∧ y.fr = a ∧ y.tt = b := by
  unfold lossAt at h
  cases hf : l.reverse.find? (fun x => x.fr == a && x.tt == b) with
  | none => rw [hf] at h; cases h
  | some y =>
    rw [hf] at h
    simp only [Option.map_some, Option.some.injEq] at h
    have h1 := List.find?_some hf
    simp only [Bool.and_eq_true, beq_iff_eq] at h1
    exact ⟨y, List.mem_reverse.1 (List.mem_of_find?_eq_some hf), h, h1.1, h1.2⟩
theorem idx_hit {α : Type} (p : α → Bool) {l : List α} {i : Nat} {a : α} (ha : l[i]? = some a) (hp : p a = true) (hf : ∀ j b, j < i → l[j]? = some b → p b = false) : idxP p l 0 = (i : Int) := by
  rcases idxP_spec p l 0 with ⟨_, h2⟩ | ⟨j, b, h1, h2, h3, h4⟩
  · rw [List.all_eq_true] at h2
    have := h2 a (List.mem_of_getElem? ha)
    rw [hp] at this; cases this
  · rw [h3]
    rcases Nat.lt_trichotomy i j with h | h | h
    · rw [List.all_eq_true] at h4
      have := h4 a (List.mem_of_getElem? (i := i) (by rw [List.getElem?_take, if_pos h]; exact ha))
      rw [hp] at this; cases this
    · subst h; omega
    · have := hf j b h h1
      rw [h2] at this; cases this
def ownL (al : List Att) (b : Br) : List Att := (ofFrame al b.fl b.fr).filter fun a => a.cf == b.fm && a.ct == b.tt
theorem ownL_k (al : List Att) (k : UK) (x : List Int) : ownL al ⟨k.fl, k.fr, k.fm, k.tt, x⟩ = al.filter (inK k) := by
  unfold ownL ofFrame
  rw [List.filter_filter]
  refine List.filter_congr fun a _ => ?_
  unfold inK
  rw [Bool.eq_iff_iff]
  simp only [Bool.and_eq_true, beq_iff_eq]
  constructor
  · rintro ⟨⟨h1, h2⟩, h3, h4⟩; exact ⟨⟨⟨h3.symm, h4.symm⟩, h1.symm⟩, h2.symm⟩
  · rintro ⟨⟨⟨h3, h4⟩, h1⟩, h2⟩; exact ⟨⟨h1.symm, h2.symm⟩, h3.symm, h4.symm⟩
theorem asc_get {l : List Att} (h : l.Pairwise fun x y => x.s < y.s) {i j : Nat} {a b : Att} (hij : i < j) (ha : l[i]? = some a) (hb : l[j]? = some b) : a.s < b.s := by
  obtain ⟨h1, rfl⟩ := List.getElem?_eq_some_iff.1 ha
  obtain ⟨h2, rfl⟩ := List.getElem?_eq_some_iff.1 hb
  exact List.pairwise_iff_getElem.1 h i j h1 h2 hij
/-- What the law finds of a breach. -/
structure LossOK (lk : List Lk) (al : List Att) (b : Br) (i p : Nat) (y : Lk) : Prop where
  link : idxP (fun x : Lk => x.fr == b.fm && x.tt == b.tt) lk 0 = (i : Int)
  at_ : lk[i]? = some y
  len : (b.sl.length : Int) = y.ls + 1
  first : idxP (fun a : Att => a.s == b.sl.headD 0) (ownL al b) 0 = (p : Int)
  room : p + b.sl.length ≤ (ownL al b).length
  prev : 0 < p → ∃ a, (ownL al b)[p - 1]? = some a ∧ a.o = 1
  each : ∀ j s, b.sl[j]? = some s → ∃ a, (ownL al b)[p + j]? = some a ∧ a.s = s ∧ a.o ≠ 1
theorem losses_law {n : Net} {r : Rec} (hn : chkN n = 0) (hg : good r = true) (hl : r.al.any (fun a => (lossAt n.lk a.cf a.ct).isNone) = false) {b : Br} (hb : b ∈ brAll n.lk r.al) : ∃ i p y, LossOK n.lk r.al b i p y := by
  unfold brAll brs at hb
  obtain ⟨k, hk, hb⟩ := List.mem_flatMap.1 hb
  obtain ⟨a0, ha0, hak⟩ := mem_firstK.1 hk
  unfold brK overs at hb
  obtain ⟨x, hx, rfl⟩ := List.mem_map.1 hb
  obtain ⟨hx1, hx2⟩ := List.mem_filter.1 hx
  have hm : lossOf n.lk k.fm k.tt < (x.length : Int) := of_decide_eq_true hx2
  rw [lossP_k] at hx1
  have hsome : (lossAt n.lk k.fm k.tt).isSome = true := by
    rw [← hak]
    have := List.any_eq_false.1 hl a0 ha0
    cases hq : lossAt n.lk a0.cf a0.ct with
    | none => rw [hq] at this; simp at this
    | some z => show (lossAt n.lk a0.cf a0.ct).isSome = true; rw [hq]; rfl
  obtain ⟨m, hm0⟩ := Option.isSome_iff_exists.1 hsome
  obtain ⟨y, hy, hy1, hy2, hy3⟩ := lossAt_at hm0
  have hls : lossOf n.lk k.fm k.tt = y.ls := by unfold lossOf; rw [hm0, hy1]; rfl
  have hyb := (chkN_links hn).2 y hy
  rw [hls] at hm ⊢
  obtain ⟨i, hi⟩ := List.mem_iff_getElem?.1 hy
  have hasc := use_asc (good_apart hg) k
  obtain ⟨p, h1, h2, h3⟩ := run_at _ _ (Nat.le_refl _) x hx1
  obtain ⟨q1, _⟩ := (runs_heads _ _ (Nat.le_refl _) hasc).1 x hx1
  have hlen : (x.take (y.ls + 1).toNat).length = (y.ls + 1).toNat := by rw [List.length_take]; omega
  have hown := ownL_k r.al k (x.take (y.ls + 1).toNat)
  have h0 : x[0]? = some (x.headD 0) := by cases x with | nil => exact absurd rfl q1 | cons => rfl
  refine ⟨i, p, y, ⟨?_, hi, ?_, ?_, ?_, ?_, ?_⟩⟩
  · refine idx_hit _ hi (by simp [hy2, hy3]) fun j z hj hz => ?_
    refine Bool.eq_false_iff.2 fun hq => ?_
    simp only [Bool.and_eq_true, beq_iff_eq] at hq
    obtain ⟨l1, e1⟩ := List.getElem?_eq_some_iff.1 hz
    obtain ⟨l2, e2⟩ := List.getElem?_eq_some_iff.1 hi
    have := List.pairwise_iff_getElem.1 (chkN_pw hn) j i l1 l2 hj
    rw [e1, e2] at this
    unfold LkApart at this
    omega
  · show ((x.take (y.ls + 1).toNat).length : Int) = _
    rw [hlen]; omega
  · rw [hown]
    show idxP (fun a : Att => a.s == (x.take (y.ls + 1).toNat).headD 0) _ 0 = _
    rw [head_take hyb.2.2.2.2.1]
    obtain ⟨a, g1, g2, _⟩ := h2 0 (by cases x with | nil => exact absurd rfl q1 | cons => simp)
    rw [Nat.add_zero] at g1
    rw [h0] at g2
    have g2 : x.headD 0 = a.s := Option.some.inj g2
    refine idx_hit _ g1 (by show (a.s == x.headD 0) = true; rw [g2]; exact beq_self_eq_true _) fun j z hj hz => ?_
    have := asc_get hasc hj hz g1
    refine beq_eq_false_iff_ne.2 fun e => ?_
    omega
  · rw [hown]
    show p + (x.take (y.ls + 1).toNat).length ≤ _
    rw [List.length_take]; omega
  · rw [hown]; exact h3
  · intro j s hs
    have hs : (x.take (y.ls + 1).toNat)[j]? = some s := hs
    rw [hown]
    have hj : j < (x.take (y.ls + 1).toNat).length := (List.getElem?_eq_some_iff.1 hs).1
    have hj2 : j < x.length := by rw [List.length_take] at hj; omega
    obtain ⟨a, g1, g2, g3⟩ := h2 j hj2
    rw [List.getElem?_take] at hs
    split at hs
    · rw [g2] at hs; exact ⟨a, g1, Option.some.inj hs, g3⟩
    · cases hs
end Go.Proofs.Ytkdigdnacggknaa
/- Abstract states: regions that draw their order and store one result late. Generic. -/
namespace Go.Proofs.Ytkdigdnacggknaa
open Go.RowKit
namespace Av
section
variable {P : Program} {ops : Array Oper} {Q : Exit → Act → World → Prop}
end
section
variable {P : Program} {F : Fr}
theorem lookL_keep_eq {l : List (Loc × (TypeId × Nat))} {k o n : Nat} (L : Loc) : lookL (keepL l k o n) L = if hitB k o n L = true then none else lookL l L := by
  induction l with
  | nil => unfold keepL; simp [lookL]
  | cons y l ih =>
    obtain ⟨M, y⟩ := y
    unfold keepL at ih ⊢
    by_cases hM : hitB k o n M = true
    · rw [List.filter_cons_of_neg (by rw [hM]; decide), ih]
      by_cases hL : hitB k o n L = true
      · rw [if_pos hL, if_pos hL]
      · rw [if_neg hL, if_neg hL, lookL_cons, if_neg (fun e => hL (by rw [← e]; exact hM))]
    · rw [List.filter_cons_of_pos (by rw [Bool.not_eq_true] at hM; rw [hM]; rfl), lookL_cons, ih]
      by_cases e : M = L
      · subst e; rw [if_pos rfl, if_neg hM, lookL_cons, if_pos rfl]
      · rw [if_neg e]
        split
        · rfl
        · rw [lookL_cons, if_neg e]
def stored (σ : St) (k : Nat) (cs xs : List PV) : St := { slot := σ.slot, box := (k, setAt cs 0 xs) :: σ.box, own := keepL σ.own k 0 xs.length, ext := σ.ext }
theorem storeSt_stored {σ : St} {k t : Nat} {cs xs : List PV} (ht : lookL σ.own (.s t) = none) : storeSt σ k 0 cs xs (.tmp t) = stored σ k cs xs := by
  unfold storeSt stealSt St.setBox stored
  dsimp only
  rw [lookL_keep_eq, ht]
  split
  · rename_i h; split at h <;> cases h
  · rfl
end
end Av
end Go.Proofs.Ytkdigdnacggknaa
/- Abstract states: regions that draw their order and store one result early: several operations may come behind it. Generic. -/
namespace Go.Proofs.Ytkdigdnacggknaa
open Go.RowKit
namespace Av
section
variable {P : Program} {ops : Array Oper} {Q : Exit → Act → World → Prop}
def lateM (ops : Array Oper) (n : Nat) (D : List Nat) (x t : Nat) : Bool := decide (n < ops.size) && (List.range n).all (fun i => D.contains i || Region.waitsFor .any ops n i) &&
  (List.range ops.size).all (fun j => decide (j ≤ n) || (Region.waitsFor .any ops j n && (List.range n).all fun i => Region.waitsFor .any ops j i)) && Region.seqB .any ops (ops.size - n) n (doneA n ops.size) && Region.seqB .any ops (ops.size - (n + 1)) (n + 1) (doneA (n + 1) ops.size) &&
  D.all fun i => !decide ((ops[i]?).bind (·.dst) = some x) && !decide ((ops[i]?).bind (·.dst) = some t)
theorem any_headM {n g : Nat} {D : List Nat} {Inv : Array Bool → Act → World → Prop} (hn : n < ops.size) (hback : ∀ i o, i < n → ops[i]? = some o → ∀ e ∈ o.after, Region.binds .any e = true → e.on < i)
    (hsink : ∀ i, i < n → D.contains i = false → Region.waitsFor .any ops n i = true) (hchain : ∀ j, n < j → j < ops.size → Region.waitsFor .any ops j n = true)
    (step : ∀ i listed a w, i < n → i ∈ Region.ready .any ops listed → HeadInv .any ops n listed → Inv listed a w → wpOp P ops Q i (fun a' w' => Inv (listed.setIfInBounds i true) a' w') a w)
    (fin : ∀ listed a w, HeadInv .any ops n listed → (∀ i, i < n → listed.getD i true = true) → Inv listed a w → wpAny P .any ops Q g listed a w)
    (late : ∀ f listed a w, cntU n listed = f + 1 → HeadInv .any ops n listed → (∀ i, i < n → D.contains i = false → listed.getD i false = true) → Inv listed a w → wpOp P ops Q n (fun a' w' => wpAny P .any ops Q (f + g) (listed.setIfInBounds n true) a' w') a w) :
    ∀ (f : Nat) (listed : Array Bool) (a : Act) (w : World), cntU n listed = f → HeadInv .any ops n listed → Inv listed a w → wpAny P .any ops Q (f + g) listed a w
  | 0, listed, a, w, hc, inv, hI => by
    rw [Nat.zero_add]
    exact fin listed a w inv (cntU_zero hc) hI
  | f + 1, listed, a, w, hc, inv, hI => by
    rw [show f + 1 + g = (f + g) + 1 by omega]
    have hwait : ∀ {j i : Nat}, j ∈ Region.ready .any ops listed → Region.waitsFor .any ops j i = true → listed.getD i false = true := fun {j i} hj hw => by
      obtain ⟨_, o, ho, hall⟩ := mem_ready.1 hj
      obtain ⟨oj, hoj, e, he, hb, hon⟩ := Region.waitsFor_spec hw
      rw [ho] at hoj
      cases hoj
      rw [← hon]
      exact hall e he hb
    refine ⟨fun h0 => ?_, fun j hj => ?_⟩
    · obtain ⟨i, h1, h2, h3⟩ := cntU_pos (n := n) (listed := listed) (by omega)
      have hmem : i ∈ Region.ready .any ops listed := by
        have hi : i < ops.size := by omega
        refine mem_ready.2 ⟨h2, ops[i], by simp [hi], fun e he hb => ?_⟩
        have h4 := hback i ops[i] h1 (by simp [hi]) e he hb
        have h5 := h3 e.on h4
        have hs : e.on < listed.size := by rw [inv.size]; omega
        simp [hs] at h5 ⊢
        exact h5
      rw [h0] at hmem
      cases hmem
    · rcases Nat.lt_or_ge j n with hjn | hjn
      · refine wpOp_mono (fun a' w' h' => any_headM hn hback hsink hchain step fin late f _ a' w' ?_ (inv.set hj hjn) h') (step j listed a w hjn hj inv hI)
        have := (cntU_set (n := n) (mem_ready.1 hj).1).1 hjn
        omega
      · have hjs : j < ops.size := by
          obtain ⟨_, o, ho, _⟩ := mem_ready.1 hj
          exact (Array.getElem?_eq_some_iff.1 ho).1
        have hjn : j = n := by
          rcases Nat.lt_or_ge n j with h | h
          · have h1 := hwait hj (hchain j h hjs)
            have h2 := inv.tail n (Nat.le_refl _) hn
            have hs : n < listed.size := by rw [inv.size]; exact hn
            simp [hs] at h1 h2
            rw [h1] at h2
            cases h2
          · omega
        subst hjn
        exact late f listed a w hc inv (fun i hi hne => hwait hj (hsink i hi hne)) hI
/-- The operations that come behind the early store, in whatever order. -/
theorem any_rest {n g : Nat} {Inv : Array Bool → Act → World → Prop} (hn : n < ops.size) (hback : ∀ i o, i < n → ops[i]? = some o → ∀ e ∈ o.after, Region.binds .any e = true → e.on < i)
    (hall : ∀ j, n < j → j < ops.size → ∀ i, i < n → Region.waitsFor .any ops j i = true)
    (step : ∀ i listed a w, i < n → i ∈ Region.ready .any ops listed → listed.size = ops.size → Inv listed a w → wpOp P ops Q i (fun a' w' => Inv (listed.setIfInBounds i true) a' w') a w)
    (fin : ∀ listed a w, listed.size = ops.size → (∀ i, i ≤ n → listed.getD i false = true) → (∀ t, n < t → t < ops.size → listed.getD t true = false) → Inv listed a w → wpAny P .any ops Q g listed a w) :
    ∀ (f : Nat) (listed : Array Bool) (a : Act) (w : World), cntU n listed = f → listed.size = ops.size → listed.getD n false = true → (∀ t, n < t → t < ops.size → listed.getD t true = false) → Inv listed a w → wpAny P .any ops Q (f + g) listed a w
  | 0, listed, a, w, hc, hsz, hln, htl, hI => by
    rw [Nat.zero_add]
    refine fin listed a w hsz (fun i hi => ?_) htl hI
    rcases Nat.lt_or_ge i n with h | h
    · have h1 := cntU_zero hc i h
      have hs : i < listed.size := by omega
      simp [hs] at h1 ⊢
      exact h1
    · rw [show i = n by omega]; exact hln
  | f + 1, listed, a, w, hc, hsz, hln, htl, hI => by
    rw [show f + 1 + g = (f + g) + 1 by omega]
    obtain ⟨i, h1, h2, h3⟩ := cntU_pos (n := n) (listed := listed) (by omega)
    refine ⟨fun h0 => ?_, fun j hj => ?_⟩
    · have hmem : i ∈ Region.ready .any ops listed := by
        have hi : i < ops.size := by omega
        refine mem_ready.2 ⟨h2, ops[i], by simp [hi], fun e he hb => ?_⟩
        have h4 := hback i ops[i] h1 (by simp [hi]) e he hb
        have h5 := h3 e.on h4
        have hs : e.on < listed.size := by omega
        simp [hs] at h5 ⊢
        exact h5
      rw [h0] at hmem
      cases hmem
    · obtain ⟨hun, o, ho, hw⟩ := mem_ready.1 hj
      have hjs : j < ops.size := (Array.getElem?_eq_some_iff.1 ho).1
      have hjn : j < n := by
        rcases Nat.lt_trichotomy j n with h | rfl | h
        · exact h
        · exfalso
          have hs : j < listed.size := by omega
          simp [hs] at hun hln
          rw [hun] at hln; cases hln
        · exfalso
          obtain ⟨oj, hoj, e, he, hb, hon⟩ := Region.waitsFor_spec (hall j h hjs i h1)
          rw [ho] at hoj
          cases hoj
          have h4 := hw e he hb
          rw [hon] at h4
          have hs : i < listed.size := by omega
          simp [hs] at h2 h4
          rw [h2] at h4; cases h4
      refine wpOp_mono (fun a' w' h' => any_rest hn hback hall step fin f _ a' w' ?_ (by simp [hsz]) (by rw [getD_set_ne false (by omega)]; exact hln) (fun t ht hts => by rw [getD_set_ne true (by omega)]; exact htl t ht hts) h') (step j listed a w hjn hj hsz hI)
      have := (cntU_set (n := n) hun).1 hjn
      omega
end
section
variable {P : Program} {F : Fr}
/-- A region that draws its order; its n-th operation, a store of slot t where slot x points, may come ahead of the operations of D. -/
theorem awp_drawM {id : Nat} {l l1 : List Oper} {Q : AX → St → Prop} {σ : St} (n : Nat) (D : List Nat) (x t : Nat) (T : TypeId) (hm : P.follows .mixedOrders = true) (hc : (ssaB l.toArray n && lateM l.toArray n D x t) = true) {o0 : Oper} (ho0 : l[n]? = some o0) (hop0 : o0.op = .store T (.tmp x) (.tmp t)) (hdst0 : o0.dst = none) (hgd0 : o0.guard = none) (hl1 : l.take n = l1)
    (h : ∀ bx0 : Nat → Option (List PV), bx0 = look σ.box → headW P F.n [] l.toArray bx0 l1 σ [] fun σ1 _ => ∃ k u cs xs, look σ1.slot x = some (.ref k 0) ∧ look σ1.slot t = some u ∧ look σ1.box k = some cs ∧ bx0 k = none ∧ avCells u = some xs ∧ (P.info? T).map (·.size) = some xs.length ∧ xs.length ≤ cs.length ∧ lookL σ1.own (.s t) = none ∧ sops P F.n [] l.toArray (l.drop (n + 1)) (stored σ1 k cs xs) (Q .normal)) : AWp P F (Code.region id l.toArray true) Q σ := by
  intro γ a w hr
  have h := h (look σ.box) rfl
  rw [← hl1] at h
  have hc1 : ssaB l.toArray n = true := by rw [Bool.and_eq_true] at hc; exact hc.1
  have hc2 : lateM l.toArray n D x t = true := by rw [Bool.and_eq_true] at hc; exact hc.2
  have hs := hc1
  simp only [lateM, Bool.and_eq_true, decide_eq_true_eq, List.all_eq_true, List.mem_range, Bool.or_eq_true, Bool.not_eq_true', decide_eq_false_iff_not] at hc2
  obtain ⟨⟨⟨⟨⟨hnlt, hsink⟩, hchain⟩, hseq⟩, hseq1⟩, hdD⟩ := hc2
  obtain ⟨rs3, σ', sl, hrun, hK, hsl⟩ := headW_run h
  have hsz : l.toArray.size = l.length := by simp
  have hn : n ≤ l.length := by have := hnlt; simp at this; omega
  have hlt : (l.take n).length = n := by simp; omega
  have hlen : rs3.length = n := by rw [hrun.length, hlt]
  have hdst : ∀ {i d r S}, rs3[i]? = some (d, r, S) → i < n ∧ (l.toArray[i]?).bind (·.dst) = some d := fun {i d r S} hx => by
    obtain ⟨o, h1, h2⟩ := hrun.dst hx
    have hi : i < n := by rw [← hlen]; exact (List.getElem?_eq_some_iff.1 hx).1
    refine ⟨hi, ?_⟩
    rw [List.getElem?_take, if_pos hi] at h1
    simp [h1, h2]
  have hrs : ∀ {i : Nat} {d : Nat} {r : HR}, (rs3.map fun x => (x.1, x.2.1))[i]? = some (d, r) → ∃ S, rs3[i]? = some (d, r, S) := fun {i d r} hx => by
    rw [List.getElem?_map] at hx
    cases hq : rs3[i]? with
    | none => rw [hq] at hx; cases hx
    | some x =>
      rw [hq] at hx
      cases hx
      exact ⟨x.2.2, rfl⟩
  have hnd : ∀ (i j d : Nat) (r r' : HR), (rs3.map fun x => (x.1, x.2.1))[i]? = some (d, r) → (rs3.map fun x => (x.1, x.2.1))[j]? = some (d, r') → i = j := fun i j d r r' hi hj => by
    obtain ⟨S, hi⟩ := hrs hi
    obtain ⟨S', hj⟩ := hrs hj
    obtain ⟨h1, h2⟩ := hdst hi
    obtain ⟨h3, h4⟩ := hdst hj
    obtain ⟨o, ho, _, h5, _⟩ := ssa_spec hs h3
    refine h5 i h1 ?_
    rw [h2]
    rw [ho] at h4
    exact h4.symm
  obtain ⟨hsteps, hfin⟩ := hrun.lk (σ0 := σ) hnd 0 (by simp) ((Lk.start σ _).of_iff fun j => by simp)
  have inv0 : HeadInv .any l.toArray n (Array.replicate l.toArray.size false) :=
    ⟨by simp, fun j oj _ hl => (by rw [getD_replicate_false] at hl; cases hl), fun t _ ht => getD_in (by simpa using ht) (getD_replicate_false _ _)⟩
  have hback : ∀ i o, i < n → l.toArray[i]? = some o → ∀ e ∈ o.after, Region.binds .any e = true → e.on < i := fun i o hi ho => by
    obtain ⟨o', ho', _, _, h1⟩ := ssa_spec hs hi
    rw [ho] at ho'
    cases ho'
    exact h1
  let Inv : Array Bool → Act → World → Prop := fun listed a w => ∃ σ1 γ, Rel F σ1 γ a w ∧ Lk σ (rs3.map fun x => (x.1, x.2.1)) (fun j => j < n ∧ listed.getD j false = true) σ1
  have hbxk : ∀ {L : Nat → Prop} {σ1 : St} {k : Nat} {cs : List PV}, Lk σ (rs3.map fun x => (x.1, x.2.1)) L σ1 → look σ.box k = some cs → look σ1.box k = some cs := fun {L σ1 k cs} hl hk => by
    rw [hl.box k (fun j d r _ hj hb e => by
      obtain ⟨S, hj⟩ := hrs hj
      obtain ⟨o, σi, _, h1, _⟩ := hsteps j d r S hj
      have := h1.newbox hb
      rw [e, hk] at this
      cases this)]
    exact hk
  refine wp_region_any hm ?_
  have hcnt : cntU n (Array.replicate l.toArray.size false) = n := by
    have : ∀ m, m ≤ l.length → cntU m (Array.replicate l.toArray.size false) = m := fun m => by
      induction m with
      | zero => intro _; rfl
      | succ m ih =>
        intro hm
        unfold cntU
        rw [ih (by omega)]
        simp [show m < l.length by omega]
    exact this n hn
  obtain ⟨k, u, cs, xs, k1, k2, k3, k4, k5, k6, k7, k8, hrest⟩ := hK
  have ho0' : l.toArray[n]? = some o0 := by simpa using ho0
  have hdrop : l.drop n = o0 :: l.drop (n + 1) := by
    obtain ⟨g1, g2⟩ := List.getElem?_eq_some_iff.1 ho0
    rw [List.drop_eq_getElem_cons g1, g2]
  have hsops : sops P F.n [] l.toArray (l.drop n) σ' (Q .normal) := by
    rw [hdrop]
    unfold sops guardB
    rw [hgd0]
    dsimp only
    unfold sop
    rw [hop0, hdst0]
    exact ⟨k, 0, u, cs, xs, k1, k2, k3, k5, k6, by omega, by rw [storeSt_stored k8]; exact hrest⟩
  have goal := any_headM (P := P) (Q := fun e a' w' => ∃ x σ' γ', e = AX.exit_ x ∧ Q x σ' ∧ Rel F σ' γ' a' w') (g := l.toArray.size - n) (D := D) (Inv := Inv) hnlt hback (fun i hi hne => (hsink i hi).resolve_left (by rw [hne]; decide)) (fun j hj hjs => ((hchain j hjs).resolve_left (by omega)).1) ?step ?fin ?late n _ a w.drew hcnt inv0 ⟨σ, γ, hr.grow (Below.refl _ _).drew, (Lk.start σ _).of_iff fun j => ⟨fun hj => by rw [getD_replicate_false] at hj; exact absurd hj.2 (by simp), fun hj => hj.elim⟩⟩
  · rw [show n + (l.toArray.size - n) = l.toArray.size by omega] at goal
    exact goal
  case step =>
    rintro i listed a w hi hready hinv ⟨σ1, γ1, h1, h2⟩
    obtain ⟨hun, o, ho, hall⟩ := mem_ready.1 hready
    obtain ⟨o', ho', hssa, _, _⟩ := ssa_spec hs hi
    rw [ho] at ho'
    cases ho'
    have hx : ∃ x, rs3[i]? = some x := ⟨rs3[i]'(by rw [hlen]; exact hi), List.getElem?_eq_getElem _⟩
    obtain ⟨⟨d, r, S⟩, hx⟩ := hx
    obtain ⟨o', σi, h4, h5, h6⟩ := hsteps i d r S hx
    have : o' = o := by
      rw [List.getElem?_take, if_pos hi] at h4
      have h7 : l.toArray[i]? = l[i]? := by simp
      rw [h7, h4] at ho
      exact Option.some.inj ho
    subst this
    have hmap : (rs3.map fun x => (x.1, x.2.1))[i]? = some (d, r) := by rw [List.getElem?_map, hx]; rfl
    have hwait : ∀ j, Region.waitsFor .any l.toArray i j = true → listed.getD j false = true := fun j hj => by
      obtain ⟨oj, hoj, e, he, hb, hon⟩ := Region.waitsFor_spec hj
      rw [ho] at hoj
      cases hoj
      rw [← hon]
      exact hall e he hb
    have hops : ∀ t y, t ∈ o'.looksAt l.toArray → look σi.slot t = some y → look σ1.slot t = some y := fun t y htm hy => by
      by_cases hex : ∃ j d' r', j < n ∧ (rs3.map fun x => (x.1, x.2.1))[j]? = some (d', r') ∧ d' = t
      · obtain ⟨j, d', r', hj, hjx, rfl⟩ := hex
        obtain ⟨S', hjx'⟩ := hrs hjx
        obtain ⟨hji, hw⟩ := hssa d' htm j hj (hdst hjx').2
        have h7 := (h6.in_ j d' r' (by omega) hjx).1
        rw [h7] at hy
        cases hy
        exact (h2.in_ j d' r' ⟨hj, hwait j hw⟩ hjx).1
      · rw [(h6.out t fun j d' r' hj hjx e => hex ⟨j, d', r', by omega, hjx, e⟩).1] at hy
        rw [(h2.out t fun j d' r' hj hjx e => hex ⟨j, d', r', hj.1, hjx, e⟩).1]
        exact hy
    have hLi : ¬ (i < n ∧ listed.getD i false = true) := fun h => by rw [getD_both hun] at h; exact absurd h.2 (by simp)
    have hnone : look σ.box d = none → look σ1.box d = none := fun hd => by
      rw [h2.box d (fun j d' r' hj hjx _ e => by
        subst e
        have := hnd i j d' r r' hmap hjx
        subst this
        exact hLi hj)]
      exact hd
    refine wpOp_mono (fun a' w' hst => ?_) (h5.run σ1 γ1 a w h1 hops (fun k cs hk => hbxk h2 hk) hnone (h2.ext.trans h6.ext.symm) _ i ho)
    obtain ⟨γ', u, rfl, e2, e3, e4, e5⟩ := hst
    have hisz : i < listed.size := by rw [hinv.size, hsz]; omega
    have hset : ∀ j, (listed.setIfInBounds i true).getD j false = true ↔ listed.getD j false = true ∨ j = i := fun j => by
      by_cases hji : i = j
      · subst hji; simp [hisz]
      · rw [getD_set_ne false hji]; simp [show ¬ j = i from fun e => hji e.symm]
    have hd' : d < a.tmps.size := by rw [h1.size]; exact h5.lt
    refine ⟨_, γ', e4, (h2.step hnd hmap hLi).of_iff fun j => ?_⟩
    rw [hset]
    constructor
    · rintro ⟨h7, h8 | rfl⟩
      · exact .inl ⟨h7, h8⟩
      · exact .inr rfl
    · rintro (⟨h7, h8⟩ | rfl)
      · exact ⟨h7, .inl h8⟩
      · exact ⟨hi, .inr rfl⟩
  case fin =>
    rintro listed a w hinv hdone ⟨σ1, γ1, h1, h2⟩
    have hdone' : ∀ i, i < n → listed.getD i false = true := fun i hi => by
      have h4 := hdone i hi
      have hs : i < listed.size := by rw [hinv.size, hsz]; omega
      simp [hs] at h4 ⊢
      exact h4
    have hLk : Lk σ (rs3.map fun x => (x.1, x.2.1)) (· < 0 + (l.take n).length) σ1 := h2.of_iff fun j => by
      rw [hlt]
      constructor
      · intro h4; exact ⟨by omega, hdone' j (by omega)⟩
      · intro h4; omega
    obtain ⟨g1, g2, g3, g4⟩ := hLk.same hfin
    have hrel := h1.congr g1 g2 g3 g4
    have hlisted : listed = doneA n l.toArray.size := by
      apply Array.ext
      · rw [hinv.size]; simp [doneA]
      · intro i hi1 hi2
        have hil : i < l.toArray.size := by rw [← hinv.size]; exact hi1
        have : (doneA n l.toArray.size)[i] = decide (i < n) := by simp [doneA]
        rw [this]
        by_cases hin : i < n
        · have := hdone' i hin
          simp [hi1] at this
          rw [this]; simp [hin]
        · have := hinv.tail i (by omega) hil
          simp [hi1] at this
          rw [this]; simp [hin]
    have hwl := sops_ok (P := P) (F := F) (Q := fun e a' w' => ∃ x σ' γ', e = AX.exit_ x ∧ Q x σ' ∧ Rel F σ' γ' a' w') (fun σ'' γ'' a'' w'' hq hr'' => ⟨.normal, σ'', γ'', rfl, hq, hr''⟩) (l.drop n) _ γ1 a w hrel hsops
    have hdl : (l.drop n).length = l.toArray.size - n := by simp
    have := wpAny_of_seq (md := .any) (Q' := fun e a' w' => ∃ x σ' γ', e = AX.exit_ x ∧ Q x σ' ∧ Rel F σ' γ' a' w') (ops := l.toArray) (l.drop n) n listed a w (fun j => by simp [List.getElem?_drop]) (by rw [hdl, hlisted]; exact hseq) hwl
    rwa [hdl] at this
  case late =>
    rintro f listed a w hcnt' hinv hall ⟨σ1, γ1, h1, h2⟩
    have hisz : n < listed.size := by rw [hinv.size]; exact hnlt
    -- the operands of the store were made by operations that are done
    have hopnd : ∀ y : Nat, (∀ i, D.contains i = true → (l.toArray[i]?).bind (·.dst) ≠ some y) → look σ1.slot y = look σ'.slot y ∧ lookL σ1.own (.s y) = lookL σ'.own (.s y) := fun y hy => by
      by_cases hex : ∃ j d' r', j < n ∧ (rs3.map fun x => (x.1, x.2.1))[j]? = some (d', r') ∧ d' = y
      · obtain ⟨j, d', r', hj, hjx, rfl⟩ := hex
        obtain ⟨S', hjx'⟩ := hrs hjx
        have hnD : D.contains j = false := by
          cases hq : D.contains j with
          | false => rfl
          | true => exact absurd (hdst hjx').2 (hy j hq)
        have hin1 := h2.in_ j d' r' ⟨hj, hall j hj hnD⟩ hjx
        have hin2 := hfin.in_ j d' r' (by rw [hlt]; omega) hjx
        exact ⟨hin1.1.trans hin2.1.symm, hin1.2.2.trans hin2.2.2.symm⟩
      · have q1 := h2.out y fun j d' r' hj hjx e => hex ⟨j, d', r', hj.1, hjx, e⟩
        have q2 := hfin.out y fun j d' r' hj hjx e => hex ⟨j, d', r', by rw [hlt] at hj; omega, hjx, e⟩
        exact ⟨q1.1.trans q2.1.symm, q1.2.trans q2.2.symm⟩
    have hDx := hopnd x fun i hi => (hdD i (by simpa using hi)).1
    have hDt := hopnd t fun i hi => (hdD i (by simpa using hi)).2
    have e1 : look σ1.slot x = some (.ref k 0) := hDx.1.trans k1
    have e2 : look σ1.slot t = some u := hDt.1.trans k2
    have e8 : lookL σ1.own (.s t) = none := hDt.2.trans k8
    have e3s : (look σ1.box k).isSome = true := (h1.slots x _ e1).2 k (by simp [AV.refs])
    have e3 : look σ1.box k = some cs := by
      -- the box was made in the head, by an operation that is done
      by_cases hex : ∃ j d' r', j < n ∧ listed.getD j false = true ∧ (rs3.map fun x => (x.1, x.2.1))[j]? = some (d', r') ∧ (bxOf r').isSome = true ∧ d' = k
      · obtain ⟨j, d', r', hj, hlj, hjx, hb, rfl⟩ := hex
        obtain ⟨c', hc'⟩ := Option.isSome_iff_exists.1 hb
        have q1 := (h2.in_ j d' r' ⟨hj, hlj⟩ hjx).2.1 c' hc'
        have q2 := (hfin.in_ j d' r' (by rw [hlt]; omega) hjx).2.1 c' hc'
        rw [k3] at q2
        rw [q1, q2]
      · exfalso
        rw [h2.box k fun j d' r' hj hjx hb e => hex ⟨j, d', r', hj.1, hj.2, hjx, hb, e⟩, k4] at e3s
        cases e3s
    have hst := store_ok (P := P) (K := fun s => s = stored σ1 k cs xs) h1 hop0 hdst0 e1 e2 e3 k5 k6 (by omega) (storeSt_stored e8)
    show wpOp P l.toArray _ n _ a w
    unfold wpOp
    rw [ho0']
    dsimp only
    rw [if_pos (by unfold Region.wanted; rw [hgd0])]
    refine .inl (Oper.wp_mono (fun a' w' hq => ?_) (hst _))
    obtain ⟨σ2, γ2, rfl, hr2⟩ := hq
    have hgeq : f + (l.toArray.size - n) = (f + 1) + (l.toArray.size - (n + 1)) := by omega
    rw [hgeq]
    have hcset : cntU n (listed.setIfInBounds n true) = f + 1 := by
      have := (cntU_set (n := n) (listed := listed) (j := n) (hinv.tail n (Nat.le_refl _) hnlt)).2 (Nat.le_refl _)
      rw [this, hcnt']
    refine any_rest (P := P) (Q := fun e a' w' => ∃ x σ' γ', e = AX.exit_ x ∧ Q x σ' ∧ Rel F σ' γ' a' w') (n := n) (g := l.toArray.size - (n + 1))
      (Inv := fun listed a w => ∃ σ1 γ, Rel F (stored σ1 k cs xs) γ a w ∧ look σ1.box k = some cs ∧ Lk σ (rs3.map fun x => (x.1, x.2.1)) (fun j => j < n ∧ listed.getD j false = true) σ1) hnlt hback (fun j hj hjs i hi => ((hchain j hjs).resolve_left (by omega)).2 i hi) ?rstep ?rfin (f + 1) _ a' w' hcset (by simp [hinv.size]) (by simp [hisz]) (fun t' ht hts => by rw [getD_set_ne true (by omega)]; exact hinv.tail t' (by omega) hts) ⟨σ1, γ2, hr2, e3, h2.of_iff ?rlast⟩
    case rlast =>
      intro j
      constructor
      · rintro ⟨q1, q2⟩
        refine ⟨q1, ?_⟩
        rw [getD_set_ne false (by omega)] at q2
        exact q2
      · rintro ⟨q1, q2⟩
        exact ⟨q1, by rw [getD_set_ne false (by omega)]; exact q2⟩
    case rstep =>
      rintro i listed a w hi hready hsz2 ⟨σ1, γ1, h1, e3, h2⟩
      obtain ⟨hun, o8, ho8, hall8⟩ := mem_ready.1 hready
      have hx8 : ∃ x, rs3[i]? = some x := ⟨rs3[i]'(by rw [hlen]; exact hi), List.getElem?_eq_getElem _⟩
      obtain ⟨⟨d8, r8, S8⟩, hx8⟩ := hx8
      obtain ⟨o', σ8, h84, h85, h86⟩ := hsteps i d8 r8 S8 hx8
      have : o' = o8 := by
        rw [List.getElem?_take, if_pos hi] at h84
        have h7 : l.toArray[i]? = l[i]? := by simp
        rw [h7, h84] at ho8
        exact Option.some.inj ho8
      subst this
      obtain ⟨o8', ho8', hssa8, _, _⟩ := ssa_spec hs hi
      rw [ho8] at ho8'
      cases ho8'
      have hmap8 : (rs3.map fun x => (x.1, x.2.1))[i]? = some (d8, r8) := by rw [List.getElem?_map, hx8]; rfl
      have hun' : listed.getD i false = false := getD_both hun
      have hL8 : ¬ (i < n ∧ listed.getD i false = true) := fun h => by rw [hun'] at h; exact absurd h.2 (by simp)
      have hwait : ∀ j, Region.waitsFor .any l.toArray i j = true → listed.getD j false = true := fun j hj => by
        obtain ⟨oj, hoj, e, he, hb, hon⟩ := Region.waitsFor_spec hj
        rw [ho8] at hoj
        cases hoj
        rw [← hon]
        exact hall8 e he hb
      have hd8k : (bxOf r8).isSome = true → d8 ≠ k := fun hb e => by
        subst e
        have q4 : look σ1.box d8 = look σ.box d8 := h2.box d8 (fun j d' r' hj hjx _ e => by
          subst e
          have := hnd i j d' r8 r' hmap8 hjx
          subst this
          exact hL8 hj)
        rw [q4, k4] at e3
        cases e3
      have hops : ∀ t y, t ∈ o'.looksAt l.toArray → look σ8.slot t = some y → look σ1.slot t = some y := fun t y htm hy => by
        by_cases hex : ∃ j d' r', j < n ∧ (rs3.map fun x => (x.1, x.2.1))[j]? = some (d', r') ∧ d' = t
        · obtain ⟨j, d', r', hj, hjx, rfl⟩ := hex
          obtain ⟨S', hjx'⟩ := hrs hjx
          obtain ⟨hji, hw⟩ := hssa8 d' htm j hj (hdst hjx').2
          have h7 := (h86.in_ j d' r' (by omega) hjx).1
          rw [h7] at hy
          cases hy
          exact (h2.in_ j d' r' ⟨hj, hwait j hw⟩ hjx).1
        · rw [(h86.out t fun j d' r' hj hjx e => hex ⟨j, d', r', by omega, hjx, e⟩).1] at hy
          rw [(h2.out t fun j d' r' hj hjx e => hex ⟨j, d', r', hj.1, hjx, e⟩).1]
          exact hy
      have hnone : look σ.box d8 = none → look (stored σ1 k cs xs).box d8 = none := fun hd => by
        have q1 : look σ1.box d8 = none := by
          rw [h2.box d8 (fun j d' r' hj hjx _ e => by
            subst e
            have := hnd i j d' r8 r' hmap8 hjx
            subst this
            exact hL8 hj)]
          exact hd
        unfold stored
        dsimp only
        rw [look_cons, if_neg (fun e => by rw [← e, e3] at q1; cases q1)]
        exact q1
      refine wpOp_mono (fun a'' w'' hst => ?_) (h85.run (stored σ1 k cs xs) γ1 a w h1 hops (fun k' cs' hk' => by
        unfold stored
        dsimp only
        rw [look_cons, if_neg (fun e => by rw [← e, k4] at hk'; cases hk')]
        exact hbxk h2 hk') hnone (h2.ext.trans h86.ext.symm) _ i ho8)
      obtain ⟨γ3, u3, rfl, _, _, hr3, _⟩ := hst
      have hisz : i < listed.size := by rw [hsz2]; omega
      have hset : ∀ j, (listed.setIfInBounds i true).getD j false = true ↔ listed.getD j false = true ∨ j = i := fun j => by
        by_cases hji : i = j
        · subst hji; simp [hisz]
        · rw [getD_set_ne false hji]; simp [show ¬ j = i from fun e => hji e.symm]
      refine ⟨σ1.res d8 r8, γ3, hr3.congr (fun t' => ?_) (fun k' => ?_) (fun L => ?_) ?_, ?_, (h2.step hnd hmap8 hL8).of_iff fun j => ?_⟩
      · rw [res_slot]
        show look (σ1.res d8 r8).slot t' = _
        rw [res_slot]
        rfl
      · rw [res_box]
        show look ((k, _) :: (σ1.res d8 r8).box) k' = _
        rw [look_cons, res_box]
        cases hb : bxOf r8 with
        | none => unfold stored; dsimp only; rw [look_cons]
        | some c8 =>
          unfold stored
          dsimp only
          rw [look_cons]
          by_cases hk' : k = k'
          · rw [if_pos hk', if_pos hk', if_neg (fun e => hd8k (by rw [hb]; rfl) (e.trans hk'.symm))]
          · rw [if_neg hk', if_neg hk']
      · rw [res_own]
        show lookL (keepL (σ1.res d8 r8).own k 0 xs.length) L = if L = .s d8 then ownOf r8 else lookL (keepL σ1.own k 0 xs.length) L
        rw [lookL_keep_eq, lookL_keep_eq, res_own]
        by_cases hL : L = .s d8
        · subst hL
          rw [if_pos rfl, if_pos rfl, if_neg (by simp [hitB])]
        · rw [if_neg hL, if_neg hL]
      · rw [res_ext]
        show (σ1.res d8 r8).ext = σ1.ext
        rw [res_ext]
      · rw [res_box]
        cases hb : bxOf r8 with
        | none => exact e3
        | some c8 => dsimp only; rw [if_neg (hd8k (by rw [hb]; rfl))]; exact e3
      · rw [hset]
        constructor
        · rintro ⟨h7, h8 | rfl⟩
          · exact .inl ⟨h7, h8⟩
          · exact .inr rfl
        · rintro (⟨h7, h8⟩ | rfl)
          · exact ⟨h7, .inl h8⟩
          · exact ⟨hi, .inr rfl⟩
    case rfin =>
      rintro listed a w hsz2 hdone htl ⟨σ1, γ1, h1, e3, h2⟩
      have hLk : Lk σ (rs3.map fun x => (x.1, x.2.1)) (· < 0 + (l.take n).length) σ1 := h2.of_iff fun j => by
        rw [hlt]
        constructor
        · intro h4; exact ⟨by omega, hdone j (by omega)⟩
        · intro h4; omega
      obtain ⟨g1, g2, g3, g4⟩ := hLk.same hfin
      have hrel : Rel F (stored σ' k cs xs) γ1 a w := by
        refine h1.congr g1 (fun k' => ?_) (fun L => ?_) g4
        · show look ((k, _) :: σ'.box) k' = look ((k, _) :: σ1.box) k'
          rw [look_cons, look_cons, g2]
        · show lookL (keepL σ'.own k 0 xs.length) L = lookL (keepL σ1.own k 0 xs.length) L
          rw [lookL_keep_eq, lookL_keep_eq, g3]
      have hlisted : listed = doneA (n + 1) l.toArray.size := by
        apply Array.ext
        · rw [hsz2]; simp [doneA]
        · intro i hi1 hi2
          have hil : i < l.toArray.size := by rw [← hsz2]; exact hi1
          have : (doneA (n + 1) l.toArray.size)[i] = decide (i < n + 1) := by simp [doneA]
          rw [this]
          by_cases hin : i < n + 1
          · have := hdone i (by omega)
            simp [hi1] at this
            rw [this]; simp [hin]
          · have := htl i (by omega) hil
            simp [hi1] at this
            rw [this]; simp [hin]
      have hwl := sops_ok (P := P) (F := F) (Q := fun e a' w' => ∃ x σ' γ', e = AX.exit_ x ∧ Q x σ' ∧ Rel F σ' γ' a' w') (fun σ'' γ'' a'' w'' hq hr'' => ⟨.normal, σ'', γ'', rfl, hq, hr''⟩) (l.drop (n + 1)) _ γ1 a w hrel hrest
      have hdl : (l.drop (n + 1)).length = l.toArray.size - (n + 1) := by simp
      have := wpAny_of_seq (md := .any) (Q' := fun e a' w' => ∃ x σ' γ', e = AX.exit_ x ∧ Q x σ' ∧ Rel F σ' γ' a' w') (ops := l.toArray) (l.drop (n + 1)) (n + 1) listed a w (fun j => by simp [List.getElem?_drop]) (by rw [hdl, hlisted]; exact hseq1) hwl
      rwa [hdl] at this
end
end Av
end Go.Proofs.Ytkdigdnacggknaa
/- A region that draws its order: operations that do not wait for one another may be exchanged. Generic. -/
namespace Go.Proofs.Ytkdigdnacggknaa
open Go.RowKit
namespace Av

section
variable {S : Type} {P : Program} {ops : Array Oper} {Q : Exit → Act → World → Prop}
def chainS (ok : Nat → S → Prop) (app : Nat → S → S) : List Nat → S → Prop
  | [], _ => True
  | i :: l, s => ok i s ∧ chainS ok app l (app i s)
def runS (app : Nat → S → S) : List Nat → S → S
  | [], s => s
  | i :: l, s => runS app l (app i s)
structure SwapOK (ops : Array Oper) (E : S → S → Prop) (ok : Nat → S → Prop) (app : Nat → S → S) : Prop where
  refl : ∀ s, E s s
  symm : ∀ {s t}, E s t → E t s
  trans : ∀ {s t u}, E s t → E t u → E s u
  okE : ∀ {i s t}, E s t → ok i s → ok i t
  appE : ∀ {i s t}, E s t → E (app i s) (app i t)
  comm : ∀ {i j s}, i < j → j < ops.size → Region.waitsFor .any ops j i = false → ok i s → ok j (app i s) → ok j s ∧ ok i (app j s) ∧ E (app i (app j s)) (app j (app i s))
  back : ∀ i o, ops[i]? = some o → ∀ e ∈ o.after, Region.binds .any e = true → e.on < i
section
variable {E : S → S → Prop} {ok : Nat → S → Prop} {app : Nat → S → S}
theorem SwapOK.chainE (h : SwapOK ops E ok app) : ∀ {l : List Nat} {s t : S}, E s t → chainS ok app l s → chainS ok app l t ∧ E (runS app l s) (runS app l t)
  | [], _, _, he, _ => ⟨trivial, he⟩
  | i :: l, _, _, he, hc => by
    obtain ⟨h1, h2⟩ := h.chainE (l := l) (h.appE (i := i) he) hc.2
    exact ⟨⟨h.okE he hc.1, h1⟩, h2⟩
theorem SwapOK.front (h : SwapOK ops E ok app) {i : Nat} (hi : i < ops.size) {l2 : List Nat} : ∀ {l1 : List Nat} {s : S}, (∀ j ∈ l1, j < i ∧ Region.waitsFor .any ops i j = false) → chainS ok app (l1 ++ i :: l2) s →
    ok i s ∧ chainS ok app (l1 ++ l2) (app i s) ∧ E (runS app (l1 ++ l2) (app i s)) (runS app (l1 ++ i :: l2) s)
  | [], s, _, hc => ⟨hc.1, hc.2, h.refl _⟩
  | j :: l1, s, hl, hc => by
    obtain ⟨hj, hw⟩ := hl j List.mem_cons_self
    obtain ⟨h1, h2, h3⟩ := h.front hi (l1 := l1) (fun k hk => hl k (List.mem_cons_of_mem _ hk)) hc.2
    obtain ⟨g1, g2, g3⟩ := h.comm hj hi hw hc.1 h1
    obtain ⟨g4, g5⟩ := h.chainE (h.symm g3) h2
    exact ⟨g1, ⟨g2, g4⟩, h.trans (h.symm g5) h3⟩
theorem wpAny_swap (h : SwapOK ops E ok app) {R : S → Act → World → Prop} (hRE : ∀ {s t a w}, E s t → R s a w → R t a w)
    (hstep : ∀ i, i < ops.size → ∀ s a w, ok i s → R s a w → wpOp P ops Q i (fun a' w' => R (app i s) a' w') a w) {sF : S} (hQ : ∀ a w, R sF a w → Q .normal a w) :
    ∀ (n : Nat) (rem : List Nat) (listed : Array Bool) (s : S) (a : Act) (w : World), rem.length = n → rem.Pairwise (· < ·) → listed.size = ops.size → (∀ i, i < ops.size → (listed.getD i true = false ↔ i ∈ rem)) → (∀ i ∈ rem, i < ops.size) →
      R s a w → chainS ok app rem s → E (runS app rem s) sF → wpAny P .any ops Q n listed a w
  | 0, rem, listed, s, a, w, hn, _, hsz, hrem, _, hr, _, hF => by
    obtain rfl := List.eq_nil_of_length_eq_zero hn
    refine ⟨?_, hQ a w (hRE hF hr)⟩
    refine List.eq_nil_iff_forall_not_mem.2 fun j hj => ?_
    obtain ⟨h1, o, ho, _⟩ := mem_ready.1 hj
    have := (hrem j (Array.getElem?_eq_some_iff.1 ho).1).1 h1
    cases this
  | n + 1, rem, listed, s, a, w, hn, hp, hsz, hrem, hlt, hr, hc, hF => by
    have hin : ∀ j, j < ops.size → j ∉ rem → listed.getD j false = true := fun j hj hm => by
      cases hq : listed.getD j true with
      | false => exact absurd ((hrem j hj).1 hq) hm
      | true =>
        have hs : j < listed.size := by rw [hsz]; exact hj
        simp [hs] at hq ⊢
        exact hq
    refine ⟨fun h0 => ?_, fun i hi => ?_⟩
    · cases rem with
      | nil => cases hn
      | cons i rem =>
        obtain ⟨hp1, _⟩ := List.pairwise_cons.1 hp
        have hi := hlt i List.mem_cons_self
        have hmem : i ∈ Region.ready .any ops listed := by
          refine mem_ready.2 ⟨(hrem i hi).2 List.mem_cons_self, ops[i], by simp [hi], fun e he hb => ?_⟩
          have h4 := h.back i ops[i] (by simp [hi]) e he hb
          refine hin e.on (by omega) fun hm => ?_
          rcases List.mem_cons.1 hm with h5 | h5
          · omega
          · have := hp1 _ h5; omega
        rw [h0] at hmem
        cases hmem
    · obtain ⟨h1, o, ho, hall⟩ := mem_ready.1 hi
      have hio := (Array.getElem?_eq_some_iff.1 ho).1
      have hmem := (hrem i hio).1 h1
      obtain ⟨l1, l2, rfl⟩ := List.append_of_mem hmem
      obtain ⟨hp1, hp2, hp3⟩ := List.pairwise_append.1 hp
      obtain ⟨hp4, hp5⟩ := List.pairwise_cons.1 hp2
      have hl1 : ∀ j ∈ l1, j < i ∧ Region.waitsFor .any ops i j = false := fun j hj => by
        refine ⟨hp3 j hj i List.mem_cons_self, ?_⟩
        cases hw : Region.waitsFor .any ops i j with
        | false => rfl
        | true =>
          obtain ⟨oi, hoi, e, he, hb, hon⟩ := Region.waitsFor_spec hw
          rw [ho] at hoi
          cases hoi
          have h5 := hall e he hb
          rw [hon] at h5
          have h6 := (hrem j (hlt j (List.mem_append_left _ hj))).2 (List.mem_append_left _ hj)
          have hs : j < listed.size := by rw [hsz]; exact hlt j (List.mem_append_left _ hj)
          simp [hs] at h5 h6
          rw [h5] at h6; cases h6
      obtain ⟨g1, g2, g3⟩ := h.front hio hl1 hc
      have hni : ∀ j, j ∈ l1 ++ l2 → j ≠ i := fun j hj e => by
        subst e
        rcases List.mem_append.1 hj with h7 | h7
        · exact absurd (hl1 j h7).1 (Nat.lt_irrefl _)
        · exact absurd (hp4 j h7) (Nat.lt_irrefl _)
      refine wpOp_mono (fun a' w' hr' => ?_) (hstep i hio s a w g1 hr)
      refine wpAny_swap (R := R) h hRE hstep hQ n (l1 ++ l2) _ (app i s) a' w' ?_ ?_ (by simp [hsz]) (fun j hj => ?_) (fun j hj => ?_) hr' g2 (h.trans g3 hF)
      · simp at hn ⊢; omega
      · exact List.pairwise_append.2 ⟨hp1, hp5, fun x hx y hy => hp3 x hx y (List.mem_cons_of_mem _ hy)⟩
      · by_cases hji : i = j
        · subst hji
          have hs : i < listed.size := by rw [hsz]; exact hj
          constructor
          · intro h8; simp [hs] at h8
          · intro h8; exact absurd rfl (hni i h8)
        · rw [getD_set_ne true hji, hrem j hj]
          simp only [List.mem_append, List.mem_cons]
          constructor
          · rintro (h8 | h8 | h8)
            · exact .inl h8
            · exact absurd h8.symm hji
            · exact .inr h8
          · rintro (h8 | h8)
            · exact .inl h8
            · exact .inr (.inr h8)
      · rcases List.mem_append.1 hj with h8 | h8
        · exact hlt j (List.mem_append_left _ h8)
        · exact hlt j (List.mem_append_right _ (List.mem_cons_of_mem _ h8))
end
end
end Av
end Go.Proofs.Ytkdigdnacggknaa

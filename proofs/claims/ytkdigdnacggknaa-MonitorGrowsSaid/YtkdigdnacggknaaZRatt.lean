import Derived.Test.YtkdigdnacggknaaZDw
import Derived.Test.YtkdigdnacggknaaZAvT
/- Walk: Attempts of the reference. -/
namespace Go.Proofs.Ytkdigdnacggknaa
open Go.RowKit
open Rc

set_option maxRecDepth 100000 in
set_option maxHeartbeats 8000000 in
theorem rattempts_any (r : Rec) (A D : Option Addr) (ca cd : Nat) (flow frame : Int) (w : World) (hA : LiesA w w.heap.size A r.al) (hla : r.al.length ≤ 1000000) :
    Calls Try.prog 86 #[.agg #[.int .i64 r.slots, .slice A r.al.length ca, .slice D r.dl.length cd], .int .i64 flow, .int .i64 frame] w fun e w' => Below w.heap.size w w' ∧ ∃ va, e = .returned va ∧ w'.ownsRow w.heap.size 66 8 va (ofFrame r.al flow frame).length (flatA (ofFrame r.al flow frame)) := by
  obtain ⟨slots, al, dl⟩ := r
  dsimp only at *
  obtain ⟨na, hna⟩ : ∃ n, n = al.length := ⟨_, rfl⟩
  obtain ⟨nd, hnd⟩ : ∃ n, n = dl.length := ⟨_, rfl⟩
  rw [← hna, ← hnd]
  rw [← hna] at hla
  have HA := Lib.hid hna
  clear hna hnd
  obtain ⟨F, hF⟩ : ∃ F, F = ofFrame al flow frame := ⟨_, rfl⟩
  rw [← hF]
  have HF := Lib.hid hF
  clear hF
  obtain ⟨i0, hi, hz0, hz1, hz2⟩ := info_parts Try.infoAtt
  go_enter Try.func86, Try.ntmps86
  go_wp2_with fail
  generalize hW0 : World.alloc _ _ = W0
  have bR : Blk W0 w.heap.size 28 [.int .i64 slots, .slice A na ca, .slice D nd cd] := by rw [← hW0]; exact Blk.new' _ [.int .i64 slots, .slice A na ca, .slice D nd cd] rfl
  have hb0 : Below w.heap.size w W0 := by rw [← hW0]; exact (Below.refl _ _).alloc (Nat.le_refl _) _
  clear hW0
  obtain ⟨N, hN⟩ : ∃ N, N = w.heap.size := ⟨_, rfl⟩
  rw [← hN] at bR hb0 ⊢
  have hA' : LiesA w N A al := by rw [hN]; exact hA
  have HN := Lib.hid hN
  clear hN hA
  go_loopw [7, 8] (fun s7 i wr => ∃ (k : Nat) (acc : List Att) (va : Value), va = s7 ∧ Blk wr N 28 [.int .i64 slots, .slice A na ca, .slice D nd cd] ∧ k ≤ na ∧ i = .int .i64 k ∧ acc.length ≤ k ∧ wr.ownsRow (N + 1) 66 8 va acc.length (flatA acc) ∧ Below N w wr ∧ N + 1 ≤ wr.heap.size ∧ Hid (F = acc ++ ofFrame (al.drop k) flow frame)) (fun _ i _ => na - (intOf i).toNat)
  case atStart => exact ⟨0, [], _, rfl, bR, Nat.zero_le _, rfl, Nat.le_refl _, World.ownsRow_nil _ _ _ _, hb0, bR.lt, Lib.hid (by rw [HF.out]; simp)⟩
  case round =>
    obtain ⟨k, acc, va, rfl, bR2, hk, rfl, hal, hown, hb, hMw, hst⟩ := hrel
    have cR := bR2.row
    unfold Row at cR
    by_cases hlt : k < na
    · obtain ⟨a, ha⟩ := get_of_lt (l := al) (k := k) (by rw [← HA.out]; exact hlt)
      obtain ⟨b, off, rfl, hbB, hcs⟩ := (hA'.below hb).at_ ha
      obtain ⟨c0, c1, c2, c3, c4, c5, c6, c7⟩ := hcs k a ha
      have hd := Lib.hid (drop_of_get ha)
      have hvl : ∀ g, va.ownBlock = some g → N + 1 ≤ g ∧ g < wr.heap.size := hown.lt
      have HV := Lib.hid hvl
      clear hcs ha hvl
      go_upto_region 6 with fail
      generalize hW1 : wr.alloc _ = W1
      have ba : Blk W1 wr.heap.size 66 [.int .i64 a.s, .int .i64 a.f, .int .i64 a.cs, .int .i64 a.co, .int .i64 a.cf, .int .i64 a.ct, .int .i64 a.cl, .int .i64 a.o] := by rw [← hW1]; exact Blk.new' _ [.int .i64 a.s, .int .i64 a.f, .int .i64 a.cs, .int .i64 a.co, .int .i64 a.cf, .int .i64 a.ct, .int .i64 a.cl, .int .i64 a.o] rfl
      have hb1 : Below N w W1 := by rw [← hW1]; exact hb.alloc (by omega) _
      have hsz : wr.heap.size + 1 ≤ W1.heap.size := by rw [← hW1]; simp
      have hown1 : W1.ownsRow (N + 1) 66 8 va acc.length (flatA acc) := by rw [← hW1]; exact hown.alloc _
      have bR3 : Blk W1 N 28 [.int .i64 slots, .slice (some ⟨b, off, none⟩) na ca, .slice D nd cd] := by rw [← hW1]; exact bR2.alloc _
      have ca' := ba.row
      unfold Row at ca'
      clear cR bR2 hW1 c0 c1 c2 c3 c4 c5 c6 c7 hown
      by_cases hm : a.cl = flow ∧ a.f = frame
      · obtain ⟨h1, h2⟩ := hm
        have e1 : (a.cl == flow) = true := by simp [h1]
        have e2 : (a.f == frame) = true := by simp [h2]
        have hst' : Hid (F = (acc ++ [a]) ++ ofFrame (al.drop (k + 1)) flow frame) := Lib.hid (by rw [hst.out, hd.out]; simp [ofFrame, h1, h2])
        have HO := Lib.hid hown1
        clear hown1 hst h1 h2
        go_wp2_with (at_builtin; refine wpList_append_own_at _ rfl (.tmp 35) (.tmp 37) 23 rfl (N + 1) 66 i0 (.agg #[.int .i64 0, .int .i64 0, .int .i64 0, .int .i64 0, .int .i64 0, .int .i64 0, .int .i64 0, .int .i64 0]) 8 64 Try.underlying23 hi hz0 hz1 hz2 rfl (by decide) va acc.length (flatA acc) rfl (HO.out.alloc _) ⟨W1.heap.size, 0, none⟩ 1 1 [.int .i64 a.s, .int .i64 a.f, .int .i64 a.cs, .int .i64 a.co, .int .i64 a.cf, .int .i64 a.ct, .int .i64 a.cl, .int .i64 a.o] rfl rfl ?e0 ?e1 ?e2 ?e3 ?e4 ?_)
        case e0 => exact (Blk.new' 66 [.int .i64 a.s, .int .i64 a.f, .int .i64 a.cs, .int .i64 a.co, .int .i64 a.cf, .int .i64 a.ct, .int .i64 a.cl, .int .i64 a.o] rfl).news
        case e1 => exact ints_one (l := [a.s, a.f, a.cs, a.co, a.cf, a.ct, a.cl, a.o])
        case e2 => unfold maxLen; omega
        case e3 => omega
        case e4 => simp; omega
        intro v3 w3 ho3 hg3 hnil3 hat3
        clear hnil3 hat3
        have hb3 : Below N w w3 := (hb1.alloc (by omega) _).grown hg3 (by simp; omega) (by intro g hg; have := HV.out g hg; omega)
        have hz3 : N + 1 ≤ w3.heap.size := by have := hg3.size; simp at this; omega
        have bR4 : Blk w3 N 28 [.int .i64 slots, .slice (some ⟨b, off, none⟩) na ca, .slice D nd cd] := (bR3.alloc _).grown_ hg3 (by intro e; have := HV.out _ e.symm; omega)
        have O3 : w3.ownsRow (N + 1) 66 8 v3 (acc ++ [a]).length (flatA (acc ++ [a])) := by simpa [flatA, Att.row] using ho3
        obtain ⟨A3, c3, hv3⟩ := own_form ho3
        clear ho3 hg3 HO
        subst hv3
        go_wp2_with fail
        go_roundw
        case rel => exact ⟨k + 1, acc ++ [a], _, rfl, bR4, by omega, by go_num, by simp; omega, O3, hb3, hz3, hst'⟩
        case measure => simp [intOf]; omega
      · have hst' : Hid (F = acc ++ ofFrame (al.drop (k + 1)) flow frame) := Lib.hid (by
          rw [hst.out, hd.out]
          have : (a.cl == flow && a.f == frame) = false := by
            rw [Bool.eq_false_iff]
            intro h
            simp at h
            exact hm h
          simp only [ofFrame, List.filter_cons, this, Bool.false_eq_true, if_false])
        clear hst
        by_cases h1 : a.cl = flow
        · have h2 : ¬ a.f = frame := fun h => hm ⟨h1, h⟩
          have e1 : (a.cl == flow) = true := by simp [h1]
          have e2 : (a.f == frame) = false := by simp [h2]
          go_wp2_with fail
          go_roundw
          case rel => exact ⟨k + 1, acc, _, rfl, bR3, by omega, by go_num, by omega, hown1, hb1, by omega, hst'⟩
          case measure => simp [intOf]; omega
        · have e1 : (a.cl == flow) = false := by simp [h1]
          go_wp2_with fail
          go_roundw
          case rel => exact ⟨k + 1, acc, _, rfl, bR3, by omega, by go_num, by omega, hown1, hb1, by omega, hst'⟩
          case measure => simp [intOf]; omega
    · have hst' : Hid (F = acc) := Lib.hid (by rw [hst.out, List.drop_of_length_le (by rw [← HA.out]; omega)]; simp [ofFrame])
      obtain ⟨A3, c3, hv3⟩ := own_form hown
      have HO := Lib.hid hown
      clear hst hown
      subst hv3
      go_wp2_with fail
      go_ret
      exact ⟨by rw [← HN.out]; exact hb, _, rfl, by rw [hst'.out, ← HN.out]; exact own_weak HO.out (by omega)⟩

end Go.Proofs.Ytkdigdnacggknaa
/- Walk: Losses of the reference. -/
namespace Go.Proofs.Ytkdigdnacggknaa
open Go.RowKit
open Rc

set_option maxRecDepth 100000 in
set_option maxHeartbeats 8000000 in
theorem rlosses_any (r : Rec) (A D : Option Addr) (ca cd : Nat) (flow frame fr to_ : Int) (w : World) (hA : LiesA w w.heap.size A r.al) (hla : r.al.length ≤ 1000000) :
    Calls Try.prog 61 #[.agg #[.int .i64 r.slots, .slice A r.al.length ca, .slice D r.dl.length cd], .int .i64 flow, .int .i64 frame, .int .i64 fr, .int .i64 to_] w fun e w' => Below w.heap.size w w' ∧ ∃ vo vs, e = .returned vo ∧ w'.ownsRow w.heap.size 42 1 vo vs.length vs ∧ Runs w' w.heap.size w'.heap.size vs (lossP r.al flow frame fr to_) := by
  have hcon := fun W (h : Below w.heap.size w W) => rattempts_any r A D ca cd flow frame W ((hA.below h).more h.size) hla
  obtain ⟨slots, al, dl⟩ := r
  dsimp only at *
  obtain ⟨F, hF⟩ : ∃ F, F = ofFrame al flow frame := ⟨_, rfl⟩
  have hFl : F.length ≤ 1000000 := by rw [hF]; exact Nat.le_trans (List.length_filter_le _ _) hla
  obtain ⟨na, hna⟩ : ∃ n, n = al.length := ⟨_, rfl⟩
  obtain ⟨nd, hnd⟩ : ∃ n, n = dl.length := ⟨_, rfl⟩
  unfold lossP
  rw [← hF, ← hna, ← hnd] at hcon
  rw [← hF, ← hna, ← hnd]
  have Con := Lib.hid hcon
  clear hF hcon hna hnd hA
  obtain ⟨T, hT⟩ : ∃ T, T = lossGo fr to_ F [] [] := ⟨_, rfl⟩
  rw [← hT]
  have HT := Lib.hid hT
  clear hT
  obtain ⟨n, hn⟩ : ∃ n, n = F.length := ⟨_, rfl⟩
  rw [← hn] at hFl
  have HL := Lib.hid hn
  clear hn
  obtain ⟨i0, hi, hz0, hz1, hz2⟩ := info_parts Try.infoInt
  obtain ⟨j0, ji, jz0, jz1, jz2⟩ := info_parts Try.infoInts
  have HI := Lib.hid (And.intro hi (And.intro hz0 (And.intro hz1 hz2)))
  have HJ := Lib.hid (And.intro ji (And.intro jz0 (And.intro jz1 jz2)))
  clear hi hz0 hz1 hz2 ji jz0 jz1 jz2
  go_enter Try.func61, Try.ntmps61
  go_wp2_with fail
  generalize hW0 : World.alloc _ _ = W0
  have hb0 : Below w.heap.size w W0 := by rw [← hW0]; exact (Below.refl _ _).alloc (Nat.le_refl _) _
  have hz : W0.heap.size = w.heap.size + 1 := by rw [← hW0]; simp
  clear hW0
  refine (Con.out W0 hb0).mono ?_
  rintro e w1 ⟨hb1, va, rfl, hva⟩
  rw [hz] at hb1 hva
  obtain ⟨N, hN⟩ : ∃ N, N = w.heap.size := ⟨_, rfl⟩
  rw [← hN] at hb0 hb1 hva ⊢
  have HN := Lib.hid hN
  replace hb0 := hb0.trans (hb1.mono (by omega))
  have hM : N + 1 ≤ w1.heap.size := by have := hb1.size; omega
  have hva1 : ∀ g, va.ownBlock = some g → N + 1 ≤ g ∧ g < w1.heap.size := hva.lt
  clear hb1 hN hz
  obtain ⟨M, hMe⟩ : ∃ M, M = w1.heap.size := ⟨_, rfl⟩
  rw [← hMe] at hM hva1
  have HM := Lib.hid hMe
  have HV1 := Lib.hid hva1
  clear hMe hva1
  rw [← HL.out] at hva
  obtain ⟨A1, cA, hv1⟩ := own_form hva
  have HVA := Lib.hid hva
  clear hva
  subst hv1
  obtain ⟨Rel, hRel⟩ : ∃ Rel : Nat → Value → Value → World → Prop, Rel = fun k vo vr wr => ∃ (R : Nat) (run : List Int) (out : List (List Int)) (vs : List Value), run.length ≤ k ∧ out.length ≤ k ∧ M ≤ R ∧ R ≤ wr.heap.size ∧
      wr.ownsRow (N + 1) 66 8 (.slice A1 n cA) n (flatA F) ∧ wr.ownsRow M 42 1 vo vs.length vs ∧ wr.ownsRow R 3 1 vr run.length (run.map (Value.int .i64)) ∧ Runs wr M R vs out ∧ Below N w wr ∧ Hid (T = lossGo fr to_ (F.drop k) run out) := ⟨_, rfl⟩
  have HRel := Lib.hid hRel
  clear hRel
  have hst0 : Rel 0 (.slice none 0 0) (.slice none 0 0) w1 := by
    rw [HRel.out]
    exact ⟨M, [], [], [], Nat.le_refl _, Nat.le_refl _, Nat.le_refl _, by rw [HM.out]; exact Nat.le_refl _, HVA.out, World.ownsRow_nil _ _ _ _, World.ownsRow_nil _ _ _ _, Runs.nil _ _ _, hb0, Lib.hid (by rw [HT.out]; simp)⟩
  go_wp2_with fail
  go_loopw [11, 12, 14] (fun s11 s12 i wr => ∃ (k : Nat) (vo vr : Value), vo = s11 ∧ vr = s12 ∧ k ≤ n ∧ i = .int .i64 k ∧ Rel k vo vr wr) (fun _ _ i _ => n - (intOf i).toNat)
  case atStart => exact ⟨0, _, _, rfl, rfl, Nat.zero_le _, rfl, hst0⟩
  case round =>
    clear HVA hb0 hst0
    obtain ⟨k, vo, vr, rfl, rfl, hk, rfl, hrel⟩ := hrel
    rw [HRel.out] at hrel
    obtain ⟨R, run, out, vs, hrl, hol, hMR, hRw, hoa, hoo, hor, hrs, hb, hst⟩ := hrel
    have hvl : vs.length ≤ k := by rw [hrs.1]; exact hol
    have HVO : Hid (∀ g, vo.ownBlock = some g → M ≤ g ∧ g < wr.heap.size) := Lib.hid hoo.lt
    have HVR : Hid (∀ g, vr.ownBlock = some g → R ≤ g ∧ g < wr.heap.size) := Lib.hid hor.lt
    obtain ⟨Ar, cr, hvr⟩ := own_form hor
    obtain ⟨Ao, co, hvo⟩ := own_form hoo
    subst hvr hvo
    have HA1 := Lib.hid hoa
    have HO1 := Lib.hid hoo
    have HR1 := Lib.hid hor
    have HRS := Lib.hid hrs
    clear hoo hor hrs
    by_cases hlt : k < n
    · obtain ⟨a, ha⟩ := get_of_lt (l := F) (k := k) (by rw [← HL.out]; exact hlt)
      have hoa2 : wr.ownsRow (N + 1) 66 8 (.slice A1 n cA) F.length (flatA F) := by rw [← HL.out]; exact hoa
      have hl2 := own_A hoa2
      obtain ⟨b, off, rfl, hbB, hcs⟩ := hl2.at_ ha
      obtain ⟨c0, c1, c2, c3, c4, c5, c6, c7⟩ := hcs k a ha
      have hd := Lib.hid (drop_of_get ha)
      clear hcs ha hl2 hoa2 hoa
      by_cases hskip : ¬ a.cf = fr ∨ ¬ a.ct = to_
      · have hst' : Hid (T = lossGo fr to_ (F.drop (k + 1)) run out) := Lib.hid (by rw [hst.out, hd.out]; simp only [lossGo]; rw [if_pos hskip])
        clear hst
        have hnew : Rel (k + 1) (.slice Ao vs.length co) (.slice Ar run.length cr) wr := by
          rw [HRel.out]
          exact ⟨R, run, out, vs, by omega, by omega, hMR, by omega, HA1.out, HO1.out, HR1.out, HRS.out, hb, hst'⟩
        by_cases h1 : a.cf = fr
        · have h2 : ¬ a.ct = to_ := by rcases hskip with h | h; exact absurd h1 h; exact h
          go_wp2_with fail
          go_roundw
          case rel => exact ⟨k + 1, _, _, rfl, rfl, by omega, by go_num, hnew⟩
          case measure => simp [intOf]; omega
        · go_wp2_with fail
          go_roundw
          case rel => exact ⟨k + 1, _, _, rfl, rfl, by omega, by go_num, hnew⟩
          case measure => simp [intOf]; omega
      · have hs1 : a.cf = fr := Classical.byContradiction fun h => hskip (Or.inl h)
        have hs2 : a.ct = to_ := Classical.byContradiction fun h => hskip (Or.inr h)
        by_cases hack : a.o = 1
        · have hst' : Hid (T = lossGo fr to_ (F.drop (k + 1)) [] (flush run out)) := Lib.hid (by rw [hst.out, hd.out]; simp only [lossGo]; rw [if_neg hskip, if_pos hack])
          clear hst
          by_cases h0 : run.length = 0
          · have hf : flush run out = out := by simp [flush, h0]
            have hnew : Rel (k + 1) (.slice Ao vs.length co) (.slice none 0 0) wr := by
              rw [HRel.out]
              exact ⟨R, [], out, vs, by simp, by omega, hMR, by omega, HA1.out, HO1.out, World.ownsRow_nil _ _ _ _, HRS.out, hb, Lib.hid (by rw [hst'.out, hf])⟩
            clear hf
            rw [h0]
            go_wp2_with fail
            go_roundw
            case rel => exact ⟨k + 1, _, _, rfl, rfl, by omega, by go_num, hnew⟩
            case measure => simp [intOf]; omega
          · have hf : flush run out = out ++ [run] := by simp [flush, h0]
            have hpos : 0 < run.length := by omega
            have HF2 := Lib.hid hf
            clear hf
            go_wp2_with (at_builtin; refine wpList_append_own_at _ rfl (.tmp 60) (.tmp 62) 40 rfl M 42 j0 (.slice none 0 0) 1 24 Try.underlying40 HJ.out.1 HJ.out.2.1 HJ.out.2.2.1 HJ.out.2.2.2 rfl (by decide) (.slice Ao vs.length co) vs.length vs rfl (HO1.out.alloc _) ⟨wr.heap.size, 0, none⟩ 1 1 [.slice Ar run.length cr] rfl rfl ?e0 ?e1 ?e2 ?e3 ?e4 ?_)
            case e0 => exact (Blk.new' 42 [.slice Ar run.length cr] rfl).news
            case e1 => intro u hu; simp at hu; subst hu; rfl
            case e2 => unfold maxLen; omega
            case e3 => omega
            case e4 => simp; omega
            intro v3 w3 ho3 hg3 hnil3 hat3
            clear hnil3 hat3
            have hkp : ∀ g t cs, t ≠ 42 → Blk wr g t cs → Blk w3 g t cs := fun g t cs h1 h => (h.alloc _).grown_ hg3 (by
              intro e
              exact h1 (own_type HO1.out e h))
            have oa3 := own_kept HA1.out fun g cs _ h => hkp g _ cs (by decide) h
            have or3 := own_kept HR1.out fun g cs _ h => hkp g _ cs (by decide) h
            have rs3 := HRS.out.kept (R' := R) (Nat.le_refl _) fun g cs _ h1 h => hkp g _ cs (by decide) h
            have hb3 : Below N w w3 := (hb.alloc (by omega) _).grown hg3 (by simp; omega) (by intro g hg; have := HVO.out g hg; omega)
            have hz3 : wr.heap.size + 1 ≤ w3.heap.size := by have := hg3.size; simpa using this
            obtain ⟨A3, c3', hv3⟩ := own_form ho3
            have hnew : Rel (k + 1) v3 (.slice none 0 0) w3 := by
              rw [HRel.out]
              refine ⟨w3.heap.size, [], out ++ [run], vs ++ [.slice Ar run.length cr], by simp, by simp; omega, by omega, by omega, oa3, by simpa using ho3, World.ownsRow_nil _ _ _ _, ?_, hb3, Lib.hid (by rw [hst'.out, HF2.out])⟩
              exact Runs.snoc (rs3.kept (by omega) fun g cs _ _ h => h) (own_weak or3 hMR) fun g hg => by have := HVR.out g hg; omega
            have HNEW := Lib.hid hnew
            clear oa3 or3 rs3 ho3 hg3 hkp HRS HO1 HR1 HA1 hnew
            subst hv3
            go_wp2_with fail
            go_roundw
            case rel => exact ⟨k + 1, _, _, rfl, rfl, by omega, by go_num, HNEW.out⟩
            case measure => simp [intOf]; omega
        · have hst' : Hid (T = lossGo fr to_ (F.drop (k + 1)) (run ++ [a.s]) out) := Lib.hid (by rw [hst.out, hd.out]; simp only [lossGo]; rw [if_neg hskip, if_neg hack])
          clear hst
          go_wp2_with (at_builtin; refine wpList_append_own_at _ rfl (.tmp 49) (.tmp 55) 42 rfl R 3 i0 (.int .i64 0) 1 8 Try.underlying42 HI.out.1 HI.out.2.1 HI.out.2.2.1 HI.out.2.2.2 rfl (by decide) (.slice Ar run.length cr) run.length (run.map (Value.int .i64)) rfl (HR1.out.alloc _) ⟨wr.heap.size, 0, none⟩ 1 1 [.int .i64 a.s] rfl rfl ?e0 ?e1 ?e2 ?e3 ?e4 ?_)
          case e0 => exact (Blk.new' 3 [.int .i64 a.s] rfl).news
          case e1 => exact ints_one (l := [a.s])
          case e2 => unfold maxLen; omega
          case e3 => omega
          case e4 => simp; omega
          intro v3 w3 ho3 hg3 hnil3 hat3
          clear hnil3 hat3
          have hkp : ∀ g t cs, g < R ∨ t ≠ 3 → Blk wr g t cs → Blk w3 g t cs := fun g t cs h1 h => (h.alloc _).grown_ hg3 (by
            intro e
            rcases h1 with h1 | h1
            · have := HVR.out g e.symm; omega
            · exact h1 (own_type HR1.out e h))
          have oa3 := own_kept HA1.out fun g cs _ h => hkp g _ cs (Or.inr (by decide)) h
          have oo3 := own_kept HO1.out fun g cs _ h => hkp g _ cs (Or.inr (by decide)) h
          have rs3 := HRS.out.kept (R' := R) (Nat.le_refl _) fun g cs _ h1 h => hkp g _ cs (Or.inl h1) h
          have hb3 : Below N w w3 := (hb.alloc (by omega) _).grown hg3 (by simp; omega) (by intro g hg; have := HVR.out g hg; omega)
          have hz3 : wr.heap.size + 1 ≤ w3.heap.size := by have := hg3.size; simpa using this
          obtain ⟨A3, c3', hv3⟩ := own_form ho3
          have hnew : Rel (k + 1) (.slice Ao vs.length co) v3 w3 := by
            rw [HRel.out]
            exact ⟨R, run ++ [a.s], out, vs, by simp; omega, by omega, hMR, by omega, oa3, oo3, by simpa using ho3, rs3, hb3, hst'⟩
          have HNEW := Lib.hid hnew
          clear oa3 oo3 rs3 ho3 hg3 hkp HRS HO1 HR1 HA1 hnew
          subst hv3
          go_wp2_with fail
          go_roundw
          case rel => exact ⟨k + 1, _, _, rfl, rfl, by omega, by go_num, HNEW.out⟩
          case measure => simp [intOf]; omega
    · have hst' : Hid (T = flush run out) := Lib.hid (by rw [hst.out, List.drop_of_length_le (by rw [← HL.out]; omega)]; rfl)
      clear hst hoa
      by_cases h0 : run.length = 0
      · have hf : Hid (T = out) := Lib.hid (by rw [hst'.out]; simp [flush, h0])
        rw [h0]
        go_wp2_with fail
        go_ret
        refine ⟨by rw [← HN.out]; exact hb, _, vs, rfl, own_weak HO1.out (by rw [← HN.out]; omega), ?_⟩
        rw [hf.out]
        refine ⟨HRS.out.1, fun i v l hv hl => ?_⟩
        obtain ⟨q1, q2⟩ := HRS.out.2 i v l hv hl
        exact ⟨own_weak q1 (by rw [← HN.out]; omega), fun g hg => (q1.lt g hg).2⟩
      · have hf : Hid (T = out ++ [run]) := Lib.hid (by rw [hst'.out]; simp [flush, h0])
        have hpos : 0 < run.length := by omega
        clear hst'
        go_wp2_with (at_builtin; refine wpList_append_own_at _ rfl (.tmp 67) (.tmp 69) 40 rfl M 42 j0 (.slice none 0 0) 1 24 Try.underlying40 HJ.out.1 HJ.out.2.1 HJ.out.2.2.1 HJ.out.2.2.2 rfl (by decide) (.slice Ao vs.length co) vs.length vs rfl (HO1.out.alloc _) ⟨wr.heap.size, 0, none⟩ 1 1 [.slice Ar run.length cr] rfl rfl ?e0 ?e1 ?e2 ?e3 ?e4 ?_)
        case e0 => exact (Blk.new' 42 [.slice Ar run.length cr] rfl).news
        case e1 => intro u hu; simp at hu; subst hu; rfl
        case e2 => unfold maxLen; omega
        case e3 => omega
        case e4 => simp; omega
        intro v3 w3 ho3 hg3 hnil3 hat3
        clear hnil3 hat3
        have hkp : ∀ g t cs, t ≠ 42 → Blk wr g t cs → Blk w3 g t cs := fun g t cs h1 h => (h.alloc _).grown_ hg3 (by
          intro e
          exact h1 (own_type HO1.out e h))
        have or3 := own_kept HR1.out fun g cs _ h => hkp g _ cs (by decide) h
        have rs3 := HRS.out.kept (R' := R) (Nat.le_refl _) fun g cs _ h1 h => hkp g _ cs (by decide) h
        have hb3 : Below N w w3 := (hb.alloc (by omega) _).grown hg3 (by simp; omega) (by intro g hg; have := HVO.out g hg; omega)
        have hz3 : wr.heap.size + 1 ≤ w3.heap.size := by have := hg3.size; simpa using this
        obtain ⟨A3, c3', hv3⟩ := own_form ho3
        have OO := Lib.hid ho3
        have RS := Lib.hid (Runs.snoc (rs3.kept (R' := w3.heap.size) (by omega) fun g cs _ _ h => h) (own_weak or3 hMR) fun g hg => by have := HVR.out g hg; omega)
        clear or3 rs3 ho3 hg3 hkp HRS HO1 HR1 HA1
        subst hv3
        go_wp2_with fail
        go_ret
        refine ⟨by rw [← HN.out]; exact hb3, _, vs ++ [.slice Ar run.length cr], rfl, own_weak (by simpa using OO.out) (show w.heap.size ≤ M by rw [← HN.out]; omega), ?_⟩
        rw [hf.out]
        refine ⟨RS.out.1, fun i v l hv hl => ?_⟩
        obtain ⟨q1, q2⟩ := RS.out.2 i v l hv hl
        exact ⟨own_weak q1 (by rw [← HN.out]; omega), fun g hg => (q1.lt g hg).2⟩

end Go.Proofs.Ytkdigdnacggknaa
/- Losses of package record and of the reference, lifted: runs of slots. -/
namespace Go.Proofs.Ytkdigdnacggknaa
open Go.RowKit
open Nd Rc Mo
open Av
set_option maxRecDepth 100000

def runPv (l : List Int) : List PV := [.sl 1 (l.map fun x => [ip x])]
theorem fresh_none {R : Reader} {w w' : World} {m m' : Nat} {p : Addr} {v : Value} (h : fresh R w w' none m p = some v) : fresh R w w' none m' p = some v := by
  unfold fresh at h ⊢
  split at h
  · rename_i hb; rw [if_pos hb]; exact h
  · rename_i hb
    rw [if_neg hb, if_neg (by rintro ⟨h4, _⟩; cases h4)]
    split at h
    · cases h
    · exact h
theorem flatten_ints : ∀ l : List Int, (l.map fun x => [Value.int .i64 x]).flatten = l.map (Value.int .i64)
  | [] => rfl
  | a :: l => by rw [List.map_cons, List.flatten_cons, flatten_ints l, List.map_cons]; rfl
theorem rep_runs {R : Reader} {w w' : World} {t : TypeId} {vo : Value} {vs : List Value} {out : List (List Int)} {N : Nat} (h : w'.ownsRow w.heap.size t 1 vo vs.length vs) (hr : Runs w' w.heap.size N vs out) : RepP (fresh R w w' none 0) (.sl 1 (out.map runPv)) vo := by
  obtain ⟨hlen, hget⟩ := hr
  have hsz : ∀ (k : Nat) (row : List PV), (out.map runPv)[k]? = some row → row.length = 1 := fun k row hk => by
    rw [List.getElem?_map] at hk
    cases hx : out[k]? with
    | none => rw [hx] at hk; cases hk
    | some l => rw [hx] at hk; simp only [Option.map_some, Option.some.injEq] at hk; subst hk; rfl
  have hz : ∀ (k : Nat) (row : List PV) (j : Nat) (p : PV), (out.map runPv)[k]? = some row → row[j]? = some p → ∃ x, vs[k * 1 + j]? = some x ∧ RepP (fresh R w w' none 0) p x := fun k row j p hk hj => by
    rw [List.getElem?_map] at hk
    cases hx : out[k]? with
    | none => rw [hx] at hk; cases hk
    | some l =>
      rw [hx] at hk
      simp only [Option.map_some, Option.some.injEq] at hk
      subst hk
      cases j with
      | succ j => simp [runPv] at hj
      | zero =>
        simp only [runPv, List.getElem?_cons_zero, Option.some.injEq] at hj
        subst hj
        obtain ⟨v, hv⟩ := get_of_lt (l := vs) (k := k) (by rw [hlen]; exact (List.getElem?_eq_some_iff.1 hx).1)
        refine ⟨v, by simpa using hv, ?_⟩
        obtain ⟨h1, _⟩ := hget k v l hv hx
        have h2 : w'.ownsRow w.heap.size 3 1 v (l.map fun x => [Value.int .i64 x]).length (l.map fun x => [Value.int .i64 x]).flatten := by
          rw [List.length_map, show (l.map fun x => [Value.int .i64 x]).flatten = l.map (Value.int .i64) from flatten_ints l]
          exact h1
        obtain ⟨_, _, h3⟩ := owns_rep (R := R) (by decide) h2 (fun row hr => by obtain ⟨x, _, rfl⟩ := List.mem_map.1 hr; rfl) (fun row hr x hx => by obtain ⟨y, _, rfl⟩ := List.mem_map.1 hr; simp only [List.mem_cons, List.not_mem_nil, or_false] at hx; subst hx; rfl)
        have h4 := (h3 none (.inl rfl)).mono (fun p v => fresh_none (m' := 0))
        rw [List.map_map] at h4
        exact h4
  obtain ⟨_, h2⟩ := h
  rcases h2 with ⟨rfl, hn⟩ | ⟨g, cap, cur, rfl, hb, hg, hnc, hcm, hcs, htake⟩
  · have h0 : out = [] := List.eq_nil_of_length_eq_zero (by omega)
    subst h0
    exact .sl 1 [] none 0 (fun _ _ => undef) (fun k row hk => by cases hk) (.inl rfl) (fun k row j p hk => by cases hk) (Nat.le_refl _)
  · have := rep_mk (R := fresh R w w' none 0) (A := some ⟨g, 0, none⟩) (cap := cap) (zs := vs) hsz hz (.inr ⟨g, 0, rfl, fun i x hx hi => by
      unfold fresh
      rw [if_neg (by dsimp only; omega), if_neg (by rintro ⟨h4, _⟩; cases h4), Nat.zero_add, cell_of_row w' g i cur t (0, 0) hg]
      rw [← htake, List.getElem?_take] at hx
      split at hx
      · rw [← Array.getElem?_toList]; exact hx
      · cases hx⟩) (by rw [List.length_map, ← hlen]; exact hnc)
    rw [List.length_map, ← hlen] at this
    exact this
theorem losses_ok (r : Rec) (fl fr a b : Int) (hla : r.al.length ≤ 1000000) : FnOK Try.prog 51 [.agg r.pv, iv fl, iv fr, iv a, iv b] ⟨.sl 1 ((lossP r.al fl fr a b).map runPv), none⟩ := fn_of ⟨Try.f51, _, Try.func51, by kernel_rfl, rfl⟩ fun w R hR us hus => by
  cases hus with | cons h0 _ hus =>
  cases hus with | cons h1 _ hus =>
  cases hus with | cons h2 _ hus =>
  cases hus with | cons h3 _ hus =>
  cases hus with | cons h4 _ hus =>
  cases hus
  obtain ⟨A, D, ca, cd, rfl, hA, hD⟩ := rec_rep hR h0
  rw [h1, h2, h3, h4]
  refine (losses_any r A D ca cd fl fr a b w hA hla).mono ?_
  rintro e w' ⟨hb, vo, vs, rfl, hown, hruns⟩
  exact ⟨_, rfl, hb, rfl, rep_runs hown hruns⟩
theorem rlosses_ok (r : Rec) (fl fr a b : Int) (hla : r.al.length ≤ 1000000) : FnOK Try.prog 61 [.agg r.pv, iv fl, iv fr, iv a, iv b] ⟨.sl 1 ((lossP r.al fl fr a b).map runPv), none⟩ := fn_of ⟨Try.f61, _, Try.func61, by kernel_rfl, rfl⟩ fun w R hR us hus => by
  cases hus with | cons h0 _ hus =>
  cases hus with | cons h1 _ hus =>
  cases hus with | cons h2 _ hus =>
  cases hus with | cons h3 _ hus =>
  cases hus with | cons h4 _ hus =>
  cases hus
  obtain ⟨A, D, ca, cd, rfl, hA, hD⟩ := rec_rep hR h0
  rw [h1, h2, h3, h4]
  refine (rlosses_any r A D ca cd fl fr a b w hA hla).mono ?_
  rintro e w' ⟨hb, vo, vs, rfl, hown, hruns⟩
  exact ⟨_, rfl, hb, rfl, rep_runs hown hruns⟩
end Go.Proofs.Ytkdigdnacggknaa
/- The runs of losses, plain: what they are in the list of a link's attempts. -/
namespace Go.Proofs.Ytkdigdnacggknaa
open Rc
namespace Rc

def nonA (a : Att) : Bool := !(a.o == 1)
def linkB (fr to_ : Int) (a : Att) : Bool := a.cf == fr && a.ct == to_
/-- The runs of those that were not acknowledged. -/
def runsOf : List Att → List (List Int)
  | [] => []
  | a :: l => if a.o = 1 then runsOf l else (a.s :: (l.takeWhile nonA).map Att.s) :: runsOf (l.dropWhile nonA)
termination_by l => l.length
decreasing_by
  · simp
  · have := (List.dropWhile_sublist (l := l) nonA).length_le
    simp; omega

theorem runsOf_nil : runsOf [] = [] := by rw [runsOf]
theorem runsOf_acked {a : Att} {l : List Att} (h : a.o = 1) : runsOf (a :: l) = runsOf l := by rw [runsOf, if_pos h]
theorem runsOf_lost {a : Att} {l : List Att} (h : ¬ a.o = 1) : runsOf (a :: l) = (a.s :: (l.takeWhile nonA).map Att.s) :: runsOf (l.dropWhile nonA) := by rw [runsOf, if_neg h]

/-- Losses over the link's attempts alone. -/
def lossL : List Att → List Int → List (List Int) → List (List Int)
  | [], run, out => flush run out
  | a :: l, run, out => if a.o = 1 then lossL l [] (flush run out) else lossL l (run ++ [a.s]) out

theorem lossGo_lossL (fr to_ : Int) : ∀ (F : List Att) (run : List Int) (out : List (List Int)), lossGo fr to_ F run out = lossL (F.filter (linkB fr to_)) run out
  | [], run, out => rfl
  | a :: F, run, out => by
    simp only [lossGo]
    by_cases h : ¬ a.cf = fr ∨ ¬ a.ct = to_
    · have hb : linkB fr to_ a = false := by
        unfold linkB
        rw [Bool.and_eq_false_iff]
        rcases h with h | h
        · exact .inl (by simpa using h)
        · exact .inr (by simpa using h)
      rw [if_pos h, lossGo_lossL fr to_ F, List.filter_cons, hb]
      simp
    · have hb : linkB fr to_ a = true := by
        unfold linkB
        have h1 : a.cf = fr := Classical.byContradiction fun hh => h (.inl hh)
        have h2 : a.ct = to_ := Classical.byContradiction fun hh => h (.inr hh)
        simp [h1, h2]
      rw [if_neg h, List.filter_cons, hb, if_pos rfl]
      simp only [lossL]
      rw [lossGo_lossL fr to_ F, lossGo_lossL fr to_ F]

theorem lossL_runs : ∀ (l : List Att) (run : List Int) (out : List (List Int)), lossL l run out = if run.length = 0 then out ++ runsOf l else out ++ (run ++ (l.takeWhile nonA).map Att.s) :: runsOf (l.dropWhile nonA)
  | [], run, out => by
    simp only [lossL, flush, runsOf_nil, List.append_nil, List.takeWhile_nil, List.map_nil, List.dropWhile_nil]
  | a :: l, run, out => by
    simp only [lossL]
    by_cases ho : a.o = 1
    · have hn : nonA a = false := by simp [nonA, ho]
      rw [if_pos ho, lossL_runs l]
      simp only [List.length_nil, if_true, flush, runsOf_acked ho, List.takeWhile_cons, List.dropWhile_cons, hn, Bool.false_eq_true, if_false, List.map_nil, List.append_nil]
      split
      · rfl
      · simp
    · have hn : nonA a = true := by simp [nonA, ho]
      rw [if_neg ho, lossL_runs l, if_neg (by simp)]
      simp only [runsOf_lost ho, List.takeWhile_cons, List.dropWhile_cons, hn, if_true, List.map_cons]
      by_cases h0 : run.length = 0
      · have : run = [] := List.eq_nil_of_length_eq_zero h0
        subst this
        simp
      · rw [if_neg h0]
        simp

theorem lossP_runs (al : List Att) (flow frame fr to_ : Int) : lossP al flow frame fr to_ = runsOf ((ofFrame al flow frame).filter (linkB fr to_)) := by
  unfold lossP
  rw [lossGo_lossL, lossL_runs]
  simp

theorem mem_takeWhile_ {p : Att → Bool} : ∀ {l : List Att} {a : Att}, a ∈ l.takeWhile p → p a = true
  | [], _, h => by simp at h
  | x :: l, a, h => by
    rw [List.takeWhile_cons] at h
    split at h
    · rename_i hx
      rcases List.mem_cons.1 h with rfl | h
      · exact hx
      · exact mem_takeWhile_ h
    · cases h
theorem runsOf_len : ∀ (n : Nat) (l : List Att), l.length ≤ n → (runsOf l).length ≤ l.length
  | _, [], _ => by simp [runsOf_nil]
  | 0, a :: l, h => by simp at h
  | n + 1, a :: l, h => by
    by_cases ho : a.o = 1
    · rw [runsOf_acked ho]
      have := runsOf_len n l (by simpa using h)
      simp; omega
    · rw [runsOf_lost ho]
      have h1 := (List.dropWhile_sublist (l := l) nonA).length_le
      have := runsOf_len n (l.dropWhile nonA) (by simp at h; omega)
      simp; omega

/-! ### what the law's loops meet -/
/-- Behind acknowledged ones the runs are the same. -/
theorem runs_skip {l : List Att} {k : Nat} {a : Att} (h : l[k]? = some a) (ho : a.o = 1) : runsOf (l.drop k) = runsOf (l.drop (k + 1)) := by
  rw [drop_of_get h, runsOf_acked ho]
/-- At one that was lost the first run begins. -/
theorem runs_at {l : List Att} {k : Nat} {run : List Int} {rest : List (List Int)} (h : runsOf (l.drop k) = run :: rest) (hno : ∀ a, l[k]? = some a → ¬ a.o = 1) :
    0 < run.length ∧ k + run.length ≤ l.length ∧ (∀ j s, run[j]? = some s → ∃ a, l[k + j]? = some a ∧ a.s = s ∧ ¬ a.o = 1) ∧ runsOf (l.drop (k + run.length)) = rest ∧ (∀ a, l[k + run.length]? = some a → a.o = 1) := by
  cases hk : l[k]? with
  | none =>
    have : l.drop k = [] := List.drop_of_length_le (by
      rcases Nat.lt_or_ge k l.length with h1 | h1
      · rw [List.getElem?_eq_getElem h1] at hk; cases hk
      · exact h1)
    rw [this, runsOf_nil] at h
    cases h
  | some a =>
    have ho := hno a hk
    have hkl : k < l.length := (List.getElem?_eq_some_iff.1 hk).1
    rw [drop_of_get hk, runsOf_lost ho] at h
    injection h with h1 h2
    have hsp : l.drop (k + 1) = (l.drop (k + 1)).takeWhile nonA ++ (l.drop (k + 1)).dropWhile nonA := List.takeWhile_append_dropWhile.symm
    generalize htw : (l.drop (k + 1)).takeWhile nonA = tw at *
    generalize hdw : (l.drop (k + 1)).dropWhile nonA = dw at *
    have hlen : run.length = tw.length + 1 := by rw [← h1]; simp
    have hdl : l.drop (k + run.length) = dw := by
      rw [hlen, show k + (tw.length + 1) = (k + 1) + tw.length by omega, ← List.drop_drop, hsp]
      simp
    have hll : l.length - (k + 1) = tw.length + dw.length := by
      have := congrArg List.length hsp
      simpa using this
    refine ⟨by omega, by omega, fun j s hj => ?_, by rw [hdl]; exact h2, fun b hb => ?_⟩
    · rw [← h1] at hj
      cases j with
      | zero =>
        simp at hj
        exact ⟨a, by simpa using hk, hj, ho⟩
      | succ j =>
        rw [List.getElem?_cons_succ, List.getElem?_map] at hj
        cases hb : tw[j]? with
        | none => rw [hb] at hj; cases hj
        | some b =>
          rw [hb] at hj
          simp at hj
          have hjl : j < tw.length := (List.getElem?_eq_some_iff.1 hb).1
          refine ⟨b, ?_, hj, ?_⟩
          · have : (l.drop (k + 1))[j]? = some b := by rw [hsp, List.getElem?_append_left hjl, hb]
            rw [List.getElem?_drop] at this
            rw [show k + (j + 1) = k + 1 + j by omega]
            exact this
          · have hm : b ∈ (l.drop (k + 1)).takeWhile nonA := by rw [htw]; exact List.mem_of_getElem? hb
            have := mem_takeWhile_ hm
            simpa [nonA] using this
    · have hd0 : dw[0]? = some b := by rw [← hdl, List.getElem?_drop]; simpa using hb
      cases hdc : dw with
      | nil => rw [hdc] at hd0; simp at hd0
      | cons c dw' =>
        have : nonA c = false := by
          have := List.head?_dropWhile_not nonA (l.drop (k + 1))
          rw [hdw, hdc] at this
          simpa using this
        rw [hdc] at hd0
        simp at hd0
        subst hd0
        simpa [nonA] using this
theorem runs_find {l : List Att} {run : List Int} {rest : List (List Int)} : ∀ (n k : Nat), l.length - k ≤ n → runsOf (l.drop k) = run :: rest → ∃ j, k ≤ j ∧ j < l.length ∧ (∀ i a, k ≤ i → i < j → l[i]? = some a → a.o = 1) ∧ (∀ a, l[j]? = some a → ¬ a.o = 1) ∧ runsOf (l.drop j) = run :: rest
  | 0, k, hn, h => by
    rw [List.drop_of_length_le (by omega), runsOf_nil] at h
    cases h
  | n + 1, k, hn, h => by
    rcases Nat.lt_or_ge k l.length with hk | hk
    · obtain ⟨a, ha⟩ := get_of_lt hk
      by_cases ho : a.o = 1
      · rw [runs_skip ha ho] at h
        obtain ⟨j, h1, h2, h3, h4, h5⟩ := runs_find n (k + 1) (by omega) h
        refine ⟨j, by omega, h2, fun i b hi hij hb => ?_, h4, h5⟩
        by_cases hik : i = k
        · subst hik
          rw [ha] at hb
          injection hb with hb
          subst hb
          exact ho
        · exact h3 i b (by omega) hij hb
      · exact ⟨k, Nat.le_refl _, hk, fun i b hi hij => by omega, fun b hb => by rw [ha] at hb; injection hb with hb; subst hb; exact ho, h⟩
    · rw [List.drop_of_length_le hk, runsOf_nil] at h
      cases h
theorem runs_end {l : List Att} : ∀ {k : Nat}, runsOf (l.drop k) = [] → ∀ j a, k ≤ j → l[j]? = some a → a.o = 1 := by
  intro k h j a hkj hj
  induction hn : l.length - k generalizing k with
  | zero =>
    have := (List.getElem?_eq_some_iff.1 hj).1
    omega
  | succ n ih =>
    obtain ⟨b, hb⟩ := get_of_lt (l := l) (k := k) (by omega)
    rw [drop_of_get hb] at h
    by_cases ho : b.o = 1
    · rw [runsOf_acked ho] at h
      by_cases hjk : j = k
      · subst hjk
        rw [hb] at hj
        injection hj with hj
        subst hj
        exact ho
      · exact ih h (by omega) (by omega)
    · rw [runsOf_lost ho] at h
      cases h
end Rc
end Go.Proofs.Ytkdigdnacggknaa

/- Walk: Decode of package record. -/
import Derived.Test.YtllakkepphpfmaaDecP
import Derived.Deep.CutBlock
namespace Go.Proofs.Ytllakkepphpfmaa
open Go.RowKit
open Rc

theorem Try.infoAtt : (Try.prog.info? 45).map (fun i => (i.zero, i.size, i.bytes)) = some (some (.agg #[.int .i64 0, .int .i64 0, .int .i64 0, .int .i64 0, .int .i64 0, .int .i64 0, .int .i64 0, .int .i64 0]), 8, 64) := by kernel_rfl
theorem Try.infoDlv : (Try.prog.info? 62).map (fun i => (i.zero, i.size, i.bytes)) = some (some (.agg #[.int .i64 0, .int .i64 0, .int .i64 0]), 3, 24) := by kernel_rfl

/-- What Decode returns. -/
def DecPost (data : List UInt8) (w : World) (e : Ending) (w' : World) : Prop :=
  Below w.heap.size w w' ∧ (if decOk data = true then ∃ A D ca cd, e = .returned (.tuple #[.agg #[.int .i64 (decP data).r.slots, .slice A (decP data).r.al.length ca, .slice D (decP data).r.dl.length cd], .int .i64 0]) ∧ LiesA w' w'.heap.size A (decP data).r.al ∧ LiesD w' w'.heap.size D (decP data).r.dl
    else e = .returned (.tuple #[.agg #[.int .i64 0, .slice none 0 0, .slice none 0 0], .int .i64 10]))

set_option maxRecDepth 100000 in
set_option maxHeartbeats 8000000 in
theorem decode_any (data : List UInt8) (w : World) (hl : data.length ≤ 100000) : Calls Try.prog 11 #[.string ⟨data.toArray⟩] w (DecPost data w) := by
  go_enter Try.func11, Try.ntmps11
  go_wp2_with fail
  generalize hW0 : World.alloc _ _ = W0
  have hbk : ∀ g t cs, Blk W0 g t cs = Blk W0 g t cs := fun _ _ _ => rfl
  have bR : Blk W0 w.heap.size 28 [.int .i64 0, .slice none 0 0, .slice none 0 0] := by rw [← hW0]; exact (((((Blk.new' _ [.int .i64 0, .slice none 0 0, .slice none 0 0] (by simp)).alloc _).alloc _).alloc _).alloc _).alloc _
  have bi : Blk W0 (w.heap.size + 1) 67 [.string ⟨data.toArray⟩, .bool false] := by rw [← hW0]; exact ((((Blk.new' _ [.string ⟨data.toArray⟩, .bool false] (by simp)).alloc _).alloc _).alloc _).alloc _
  have bx : Blk W0 (w.heap.size + 1 + 1) 28 [.int .i64 0, .slice none 0 0, .slice none 0 0] := by rw [← hW0]; exact (((Blk.new' _ [.int .i64 0, .slice none 0 0, .slice none 0 0] (by simp)).alloc _).alloc _).alloc _
  have bn : Blk W0 (w.heap.size + 1 + 1 + 1) 3 [.int .i64 0] := by rw [← hW0]; exact ((Blk.new' _ [.int .i64 0] (by simp)).alloc _).alloc _
  have bs : Blk W0 (w.heap.size + 1 + 1 + 1 + 1) 3 [.int .i64 0] := by rw [← hW0]; exact (Blk.new' _ [.int .i64 0] (by simp)).alloc _
  have bp : Blk W0 (w.heap.size + 1 + 1 + 1 + 1 + 1) 69 [.pointer (some ⟨w.heap.size + 1 + 1, 0, none⟩), .pointer (some ⟨w.heap.size + 1 + 1 + 1, 0, none⟩)] := by rw [← hW0]; exact Blk.new' _ [.pointer (some ⟨w.heap.size + 1 + 1, 0, none⟩), .pointer (some ⟨w.heap.size + 1 + 1 + 1, 0, none⟩)] (by simp)
  have hb0 : Below w.heap.size w W0 := by rw [← hW0]; exact ((((((Below.refl _ _).alloc (Nat.le_refl _) _).alloc (by simp) _).alloc (by simp; omega) _).alloc (by simp; omega) _).alloc (by simp; omega) _).alloc (by simp; omega) _
  clear hW0 hbk
  obtain ⟨N, hN⟩ : ∃ N, N = w.heap.size := ⟨_, rfl⟩
  rw [← hN] at bR bi bx bn bs bp hb0 ⊢
  have HN := Lib.hid hN
  clear hN
  obtain ⟨v0, v1, d1, b1, hh, l0, l1⟩ := readS2 data false
  have hcon := read_any [(N + 1 + 1, 0), (N + 1 + 1 + 1, 0)] (N + 1) (N + 1 + 1 + 1 + 1 + 1) 2 N data false W0 (by omega) (by simp) bi (by omega) (fun k p hp => by
      match k, hp with
      | 0, hp => simp at hp; subst hp; exact bp.row 0
      | 1, hp => simp at hp; subst hp; exact bp.row 1) (fun p hp => by
      simp at hp
      rcases hp with rfl | rfl
      · exact ⟨by dsimp only; omega, by dsimp only; omega, by dsimp only; omega, _, _, bx, by simp⟩
      · exact ⟨by dsimp only; omega, by dsimp only; omega, by dsimp only; omega, _, _, bn, by simp⟩) (by rw [HN.out]; exact hb0.size) (by omega)
  simp only [List.length_cons, List.length_nil, Nat.zero_add, Nat.reduceAdd, hh] at hcon
  refine hcon.mono ?_
  clear hcon
  rintro e w1 ⟨rfl, ri, hk1, hb1⟩
  have bR1 : Blk w1 N 28 [.int .i64 0, .slice none 0 0, .slice none 0 0] := by have := hk1 _ _ _ (by omega) bR; rwa [updL_other _ _ _ _ (by intro p hp; simp at hp; rcases hp with rfl | rfl <;> dsimp only <;> omega)] at this
  have bx1 : Blk w1 (N + 1 + 1) 28 [.int .i64 v0, .slice none 0 0, .slice none 0 0] := by have := hk1 _ _ _ (by omega) bx; simpa [updL] using this
  have bn1 : Blk w1 (N + 1 + 1 + 1) 3 [.int .i64 v1] := by have := hk1 _ _ _ (by omega) bn; simpa [updL] using this
  have bs1 : Blk w1 (N + 1 + 1 + 1 + 1) 3 [.int .i64 (0 : Nat)] := by have := hk1 _ _ _ (by omega) bs; rwa [updL_other _ _ _ _ (by intro p hp; simp at hp; rcases hp with rfl | rfl <;> dsimp only <;> omega)] at this
  have hbw : Below N w w1 := hb0.trans hb1
  have hM : N + 1 + 1 + 1 + 1 + 1 < w1.heap.size := by
    have := hk1 _ _ _ (by omega) bp
    exact this.lt
  clear bR bi bx bn bs bp hk1 hb0 hb1
  obtain ⟨M, hMe⟩ : ∃ M, M = w1.heap.size := ⟨_, rfl⟩
  have HM := Lib.hid hMe
  rw [← hMe] at hM
  clear hMe
  have hdl1 : d1.length ≤ data.length := by have := (readS_len 2 data false).1; rw [hh] at this; exact this
  obtain ⟨T, hT⟩ : ∃ T, T = attsP v1 0 d1 b1 := ⟨_, rfl⟩
  have HT := Lib.hid hT
  clear hT
  obtain ⟨i0, hi, hz0, hz1, hz2⟩ := info_parts Try.infoAtt
  obtain ⟨AttsOut, hAO⟩ : ∃ AttsOut : World → Prop, AttsOut = fun W => ∃ (s : Nat) (d : List UInt8) (b : Bool) (acc : List Att) (va : Value), d.length ≤ data.length ∧ acc.length ≤ data.length + 1 ∧ Blk W N 28 [.int .i64 0, .slice none 0 0, .slice none 0 0] ∧ Rdr W (N + 1) 67 d b ∧
      Blk W (N + 1 + 1) 28 [.int .i64 v0, va, .slice none 0 0] ∧ Blk W (N + 1 + 1 + 1) 3 [.int .i64 v1] ∧ Blk W (N + 1 + 1 + 1 + 1) 3 [.int .i64 s] ∧ W.ownsRow M 45 8 va acc.length (flatA acc) ∧ Below N w W ∧ M ≤ W.heap.size ∧ Hid (T = (acc, d, b)) := ⟨_, rfl⟩
  have HAO := Lib.hid hAO
  clear hAO
  go_upto_block 0 with fail
  go_cut [] (fun W => AttsOut W)
  case first =>
    go_wp2_with fail
    go_loopw [8, 9] (fun s8 i wr => ∃ (k at_ s : Nat) (d : List UInt8) (b : Bool) (acc : List Att) (va : Value), k ≤ v1 ∧ i = .int .i64 k ∧ s8 = .int .i64 at_ ∧ d.length ≤ data.length ∧ at_ ≤ 34359738368 * (data.length + 1) ∧ (b = false → at_ + 34359738368 * d.length ≤ 34359738368 * data.length) ∧
        acc.length ≤ data.length + 1 ∧ (b = false → acc.length + d.length ≤ data.length) ∧ Blk wr N 28 [.int .i64 0, .slice none 0 0, .slice none 0 0] ∧ Rdr wr (N + 1) 67 d b ∧
        Blk wr (N + 1 + 1) 28 [.int .i64 v0, va, .slice none 0 0] ∧ Blk wr (N + 1 + 1 + 1) 3 [.int .i64 v1] ∧ Blk wr (N + 1 + 1 + 1 + 1) 3 [.int .i64 s] ∧ wr.ownsRow M 45 8 va acc.length (flatA acc) ∧ Below N w wr ∧ M ≤ wr.heap.size ∧
        Hid (T = (acc ++ (attsP (v1 - k) at_ d b).1, (attsP (v1 - k) at_ d b).2))) (fun _ i _ => v1 - (intOf i).toNat)
    case atStart => exact ⟨0, 0, 0, d1, b1, [], .slice none 0 0, Nat.zero_le _, rfl, rfl, hdl1, by omega, fun _ => by omega, by simp, fun _ => by simpa using hdl1, bR1, ri, bx1, bn1, bs1, World.ownsRow_nil _ _ _ _, hbw, by rw [HM.out]; exact Nat.le_refl _, Lib.hid (by rw [HT.out]; simp)⟩
    case round =>
      clear bR1 ri bx1 bn1 bs1
      obtain ⟨k, at_, s, d, b, acc, va, hk, rfl, rfl, hdl, hat, hatb, hal, halb, bR, ri, bx, bn, bs, hown, hb, hMw, hst⟩ := hrel
      have cn := bn.row 0
      have cb := ri.row 1
      simp only [List.getElem?_cons_zero, List.getElem?_cons_succ] at cn cb
      by_cases hgo : k < v1 ∧ b = false
      · obtain ⟨hlt, rfl⟩ := hgo
        have hatb' := hatb rfl
        have halb' := halb rfl
        clear hatb halb
        obtain ⟨u0, u1, u2, u3, u4, u5, u6, u7, d2, b2, h8, k0⟩ := readS8 d false
        go_wp2_with fail
        generalize hW0 : World.alloc _ _ = W0
        have za : Blk W0 wr.heap.size 45 [.int .i64 0, .int .i64 0, .int .i64 0, .int .i64 0, .int .i64 0, .int .i64 0, .int .i64 0, .int .i64 0] := by rw [← hW0]; exact (Blk.new' _ [.int .i64 0, .int .i64 0, .int .i64 0, .int .i64 0, .int .i64 0, .int .i64 0, .int .i64 0, .int .i64 0] rfl).alloc _
        have zp : Blk W0 (wr.heap.size + 1) 69 [.pointer (some ⟨N + 1 + 1 + 1 + 1, 0, none⟩), .pointer (some ⟨wr.heap.size, 1, none⟩), .pointer (some ⟨wr.heap.size, 2, none⟩), .pointer (some ⟨wr.heap.size, 3, none⟩), .pointer (some ⟨wr.heap.size, 4, none⟩), .pointer (some ⟨wr.heap.size, 5, none⟩), .pointer (some ⟨wr.heap.size, 6, none⟩), .pointer (some ⟨wr.heap.size, 7, none⟩)] := by rw [← hW0]; exact Blk.new' _ [_, _, _, _, _, _, _, _] (by simp)
        have keep0 : ∀ g t cs, Blk wr g t cs → Blk W0 g t cs := fun g t cs h => by rw [← hW0]; exact (h.alloc _).alloc _
        have hb0 : Below N w W0 := by rw [← hW0]; exact (hb.alloc (by omega) _).alloc (by simp; omega) _
        have hsz0 : W0.heap.size = wr.heap.size + 2 := by rw [← hW0]; simp
        have K0 := Lib.hid keep0
        clear hW0 keep0
        have hcon := read_any [(N + 1 + 1 + 1 + 1, 0), (wr.heap.size, 1), (wr.heap.size, 2), (wr.heap.size, 3), (wr.heap.size, 4), (wr.heap.size, 5), (wr.heap.size, 6), (wr.heap.size, 7)] (N + 1) (wr.heap.size + 1) 8 N d false W0 (by omega) (by simp) (K0.out _ _ _ ri) (by omega) (fun k p hp => by
            match k, hp with
            | 0, hp => simp at hp; subst hp; exact zp.row 0
            | 1, hp => simp at hp; subst hp; exact zp.row 1
            | 2, hp => simp at hp; subst hp; exact zp.row 2
            | 3, hp => simp at hp; subst hp; exact zp.row 3
            | 4, hp => simp at hp; subst hp; exact zp.row 4
            | 5, hp => simp at hp; subst hp; exact zp.row 5
            | 6, hp => simp at hp; subst hp; exact zp.row 6
            | 7, hp => simp at hp; subst hp; exact zp.row 7) (fun p hp => by
            simp at hp
            rcases hp with rfl | rfl | rfl | rfl | rfl | rfl | rfl | rfl
            · exact ⟨by dsimp only; omega, by dsimp only; omega, by dsimp only; omega, _, _, K0.out _ _ _ bs, by simp⟩
            all_goals exact ⟨by dsimp only; omega, by dsimp only; omega, by dsimp only; omega, _, _, za, by simp⟩) (by omega) (by omega)
        simp only [List.length_cons, List.length_nil, Nat.zero_add, Nat.reduceAdd, h8] at hcon
        refine hcon.mono ?_
        clear hcon
        rintro e w2 ⟨rfl, ri2, hk2, hb2⟩
        have other : ∀ g t cs, g ≠ N + 1 → g ≠ N + 1 + 1 + 1 + 1 → g ≠ wr.heap.size → Blk W0 g t cs → Blk w2 g t cs := fun g t cs h1 h2 h3 h => by
          have := hk2 g t cs h1 h
          rwa [updL_other _ _ _ _ (by intro p hp; simp at hp; rcases hp with rfl | rfl | rfl | rfl | rfl | rfl | rfl | rfl <;> dsimp only <;> omega)] at this
        have bR2 := other _ _ _ (by omega) (by omega) (by omega) (K0.out _ _ _ bR)
        have bx2 := other _ _ _ (by omega) (by omega) (by omega) (K0.out _ _ _ bx)
        have bn2 := other _ _ _ (by omega) (by omega) (by omega) (K0.out _ _ _ bn)
        have bs2 : Blk w2 (N + 1 + 1 + 1 + 1) 3 [.int .i64 u0] := by
          have := hk2 _ _ _ (by omega) (K0.out _ _ _ bs)
          have e : ¬ wr.heap.size = N + 1 + 1 + 1 + 1 := by omega
          simpa [updL, e] using this
        have ba2 : Blk w2 wr.heap.size 45 [.int .i64 0, .int .i64 u1, .int .i64 u2, .int .i64 u3, .int .i64 u4, .int .i64 u5, .int .i64 u6, .int .i64 u7] := by
          have := hk2 _ _ _ (by omega) za
          have e : ¬ N + 1 + 1 + 1 + 1 = wr.heap.size := by omega
          simpa [updL, e] using this
        have hown2 : w2.ownsRow M 45 8 va acc.length (flatA acc) := own_kept hown fun g cs hg h => by
          obtain ⟨o1, o2⟩ := hown.lt g hg
          exact other g _ cs (by omega) (by omega) (by omega) (K0.out _ _ _ h)
        have hvl : ∀ g, va.ownBlock = some g → M ≤ g ∧ g < wr.heap.size := hown.lt
        have HV := Lib.hid hvl
        clear hvl
        have hbw2 : Below N w w2 := hb0.trans hb2
        have hMw2 : M ≤ w2.heap.size := by have := ba2.lt; omega
        have cs2 := bs2.row 0
        have ca := ba2.row
        have fa := ba2.frozen
        have cx := bx2.row
        have fx := bx2.frozen
        unfold Row at ca cx
        simp only [List.getElem?_cons_zero] at cs2
        have hne : ¬ wr.heap.size = N + 1 + 1 := by omega
        have hne' : ¬ N + 1 + 1 = wr.heap.size := by omega
        clear cn cb hk2 other za zp K0 bs bx bn bR ri hown
        have hsz2 : (w2.setCell ⟨wr.heap.size, 0, none⟩ (.int .i64 ((at_ : Int) + (u0 : Int)))).heap.size = w2.heap.size := by simp [World.setCell]
        have hown3 : (w2.setCell ⟨wr.heap.size, 0, none⟩ (.int .i64 ((at_ : Int) + (u0 : Int)))).ownsRow M 45 8 va acc.length (flatA acc) := own_kept hown2 fun g cs hg h => h.far (p := ⟨wr.heap.size, 0, none⟩) (by have := HV.out g hg; dsimp only; omega) _
        have HO3 := Lib.hid hown3
        have HZ2 := Lib.hid hsz2
        clear hown3 hsz2
        go_wp2_with (at_builtin; refine wpList_append_own_at _ rfl (.tmp 54) (.tmp 56) 23 rfl M 45 i0 (.agg #[.int .i64 0, .int .i64 0, .int .i64 0, .int .i64 0, .int .i64 0, .int .i64 0, .int .i64 0, .int .i64 0]) 8 64 Try.underlying23 hi hz0 hz1 hz2 rfl (by decide) va acc.length (flatA acc) rfl (HO3.out.alloc _) ⟨w2.heap.size, 0, none⟩ 1 1 [.int .i64 ((at_ : Int) + (u0 : Int)), .int .i64 u1, .int .i64 u2, .int .i64 u3, .int .i64 u4, .int .i64 u5, .int .i64 u6, .int .i64 u7] rfl rfl ?c0 ?c1 ?c2 ?c3 ?c4 ?_)
        case c0 => exact (Blk.new' 45 [.int .i64 ((at_ : Int) + (u0 : Int)), .int .i64 u1, .int .i64 u2, .int .i64 u3, .int .i64 u4, .int .i64 u5, .int .i64 u6, .int .i64 u7] HZ2.out.symm).news
        case c1 => exact ints_one (l := [(at_ : Int) + (u0 : Int), u1, u2, u3, u4, u5, u6, u7])
        case c2 => unfold maxLen; omega
        case c3 => omega
        case c4 => simp; omega
        intro v3 w3 ho3 hg3 hnil3 hat3
        clear hnil3
        obtain ⟨A3, c3, hv3⟩ := own_form ho3
        have far : ∀ g t cs, g < M → g ≠ wr.heap.size → Blk w2 g t cs → Blk w3 g t cs := fun g t cs h1 h2 h => ((h.far (p := ⟨wr.heap.size, 0, none⟩) h2 _).alloc _).grown_ hg3 (by intro e; have := HV.out g e.symm; omega)
        have bx3 := far _ _ _ (by omega) (by omega) bx2
        have cx3 := bx3.row
        have fx3 := bx3.frozen
        unfold Row at cx3
        have hb3 : Below N w w3 := (((hbw2.setCell (p := ⟨wr.heap.size, 0, none⟩) (by dsimp only; omega) _).alloc (by simp [World.setCell]; omega) _).grown hg3 (by simp [World.setCell]; omega) (by intro g hg; have := HV.out g hg; omega))
        have hz3 : M ≤ w3.heap.size := by have := hg3.size; simp [World.setCell] at this; omega
        -- the state behind the store
        have E1 : Hid (mkA at_ [u0, u1, u2, u3, u4, u5, u6, u7] = ⟨(at_ : Int) + (u0 : Int), u1, u2, u3, u4, u5, u6, u7⟩) := Lib.hid (by simp [mkA, nat8])
        have O4 : (w3.setCell ⟨N + 1 + 1, 1, none⟩ v3).ownsRow M 45 8 v3 (acc ++ [(⟨(at_ : Int) + (u0 : Int), u1, u2, u3, u4, u5, u6, u7⟩ : Att)]).length (flatA (acc ++ [⟨(at_ : Int) + (u0 : Int), u1, u2, u3, u4, u5, u6, u7⟩])) := by
          have h1 : w3.ownsRow M 45 8 v3 (acc ++ [(⟨(at_ : Int) + (u0 : Int), u1, u2, u3, u4, u5, u6, u7⟩ : Att)]).length (flatA (acc ++ [⟨(at_ : Int) + (u0 : Int), u1, u2, u3, u4, u5, u6, u7⟩])) := by
            simpa [flatA, Att.row] using ho3
          exact own_kept h1 fun g cs hg h => h.far (p := ⟨N + 1 + 1, 1, none⟩) (by have := (h1.lt g hg).1; dsimp only; omega) _
        have B4 : ∀ g t cs, g < M → g ≠ wr.heap.size → g ≠ N + 1 + 1 → Blk w2 g t cs → Blk (w3.setCell ⟨N + 1 + 1, 1, none⟩ v3) g t cs := fun g t cs h1 h2 h3 h => (far g t cs h1 h2 h).far (p := ⟨N + 1 + 1, 1, none⟩) h3 _
        have X4 : Blk (w3.setCell ⟨N + 1 + 1, 1, none⟩ v3) (N + 1 + 1) 28 [.int .i64 v0, v3, .slice none 0 0] := bx3.set_ 1 _
        have R4 := B4 _ _ _ (by omega) (by omega) (by omega) bR2
        have I4 := B4 _ _ _ (by omega) (by omega) (by omega) ri2
        have N4 := B4 _ _ _ (by omega) (by omega) (by omega) bn2
        have S4 := B4 _ _ _ (by omega) (by omega) (by omega) bs2
        have W4 : Below N w (w3.setCell ⟨N + 1 + 1, 1, none⟩ v3) := hb3.setCell (p := ⟨N + 1 + 1, 1, none⟩) (by dsimp only; omega) _
        have Z4 : M ≤ (w3.setCell ⟨N + 1 + 1, 1, none⟩ v3).heap.size := by simp [World.setCell]; omega
        have T4 : Hid (T = ((acc ++ [⟨(at_ : Int) + (u0 : Int), u1, u2, u3, u4, u5, u6, u7⟩]) ++ (attsP (v1 - (k + 1)) (at_ + u0) d2 b2).1, (attsP (v1 - (k + 1)) (at_ + u0) d2 b2).2)) := Lib.hid (by
          rw [hst.out, show v1 - k = (v1 - (k + 1)) + 1 by omega]
          simp only [attsP, h8, Bool.false_eq_true, if_false]
          rw [E1.out]
          simp [nat8])
        have hlen := readS_len 8 d false
        rw [h8] at hlen
        dsimp only at hlen
        obtain ⟨hlen1, hlen2⟩ := hlen
        have L2 := Lib.hid hlen2
        clear hlen2 far bx2 bR2 ri2 bn2 bs2 ba2 hown2 ho3 hg3 hat3 HO3 HZ2 ca fa cx fx cs2 bx3 B4 h8 E1 hst
        subst hv3
        go_wp2_with fail
        go_roundw
        case rel => exact ⟨k + 1, at_ + u0, u0, d2, b2, _, _, by omega, by go_num, by go_num, by omega, by omega, (fun hb => by have := L2.out hb; omega), by simp; omega, (fun hb => by have := L2.out hb; simp; omega), R4, I4, X4, N4, S4, O4, W4, Z4, T4⟩
        case measure => simp [intOf]; omega
      · have hT : T = (acc, d, b) := by
          rw [hst.out]
          cases hm : v1 - k with
          | zero => simp [attsP]
          | succ m =>
            have : b = true := by
              cases b with
              | true => rfl
              | false => exact absurd ⟨by omega, rfl⟩ hgo
            subst this
            simp [attsP]
        have HT2 := Lib.hid hT
        have hmeet : AttsOut wr := by
          rw [HAO.out]
          exact ⟨s, d, b, acc, va, hdl, hal, bR, ri, bx, bn, bs, hown, hb, hMw, HT2⟩
        clear hT hst hatb halb bR ri bx bs hown
        by_cases hkv : k < v1
        · have hbt : b = true := by
            cases b with
            | true => rfl
            | false => exact absurd ⟨hkv, rfl⟩ hgo
          subst hbt
          go_wp2_with fail
          go_meet
          exact hmeet
        · go_wp2_with fail
          go_meet
          exact hmeet
  case rest =>
    rw [HAO.out] at hcut
    obtain ⟨s, d, b, acc, va, hdl, hal, bR, ri, bx, bn, bs, hown, hb, hMw, HT2⟩ := hcut
    obtain ⟨n0, d3, b3, h1, k0⟩ := readS1 d b
    have hd3 : d3.length ≤ data.length := by have := (readS_len 1 d b).1; rw [h1] at this; dsimp only at this; omega
    clear bR1 bx1 bn1 bs1 HAO
    obtain ⟨w4, hw4⟩ : ∃ w4 : World, w4 = wc := ⟨_, rfl⟩
    subst hw4
    go_wp2_with fail
    generalize hW0 : World.alloc _ _ = W0
    have zp : Blk W0 w4.heap.size 69 [.pointer (some ⟨N + 1 + 1 + 1, 0, none⟩)] := by rw [← hW0]; exact Blk.new' _ [.pointer (some ⟨N + 1 + 1 + 1, 0, none⟩)] rfl
    have keep0 : ∀ g t cs, Blk w4 g t cs → Blk W0 g t cs := fun g t cs h => by rw [← hW0]; exact h.alloc _
    have hb0 : Below N w W0 := by rw [← hW0]; exact hb.alloc (by omega) _
    have hsz0 : W0.heap.size = w4.heap.size + 1 := by rw [← hW0]; simp
    have K0 := Lib.hid keep0
    clear hW0 keep0
    have hcon := read_any [(N + 1 + 1 + 1, 0)] (N + 1) w4.heap.size 1 N d b W0 (by omega) (by simp) (K0.out _ _ _ ri) (by omega) (fun k p hp => by
        match k, hp with
        | 0, hp => simp at hp; subst hp; exact zp.row 0) (fun p hp => by
        simp at hp
        subst hp
        exact ⟨by dsimp only; omega, by dsimp only; omega, by dsimp only; omega, _, _, K0.out _ _ _ bn, by simp⟩) (by omega) (by omega)
    simp only [List.length_cons, List.length_nil, Nat.zero_add, h1] at hcon
    refine hcon.mono ?_
    clear hcon
    rintro e w5 ⟨rfl, ri5, hk5, hb5⟩
    have other : ∀ g t cs, g ≠ N + 1 → g ≠ N + 1 + 1 + 1 → Blk W0 g t cs → Blk w5 g t cs := fun g t cs h1 h2 h => by
      have := hk5 g t cs h1 h
      rwa [updL_other _ _ _ _ (by intro p hp; simp at hp; subst hp; dsimp only; omega)] at this
    have bR5 := other _ _ _ (by omega) (by omega) (K0.out _ _ _ bR)
    have bx5 := other _ _ _ (by omega) (by omega) (K0.out _ _ _ bx)
    have bs5 := other _ _ _ (by omega) (by omega) (K0.out _ _ _ bs)
    have bn5 : Blk w5 (N + 1 + 1 + 1) 3 [.int .i64 n0] := by
      have := hk5 _ _ _ (by omega) (K0.out _ _ _ bn)
      simpa [updL] using this
    have hown5 : w5.ownsRow M 45 8 va acc.length (flatA acc) := own_kept hown fun g cs hg h => by
      obtain ⟨o1, o2⟩ := hown.lt g hg
      exact other g _ cs (by omega) (by omega) (K0.out _ _ _ h)
    have hbw5 : Below N w w5 := hb0.trans hb5
    have hM2 : M ≤ w5.heap.size := by have := (other _ _ _ (by omega) (by omega) zp).lt; omega
    obtain ⟨P, hP⟩ : ∃ P, P = w5.heap.size := ⟨_, rfl⟩
    have HP := Lib.hid hP
    rw [← hP] at hM2
    clear hP
    have hvlt : ∀ g, va.ownBlock = some g → M ≤ g ∧ g < P := fun g hg => by rw [HP.out]; exact hown5.lt g hg
    have HVA := Lib.hid hvlt
    clear hvlt hk5 other zp K0 bs bx bn bR ri hown hb0 hsz0 hb5 hi hz0 hz1 hz2
    obtain ⟨U, hU⟩ : ∃ U, U = dlvsP n0 0 d3 b3 := ⟨_, rfl⟩
    have HU := Lib.hid hU
    clear hU
    obtain ⟨j0, hi, hz0, hz1, hz2⟩ := info_parts Try.infoDlv
    obtain ⟨DlvsOut, hDO⟩ : ∃ DlvsOut : World → Prop, DlvsOut = fun W => ∃ (d : List UInt8) (b : Bool) (ac : List Dlv) (vd : Value), d.length ≤ data.length ∧ ac.length ≤ data.length + 1 ∧ Blk W N 28 [.int .i64 0, .slice none 0 0, .slice none 0 0] ∧ Rdr W (N + 1) 67 d b ∧
        Blk W (N + 1 + 1) 28 [.int .i64 v0, va, vd] ∧ W.ownsRow M 45 8 va acc.length (flatA acc) ∧ W.ownsRow P 62 3 vd ac.length (flatD ac) ∧ Below N w W ∧ P ≤ W.heap.size ∧ Hid (U = (ac, d, b)) := ⟨_, rfl⟩
    have HDO := Lib.hid hDO
    clear hDO
    go_upto_block 2 with fail
    go_cut [] (fun W => DlvsOut W)
    case first =>
      go_wp2_with fail
      go_loopw [8, 11] (fun s8 i wr => ∃ (k at_ s : Nat) (d : List UInt8) (b : Bool) (ac : List Dlv) (vd : Value), k ≤ n0 ∧ i = .int .i64 k ∧ s8 = .int .i64 at_ ∧ d.length ≤ data.length ∧ at_ ≤ 34359738368 * (data.length + 1) ∧ (b = false → at_ + 34359738368 * d.length ≤ 34359738368 * data.length) ∧
          ac.length ≤ data.length + 1 ∧ (b = false → ac.length + d.length ≤ data.length) ∧ Blk wr N 28 [.int .i64 0, .slice none 0 0, .slice none 0 0] ∧ Rdr wr (N + 1) 67 d b ∧
          Blk wr (N + 1 + 1) 28 [.int .i64 v0, va, vd] ∧ Blk wr (N + 1 + 1 + 1) 3 [.int .i64 n0] ∧ Blk wr (N + 1 + 1 + 1 + 1) 3 [.int .i64 s] ∧ wr.ownsRow M 45 8 va acc.length (flatA acc) ∧ wr.ownsRow P 62 3 vd ac.length (flatD ac) ∧ Below N w wr ∧ P ≤ wr.heap.size ∧
          Hid (U = (ac ++ (dlvsP (n0 - k) at_ d b).1, (dlvsP (n0 - k) at_ d b).2))) (fun _ i _ => n0 - (intOf i).toNat)
      case atStart => exact ⟨0, 0, s, d3, b3, [], .slice none 0 0, Nat.zero_le _, rfl, rfl, hd3, by omega, fun _ => by omega, by simp, fun _ => by simpa using hd3, bR5, ri5, bx5, bn5, bs5, hown5, World.ownsRow_nil _ _ _ _, hbw5, by rw [HP.out]; exact Nat.le_refl _, Lib.hid (by rw [HU.out]; simp)⟩
      case round =>
        clear bR5 ri5 bx5 bn5 bs5 hown5 hb hMw
        obtain ⟨k, at_, s, d, b, ac, vd, hk, rfl, rfl, hdl, hat, hatb, hal, halb, bR, ri, bx, bn, bs, howna, hown, hb, hMw, hst⟩ := hrel
        have cn := bn.row 0
        have cb := ri.row 1
        simp only [List.getElem?_cons_zero, List.getElem?_cons_succ] at cn cb
        by_cases hgo : k < n0 ∧ b = false
        · obtain ⟨hlt, rfl⟩ := hgo
          have hatb' := hatb rfl
          have halb' := halb rfl
          clear hatb halb
          obtain ⟨u0, u1, u2, d2, b2, h8, k0⟩ := readS3 d false
          go_wp2_with fail
          generalize hW0 : World.alloc _ _ = W0
          have za : Blk W0 wr.heap.size 62 [.int .i64 0, .int .i64 0, .int .i64 0] := by rw [← hW0]; exact (Blk.new' _ [.int .i64 0, .int .i64 0, .int .i64 0] rfl).alloc _
          have zp : Blk W0 (wr.heap.size + 1) 69 [.pointer (some ⟨N + 1 + 1 + 1 + 1, 0, none⟩), .pointer (some ⟨wr.heap.size, 0, none⟩), .pointer (some ⟨wr.heap.size, 1, none⟩)] := by rw [← hW0]; exact Blk.new' _ [_, _, _] (by simp)
          have keep0 : ∀ g t cs, Blk wr g t cs → Blk W0 g t cs := fun g t cs h => by rw [← hW0]; exact (h.alloc _).alloc _
          have hb0 : Below N w W0 := by rw [← hW0]; exact (hb.alloc (by omega) _).alloc (by simp; omega) _
          have hsz0 : W0.heap.size = wr.heap.size + 2 := by rw [← hW0]; simp
          have K0 := Lib.hid keep0
          clear hW0 keep0
          have hcon := read_any [(N + 1 + 1 + 1 + 1, 0), (wr.heap.size, 0), (wr.heap.size, 1)] (N + 1) (wr.heap.size + 1) 3 N d false W0 (by omega) (by simp) (K0.out _ _ _ ri) (by omega) (fun k p hp => by
              match k, hp with
              | 0, hp => simp at hp; subst hp; exact zp.row 0
              | 1, hp => simp at hp; subst hp; exact zp.row 1
              | 2, hp => simp at hp; subst hp; exact zp.row 2) (fun p hp => by
              simp at hp
              rcases hp with rfl | rfl | rfl
              · exact ⟨by dsimp only; omega, by dsimp only; omega, by dsimp only; omega, _, _, K0.out _ _ _ bs, by simp⟩
              all_goals exact ⟨by dsimp only; omega, by dsimp only; omega, by dsimp only; omega, _, _, za, by simp⟩) (by omega) (by omega)
          simp only [List.length_cons, List.length_nil, Nat.zero_add, Nat.reduceAdd, h8] at hcon
          refine hcon.mono ?_
          clear hcon
          rintro e w2 ⟨rfl, ri2, hk2, hb2⟩
          have other : ∀ g t cs, g ≠ N + 1 → g ≠ N + 1 + 1 + 1 + 1 → g ≠ wr.heap.size → Blk W0 g t cs → Blk w2 g t cs := fun g t cs h1 h2 h3 h => by
            have := hk2 g t cs h1 h
            rwa [updL_other _ _ _ _ (by intro p hp; simp at hp; rcases hp with rfl | rfl | rfl <;> dsimp only <;> omega)] at this
          have bR2 := other _ _ _ (by omega) (by omega) (by omega) (K0.out _ _ _ bR)
          have bx2 := other _ _ _ (by omega) (by omega) (by omega) (K0.out _ _ _ bx)
          have bn2 := other _ _ _ (by omega) (by omega) (by omega) (K0.out _ _ _ bn)
          have bs2 : Blk w2 (N + 1 + 1 + 1 + 1) 3 [.int .i64 u0] := by
            have := hk2 _ _ _ (by omega) (K0.out _ _ _ bs)
            have e : ¬ wr.heap.size = N + 1 + 1 + 1 + 1 := by omega
            simpa [updL, e] using this
          have ba2 : Blk w2 wr.heap.size 62 [.int .i64 u1, .int .i64 u2, .int .i64 0] := by
            have := hk2 _ _ _ (by omega) za
            have e : ¬ N + 1 + 1 + 1 + 1 = wr.heap.size := by omega
            simpa [updL, e] using this
          have hown2 : w2.ownsRow P 62 3 vd ac.length (flatD ac) := own_kept hown fun g cs hg h => by
            obtain ⟨o1, o2⟩ := hown.lt g hg
            exact other g _ cs (by omega) (by omega) (by omega) (K0.out _ _ _ h)
          have hown2a : w2.ownsRow M 45 8 va acc.length (flatA acc) := own_kept howna fun g cs hg h => by
            obtain ⟨o1, o2⟩ := howna.lt g hg
            exact other g _ cs (by omega) (by omega) (by omega) (K0.out _ _ _ h)
          have hvl : ∀ g, vd.ownBlock = some g → P ≤ g ∧ g < wr.heap.size := hown.lt
          have HV := Lib.hid hvl
          clear hvl
          have hbw2 : Below N w w2 := hb0.trans hb2
          have hMw2 : P ≤ w2.heap.size := by have := ba2.lt; omega
          have cs2 := bs2.row 0
          have ca := ba2.row
          have fa := ba2.frozen
          have cx := bx2.row
          have fx := bx2.frozen
          unfold Row at ca cx
          simp only [List.getElem?_cons_zero] at cs2
          have hne : ¬ wr.heap.size = N + 1 + 1 := by omega
          have hne' : ¬ N + 1 + 1 = wr.heap.size := by omega
          clear cn cb hk2 other za zp K0 bs bx bn bR ri hown howna
          have hsz2 : (w2.setCell ⟨wr.heap.size, 2, none⟩ (.int .i64 ((at_ : Int) + (u0 : Int)))).heap.size = w2.heap.size := by simp [World.setCell]
          have hown3 : (w2.setCell ⟨wr.heap.size, 2, none⟩ (.int .i64 ((at_ : Int) + (u0 : Int)))).ownsRow P 62 3 vd ac.length (flatD ac) := own_kept hown2 fun g cs hg h => h.far (p := ⟨wr.heap.size, 2, none⟩) (by have := HV.out g hg; dsimp only; omega) _
          have HO3 := Lib.hid hown3
          have HZ2 := Lib.hid hsz2
          clear hown3 hsz2
          go_wp2_with (at_builtin; refine wpList_append_own_at _ rfl (.tmp 87) (.tmp 89) 24 rfl P 62 j0 (.agg #[.int .i64 0, .int .i64 0, .int .i64 0]) 3 24 Try.underlying24 hi hz0 hz1 hz2 rfl (by decide) vd ac.length (flatD ac) rfl (HO3.out.alloc _) ⟨w2.heap.size, 0, none⟩ 1 1 [.int .i64 u1, .int .i64 u2, .int .i64 ((at_ : Int) + (u0 : Int))] rfl rfl ?e0 ?e1 ?e2 ?e3 ?e4 ?_)
          case e0 => exact (Blk.new' 62 [.int .i64 u1, .int .i64 u2, .int .i64 ((at_ : Int) + (u0 : Int))] HZ2.out.symm).news
          case e1 => exact ints_one (l := [(u1 : Int), u2, (at_ : Int) + (u0 : Int)])
          case e2 => unfold maxLen; omega
          case e3 => omega
          case e4 => simp; omega
          intro v3 w3 ho3 hg3 hnil3 hat3
          clear hnil3
          obtain ⟨A3, c3, hv3⟩ := own_form ho3
          have far : ∀ g t cs, g < P → g ≠ wr.heap.size → Blk w2 g t cs → Blk w3 g t cs := fun g t cs h1 h2 h => ((h.far (p := ⟨wr.heap.size, 2, none⟩) h2 _).alloc _).grown_ hg3 (by intro e; have := HV.out g e.symm; omega)
          have bx3 := far _ _ _ (by omega) (by omega) bx2
          have cx3 := bx3.row
          have fx3 := bx3.frozen
          unfold Row at cx3
          have hb3 : Below N w w3 := (((hbw2.setCell (p := ⟨wr.heap.size, 2, none⟩) (by dsimp only; omega) _).alloc (by simp [World.setCell]; omega) _).grown hg3 (by simp [World.setCell]; omega) (by intro g hg; have := HV.out g hg; omega))
          have hz3 : P ≤ w3.heap.size := by have := hg3.size; simp [World.setCell] at this; omega
          have E1 : Hid (mkD at_ [u0, u1, u2] = ⟨u1, u2, (at_ : Int) + (u0 : Int)⟩) := Lib.hid (by simp [mkD, nat8])
          have O4 : (w3.setCell ⟨N + 1 + 1, 2, none⟩ v3).ownsRow P 62 3 v3 (ac ++ [(⟨u1, u2, (at_ : Int) + (u0 : Int)⟩ : Dlv)]).length (flatD (ac ++ [⟨u1, u2, (at_ : Int) + (u0 : Int)⟩])) := by
            have h1 : w3.ownsRow P 62 3 v3 (ac ++ [(⟨u1, u2, (at_ : Int) + (u0 : Int)⟩ : Dlv)]).length (flatD (ac ++ [⟨u1, u2, (at_ : Int) + (u0 : Int)⟩])) := by
              simpa [flatD, Dlv.row] using ho3
            exact own_kept h1 fun g cs hg h => h.far (p := ⟨N + 1 + 1, 2, none⟩) (by have := (h1.lt g hg).1; dsimp only; omega) _
          have B4 : ∀ g t cs, g < P → g ≠ wr.heap.size → g ≠ N + 1 + 1 → Blk w2 g t cs → Blk (w3.setCell ⟨N + 1 + 1, 2, none⟩ v3) g t cs := fun g t cs h1 h2 h3 h => (far g t cs h1 h2 h).far (p := ⟨N + 1 + 1, 2, none⟩) h3 _
          have OA4 : (w3.setCell ⟨N + 1 + 1, 2, none⟩ v3).ownsRow M 45 8 va acc.length (flatA acc) := own_kept hown2a fun g cs hg h => by
            have := HVA.out g hg
            exact B4 g _ cs (by omega) (by omega) (by omega) h
          have X4 : Blk (w3.setCell ⟨N + 1 + 1, 2, none⟩ v3) (N + 1 + 1) 28 [.int .i64 v0, va, v3] := bx3.set_ 2 _
          have R4 := B4 _ _ _ (by omega) (by omega) (by omega) bR2
          have I4 := B4 _ _ _ (by omega) (by omega) (by omega) ri2
          have N4 := B4 _ _ _ (by omega) (by omega) (by omega) bn2
          have S4 := B4 _ _ _ (by omega) (by omega) (by omega) bs2
          have W4 : Below N w (w3.setCell ⟨N + 1 + 1, 2, none⟩ v3) := hb3.setCell (p := ⟨N + 1 + 1, 2, none⟩) (by dsimp only; omega) _
          have Z4 : P ≤ (w3.setCell ⟨N + 1 + 1, 2, none⟩ v3).heap.size := by simp [World.setCell]; omega
          have T4 : Hid (U = ((ac ++ [⟨u1, u2, (at_ : Int) + (u0 : Int)⟩]) ++ (dlvsP (n0 - (k + 1)) (at_ + u0) d2 b2).1, (dlvsP (n0 - (k + 1)) (at_ + u0) d2 b2).2)) := Lib.hid (by
            rw [hst.out, show n0 - k = (n0 - (k + 1)) + 1 by omega]
            simp only [dlvsP, h8, Bool.false_eq_true, if_false]
            rw [E1.out]
            simp [nat8])
          have hlen := readS_len 3 d false
          rw [h8] at hlen
          dsimp only at hlen
          obtain ⟨hlen1, hlen2⟩ := hlen
          have L2 := Lib.hid hlen2
          clear hlen2 far bx2 bR2 ri2 bn2 bs2 ba2 hown2 hown2a ho3 hg3 hat3 HO3 HZ2 ca fa cx fx cs2 bx3 B4 h8 E1 hst
          subst hv3
          go_wp2_with fail
          go_roundw
          case rel => exact ⟨k + 1, at_ + u0, u0, d2, b2, _, _, by omega, by go_num, by go_num, by omega, by omega, (fun hb => by have := L2.out hb; omega), by simp; omega, (fun hb => by have := L2.out hb; simp; omega), R4, I4, X4, N4, S4, OA4, O4, W4, Z4, T4⟩
          case measure => simp [intOf]; omega
        · have hT : U = (ac, d, b) := by
            rw [hst.out]
            cases hm : n0 - k with
            | zero => simp [dlvsP]
            | succ m =>
              have : b = true := by
                cases b with
                | true => rfl
                | false => exact absurd ⟨by omega, rfl⟩ hgo
              subst this
              simp [dlvsP]
          have HT2 := Lib.hid hT
          have hmeet : DlvsOut wr := by
            rw [HDO.out]
            exact ⟨d, b, ac, vd, hdl, hal, bR, ri, bx, howna, hown, hb, hMw, HT2⟩
          clear hT hst hatb halb bR ri bx bs hown howna
          by_cases hkv : k < n0
          · have hbt : b = true := by
              cases b with
              | true => rfl
              | false => exact absurd ⟨hkv, rfl⟩ hgo
            subst hbt
            go_wp2_with fail
            go_meet
            exact hmeet
          · go_wp2_with fail
            go_meet
            exact hmeet
    case rest =>
      rw [HDO.out] at hcut
      obtain ⟨d5, b5, ac, vd, hdl5, hal5, bR6, ri6, bx6, hown6, hown7, hb6, hM6, HU2⟩ := hcut
      clear HDO bR5 ri5 bx5 bn5 bs5 hown5
      obtain ⟨w6, hw6⟩ : ∃ w6 : World, w6 = wc := ⟨_, rfl⟩
      subst hw6
      obtain ⟨A6, ca, rfl, hlA, hmA⟩ := own_lies (f := Att.row) row_len_A hown6
      obtain ⟨D6, cd, rfl, hlD, hmD⟩ := own_lies (f := Dlv.row) row_len_D hown7
      have hdec : Hid (decP data = ⟨⟨(v0 : Nat), acc, ac⟩, d5, b5⟩) := Lib.hid (by
        unfold decP
        simp only [hh, nat8, List.getD_cons_zero, List.getD_cons_succ]
        rw [← HT.out, HT2.out]
        dsimp only
        rw [h1]
        simp only [List.getD_cons_zero]
        rw [← HU.out, HU2.out])
      have cR := bR6.row
      have fR := bR6.frozen
      have cx := bx6.row
      have ci := ri6.row
      unfold Row at cR cx ci
      have hz6 : N + 1 + 1 < w6.heap.size := by omega
      have hNe : N = w.heap.size := HN.out
      have hokd : decOk data = (!b5 && (d5.isEmpty && good ⟨(v0 : Nat), acc, ac⟩)) := by unfold decOk; rw [hdec.out]
      have con : ∀ W, Below w6.heap.size w6 W → Calls Try.prog 18 #[.agg #[.int .i64 (v0 : Nat), .slice A6 acc.length ca, .slice D6 ac.length cd]] W fun e w' => e = .returned (.int .i64 (checkE ⟨(v0 : Nat), acc, ac⟩)) ∧ Below W.heap.size W w' := fun W hW =>
        check_any ⟨(v0 : Nat), acc, ac⟩ A6 D6 ca cd W ((LiesA.below hlA hW).more hW.size) ((LiesD.below hlD hW).more hW.size) (by dsimp only; omega) (by dsimp only; omega)
      cases b5 with
      | true =>
        have hno : decOk data = false := by rw [hokd]; rfl
        have HNO := Lib.hid hno
        have HNe := Lib.hid hNe
        clear hno hokd con hNe
        have b7 := ((bR6.set_ 0 (.int .i64 0)).set_ 1 (.slice none 0 0)).set_ 2 (.slice none 0 0)
        have c7 := b7.row
        unfold Row at c7
        simp only [List.set_cons_zero, List.set_cons_succ] at c7
        have C7 := Lib.hid c7
        clear c7
        go_wp2_with fail
        have c7 := C7.out
        refine bodyPost_ret (v := .tuple #[.agg #[.int .i64 0, .slice none 0 0, .slice none 0 0], .int .i64 10]) (by simp [results, Try.results11, go_sem, c7]) rfl ⟨?_, ?_⟩
        · rw [← HNe.out]; exact ((hb6.setCell (p := ⟨N, 0, none⟩) (Nat.le_refl _) _).setCell (p := ⟨N, 1, none⟩) (Nat.le_refl _) _).setCell (p := ⟨N, 2, none⟩) (Nat.le_refl _) _
        · rw [HNO.out]; rfl
      | false =>
        cases d5 with
        | cons x d5 =>
          have hno : decOk data = false := by rw [hokd]; rfl
          have HNO := Lib.hid hno
          have HNe := Lib.hid hNe
          clear hno hokd con hNe
          have b7 := ((bR6.set_ 0 (.int .i64 0)).set_ 1 (.slice none 0 0)).set_ 2 (.slice none 0 0)
          have c7 := b7.row
          unfold Row at c7
          simp only [List.set_cons_zero, List.set_cons_succ] at c7
          have C7 := Lib.hid c7
          clear c7
          go_wp2_with fail
          have c7 := C7.out
          refine bodyPost_ret (v := .tuple #[.agg #[.int .i64 0, .slice none 0 0, .slice none 0 0], .int .i64 10]) (by simp [results, Try.results11, go_sem, c7]) rfl ⟨?_, ?_⟩
          · rw [← HNe.out]; exact ((hb6.setCell (p := ⟨N, 0, none⟩) (Nat.le_refl _) _).setCell (p := ⟨N, 1, none⟩) (Nat.le_refl _) _).setCell (p := ⟨N, 2, none⟩) (Nat.le_refl _) _
          · rw [HNO.out]; rfl
        | nil =>
          have Con := Lib.hid con
          have HNe := Lib.hid hNe
          clear con hNe
          go_wp2_with fail
          refine (Con.out _ (Below.refl _ _)).mono ?_
          rintro e w7 ⟨rfl, hb7⟩
          have bR7 := bR6.below hb7 (by omega)
          have bx7 := bx6.below hb7 (by omega)
          have cR7 := bR7.row
          have fR7 := bR7.frozen
          have cx7 := bx7.row
          unfold Row at cR7 cx7
          have hbN : Below N w w7 := hb6.trans (hb7.mono (by omega))
          have hne : ¬ N + 1 + 1 = N := by omega
          have hne' : ¬ N = N + 1 + 1 := by omega
          cases hgd : good ⟨(v0 : Nat), acc, ac⟩ with
          | false =>
            have hck : checkE ⟨(v0 : Nat), acc, ac⟩ = 1 := by simp [checkE, hgd]
            rw [hck]
            have hno : decOk data = false := by rw [hokd, hgd]; rfl
            have HNO := Lib.hid hno
            have b7 := ((bR7.set_ 0 (.int .i64 0)).set_ 1 (.slice none 0 0)).set_ 2 (.slice none 0 0)
            have c7 := b7.row
            unfold Row at c7
            simp only [List.set_cons_zero, List.set_cons_succ] at c7
            have C7 := Lib.hid c7
            clear c7 hno hokd hck hgd
            go_wp2_with fail
            have c7 := C7.out
            refine bodyPost_ret (v := .tuple #[.agg #[.int .i64 0, .slice none 0 0, .slice none 0 0], .int .i64 10]) (by simp [results, Try.results11, go_sem, c7]) rfl ⟨?_, ?_⟩
            · rw [← HNe.out]; exact ((hbN.setCell (p := ⟨N, 0, none⟩) (Nat.le_refl _) _).setCell (p := ⟨N, 1, none⟩) (Nat.le_refl _) _).setCell (p := ⟨N, 2, none⟩) (Nat.le_refl _) _
            · rw [HNO.out]; rfl
          | true =>
            have hck : checkE ⟨(v0 : Nat), acc, ac⟩ = 0 := by simp [checkE, hgd]
            rw [hck]
            have hyes : decOk data = true := by rw [hokd, hgd]; rfl
            have HY := Lib.hid hyes
            have b7 := ((bR7.set_ 0 (.int .i64 (v0 : Nat))).set_ 1 (.slice A6 acc.length ca)).set_ 2 (.slice D6 ac.length cd)
            have c7 := b7.row
            unfold Row at c7
            simp only [List.set_cons_zero, List.set_cons_succ] at c7
            have C7 := Lib.hid c7
            have hlA7 : LiesA (((w7.setCell ⟨N, 0, none⟩ (.int .i64 (v0 : Nat))).setCell ⟨N, 1, none⟩ (.slice A6 acc.length ca)).setCell ⟨N, 2, none⟩ (.slice D6 ac.length cd)) (((w7.setCell ⟨N, 0, none⟩ (.int .i64 (v0 : Nat))).setCell ⟨N, 1, none⟩ (.slice A6 acc.length ca)).setCell ⟨N, 2, none⟩ (.slice D6 ac.length cd)).heap.size A6 acc := by
              have h := own_kept (w' := ((w7.setCell ⟨N, 0, none⟩ (.int .i64 (v0 : Nat))).setCell ⟨N, 1, none⟩ (.slice A6 acc.length ca)).setCell ⟨N, 2, none⟩ (.slice D6 ac.length cd)) hown6 fun g cs hg h => by
                have := (hown6.lt g hg).1
                exact (((h.below hb7 h.lt).far (p := ⟨N, 0, none⟩) (by dsimp only; omega) _).far (p := ⟨N, 1, none⟩) (by dsimp only; omega) _).far (p := ⟨N, 2, none⟩) (by dsimp only; omega) _
              obtain ⟨A', c', e, hl', _⟩ := own_lies (f := Att.row) row_len_A h
              injection e with e1
              subst e1
              exact hl'
            have hlD7 : LiesD (((w7.setCell ⟨N, 0, none⟩ (.int .i64 (v0 : Nat))).setCell ⟨N, 1, none⟩ (.slice A6 acc.length ca)).setCell ⟨N, 2, none⟩ (.slice D6 ac.length cd)) (((w7.setCell ⟨N, 0, none⟩ (.int .i64 (v0 : Nat))).setCell ⟨N, 1, none⟩ (.slice A6 acc.length ca)).setCell ⟨N, 2, none⟩ (.slice D6 ac.length cd)).heap.size D6 ac := by
              have h := own_kept (w' := ((w7.setCell ⟨N, 0, none⟩ (.int .i64 (v0 : Nat))).setCell ⟨N, 1, none⟩ (.slice A6 acc.length ca)).setCell ⟨N, 2, none⟩ (.slice D6 ac.length cd)) hown7 fun g cs hg h => by
                have := (hown7.lt g hg).1
                exact (((h.below hb7 h.lt).far (p := ⟨N, 0, none⟩) (by dsimp only; omega) _).far (p := ⟨N, 1, none⟩) (by dsimp only; omega) _).far (p := ⟨N, 2, none⟩) (by dsimp only; omega) _
              obtain ⟨A', c', e, hl', _⟩ := own_lies (f := Dlv.row) row_len_D h
              injection e with e1
              subst e1
              exact hl'
            have HL7 := Lib.hid hlA7
            have HD7 := Lib.hid hlD7
            clear c7 hyes hokd hck hgd hlA7 hlD7
            go_wp2_with fail
            have c7 := C7.out
            refine bodyPost_ret (v := .tuple #[.agg #[.int .i64 (v0 : Nat), .slice A6 acc.length ca, .slice D6 ac.length cd], .int .i64 0]) (by simp [results, Try.results11, go_sem, c7]) rfl ⟨?_, ?_⟩
            · rw [← HNe.out]; exact ((hbN.setCell (p := ⟨N, 0, none⟩) (Nat.le_refl _) _).setCell (p := ⟨N, 1, none⟩) (Nat.le_refl _) _).setCell (p := ⟨N, 2, none⟩) (Nat.le_refl _) _
            · rw [HY.out, hdec.out]
              exact ⟨A6, D6, ca, cd, rfl, HL7.out, HD7.out⟩

end Go.Proofs.Ytllakkepphpfmaa

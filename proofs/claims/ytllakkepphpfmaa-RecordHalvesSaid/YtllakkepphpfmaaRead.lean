/- Walk: read of package record's reader. -/
import Derived.Test.YtllakkepphpfmaaNum
namespace Go.Proofs.Ytllakkepphpfmaa
open Go.RowKit
open Rc

/-- k numbers, one behind the other -/
def Rc.readS : Nat → List UInt8 → Bool → List Nat × List UInt8 × Bool
  | 0, d, b => ([], d, b)
  | k + 1, d, b => ((numS 5 d b).1 :: (readS k (numS 5 d b).2.1 (numS 5 d b).2.2).1, (readS k (numS 5 d b).2.1 (numS 5 d b).2.2).2)

/-- what the cells of block b are when the targets ps have got the numbers vs -/
def updL (b : Nat) : List (Nat × Nat) → List Nat → List Value → List Value
  | p :: ps, v :: vs, cs => updL b ps vs (if p.1 = b then cs.set p.2 (.int .i64 (v : Nat)) else cs)
  | _, _, cs => cs

theorem updL_snoc (b : Nat) : ∀ (ps : List (Nat × Nat)) (vs : List Nat) (p : Nat × Nat) (v : Nat) (cs : List Value), ps.length = vs.length → updL b (ps ++ [p]) (vs ++ [v]) cs = (if p.1 = b then (updL b ps vs cs).set p.2 (.int .i64 (v : Nat)) else updL b ps vs cs)
  | [], [], p, v, cs, _ => by simp [updL]
  | q :: ps, u :: vs, p, v, cs, h => by
    simp only [List.cons_append, updL]
    exact updL_snoc b ps vs p v _ (by simpa using h)
theorem updL_length (b : Nat) : ∀ (ps : List (Nat × Nat)) (vs : List Nat) (cs : List Value), (updL b ps vs cs).length = cs.length
  | p :: ps, v :: vs, cs => by
    simp only [updL]
    rw [updL_length b ps vs]
    split <;> simp
  | [], _, _ => by simp [updL]
  | _ :: _, [], _ => by simp [updL]

theorem cell_some {w : World} {b t : Nat} {cs : List Value} {i : Nat} (h : Blk w b t cs) (hi : i < cs.length) : ∃ u, w.cell? ⟨b, i, none⟩ = some u := ⟨cs[i], (h.row i).trans (List.getElem?_eq_getElem hi)⟩

set_option maxRecDepth 100000 in
set_option maxHeartbeats 2000000 in
theorem read_any (ps : List (Nat × Nat)) (g nb c B : Nat) (data : List UInt8) (bad : Bool) (w : World) (hl : data.length ≤ 1000000) (hps : ps.length ≤ 100) (hr : Rdr w g 67 data bad) (hnb : nb ≠ g)
    (hc : ∀ k p, ps[k]? = some p → w.cell? ⟨nb, k, none⟩ = some (.pointer (some ⟨p.1, p.2, none⟩)))
    (ht : ∀ p ∈ ps, p.1 ≠ g ∧ p.1 ≠ nb ∧ B ≤ p.1 ∧ ∃ t cs, Blk w p.1 t cs ∧ p.2 < cs.length) (hB : B ≤ w.heap.size) (hgB : B ≤ g) :
    Calls Try.prog 38 #[.pointer (some ⟨g, 0, none⟩), .slice (some ⟨nb, 0, none⟩) ps.length c] w fun e w' => e = .returned (.tuple #[]) ∧ Rdr w' g 67 (readS ps.length data bad).2.1 (readS ps.length data bad).2.2 ∧
      (∀ b t cs, b ≠ g → Blk w b t cs → Blk w' b t (updL b ps (readS ps.length data bad).1 cs)) ∧ Below B w w' := by
  obtain ⟨n, hn⟩ : ∃ n, n = ps.length := ⟨_, rfl⟩
  rw [← hn] at hps ⊢
  obtain ⟨T, hT⟩ : ∃ T, T = readS n data bad := ⟨_, rfl⟩
  rw [← hT]
  have HN := Lib.hid hn
  have HT := Lib.hid hT
  have HC := Lib.hid hc
  have HP := Lib.hid ht
  clear hn hT hc ht
  go_enter Try.func38, Try.ntmps38
  go_wp2_with fail
  go_loopw [8] (fun i wr => ∃ (k : Nat) (d : List UInt8) (b : Bool) (vs : List Nat), k ≤ n ∧ i = .int .i64 k ∧ d.length ≤ 1000000 ∧ Rdr wr g 67 d b ∧ Below B w wr ∧ wr.cell? ⟨nb, 0, none⟩ = w.cell? ⟨nb, 0, none⟩ ∧ Hid (vs.length = k) ∧ Hid (∀ j, wr.cell? ⟨nb, j, none⟩ = w.cell? ⟨nb, j, none⟩) ∧
      Hid (∀ x t cs, x ≠ g → Blk w x t cs → Blk wr x t (updL x (ps.take k) vs cs)) ∧ Hid (T = (vs ++ (readS (n - k) d b).1, (readS (n - k) d b).2))) (fun i _ => n - (intOf i).toNat)
  case atStart => exact ⟨0, data, bad, [], Nat.zero_le _, rfl, hl, hr, Below.refl _ _, rfl, Lib.hid rfl, Lib.hid (fun _ => rfl), Lib.hid (fun x t cs _ h => by simpa [updL] using h), Lib.hid (by rw [HT.out]; simp)⟩
  case round =>
    obtain ⟨k, d, b, vs, hk, rfl, hdl, hrd, hb, hc0, hvl, hcn, hbk, hst⟩ := hrel
    clear hc0
    by_cases hlt : k < n
    · obtain ⟨p, hp⟩ := get_of_lt (l := ps) (k := k) (by rw [← HN.out]; exact hlt)
      obtain ⟨p1, p2, p3, t, cs, p4, p5⟩ := HP.out p (List.mem_of_getElem? hp)
      have cp := (hcn.out k).trans (HC.out k p hp)
      have HNum := Lib.hid (number_any g d b wr hdl hrd)
      obtain ⟨pb, po⟩ := p
      dsimp only at *
      go_wp2_with fail
      refine HNum.out.mono ?_
      rintro e w2 ⟨rfl, hr2, hg2⟩
      have hbk2 : Blk w2 pb t (updL pb (ps.take k) vs cs) := (hg2.block pb ((hbk.out pb t cs p1 p4).lt) (by intro e; injection e with e; exact p1 e)).trans (hbk.out pb t cs p1 p4)
      obtain ⟨u, hu⟩ := cell_some hbk2 (by rw [updL_length]; exact p5)
      have hfz := hbk2.frozen po
      have hsz := hb.size
      have hnw : nb < wr.heap.size := by
        rcases Nat.lt_or_ge nb wr.heap.size with h | h
        · exact h
        · exfalso
          have h2 := cp
          unfold World.cell? at h2
          rw [show (⟨nb, k, none⟩ : Addr).block = nb from rfl, Array.getElem?_eq_none h] at h2
          cases h2
      have N1 : Hid (∀ j, (w2.setCell ⟨pb, po, none⟩ (.int .i64 ((numS 5 d b).1 : Nat))).cell? ⟨nb, j, none⟩ = w.cell? ⟨nb, j, none⟩) := Lib.hid fun j =>
        (World.cell?_setCell_other w2 ⟨pb, po, none⟩ ⟨nb, j, none⟩ _ (fun e => p2 (congrArg Addr.block e))).trans ((World.cell?_of_block (hg2.block nb hnw (by intro e; injection e with e; exact hnb e))).trans (hcn.out j))
      have N2 : Hid (∀ x t cs, x ≠ g → Blk w x t cs → Blk (w2.setCell ⟨pb, po, none⟩ (.int .i64 ((numS 5 d b).1 : Nat))) x t (updL x (ps.take (k + 1)) (vs ++ [(numS 5 d b).1]) cs)) := Lib.hid fun x t cs hx hblk => by
        have h1 := hbk.out x t cs hx hblk
        have h2 : Blk w2 x t (updL x (ps.take k) vs cs) := (hg2.block x h1.lt (by intro e; injection e with e; exact hx e)).trans h1
        have e1 : ps.take (k + 1) = ps.take k ++ [(pb, po)] := by
          rw [List.take_succ_eq_append_getElem (by rw [← HN.out]; exact hlt), (List.getElem?_eq_some_iff.1 hp).2]
        rw [e1, updL_snoc _ _ _ _ _ _ (by rw [hvl.out, List.length_take, ← HN.out]; omega)]
        dsimp only
        by_cases hx2 : pb = x
        · subst hx2
          rw [if_pos rfl]
          exact h2.set_ po _
        · rw [if_neg hx2]
          exact h2.far (p := ⟨pb, po, none⟩) (fun e => hx2 e.symm) _
      have N3 : Rdr (w2.setCell ⟨pb, po, none⟩ (.int .i64 ((numS 5 d b).1 : Nat))) g 67 (numS 5 d b).2.1 (numS 5 d b).2.2 := hr2.far (p := ⟨pb, po, none⟩) (fun e => p1 e.symm) _
      have N4 : Below B w (w2.setCell ⟨pb, po, none⟩ (.int .i64 ((numS 5 d b).1 : Nat))) := (hb.grown hg2 (by omega) (by intro j hj; injection hj with hj; omega)).setCell (p := ⟨pb, po, none⟩) p3 _
      have N5 : Hid (T = ((vs ++ [(numS 5 d b).1]) ++ (readS (n - (k + 1)) (numS 5 d b).2.1 (numS 5 d b).2.2).1, (readS (n - (k + 1)) (numS 5 d b).2.1 (numS 5 d b).2.2).2)) := Lib.hid (by
        rw [hst.out, show n - k = (n - (k + 1)) + 1 by omega]
        simp [readS])
      have N6 := numS_len 5 d b
      have N7 := N1.out 0
      have N8 : Hid ((vs ++ [(numS 5 d b).1]).length = k + 1) := Lib.hid (by simp [hvl.out])
      clear hbk2 hr2 hrd hb hcn hbk hst HNum cp hg2
      generalize numS 5 d b = q at *
      obtain ⟨q1, q2, q3⟩ := q
      dsimp only at *
      have N7' := Lib.hid N7
      clear N7
      go_wp2_with fail
      go_roundw
      case rel => exact ⟨k + 1, q2, q3, vs ++ [q1], by omega, by go_num, by omega, N3, N4, N7'.out, N8, N1, N2, N5⟩
      case measure => simp [intOf]; omega
    · have hkn : k = n := by omega
      subst hkn
      have hT : T = (vs, d, b) := by rw [hst.out]; simp [readS]
      have hT' := Lib.hid hT
      clear hT hst
      have hfin : Hid (∀ x t cs, x ≠ g → Blk w x t cs → Blk wr x t (updL x ps T.1 cs)) := Lib.hid fun x t cs hx h => by
        have := hbk.out x t cs hx h
        rw [List.take_of_length_le (by rw [← HN.out]; exact Nat.le_refl _)] at this
        rw [hT'.out]
        exact this
      go_wp2_with fail
      go_end0
      exact ⟨rfl, by rw [hT'.out]; exact hrd, hfin.out, hb⟩

end Go.Proofs.Ytllakkepphpfmaa

/- Walk: Decode of the reference. -/
import Derived.Test.YtllakkepphpfmaaRnum
import Derived.Test.YtllakkepphpfmaaRcheck
import Derived.Test.YtllakkepphpfmaaCut
namespace Go.Proofs.Ytllakkepphpfmaa
open Go.RowKit
open Rc
namespace Rc

def readR : Nat → List UInt8 → Bool → List Nat × List UInt8 × Bool
  | 0, d, b => ([], d, b)
  | k + 1, d, b => ((numR d b).1 :: (readR k (numR d b).2.1 (numR d b).2.2).1, (readR k (numR d b).2.1 (numR d b).2.2).2)
def attsR : Nat → Nat → List UInt8 → Bool → List Att × List UInt8 × Bool
  | 0, _, d, b => ([], d, b)
  | n + 1, at_, d, b => if b then ([], d, b) else
      (mkA at_ (readR 8 d b).1 :: (attsR n (at_ + nat8 (readR 8 d b).1 0) (readR 8 d b).2.1 (readR 8 d b).2.2).1, (attsR n (at_ + nat8 (readR 8 d b).1 0) (readR 8 d b).2.1 (readR 8 d b).2.2).2)
def dlvsR : Nat → Nat → List UInt8 → Bool → List Dlv × List UInt8 × Bool
  | 0, _, d, b => ([], d, b)
  | n + 1, at_, d, b => if b then ([], d, b) else
      (mkD at_ (readR 3 d b).1 :: (dlvsR n (at_ + nat8 (readR 3 d b).1 0) (readR 3 d b).2.1 (readR 3 d b).2.2).1, (dlvsR n (at_ + nat8 (readR 3 d b).1 0) (readR 3 d b).2.1 (readR 3 d b).2.2).2)
def decR (data : List UInt8) : Dec :=
  let h := readR 2 data false
  let a := attsR (nat8 h.1 1) 0 h.2.1 h.2.2
  let m := readR 1 a.2.1 a.2.2
  let q := dlvsR (nat8 m.1 0) 0 m.2.1 m.2.2
  ⟨⟨(nat8 h.1 0 : Nat), a.1, q.1⟩, q.2.1, q.2.2⟩
def rdecOk (data : List UInt8) : Bool := !(decR data).bad && ((decR data).d.isEmpty && goodR (decR data).r)

theorem numR_lt (data : List UInt8) (bad : Bool) : (numR data bad).1 < 268435456 := by
  unfold numR
  split
  · rename_i n b l h
    have := (numF_lt 4 0 0 data n b l h (by simp)).1
    simpa using this
  · simp
theorem numR_len (data : List UInt8) (bad : Bool) : (numR data bad).2.1.length ≤ data.length := by
  unfold numR
  split
  · rename_i n b l h
    have := (numF_lt 4 0 0 data n b l h (by simp)).2
    simp; omega
  · simp
theorem numR_len_lt (data : List UInt8) (bad : Bool) (h : (numR data bad).2.2 = false) : (numR data bad).2.1.length < data.length ∧ bad = false := by
  unfold numR at h ⊢
  split at h
  · rename_i n b l hn
    have := (numF_lt 4 0 0 data n b l hn (by simp)).2
    simp only [Bool.or_eq_false_iff] at h
    exact ⟨this, h.1⟩
  · simp at h
end Rc
/-- One number: what it is, and what is left. -/
theorem numR_get (d : List UInt8) (b : Bool) : ∃ v d' b', numR d b = (v, d', b') ∧ v < 268435456 ∧ d'.length ≤ d.length ∧ (b' = false → d'.length < d.length ∧ b = false) := by
  refine ⟨(numR d b).1, (numR d b).2.1, (numR d b).2.2, rfl, numR_lt _ _, numR_len _ _, numR_len_lt _ _⟩

/-- A call of number, met: the other blocks stay. -/
theorem rnumber_met {g N v : Nat} {d d' : List UInt8} {b b' : Bool} {w : World} (hl : d.length ≤ 1000000) (hr : Rdr w g 72 d b) (he : numR d b = (v, d', b')) (hN : N ≤ g) :
    Calls Try.prog 39 #[.pointer (some ⟨g, 0, none⟩)] w fun e w' => e = .returned (.int .i64 (v : Nat)) ∧ Rdr w' g 72 d' b' ∧ (∀ h t cs, h ≠ g → Blk w h t cs → Blk w' h t cs) ∧ Below N w w' ∧ w.heap.size ≤ w'.heap.size := by
  refine (rnumber_any g d b w hl hr).mono ?_
  rw [he]
  rintro e w' ⟨rfl, h1, h2⟩
  exact ⟨rfl, h1, fun h t cs hne hb => hb.grown_ h2 (by intro e; injection e with e; exact hne e), (Below.refl _ _).grown h2 (by have := hr.lt; omega) (by intro k hk; injection hk with hk; omega), h2.size⟩

def RDecPost (data : List UInt8) (w : World) (e : Ending) (w' : World) : Prop :=
  Below w.heap.size w w' ∧ (if rdecOk data = true then ∃ A D ca cd, e = .returned (.tuple #[.agg #[.int .i64 (decR data).r.slots, .slice A (decR data).r.al.length ca, .slice D (decR data).r.dl.length cd], .int .i64 0]) ∧ LiesA w' w'.heap.size A (decR data).r.al ∧ LiesD w' w'.heap.size D (decR data).r.dl
    else e = .returned (.tuple #[.agg #[.int .i64 0, .slice none 0 0, .slice none 0 0], .int .i64 10]))

set_option maxRecDepth 100000 in
set_option maxHeartbeats 8000000 in
theorem rdecode_any (data : List UInt8) (w : World) (hl : data.length ≤ 100000) : Calls Try.prog 12 #[.string ⟨data.toArray⟩] w (RDecPost data w) := by
  go_enter Try.func12, Try.ntmps12
  go_wp2_with fail
  generalize hW0 : World.alloc _ _ = W0
  have bO : Blk W0 w.heap.size 28 [.int .i64 0, .slice none 0 0, .slice none 0 0] := by rw [← hW0]; exact (Blk.new' _ [.int .i64 0, .slice none 0 0, .slice none 0 0] (by simp)).alloc _
  have bi : Rdr W0 (w.heap.size + 1) 72 data false := by rw [← hW0]; exact Blk.new' _ [.string ⟨data.toArray⟩, .bool false] (by simp)
  have hb0 : Below w.heap.size w W0 := by rw [← hW0]; exact ((Below.refl _ _).alloc (Nat.le_refl _) _).alloc (by simp) _
  clear hW0
  obtain ⟨N, hN⟩ : ∃ N, N = w.heap.size := ⟨_, rfl⟩
  rw [← hN] at bO bi hb0 ⊢
  have HN := Lib.hid hN
  clear hN
  -- Slots
  obtain ⟨v0, d1, b1, e0, l0, m0, f0⟩ := numR_get data false
  refine (rnumber_met (N := N) (by omega) bi e0 (by omega)).mono ?_
  rintro e w1 ⟨rfl, i1, k1, hb1, z1⟩
  have bO1 := k1 _ _ _ (by omega) bO
  have hbw1 : Below N w w1 := hb0.trans hb1
  have E0 := Lib.hid e0
  clear bO bi k1 hb0 hb1 e0
  go_wp2_with fail
  generalize hW2 : World.alloc _ _ = W2
  obtain ⟨X, hX⟩ : ∃ X, X = w1.heap.size := ⟨_, rfl⟩
  have hNX : N + 1 < X := by rw [hX]; exact i1.lt
  have bX : Blk W2 X 28 [.int .i64 (v0 : Nat), .slice none 0 0, .slice none 0 0] := by rw [← hW2]; exact Blk.new' _ [.int .i64 (v0 : Nat), .slice none 0 0, .slice none 0 0] hX
  have bO2 : Blk W2 N 28 [.int .i64 0, .slice none 0 0, .slice none 0 0] := by rw [← hW2]; exact bO1.alloc _
  have i2 : Rdr W2 (N + 1) 72 d1 b1 := by rw [← hW2]; exact Blk.alloc i1 _
  have hb2 : Below N w W2 := by rw [← hW2]; exact hbw1.alloc (by omega) _
  rw [← hX]
  clear hW2 bO1 i1 hbw1 hX z1
  -- the number of attempts
  obtain ⟨v1, d2, b2, e1, l1, m1, f1⟩ := numR_get d1 b1
  refine (rnumber_met (N := N) (by omega) i2 e1 (by omega)).mono ?_
  rintro e w3 ⟨rfl, i3, k3, hb3, z3⟩
  have bO3 := k3 _ _ _ (by omega) bO2
  have bX3 := k3 _ _ _ (by omega) bX
  have hbw3 : Below N w w3 := hb2.trans hb3
  have E1 := Lib.hid e1
  clear bO2 bX i2 k3 hb2 hb3 e1 z3
  obtain ⟨M, hM⟩ : ∃ M, M = w3.heap.size := ⟨_, rfl⟩
  have hXM : X < M := by rw [hM]; exact bX3.lt
  obtain ⟨T, hT⟩ : ∃ T, T = attsR v1 0 d2 b2 := ⟨_, rfl⟩
  have HT := Lib.hid hT
  obtain ⟨i0, hi, hz0, hz1, hz2⟩ := info_parts Try.infoAtt
  have HI := Lib.hid (And.intro hi (And.intro hz0 (And.intro hz1 hz2)))
  obtain ⟨Out, hOut⟩ : ∃ Out : World → Prop, Out = fun W => ∃ (d : List UInt8) (b : Bool) (acc : List Att) (va : Value), d.length ≤ data.length ∧ acc.length ≤ data.length + 1 ∧ Blk W N 28 [.int .i64 0, .slice none 0 0, .slice none 0 0] ∧ Rdr W (N + 1) 72 d b ∧
      Blk W X 28 [.int .i64 (v0 : Nat), va, .slice none 0 0] ∧ W.ownsRow M 45 8 va acc.length (flatA acc) ∧ Below N w W ∧ M ≤ W.heap.size ∧ Hid (T = (acc, d, b)) := ⟨_, rfl⟩
  have HOut := Lib.hid hOut
  obtain ⟨Rel, hRel⟩ : ∃ Rel : Nat → Value → World → Prop, Rel = fun k s7 W => ∃ (at_ : Nat) (d : List UInt8) (b : Bool) (acc : List Att) (va : Value), s7 = .int .i64 (at_ : Nat) ∧ acc.length = k ∧ at_ ≤ 268435456 * k ∧ k ≤ data.length + 1 ∧ d.length ≤ data.length ∧ (b = false → k + d.length ≤ data.length) ∧
      Blk W N 28 [.int .i64 0, .slice none 0 0, .slice none 0 0] ∧ Rdr W (N + 1) 72 d b ∧ Blk W X 28 [.int .i64 (v0 : Nat), va, .slice none 0 0] ∧ W.ownsRow M 45 8 va acc.length (flatA acc) ∧ Below N w W ∧ M ≤ W.heap.size ∧
      Hid (T = (acc ++ (attsR (v1 - k) at_ d b).1, (attsR (v1 - k) at_ d b).2)) := ⟨_, rfl⟩
  have HRel := Lib.hid hRel
  have hst0 : Rel 0 (.int .i64 (0 : Nat)) w3 := by
    rw [hRel]
    exact ⟨0, d2, b2, [], _, rfl, rfl, by omega, by omega, by omega, fun _ => by omega, bO3, i3, bX3, World.ownsRow_nil _ _ _ _, hbw3, by rw [hM]; exact Nat.le_refl _, Lib.hid (by rw [hT]; simp)⟩
  clear bO3 bX3 i3 hbw3 hT hi hz0 hz1 hz2 hOut hRel f0 f1 hM
  go_upto_block 0 with fail
  go_cut [] (fun W => Out W)
  case first =>
    go_wp2_with fail
    go_loopw [7, 8] (fun s7 i wr => ∃ (k : Nat), k ≤ v1 ∧ i = .int .i64 k ∧ Rel k s7 wr) (fun _ i _ => v1 - (intOf i).toNat)
    case atStart => exact ⟨0, Nat.zero_le _, rfl, hst0⟩
    case round =>
      clear hst0
      obtain ⟨k, hk, rfl, hrel⟩ := hrel
      rw [HRel.out] at hrel
      obtain ⟨at_, d, b, acc, va, rfl, hacc, hat, hkl, hdl, hbk, bO, ri, bX, hown, hb, hMw, hst⟩ := hrel
      have cb := ri.row 1
      simp only [List.getElem?_cons_zero, List.getElem?_cons_succ] at cb
      by_cases hgo : k < v1 ∧ b = false
      · obtain ⟨hlt, rfl⟩ := hgo
        have hbk' := hbk rfl
        have HACC := Lib.hid hacc
        clear hbk hacc
        have hvl : ∀ g, va.ownBlock = some g → M ≤ g ∧ g < wr.heap.size := hown.lt
        have HV := Lib.hid hvl
        clear hvl
        obtain ⟨u0, dd1, bb1, n0, q0, p0, x0⟩ := numR_get d false
        go_wp2_with fail
        refine (rnumber_met (N := N) (by omega) ri n0 (by omega)).mono ?_
        rintro e y1 ⟨rfl, r1, kk1, hy1, zz1⟩
        have O1 : y1.ownsRow M 45 8 va acc.length (flatA acc) := own_kept hown fun g cs hg h => kk1 g _ cs (by have := HV.out g hg; omega) h
        have bO1 := kk1 _ _ _ (by omega) bO
        have bX1 := kk1 _ _ _ (by omega) bX
        have hby : Below N w y1 := hb.trans hy1
        have N0 := Lib.hid n0
        clear bO bX ri hown kk1 hy1 n0 cb hb
        have hz1 : M ≤ y1.heap.size := by omega
        go_wp2_with fail
        generalize hWa : World.alloc _ _ = Wa
        obtain ⟨G, hG⟩ : ∃ G, G = y1.heap.size := ⟨_, rfl⟩
        rw [← hG] at hz1 ⊢
        have a1 : Blk Wa G 45 [.int .i64 ((at_ : Int) + (u0 : Int)), .int .i64 0, .int .i64 0, .int .i64 0, .int .i64 0, .int .i64 0, .int .i64 0, .int .i64 0] := by rw [← hWa]; exact Blk.new' _ [.int .i64 ((at_ : Int) + (u0 : Int)), .int .i64 0, .int .i64 0, .int .i64 0, .int .i64 0, .int .i64 0, .int .i64 0, .int .i64 0] hG
        have r1' : Rdr Wa (N + 1) 72 dd1 bb1 := by rw [← hWa]; exact Blk.alloc r1 _
        have bO1' : Blk Wa N 28 [.int .i64 0, .slice none 0 0, .slice none 0 0] := by rw [← hWa]; exact bO1.alloc _
        have bX1' : Blk Wa X 28 [.int .i64 (v0 : Nat), va, .slice none 0 0] := by rw [← hWa]; exact bX1.alloc _
        have O1' : Wa.ownsRow M 45 8 va acc.length (flatA acc) := by rw [← hWa]; exact O1.alloc _
        have hba : Below N w Wa := by rw [← hWa]; exact hby.alloc (by omega) _
        have hVG : ∀ g, va.ownBlock = some g → M ≤ g ∧ g < G := by rw [hG]; exact O1.lt
        have HVG := Lib.hid hVG
        have hGs : G < Wa.heap.size := a1.lt
        clear hWa r1 bO1 bX1 O1 hby hG hVG HV hMw zz1
        obtain ⟨u1, dd2, bb2, n1, q1, p1, x1⟩ := numR_get dd1 bb1
        refine (rnumber_met (N := N) (by omega) r1' n1 (by omega)).mono ?_
        rintro e y2 ⟨rfl, r2, kk2, hy2, zz2⟩
        have a1' := kk2 _ _ _ (by omega) a1
        have O2 : y2.ownsRow M 45 8 va acc.length (flatA acc) := own_kept O1' fun g cs hg h => kk2 g _ cs (by have := HVG.out g hg; omega) h
        have bO2 := kk2 _ _ _ (by omega) bO1'
        have bX2 := kk2 _ _ _ (by omega) bX1'
        have hby2 : Below N w y2 := hba.trans hy2
        have N1 := Lib.hid n1
        have ca1 := a1'.row
        have fa1 := a1'.frozen
        unfold Row at ca1
        have a2 : Blk (y2.setCell ⟨G, 1, none⟩ (.int .i64 (u1 : Nat))) G 45 [.int .i64 ((at_ : Int) + (u0 : Int)), .int .i64 (u1 : Nat), .int .i64 0, .int .i64 0, .int .i64 0, .int .i64 0, .int .i64 0, .int .i64 0] := a1'.set_ 1 _
        have r2' : Rdr (y2.setCell ⟨G, 1, none⟩ (.int .i64 (u1 : Nat))) (N + 1) 72 dd2 bb2 := Blk.far r2 (p := ⟨G, 1, none⟩) (by dsimp only; omega) _
        have bO2' := bO2.far (p := ⟨G, 1, none⟩) (by dsimp only; omega) (.int .i64 (u1 : Nat))
        have bX2' := bX2.far (p := ⟨G, 1, none⟩) (by dsimp only; omega) (.int .i64 (u1 : Nat))
        have O2' : (y2.setCell ⟨G, 1, none⟩ (.int .i64 (u1 : Nat))).ownsRow M 45 8 va acc.length (flatA acc) := own_kept O2 fun g cs hg h => h.far (p := ⟨G, 1, none⟩) (by have := HVG.out g hg; dsimp only; omega) _
        have hbs2 : Below N w (y2.setCell ⟨G, 1, none⟩ (.int .i64 (u1 : Nat))) := hby2.setCell (p := ⟨G, 1, none⟩) (by dsimp only; omega) _
        have Z := Lib.hid (And.intro a2 (And.intro r2' (And.intro bO2' (And.intro bX2' (And.intro O2' hbs2)))))
        clear a1 r1' bO1' bX1' O1' hba kk2 hy2 n1 O2 bO2 bX2 hby2 a1' zz2 a2 r2' bO2' bX2' O2' hbs2 r2
        go_wp2_with fail
        generalize hWs : World.setCell _ _ _ = Ws1 at Z ⊢
        obtain ⟨a2, r2', bO2', bX2', O2', hbs2⟩ := Z.out
        clear Z hWs ca1 fa1
        obtain ⟨u2, dd3, bb3, n2, q2, p2, x2⟩ := numR_get dd2 bb2
        refine (rnumber_met (N := N) (by omega) r2' n2 (by omega)).mono ?_
        rintro e y3 ⟨rfl, r3, kk3, hy3, zz3⟩
        have a2' := kk3 _ _ _ (by omega) a2
        have O3 : y3.ownsRow M 45 8 va acc.length (flatA acc) := own_kept O2' fun g cs hg h => kk3 g _ cs (by have := HVG.out g hg; omega) h
        have bO3 := kk3 _ _ _ (by omega) bO2'
        have bX3 := kk3 _ _ _ (by omega) bX2'
        have hby3 : Below N w y3 := hbs2.trans hy3
        have N2 := Lib.hid n2
        have ca2 := a2'.row
        have fa2 := a2'.frozen
        unfold Row at ca2
        have a3 : Blk (y3.setCell ⟨G, 2, none⟩ (.int .i64 (u2 : Nat))) G 45 [.int .i64 ((at_ : Int) + (u0 : Int)), .int .i64 (u1 : Nat), .int .i64 (u2 : Nat), .int .i64 0, .int .i64 0, .int .i64 0, .int .i64 0, .int .i64 0] := a2'.set_ 2 _
        have r3' : Rdr (y3.setCell ⟨G, 2, none⟩ (.int .i64 (u2 : Nat))) (N + 1) 72 dd3 bb3 := Blk.far r3 (p := ⟨G, 2, none⟩) (by dsimp only; omega) _
        have bO3' := bO3.far (p := ⟨G, 2, none⟩) (by dsimp only; omega) (.int .i64 (u2 : Nat))
        have bX3' := bX3.far (p := ⟨G, 2, none⟩) (by dsimp only; omega) (.int .i64 (u2 : Nat))
        have O3' : (y3.setCell ⟨G, 2, none⟩ (.int .i64 (u2 : Nat))).ownsRow M 45 8 va acc.length (flatA acc) := own_kept O3 fun g cs hg h => h.far (p := ⟨G, 2, none⟩) (by have := HVG.out g hg; dsimp only; omega) _
        have hbs3 : Below N w (y3.setCell ⟨G, 2, none⟩ (.int .i64 (u2 : Nat))) := hby3.setCell (p := ⟨G, 2, none⟩) (by dsimp only; omega) _
        have Z := Lib.hid (And.intro a3 (And.intro r3' (And.intro bO3' (And.intro bX3' (And.intro O3' hbs3)))))
        clear a2 r2' bO2' bX2' O2' hbs2 kk3 hy3 n2 O3 bO3 bX3 hby3 a2' zz3 a3 r3' bO3' bX3' O3' hbs3 r3
        go_wp2_with fail
        generalize hWs : World.setCell _ _ _ = Ws2 at Z ⊢
        obtain ⟨a3, r3', bO3', bX3', O3', hbs3⟩ := Z.out
        clear Z hWs ca2 fa2
        obtain ⟨u3, dd4, bb4, n3, q3, p3, x3⟩ := numR_get dd3 bb3
        refine (rnumber_met (N := N) (by omega) r3' n3 (by omega)).mono ?_
        rintro e y4 ⟨rfl, r4, kk4, hy4, zz4⟩
        have a3' := kk4 _ _ _ (by omega) a3
        have O4 : y4.ownsRow M 45 8 va acc.length (flatA acc) := own_kept O3' fun g cs hg h => kk4 g _ cs (by have := HVG.out g hg; omega) h
        have bO4 := kk4 _ _ _ (by omega) bO3'
        have bX4 := kk4 _ _ _ (by omega) bX3'
        have hby4 : Below N w y4 := hbs3.trans hy4
        have N3 := Lib.hid n3
        have ca3 := a3'.row
        have fa3 := a3'.frozen
        unfold Row at ca3
        have a4 : Blk (y4.setCell ⟨G, 3, none⟩ (.int .i64 (u3 : Nat))) G 45 [.int .i64 ((at_ : Int) + (u0 : Int)), .int .i64 (u1 : Nat), .int .i64 (u2 : Nat), .int .i64 (u3 : Nat), .int .i64 0, .int .i64 0, .int .i64 0, .int .i64 0] := a3'.set_ 3 _
        have r4' : Rdr (y4.setCell ⟨G, 3, none⟩ (.int .i64 (u3 : Nat))) (N + 1) 72 dd4 bb4 := Blk.far r4 (p := ⟨G, 3, none⟩) (by dsimp only; omega) _
        have bO4' := bO4.far (p := ⟨G, 3, none⟩) (by dsimp only; omega) (.int .i64 (u3 : Nat))
        have bX4' := bX4.far (p := ⟨G, 3, none⟩) (by dsimp only; omega) (.int .i64 (u3 : Nat))
        have O4' : (y4.setCell ⟨G, 3, none⟩ (.int .i64 (u3 : Nat))).ownsRow M 45 8 va acc.length (flatA acc) := own_kept O4 fun g cs hg h => h.far (p := ⟨G, 3, none⟩) (by have := HVG.out g hg; dsimp only; omega) _
        have hbs4 : Below N w (y4.setCell ⟨G, 3, none⟩ (.int .i64 (u3 : Nat))) := hby4.setCell (p := ⟨G, 3, none⟩) (by dsimp only; omega) _
        have Z := Lib.hid (And.intro a4 (And.intro r4' (And.intro bO4' (And.intro bX4' (And.intro O4' hbs4)))))
        clear a3 r3' bO3' bX3' O3' hbs3 kk4 hy4 n3 O4 bO4 bX4 hby4 a3' zz4 a4 r4' bO4' bX4' O4' hbs4 r4
        go_wp2_with fail
        generalize hWs : World.setCell _ _ _ = Ws3 at Z ⊢
        obtain ⟨a4, r4', bO4', bX4', O4', hbs4⟩ := Z.out
        clear Z hWs ca3 fa3
        obtain ⟨u4, dd5, bb5, n4, q4, p4, x4⟩ := numR_get dd4 bb4
        refine (rnumber_met (N := N) (by omega) r4' n4 (by omega)).mono ?_
        rintro e y5 ⟨rfl, r5, kk5, hy5, zz5⟩
        have a4' := kk5 _ _ _ (by omega) a4
        have O5 : y5.ownsRow M 45 8 va acc.length (flatA acc) := own_kept O4' fun g cs hg h => kk5 g _ cs (by have := HVG.out g hg; omega) h
        have bO5 := kk5 _ _ _ (by omega) bO4'
        have bX5 := kk5 _ _ _ (by omega) bX4'
        have hby5 : Below N w y5 := hbs4.trans hy5
        have N4 := Lib.hid n4
        have ca4 := a4'.row
        have fa4 := a4'.frozen
        unfold Row at ca4
        have a5 : Blk (y5.setCell ⟨G, 4, none⟩ (.int .i64 (u4 : Nat))) G 45 [.int .i64 ((at_ : Int) + (u0 : Int)), .int .i64 (u1 : Nat), .int .i64 (u2 : Nat), .int .i64 (u3 : Nat), .int .i64 (u4 : Nat), .int .i64 0, .int .i64 0, .int .i64 0] := a4'.set_ 4 _
        have r5' : Rdr (y5.setCell ⟨G, 4, none⟩ (.int .i64 (u4 : Nat))) (N + 1) 72 dd5 bb5 := Blk.far r5 (p := ⟨G, 4, none⟩) (by dsimp only; omega) _
        have bO5' := bO5.far (p := ⟨G, 4, none⟩) (by dsimp only; omega) (.int .i64 (u4 : Nat))
        have bX5' := bX5.far (p := ⟨G, 4, none⟩) (by dsimp only; omega) (.int .i64 (u4 : Nat))
        have O5' : (y5.setCell ⟨G, 4, none⟩ (.int .i64 (u4 : Nat))).ownsRow M 45 8 va acc.length (flatA acc) := own_kept O5 fun g cs hg h => h.far (p := ⟨G, 4, none⟩) (by have := HVG.out g hg; dsimp only; omega) _
        have hbs5 : Below N w (y5.setCell ⟨G, 4, none⟩ (.int .i64 (u4 : Nat))) := hby5.setCell (p := ⟨G, 4, none⟩) (by dsimp only; omega) _
        have Z := Lib.hid (And.intro a5 (And.intro r5' (And.intro bO5' (And.intro bX5' (And.intro O5' hbs5)))))
        clear a4 r4' bO4' bX4' O4' hbs4 kk5 hy5 n4 O5 bO5 bX5 hby5 a4' zz5 a5 r5' bO5' bX5' O5' hbs5 r5
        go_wp2_with fail
        generalize hWs : World.setCell _ _ _ = Ws4 at Z ⊢
        obtain ⟨a5, r5', bO5', bX5', O5', hbs5⟩ := Z.out
        clear Z hWs ca4 fa4
        obtain ⟨u5, dd6, bb6, n5, q5, p5, x5⟩ := numR_get dd5 bb5
        refine (rnumber_met (N := N) (by omega) r5' n5 (by omega)).mono ?_
        rintro e y6 ⟨rfl, r6, kk6, hy6, zz6⟩
        have a5' := kk6 _ _ _ (by omega) a5
        have O6 : y6.ownsRow M 45 8 va acc.length (flatA acc) := own_kept O5' fun g cs hg h => kk6 g _ cs (by have := HVG.out g hg; omega) h
        have bO6 := kk6 _ _ _ (by omega) bO5'
        have bX6 := kk6 _ _ _ (by omega) bX5'
        have hby6 : Below N w y6 := hbs5.trans hy6
        have N5 := Lib.hid n5
        have ca5 := a5'.row
        have fa5 := a5'.frozen
        unfold Row at ca5
        have a6 : Blk (y6.setCell ⟨G, 5, none⟩ (.int .i64 (u5 : Nat))) G 45 [.int .i64 ((at_ : Int) + (u0 : Int)), .int .i64 (u1 : Nat), .int .i64 (u2 : Nat), .int .i64 (u3 : Nat), .int .i64 (u4 : Nat), .int .i64 (u5 : Nat), .int .i64 0, .int .i64 0] := a5'.set_ 5 _
        have r6' : Rdr (y6.setCell ⟨G, 5, none⟩ (.int .i64 (u5 : Nat))) (N + 1) 72 dd6 bb6 := Blk.far r6 (p := ⟨G, 5, none⟩) (by dsimp only; omega) _
        have bO6' := bO6.far (p := ⟨G, 5, none⟩) (by dsimp only; omega) (.int .i64 (u5 : Nat))
        have bX6' := bX6.far (p := ⟨G, 5, none⟩) (by dsimp only; omega) (.int .i64 (u5 : Nat))
        have O6' : (y6.setCell ⟨G, 5, none⟩ (.int .i64 (u5 : Nat))).ownsRow M 45 8 va acc.length (flatA acc) := own_kept O6 fun g cs hg h => h.far (p := ⟨G, 5, none⟩) (by have := HVG.out g hg; dsimp only; omega) _
        have hbs6 : Below N w (y6.setCell ⟨G, 5, none⟩ (.int .i64 (u5 : Nat))) := hby6.setCell (p := ⟨G, 5, none⟩) (by dsimp only; omega) _
        have Z := Lib.hid (And.intro a6 (And.intro r6' (And.intro bO6' (And.intro bX6' (And.intro O6' hbs6)))))
        clear a5 r5' bO5' bX5' O5' hbs5 kk6 hy6 n5 O6 bO6 bX6 hby6 a5' zz6 a6 r6' bO6' bX6' O6' hbs6 r6
        go_wp2_with fail
        generalize hWs : World.setCell _ _ _ = Ws5 at Z ⊢
        obtain ⟨a6, r6', bO6', bX6', O6', hbs6⟩ := Z.out
        clear Z hWs ca5 fa5
        obtain ⟨u6, dd7, bb7, n6, q6, p6, x6⟩ := numR_get dd6 bb6
        refine (rnumber_met (N := N) (by omega) r6' n6 (by omega)).mono ?_
        rintro e y7 ⟨rfl, r7, kk7, hy7, zz7⟩
        have a6' := kk7 _ _ _ (by omega) a6
        have O7 : y7.ownsRow M 45 8 va acc.length (flatA acc) := own_kept O6' fun g cs hg h => kk7 g _ cs (by have := HVG.out g hg; omega) h
        have bO7 := kk7 _ _ _ (by omega) bO6'
        have bX7 := kk7 _ _ _ (by omega) bX6'
        have hby7 : Below N w y7 := hbs6.trans hy7
        have N6 := Lib.hid n6
        have ca6 := a6'.row
        have fa6 := a6'.frozen
        unfold Row at ca6
        have a7 : Blk (y7.setCell ⟨G, 6, none⟩ (.int .i64 (u6 : Nat))) G 45 [.int .i64 ((at_ : Int) + (u0 : Int)), .int .i64 (u1 : Nat), .int .i64 (u2 : Nat), .int .i64 (u3 : Nat), .int .i64 (u4 : Nat), .int .i64 (u5 : Nat), .int .i64 (u6 : Nat), .int .i64 0] := a6'.set_ 6 _
        have r7' : Rdr (y7.setCell ⟨G, 6, none⟩ (.int .i64 (u6 : Nat))) (N + 1) 72 dd7 bb7 := Blk.far r7 (p := ⟨G, 6, none⟩) (by dsimp only; omega) _
        have bO7' := bO7.far (p := ⟨G, 6, none⟩) (by dsimp only; omega) (.int .i64 (u6 : Nat))
        have bX7' := bX7.far (p := ⟨G, 6, none⟩) (by dsimp only; omega) (.int .i64 (u6 : Nat))
        have O7' : (y7.setCell ⟨G, 6, none⟩ (.int .i64 (u6 : Nat))).ownsRow M 45 8 va acc.length (flatA acc) := own_kept O7 fun g cs hg h => h.far (p := ⟨G, 6, none⟩) (by have := HVG.out g hg; dsimp only; omega) _
        have hbs7 : Below N w (y7.setCell ⟨G, 6, none⟩ (.int .i64 (u6 : Nat))) := hby7.setCell (p := ⟨G, 6, none⟩) (by dsimp only; omega) _
        have Z := Lib.hid (And.intro a7 (And.intro r7' (And.intro bO7' (And.intro bX7' (And.intro O7' hbs7)))))
        clear a6 r6' bO6' bX6' O6' hbs6 kk7 hy7 n6 O7 bO7 bX7 hby7 a6' zz7 a7 r7' bO7' bX7' O7' hbs7 r7
        go_wp2_with fail
        generalize hWs : World.setCell _ _ _ = Ws6 at Z ⊢
        obtain ⟨a7, r7', bO7', bX7', O7', hbs7⟩ := Z.out
        clear Z hWs ca6 fa6
        obtain ⟨u7, dd8, bb8, n7, q7, p7, x7⟩ := numR_get dd7 bb7
        refine (rnumber_met (N := N) (by omega) r7' n7 (by omega)).mono ?_
        rintro e y8 ⟨rfl, r8, kk8, hy8, zz8⟩
        have a7' := kk8 _ _ _ (by omega) a7
        have O8 : y8.ownsRow M 45 8 va acc.length (flatA acc) := own_kept O7' fun g cs hg h => kk8 g _ cs (by have := HVG.out g hg; omega) h
        have bO8 := kk8 _ _ _ (by omega) bO7'
        have bX8 := kk8 _ _ _ (by omega) bX7'
        have hby8 : Below N w y8 := hbs7.trans hy8
        have N7 := Lib.hid n7
        have ca7 := a7'.row
        have fa7 := a7'.frozen
        unfold Row at ca7
        have a8 : Blk (y8.setCell ⟨G, 7, none⟩ (.int .i64 (u7 : Nat))) G 45 [.int .i64 ((at_ : Int) + (u0 : Int)), .int .i64 (u1 : Nat), .int .i64 (u2 : Nat), .int .i64 (u3 : Nat), .int .i64 (u4 : Nat), .int .i64 (u5 : Nat), .int .i64 (u6 : Nat), .int .i64 (u7 : Nat)] := a7'.set_ 7 _
        have r8' : Rdr (y8.setCell ⟨G, 7, none⟩ (.int .i64 (u7 : Nat))) (N + 1) 72 dd8 bb8 := Blk.far r8 (p := ⟨G, 7, none⟩) (by dsimp only; omega) _
        have bO8' := bO8.far (p := ⟨G, 7, none⟩) (by dsimp only; omega) (.int .i64 (u7 : Nat))
        have bX8' := bX8.far (p := ⟨G, 7, none⟩) (by dsimp only; omega) (.int .i64 (u7 : Nat))
        have O8' : (y8.setCell ⟨G, 7, none⟩ (.int .i64 (u7 : Nat))).ownsRow M 45 8 va acc.length (flatA acc) := own_kept O8 fun g cs hg h => h.far (p := ⟨G, 7, none⟩) (by have := HVG.out g hg; dsimp only; omega) _
        have hbs8 : Below N w (y8.setCell ⟨G, 7, none⟩ (.int .i64 (u7 : Nat))) := hby8.setCell (p := ⟨G, 7, none⟩) (by dsimp only; omega) _
        have Z := Lib.hid (And.intro a8 (And.intro r8' (And.intro bO8' (And.intro bX8' (And.intro O8' hbs8)))))
        clear a7 r7' bO7' bX7' O7' hbs7 kk8 hy8 n7 O8 bO8 bX8 hby8 a7' zz8 a8 r8' bO8' bX8' O8' hbs8 r8
        go_upto_region 16 with fail
        generalize hWs : World.setCell _ _ _ = Ws7 at Z ⊢
        obtain ⟨a8, r8', bO8', bX8', O8', hbs8⟩ := Z.out
        clear Z hWs ca7 fa7
        have HO := Lib.hid O8'
        have cA := a8.row
        have cX := bX8'.row
        unfold Row at cA cX
        have hGW : G < Ws7.heap.size := a8.lt
        clear O8'
        go_wp2_with (at_builtin; refine wpList_append_own_at _ rfl (.tmp 67) (.tmp 69) 23 rfl M 45 i0 (.agg #[.int .i64 0, .int .i64 0, .int .i64 0, .int .i64 0, .int .i64 0, .int .i64 0, .int .i64 0, .int .i64 0]) 8 64 Try.underlying23 HI.out.1 HI.out.2.1 HI.out.2.2.1 HI.out.2.2.2 rfl (by decide) va acc.length (flatA acc) rfl (HO.out.alloc _) ⟨Ws7.heap.size, 0, none⟩ 1 1 [.int .i64 ((at_ : Int) + (u0 : Int)), .int .i64 (u1 : Nat), .int .i64 (u2 : Nat), .int .i64 (u3 : Nat), .int .i64 (u4 : Nat), .int .i64 (u5 : Nat), .int .i64 (u6 : Nat), .int .i64 (u7 : Nat)] rfl rfl ?e0 ?e1 ?e2 ?e3 ?e4 ?_)
        case e0 => exact (Blk.new' 45 [.int .i64 ((at_ : Int) + (u0 : Int)), .int .i64 (u1 : Nat), .int .i64 (u2 : Nat), .int .i64 (u3 : Nat), .int .i64 (u4 : Nat), .int .i64 (u5 : Nat), .int .i64 (u6 : Nat), .int .i64 (u7 : Nat)] rfl).news
        case e1 => exact ints_one (l := [((at_ : Int) + (u0 : Int)), (u1 : Nat), (u2 : Nat), (u3 : Nat), (u4 : Nat), (u5 : Nat), (u6 : Nat), (u7 : Nat)])
        case e2 => unfold maxLen; have := HACC.out; omega
        case e3 => have := HACC.out; omega
        case e4 => simp; omega
        intro v3 w3 ho3 hg3 hnil3 hat3
        clear hnil3 hat3
        obtain ⟨A3, c3, hv3⟩ := own_form ho3
        have far : ∀ g t cs, g < M → Blk Ws7 g t cs → Blk w3 g t cs := fun g t cs h1 h => (h.alloc _).grown_ hg3 (by intro e; have := HVG.out g e.symm; omega)
        have bX9 := far _ _ _ (by omega) bX8'
        have cX9 := bX9.row
        have fX9 := bX9.frozen
        unfold Row at cX9
        have hb9 : Below N w w3 := (hbs8.alloc (by omega) _).grown hg3 (by simp; omega) (by intro g hg; have := HVG.out g hg; omega)
        have hz9 : M ≤ w3.heap.size := by have := hg3.size; simp at this; omega
        have E1 : Hid (mkA at_ [u0, u1, u2, u3, u4, u5, u6, u7] = ⟨(at_ : Int) + (u0 : Int), u1, u2, u3, u4, u5, u6, u7⟩) := Lib.hid (by simp [mkA, nat8])
        have h1 : w3.ownsRow M 45 8 v3 (acc ++ [(⟨(at_ : Int) + (u0 : Int), u1, u2, u3, u4, u5, u6, u7⟩ : Att)]).length (flatA (acc ++ [⟨(at_ : Int) + (u0 : Int), u1, u2, u3, u4, u5, u6, u7⟩])) := by simpa [flatA, Att.row] using ho3
        have hrd : readR 8 d false = ([u0, u1, u2, u3, u4, u5, u6, u7], dd8, bb8) := by simp [readR, N0.out, N1.out, N2.out, N3.out, N4.out, N5.out, N6.out, N7.out]
        have hnew : Rel (k + 1) (.int .i64 ((at_ : Int) + (u0 : Int))) (w3.setCell ⟨X, 1, none⟩ v3) := by
          rw [HRel.out]
          exact ⟨at_ + u0, dd8, bb8, acc ++ [⟨(at_ : Int) + (u0 : Int), u1, u2, u3, u4, u5, u6, u7⟩], v3, by go_num, by simp [HACC.out], by omega, by omega, by omega, (fun hb => by have := x7 hb; have := x6 this.2; have := x5 this.2; have := x4 this.2; have := x3 this.2; have := x2 this.2; have := x1 this.2; have := x0 this.2; omega), (far _ _ _ (by omega) bO8').far (p := ⟨X, 1, none⟩) (by dsimp only; omega) _, Blk.far (far _ _ _ (by omega) r8') (p := ⟨X, 1, none⟩) (by dsimp only; omega) _, bX9.set_ 1 _,
            own_kept h1 fun g cs hg h => h.far (p := ⟨X, 1, none⟩) (by have := (h1.lt g hg).1; dsimp only; omega) _, hb9.setCell (p := ⟨X, 1, none⟩) (by dsimp only; omega) _, by simp [World.setCell]; omega, Lib.hid (by
              rw [hst.out, show v1 - k = (v1 - (k + 1)) + 1 by omega]
              simp only [attsR, hrd, Bool.false_eq_true, if_false]
              rw [E1.out]
              simp [nat8])⟩
        clear ho3 hg3 HO far bX9 a8 r8' bO8' bX8' cA cX h1 hrd E1 hst
        subst hv3
        go_wp2_with fail
        go_roundw
        case rel => exact ⟨k + 1, by omega, by go_num, hnew⟩
        case measure => simp [intOf]; omega
      · have hT2 : T = (acc, d, b) := by
          rw [hst.out]
          cases hm : v1 - k with
          | zero => simp [attsR]
          | succ m =>
            have : b = true := by
              cases b with
              | true => rfl
              | false => exact absurd ⟨by omega, rfl⟩ hgo
            subst this
            simp [attsR]
        have hmeet : Out wr := by
          rw [HOut.out]
          exact ⟨d, b, acc, va, hdl, by omega, bO, ri, bX, hown, hb, hMw, Lib.hid hT2⟩
        clear hT2 hst hbk bO ri bX hown hacc
        by_cases hkv : k < v1
        · have hbt : b = true := by
            cases b with
            | true => rfl
            | false => exact absurd ⟨hkv, rfl⟩ hgo
          subst hbt
          go_wp2_with fail
          go_meet
          exact hmeet
        · go_wp2_with fail
          go_meet
          exact hmeet
  case rest =>
    clear hst0
    rw [HOut.out] at hcut
    obtain ⟨d, b, acc, va, hdl, hal, bO, ri, bX, hown, hb, hMw, HT2⟩ := hcut
    obtain ⟨w4, hw4⟩ : ∃ w4 : World, w4 = wc := ⟨_, rfl⟩
    subst hw4
    obtain ⟨v2, d3, b3, e2, l2, m2, f2⟩ := numR_get d b
    go_wp2_with fail
    refine (rnumber_met (N := N) (by omega) ri e2 (by omega)).mono ?_
    rintro e w5 ⟨rfl, i5, k5, hb5, z5⟩
    have bO5 := k5 _ _ _ (by omega) bO
    have bX5 := k5 _ _ _ (by omega) bX
    have hown5 : w5.ownsRow M 45 8 va acc.length (flatA acc) := own_kept hown fun g cs hg h => by
      have := (hown.lt g hg).1
      exact k5 g _ cs (by omega) h
    have hbw5 : Below N w w5 := hb.trans hb5
    have E2 := Lib.hid e2
    clear bO bX ri hown k5 hb hb5 e2
    obtain ⟨P, hP⟩ : ∃ P, P = w5.heap.size := ⟨_, rfl⟩
    have hMP : M ≤ P := by omega
    have hvlt : ∀ g, va.ownBlock = some g → M ≤ g ∧ g < P := by rw [hP]; exact hown5.lt
    have HVA := Lib.hid hvlt
    obtain ⟨U, hU⟩ : ∃ U, U = dlvsR v2 0 d3 b3 := ⟨_, rfl⟩
    have HU := Lib.hid hU
    obtain ⟨j0, ji, jz0, jz1, jz2⟩ := info_parts Try.infoDlv
    have HJ := Lib.hid (And.intro ji (And.intro jz0 (And.intro jz1 jz2)))
    obtain ⟨Out2, hOut2⟩ : ∃ Out2 : World → Prop, Out2 = fun W => ∃ (d : List UInt8) (b : Bool) (ac : List Dlv) (vd : Value), d.length ≤ data.length ∧ ac.length ≤ data.length + 1 ∧ Blk W N 28 [.int .i64 0, .slice none 0 0, .slice none 0 0] ∧ Rdr W (N + 1) 72 d b ∧
        Blk W X 28 [.int .i64 (v0 : Nat), va, vd] ∧ W.ownsRow M 45 8 va acc.length (flatA acc) ∧ W.ownsRow P 62 3 vd ac.length (flatD ac) ∧ Below N w W ∧ P ≤ W.heap.size ∧ Hid (U = (ac, d, b)) := ⟨_, rfl⟩
    have HOut2 := Lib.hid hOut2
    obtain ⟨Rel2, hRel2⟩ : ∃ Rel2 : Nat → Value → World → Prop, Rel2 = fun k s7 W => ∃ (at_ : Nat) (d : List UInt8) (b : Bool) (ac : List Dlv) (vd : Value), s7 = .int .i64 (at_ : Nat) ∧ ac.length = k ∧ at_ ≤ 268435456 * k ∧ k ≤ data.length + 1 ∧ d.length ≤ data.length ∧ (b = false → k + d.length ≤ data.length) ∧
        Blk W N 28 [.int .i64 0, .slice none 0 0, .slice none 0 0] ∧ Rdr W (N + 1) 72 d b ∧ Blk W X 28 [.int .i64 (v0 : Nat), va, vd] ∧ W.ownsRow M 45 8 va acc.length (flatA acc) ∧ W.ownsRow P 62 3 vd ac.length (flatD ac) ∧ Below N w W ∧ P ≤ W.heap.size ∧
        Hid (U = (ac ++ (dlvsR (v2 - k) at_ d b).1, (dlvsR (v2 - k) at_ d b).2)) := ⟨_, rfl⟩
    have HRel2 := Lib.hid hRel2
    have hst0 : Rel2 0 (.int .i64 (0 : Nat)) w5 := by
      rw [hRel2]
      exact ⟨0, d3, b3, [], _, rfl, rfl, by omega, by omega, by omega, fun _ => by omega, bO5, i5, bX5, hown5, World.ownsRow_nil _ _ _ _, hbw5, by rw [hP]; exact Nat.le_refl _, Lib.hid (by rw [hU]; simp)⟩
    clear bO5 bX5 i5 hbw5 hU ji jz0 jz1 jz2 hOut2 hRel2 f2 hP hvlt hown5 HOut HRel z5
    go_upto_block 2 with fail
    go_cut [] (fun W => Out2 W)
    case first =>
      go_wp2_with fail
      go_loopw [7, 10] (fun s7 i wr => ∃ (k : Nat), k ≤ v2 ∧ i = .int .i64 k ∧ Rel2 k s7 wr) (fun _ i _ => v2 - (intOf i).toNat)
      case atStart => exact ⟨0, Nat.zero_le _, rfl, hst0⟩
      case round =>
        clear hst0
        obtain ⟨k, hk, rfl, hrel⟩ := hrel
        rw [HRel2.out] at hrel
        obtain ⟨at_, d, b, ac, vd, rfl, hacc, hat, hkl, hdl, hbk, bO, ri, bX, howna, hown, hb, hMw, hst⟩ := hrel
        have cb := ri.row 1
        simp only [List.getElem?_cons_zero, List.getElem?_cons_succ] at cb
        by_cases hgo : k < v2 ∧ b = false
        · obtain ⟨hlt, rfl⟩ := hgo
          have hbk' := hbk rfl
          have HACC := Lib.hid hacc
          clear hbk hacc
          have hvl : ∀ g, vd.ownBlock = some g → P ≤ g ∧ g < wr.heap.size := hown.lt
          have HV := Lib.hid hvl
          clear hvl
          obtain ⟨u0, dd1, bb1, n0, q0, p0, x0⟩ := numR_get d false
          go_wp2_with fail
          refine (rnumber_met (N := N) (by omega) ri n0 (by omega)).mono ?_
          rintro e y1 ⟨rfl, r1, kk1, hy1, zz1⟩
          have O1 : y1.ownsRow P 62 3 vd ac.length (flatD ac) := own_kept hown fun g cs hg h => kk1 g _ cs (by have := HV.out g hg; omega) h
          have OA1 : y1.ownsRow M 45 8 va acc.length (flatA acc) := own_kept howna fun g cs hg h => kk1 g _ cs (by have := HVA.out g hg; omega) h
          have bO1 := kk1 _ _ _ (by omega) bO
          have bX1 := kk1 _ _ _ (by omega) bX
          have hby : Below N w y1 := hb.trans hy1
          have N0 := Lib.hid n0
          clear bO bX ri hown kk1 hy1 n0 cb hb howna
          have hz1 : P ≤ y1.heap.size := by omega
          go_wp2_with fail
          generalize hWa : World.alloc _ _ = Wa
          obtain ⟨G, hG⟩ : ∃ G, G = y1.heap.size := ⟨_, rfl⟩
          rw [← hG] at hz1 ⊢
          have a1 : Blk Wa G 62 [.int .i64 0, .int .i64 0, .int .i64 ((at_ : Int) + (u0 : Int))] := by rw [← hWa]; exact Blk.new' _ [.int .i64 0, .int .i64 0, .int .i64 ((at_ : Int) + (u0 : Int))] hG
          have r1' : Rdr Wa (N + 1) 72 dd1 bb1 := by rw [← hWa]; exact Blk.alloc r1 _
          have bO1' : Blk Wa N 28 [.int .i64 0, .slice none 0 0, .slice none 0 0] := by rw [← hWa]; exact bO1.alloc _
          have bX1' : Blk Wa X 28 [.int .i64 (v0 : Nat), va, vd] := by rw [← hWa]; exact bX1.alloc _
          have O1' : Wa.ownsRow P 62 3 vd ac.length (flatD ac) := by rw [← hWa]; exact O1.alloc _
          have OA1' : Wa.ownsRow M 45 8 va acc.length (flatA acc) := by rw [← hWa]; exact OA1.alloc _
          have hba : Below N w Wa := by rw [← hWa]; exact hby.alloc (by omega) _
          have hVG : ∀ g, vd.ownBlock = some g → P ≤ g ∧ g < G := by rw [hG]; exact O1.lt
          have HVG := Lib.hid hVG
          have hGs : G < Wa.heap.size := a1.lt
          clear hWa r1 bO1 bX1 O1 hby hG hVG HV hMw zz1 OA1
          obtain ⟨u1, dd2, bb2, n1, q1, p1, x1⟩ := numR_get dd1 bb1
          refine (rnumber_met (N := N) (by omega) r1' n1 (by omega)).mono ?_
          rintro e y2 ⟨rfl, r2, kk2, hy2, zz2⟩
          have a1' := kk2 _ _ _ (by omega) a1
          have O2 : y2.ownsRow P 62 3 vd ac.length (flatD ac) := own_kept O1' fun g cs hg h => kk2 g _ cs (by have := HVG.out g hg; omega) h
          have OA2 : y2.ownsRow M 45 8 va acc.length (flatA acc) := own_kept OA1' fun g cs hg h => kk2 g _ cs (by have := HVA.out g hg; omega) h
          have bO2 := kk2 _ _ _ (by omega) bO1'
          have bX2 := kk2 _ _ _ (by omega) bX1'
          have hby2 : Below N w y2 := hba.trans hy2
          have N1 := Lib.hid n1
          have ca1 := a1'.row
          have fa1 := a1'.frozen
          unfold Row at ca1
          have a2 : Blk (y2.setCell ⟨G, 0, none⟩ (.int .i64 (u1 : Nat))) G 62 [.int .i64 (u1 : Nat), .int .i64 0, .int .i64 ((at_ : Int) + (u0 : Int))] := a1'.set_ 0 _
          have r2' : Rdr (y2.setCell ⟨G, 0, none⟩ (.int .i64 (u1 : Nat))) (N + 1) 72 dd2 bb2 := Blk.far r2 (p := ⟨G, 0, none⟩) (by dsimp only; omega) _
          have bO2' := bO2.far (p := ⟨G, 0, none⟩) (by dsimp only; omega) (.int .i64 (u1 : Nat))
          have bX2' := bX2.far (p := ⟨G, 0, none⟩) (by dsimp only; omega) (.int .i64 (u1 : Nat))
          have O2' : (y2.setCell ⟨G, 0, none⟩ (.int .i64 (u1 : Nat))).ownsRow P 62 3 vd ac.length (flatD ac) := own_kept O2 fun g cs hg h => h.far (p := ⟨G, 0, none⟩) (by have := HVG.out g hg; dsimp only; omega) _
          have OA2' : (y2.setCell ⟨G, 0, none⟩ (.int .i64 (u1 : Nat))).ownsRow M 45 8 va acc.length (flatA acc) := own_kept OA2 fun g cs hg h => h.far (p := ⟨G, 0, none⟩) (by have := HVA.out g hg; dsimp only; omega) _
          have hbs2 : Below N w (y2.setCell ⟨G, 0, none⟩ (.int .i64 (u1 : Nat))) := hby2.setCell (p := ⟨G, 0, none⟩) (by dsimp only; omega) _
          have Z := Lib.hid (And.intro a2 (And.intro r2' (And.intro bO2' (And.intro bX2' (And.intro O2' (And.intro hbs2 OA2'))))))
          clear a1 r1' bO1' bX1' O1' hba kk2 hy2 n1 O2 bO2 bX2 hby2 a1' zz2 a2 r2' bO2' bX2' O2' hbs2 r2 OA1' OA2 OA2'
          go_wp2_with fail
          generalize hWs : World.setCell _ _ _ = Ws1 at Z ⊢
          obtain ⟨a2, r2', bO2', bX2', O2', hbs2, OA2'⟩ := Z.out
          clear Z hWs ca1 fa1
          obtain ⟨u2, dd3, bb3, n2, q2, p2, x2⟩ := numR_get dd2 bb2
          refine (rnumber_met (N := N) (by omega) r2' n2 (by omega)).mono ?_
          rintro e y3 ⟨rfl, r3, kk3, hy3, zz3⟩
          have a2' := kk3 _ _ _ (by omega) a2
          have O3 : y3.ownsRow P 62 3 vd ac.length (flatD ac) := own_kept O2' fun g cs hg h => kk3 g _ cs (by have := HVG.out g hg; omega) h
          have OA3 : y3.ownsRow M 45 8 va acc.length (flatA acc) := own_kept OA2' fun g cs hg h => kk3 g _ cs (by have := HVA.out g hg; omega) h
          have bO3 := kk3 _ _ _ (by omega) bO2'
          have bX3 := kk3 _ _ _ (by omega) bX2'
          have hby3 : Below N w y3 := hbs2.trans hy3
          have N2 := Lib.hid n2
          have ca2 := a2'.row
          have fa2 := a2'.frozen
          unfold Row at ca2
          have a3 : Blk (y3.setCell ⟨G, 1, none⟩ (.int .i64 (u2 : Nat))) G 62 [.int .i64 (u1 : Nat), .int .i64 (u2 : Nat), .int .i64 ((at_ : Int) + (u0 : Int))] := a2'.set_ 1 _
          have r3' : Rdr (y3.setCell ⟨G, 1, none⟩ (.int .i64 (u2 : Nat))) (N + 1) 72 dd3 bb3 := Blk.far r3 (p := ⟨G, 1, none⟩) (by dsimp only; omega) _
          have bO3' := bO3.far (p := ⟨G, 1, none⟩) (by dsimp only; omega) (.int .i64 (u2 : Nat))
          have bX3' := bX3.far (p := ⟨G, 1, none⟩) (by dsimp only; omega) (.int .i64 (u2 : Nat))
          have O3' : (y3.setCell ⟨G, 1, none⟩ (.int .i64 (u2 : Nat))).ownsRow P 62 3 vd ac.length (flatD ac) := own_kept O3 fun g cs hg h => h.far (p := ⟨G, 1, none⟩) (by have := HVG.out g hg; dsimp only; omega) _
          have OA3' : (y3.setCell ⟨G, 1, none⟩ (.int .i64 (u2 : Nat))).ownsRow M 45 8 va acc.length (flatA acc) := own_kept OA3 fun g cs hg h => h.far (p := ⟨G, 1, none⟩) (by have := HVA.out g hg; dsimp only; omega) _
          have hbs3 : Below N w (y3.setCell ⟨G, 1, none⟩ (.int .i64 (u2 : Nat))) := hby3.setCell (p := ⟨G, 1, none⟩) (by dsimp only; omega) _
          have Z := Lib.hid (And.intro a3 (And.intro r3' (And.intro bO3' (And.intro bX3' (And.intro O3' (And.intro hbs3 OA3'))))))
          clear a2 r2' bO2' bX2' O2' hbs2 kk3 hy3 n2 O3 bO3 bX3 hby3 a2' zz3 a3 r3' bO3' bX3' O3' hbs3 r3 OA2' OA3 OA3'
          go_upto_region 26 with fail
          generalize hWs : World.setCell _ _ _ = Ws2 at Z ⊢
          obtain ⟨a3, r3', bO3', bX3', O3', hbs3, OA3'⟩ := Z.out
          clear Z hWs ca2 fa2
          have HO := Lib.hid O3'
          have cA := a3.row
          have cX := bX3'.row
          unfold Row at cA cX
          have hGW : G < Ws2.heap.size := a3.lt
          clear O3'
          go_wp2_with (at_builtin; refine wpList_append_own_at _ rfl (.tmp 102) (.tmp 104) 24 rfl P 62 j0 (.agg #[.int .i64 0, .int .i64 0, .int .i64 0]) 3 24 Try.underlying24 HJ.out.1 HJ.out.2.1 HJ.out.2.2.1 HJ.out.2.2.2 rfl (by decide) vd ac.length (flatD ac) rfl (HO.out.alloc _) ⟨Ws2.heap.size, 0, none⟩ 1 1 [.int .i64 (u1 : Nat), .int .i64 (u2 : Nat), .int .i64 ((at_ : Int) + (u0 : Int))] rfl rfl ?e0 ?e1 ?e2 ?e3 ?e4 ?_)
          case e0 => exact (Blk.new' 62 [.int .i64 (u1 : Nat), .int .i64 (u2 : Nat), .int .i64 ((at_ : Int) + (u0 : Int))] rfl).news
          case e1 => exact ints_one (l := [(u1 : Nat), (u2 : Nat), ((at_ : Int) + (u0 : Int))])
          case e2 => unfold maxLen; have := HACC.out; omega
          case e3 => have := HACC.out; omega
          case e4 => simp; omega
          intro v3 w3 ho3 hg3 hnil3 hat3
          clear hnil3 hat3
          obtain ⟨A3, c3, hv3⟩ := own_form ho3
          have far : ∀ g t cs, g < P → Blk Ws2 g t cs → Blk w3 g t cs := fun g t cs h1 h => (h.alloc _).grown_ hg3 (by intro e; have := HVG.out g e.symm; omega)
          have bX9 := far _ _ _ (by omega) bX3'
          have cX9 := bX9.row
          have fX9 := bX9.frozen
          unfold Row at cX9
          have hb9 : Below N w w3 := (hbs3.alloc (by omega) _).grown hg3 (by simp; omega) (by intro g hg; have := HVG.out g hg; omega)
          have hz9 : P ≤ w3.heap.size := by have := hg3.size; simp at this; omega
          have E1 : Hid (mkD at_ [u0, u1, u2] = ⟨u1, u2, (at_ : Int) + (u0 : Int)⟩) := Lib.hid (by simp [mkD, nat8])
          have h1 : w3.ownsRow P 62 3 v3 (ac ++ [(⟨u1, u2, (at_ : Int) + (u0 : Int)⟩ : Dlv)]).length (flatD (ac ++ [⟨u1, u2, (at_ : Int) + (u0 : Int)⟩])) := by simpa [flatD, Dlv.row] using ho3
          have hrd : readR 3 d false = ([u0, u1, u2], dd3, bb3) := by simp [readR, N0.out, N1.out, N2.out]
          have hnew : Rel2 (k + 1) (.int .i64 ((at_ : Int) + (u0 : Int))) (w3.setCell ⟨X, 2, none⟩ v3) := by
            rw [HRel2.out]
            exact ⟨at_ + u0, dd3, bb3, ac ++ [⟨u1, u2, (at_ : Int) + (u0 : Int)⟩], v3, by go_num, by simp [HACC.out], by omega, by omega, by omega, (fun hb => by have := x2 hb; have := x1 this.2; have := x0 this.2; omega), (far _ _ _ (by omega) bO3').far (p := ⟨X, 2, none⟩) (by dsimp only; omega) _, Blk.far (far _ _ _ (by omega) r3') (p := ⟨X, 2, none⟩) (by dsimp only; omega) _, bX9.set_ 2 _,
              own_kept OA3' fun g cs hg h => (far _ _ _ (HVA.out g hg).2 h).far (p := ⟨X, 2, none⟩) (by have := HVA.out g hg; dsimp only; omega) _,
              own_kept h1 fun g cs hg h => h.far (p := ⟨X, 2, none⟩) (by have := (h1.lt g hg).1; dsimp only; omega) _, hb9.setCell (p := ⟨X, 2, none⟩) (by dsimp only; omega) _, by simp [World.setCell]; omega, Lib.hid (by
                rw [hst.out, show v2 - k = (v2 - (k + 1)) + 1 by omega]
                simp only [dlvsR, hrd, Bool.false_eq_true, if_false]
                rw [E1.out]
                simp [nat8])⟩
          clear ho3 hg3 HO far bX9 a3 r3' bO3' bX3' cA cX h1 hrd E1 hst OA3'
          subst hv3
          go_wp2_with fail
          go_roundw
          case rel => exact ⟨k + 1, by omega, by go_num, hnew⟩
          case measure => simp [intOf]; omega
        · have hT2 : U = (ac, d, b) := by
            rw [hst.out]
            cases hm : v2 - k with
            | zero => simp [dlvsR]
            | succ m =>
              have : b = true := by
                cases b with
                | true => rfl
                | false => exact absurd ⟨by omega, rfl⟩ hgo
              subst this
              simp [dlvsR]
          have hmeet : Out2 wr := by
            rw [HOut2.out]
            exact ⟨d, b, ac, vd, hdl, by omega, bO, ri, bX, howna, hown, hb, hMw, Lib.hid hT2⟩
          clear hT2 hst hbk bO ri bX hown howna hacc
          by_cases hkv : k < v2
          · have hbt : b = true := by
              cases b with
              | true => rfl
              | false => exact absurd ⟨hkv, rfl⟩ hgo
            subst hbt
            go_wp2_with fail
            go_meet
            exact hmeet
          · go_wp2_with fail
            go_meet
            exact hmeet
    case rest =>
      clear hst0
      rw [HOut2.out] at hcut
      obtain ⟨d5, b5, ac, vd, hdl5, hal5, bO, ri, bX, hownA, hownD, hb6, hM6, HU2⟩ := hcut
      obtain ⟨w6, hw6⟩ : ∃ w6 : World, w6 = wc := ⟨_, rfl⟩
      subst hw6
      obtain ⟨A6, ca, hva⟩ := own_form hownA
      obtain ⟨D6, cd, hvd⟩ := own_form hownD
      subst hva hvd
      have hlA := own_A hownA
      have hlD := own_D hownD
      have hdec : Hid (decR data = ⟨⟨(v0 : Nat), acc, ac⟩, d5, b5⟩) := Lib.hid (by
        unfold decR
        simp only [readR, E0.out, E1.out, nat8, List.getD_cons_zero, List.getD_cons_succ]
        rw [← HT.out, HT2.out]
        dsimp only
        rw [E2.out]
        simp only [List.getD_cons_zero]
        rw [← HU.out, HU2.out])
      have hokd : rdecOk data = (!b5 && (d5.isEmpty && goodR ⟨(v0 : Nat), acc, ac⟩)) := by unfold rdecOk; rw [hdec.out]
      have hz6 : X < w6.heap.size := by omega
      have con := rcheck_any ⟨(v0 : Nat), acc, ac⟩ A6 D6 ca cd w6 hlA hlD (by dsimp only; omega) (by dsimp only; omega)
      have HO1 := Lib.hid hownA
      have HO2 := Lib.hid hownD
      clear hownA hownD hlA hlD HOut2 HRel2
      have cR := bO.row
      have fR := bO.frozen
      have cx := bX.row
      have ci := ri.row
      unfold Row at cR cx ci
      cases b5 with
      | true =>
        have HNO := Lib.hid (show rdecOk data = false by rw [hokd]; rfl)
        have C7 := Lib.hid (((bO.set_ 0 (.int .i64 0)).set_ 1 (.slice none 0 0)).set_ 2 (.slice none 0 0)).row
        clear hokd con bO ri bX
        go_wp2_with fail
        have c7 := C7.out
        unfold Row at c7
        simp only [List.set_cons_zero, List.set_cons_succ] at c7
        refine bodyPost_ret (v := .tuple #[.agg #[.int .i64 0, .slice none 0 0, .slice none 0 0], .int .i64 10]) (by simp [results, Try.results12, go_sem, c7]) rfl ⟨?_, ?_⟩
        · rw [← HN.out]; exact ((hb6.setCell (p := ⟨N, 0, none⟩) (Nat.le_refl _) _).setCell (p := ⟨N, 1, none⟩) (Nat.le_refl _) _).setCell (p := ⟨N, 2, none⟩) (Nat.le_refl _) _
        · rw [HNO.out]; rfl
      | false =>
        cases d5 with
        | cons x d5 =>
          have HNO := Lib.hid (show rdecOk data = false by rw [hokd]; rfl)
          have C7 := Lib.hid (((bO.set_ 0 (.int .i64 0)).set_ 1 (.slice none 0 0)).set_ 2 (.slice none 0 0)).row
          clear hokd con bO ri bX
          go_wp2_with fail
          have c7 := C7.out
          unfold Row at c7
          simp only [List.set_cons_zero, List.set_cons_succ] at c7
          refine bodyPost_ret (v := .tuple #[.agg #[.int .i64 0, .slice none 0 0, .slice none 0 0], .int .i64 10]) (by simp [results, Try.results12, go_sem, c7]) rfl ⟨?_, ?_⟩
          · rw [← HN.out]; exact ((hb6.setCell (p := ⟨N, 0, none⟩) (Nat.le_refl _) _).setCell (p := ⟨N, 1, none⟩) (Nat.le_refl _) _).setCell (p := ⟨N, 2, none⟩) (Nat.le_refl _) _
          · rw [HNO.out]; rfl
        | nil =>
          have Con := Lib.hid con
          have HOK := Lib.hid hokd
          clear con hokd
          go_wp2_with fail
          refine Con.out.mono ?_
          rintro e w7 ⟨rfl, hb7⟩
          have bO7 := bO.below hb7 (by omega)
          have bX7 := bX.below hb7 (by omega)
          have cR7 := bO7.row
          have fR7 := bO7.frozen
          have cx7 := bX7.row
          unfold Row at cR7 cx7
          have hbN : Below N w w7 := hb6.trans (hb7.mono (by omega))
          have hne : ¬ X = N := by omega
          have hne' : ¬ N = X := by omega
          clear bO bX ri cR fR cx ci Con
          cases hgd : goodR ⟨(v0 : Nat), acc, ac⟩ with
          | false =>
            have hck : rcheckE ⟨(v0 : Nat), acc, ac⟩ = 1 := by simp [rcheckE, hgd]
            rw [hck]
            have HNO := Lib.hid (show rdecOk data = false by rw [HOK.out, hgd]; rfl)
            have C7 := Lib.hid (((bO7.set_ 0 (.int .i64 0)).set_ 1 (.slice none 0 0)).set_ 2 (.slice none 0 0)).row
            clear hck hgd bO7 bX7
            go_wp2_with fail
            have c7 := C7.out
            unfold Row at c7
            simp only [List.set_cons_zero, List.set_cons_succ] at c7
            refine bodyPost_ret (v := .tuple #[.agg #[.int .i64 0, .slice none 0 0, .slice none 0 0], .int .i64 10]) (by simp [results, Try.results12, go_sem, c7]) rfl ⟨?_, ?_⟩
            · rw [← HN.out]; exact ((hbN.setCell (p := ⟨N, 0, none⟩) (Nat.le_refl _) _).setCell (p := ⟨N, 1, none⟩) (Nat.le_refl _) _).setCell (p := ⟨N, 2, none⟩) (Nat.le_refl _) _
            · rw [HNO.out]; rfl
          | true =>
            have hck : rcheckE ⟨(v0 : Nat), acc, ac⟩ = 0 := by simp [rcheckE, hgd]
            rw [hck]
            have HY := Lib.hid (show rdecOk data = true by rw [HOK.out, hgd]; rfl)
            have C7 := Lib.hid (((bO7.set_ 0 (.int .i64 (v0 : Nat))).set_ 1 (.slice A6 acc.length ca)).set_ 2 (.slice D6 ac.length cd)).row
            have far : ∀ g t cs, g < w6.heap.size → g ≠ N → Blk w6 g t cs → Blk (((w7.setCell ⟨N, 0, none⟩ (.int .i64 (v0 : Nat))).setCell ⟨N, 1, none⟩ (.slice A6 acc.length ca)).setCell ⟨N, 2, none⟩ (.slice D6 ac.length cd)) g t cs := fun g t cs h1 h2 h => (((h.below hb7 h1).far (p := ⟨N, 0, none⟩) h2 _).far (p := ⟨N, 1, none⟩) h2 _).far (p := ⟨N, 2, none⟩) h2 _
            have L1 := Lib.hid (own_A (own_kept HO1.out fun g cs hg h => far g _ cs h.lt (by have := (HO1.out.lt g hg).1; omega) h))
            have L2 := Lib.hid (own_D (own_kept HO2.out fun g cs hg h => far g _ cs h.lt (by have := (HO2.out.lt g hg).1; omega) h))
            clear hck hgd bO7 bX7 far
            go_wp2_with fail
            have c7 := C7.out
            unfold Row at c7
            simp only [List.set_cons_zero, List.set_cons_succ] at c7
            refine bodyPost_ret (v := .tuple #[.agg #[.int .i64 (v0 : Nat), .slice A6 acc.length ca, .slice D6 ac.length cd], .int .i64 0]) (by simp [results, Try.results12, go_sem, c7]) rfl ⟨?_, ?_⟩
            · rw [← HN.out]; exact ((hbN.setCell (p := ⟨N, 0, none⟩) (Nat.le_refl _) _).setCell (p := ⟨N, 1, none⟩) (Nat.le_refl _) _).setCell (p := ⟨N, 2, none⟩) (Nat.le_refl _) _
            · rw [HY.out, hdec.out]
              exact ⟨A6, D6, ca, cd, rfl, L1.out, L2.out⟩

end Go.Proofs.Ytllakkepphpfmaa

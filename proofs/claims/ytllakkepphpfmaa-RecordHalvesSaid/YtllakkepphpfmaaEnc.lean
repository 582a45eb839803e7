/- Walk: Encode of package record. -/
import Derived.Test.YtllakkepphpfmaaCheck
import Derived.Test.YtllakkepphpfmaaWrite
import Derived.Test.YtllakkepphpfmaaEncP
import Derived.Laws.IdiomStrings
import Derived.Lib.BufferRead
namespace Go.Proofs.Ytllakkepphpfmaa
open Go.RowKit
open Rc

theorem write_ints (zs : List Int) (base : Nat) (v : Value) (xs : List UInt8) (nb c n : Nat) (w : World) (hn : n = zs.length) (hzs : ∀ z ∈ zs, 0 ≤ z ∧ z < 9223372036854775808) (hlen : zs.length ≤ 1000) (hxs : xs.length ≤ 1000000000)
    (hown : w.ownsRow base 5 1 v xs.length (xs.map B8)) (hbase : base ≤ w.heap.size) (hnb : nb < w.heap.size) (hne : some nb ≠ v.ownBlock) (hc : ∀ k z, zs[k]? = some z → w.cell? ⟨nb, 0 + k, none⟩ = some (.int .i64 z)) :
    Calls Try.prog 40 #[v, .slice (some ⟨nb, 0, none⟩) n c] w fun e w' => ∃ v', e = .returned v' ∧ w'.ownsRow base 5 1 v' (xs ++ vars zs).length ((xs ++ vars zs).map B8) ∧ Grew w v w' v' := by
  have h := write_any (zs.map Int.toNat) base v xs nb c w (fun m hm => by
    obtain ⟨z, hz, rfl⟩ := List.mem_map.1 hm
    have := hzs z hz; omega) (by simpa using hlen) hxs hown hbase hnb hne (fun k m hm => by
    rw [List.getElem?_map] at hm
    cases hz : zs[k]? with
    | none => rw [hz] at hm; cases hm
    | some z =>
      rw [hz] at hm
      have e : z.toNat = m := by simpa using hm
      have hz0 := hzs z (List.mem_of_getElem? hz)
      have := hc k z hz
      rw [Nat.zero_add] at this
      rw [this, ← e, Int.toNat_of_nonneg hz0.1])
  rw [List.length_map, ← hn] at h
  refine h.mono fun e w' ⟨v', he, ho, hg⟩ => ⟨v', he, ?_, hg⟩
  have ev : (zs.map Int.toNat).flatMap varN = vars zs := by simp [vars, List.flatMap_map]
  rw [ev] at ho
  exact ho

set_option maxRecDepth 100000 in
set_option maxHeartbeats 4000000 in
theorem encode_bad (r : Rec) (A D : Option Addr) (ca cd : Nat) (w : World) (hA : LiesA w w.heap.size A r.al) (hD : LiesD w w.heap.size D r.dl) (hla : r.al.length ≤ 9223372036854775807) (hld : r.dl.length ≤ 9223372036854775807) (hg : good r = false) :
    Calls Try.prog 14 #[.agg #[.int .i64 r.slots, .slice A r.al.length ca, .slice D r.dl.length cd]] w fun e w' => e = .returned (.tuple #[.string ⟨#[]⟩, .int .i64 1]) ∧ Below w.heap.size w w' := by
  have con : ∀ W, Below w.heap.size w W → Calls Try.prog 18 #[.agg #[.int .i64 r.slots, .slice A r.al.length ca, .slice D r.dl.length cd]] W fun e w' => e = .returned (.int .i64 1) ∧ Below W.heap.size W w' := fun W hW => by
    have := check_any r A D ca cd W ((hA.below hW).more hW.size) ((hD.below hW).more hW.size) hla hld
    rwa [show checkE r = 1 by simp [checkE, hg]] at this
  have Con := Lib.hid con
  clear con hg
  go_enter Try.func14, Try.ntmps14
  go_wp2_with fail
  refine (Con.out _ ((Below.refl _ _).alloc (Nat.le_refl _) _)).mono ?_
  rintro e w1 ⟨rfl, hb1⟩
  go_wp2_with fail
  go_ret2
  exact ⟨rfl, ((Below.refl _ _).alloc (Nat.le_refl _) _).trans (hb1.mono (by simp))⟩

/-- string(b), b an owned row of bytes -/
theorem run_string_own {w : World} {base : Nat} {v : Value} {zs : List UInt8} (h : w.ownsRow base 5 1 v zs.length (zs.map B8)) : (convert 74 9 v).run Try.prog w = .ok (.string ⟨zs.toArray⟩) w := by
  rcases h.2 with ⟨rfl, h0⟩ | ⟨g, cap, cur, hv, _⟩
  · have : zs = [] := List.eq_nil_of_length_eq_zero h0
    subst this
    exact Lib.run_convert_nil_bytes w _ _ _ 0 Try.underlying74 Try.underlying5 Try.underlying9
  · subst hv
    refine run_convert_bytes_back w _ _ _ _ cap zs Try.underlying74 Try.underlying5 Try.underlying9 fun j hj => ?_
    exact h.cells (g := g) rfl j _ (by simp [List.getElem?_eq_getElem hj, B8])

theorem ret_str2 {a b : List UInt8} {x : Value} (h : a = b) : Ending.returned (.tuple #[.string ⟨a.toArray⟩, x]) = .returned (.tuple #[.string ⟨b.toArray⟩, x]) := by rw [h]

theorem own_ne {w : World} {base : Nat} {e : TypeId} {v : Value} {n : Nat} {xs : List Value} (h : w.ownsRow base e 1 v n xs) {nb : Nat} (hnb : w.heap.size ≤ nb) : some nb ≠ v.ownBlock := fun e => by
  have := h.lt nb e.symm; omega
theorem own_base {w : World} {base : Nat} {e : TypeId} {v : Value} {n : Nat} {xs : List Value} (h : w.ownsRow base e 1 v n xs) : ∀ k, v.ownBlock = some k → base ≤ k := fun k hk => (h.lt k hk).1

set_option maxRecDepth 100000 in
set_option maxHeartbeats 8000000 in
theorem encode_good (r : Rec) (A D : Option Addr) (ca cd : Nat) (w : World) (hA : LiesA w w.heap.size A r.al) (hD : LiesD w w.heap.size D r.dl) (hg : good r = true) :
    Calls Try.prog 14 #[.agg #[.int .i64 r.slots, .slice A r.al.length ca, .slice D r.dl.length cd]] w fun e w' => e = .returned (.tuple #[.string ⟨(encR r).toArray⟩, .int .i64 0]) ∧ Below w.heap.size w w' := by
  obtain ⟨g0, g1, g2, g3, g4, g5⟩ := good_parts hg
  have con : ∀ W, Below w.heap.size w W → Calls Try.prog 18 #[.agg #[.int .i64 r.slots, .slice A r.al.length ca, .slice D r.dl.length cd]] W fun e w' => e = .returned (.int .i64 0) ∧ Below W.heap.size W w' := fun W hW => by
    have := check_any r A D ca cd W ((hA.below hW).more hW.size) ((hD.below hW).more hW.size) (by omega) (by omega)
    rwa [show checkE r = 0 by simp [checkE, hg]] at this
  obtain ⟨slots, al, dl⟩ := r
  dsimp only at *
  have henc : Hid (encR ⟨slots, al, dl⟩ = vars [slots, (al.length : Int)] ++ (encA 0 al ++ (vars [(dl.length : Int)] ++ encD 0 dl))) := Lib.hid rfl
  generalize encR ⟨slots, al, dl⟩ = full at henc ⊢
  obtain ⟨na, hna⟩ : ∃ n, n = al.length := ⟨_, rfl⟩
  obtain ⟨nd, hnd⟩ : ∃ n, n = dl.length := ⟨_, rfl⟩
  rw [← hna, ← hnd] at con henc ⊢
  rw [← hna] at g2
  rw [← hnd] at g3
  have HA := Lib.hid hna
  have HD := Lib.hid hnd
  have Con := Lib.hid con
  have G4 := Lib.hid g4
  have G5 := Lib.hid g5
  clear con hg hna hnd g4 g5
  go_enter Try.func14, Try.ntmps14
  go_wp2_with fail
  refine (Con.out _ ((Below.refl _ _).alloc (Nat.le_refl _) _)).mono ?_
  rintro e w1 ⟨rfl, hb1⟩
  have row1 : Row w1 w.heap.size [.int .i64 slots, .slice A na ca, .slice D nd cd] := (Row.new w _ _).below hb1 (by simp)
  have hbw : Below w.heap.size w w1 := ((Below.refl _ _).alloc (Nat.le_refl _) _).trans (hb1.mono (by simp))
  have hz : w.heap.size < w1.heap.size := by have := hb1.size; simp at this; omega
  have R1 := Lib.hid row1
  unfold Row at row1
  clear hb1
  go_wp2_with fail
  have hcon := write_ints [slots, (na : Int)] w1.heap.size (.slice none 0 0) [] w1.heap.size 2 2 (w1.alloc (.cells #[.int .i64 slots, .int .i64 (na : Int)] 3)) rfl (by intro z hz'; simp at hz'; omega) (by simp) (by simp) (World.ownsRow_nil _ _ _ _) (by simp) (by simp) (by simp [Value.ownBlock]) (Row.ints (l := [slots, (na : Int)]) (Row.new w1 [.int .i64 slots, .int .i64 (na : Int)] _))
  refine hcon.mono ?_
  clear hcon
  rintro e w2 ⟨v2, rfl, ho2, hg2⟩
  have hb2 : Below w1.heap.size w1 w2 := ((Below.refl _ _).alloc (Nat.le_refl _) _).trans (hg2.below (by simp) (by simp [Value.ownBlock]))
  rw [List.nil_append] at ho2
  have hl2 := vars_length [slots, (na : Int)]
  clear hg2 row1
  have row1 := R1.out.below hb2 hz
  unfold Row at row1
  go_wp2_with fail
  go_loopw [5, 6, 28] (fun s5 s6 i wr => ∃ (k : Nat) (ys : List UInt8) (v1 : Value) (at_ : Int), k ≤ na ∧ i = .int .i64 k ∧ s6 = .int .i64 at_ ∧ v1 = s5 ∧ wr.ownsRow w1.heap.size 5 1 v1 ys.length (ys.map B8) ∧ Below w1.heap.size w1 wr ∧ ys.length ≤ 20 + 80 * k ∧ Hid (at_ = lastA al k) ∧
      Hid (full = ys ++ (encA at_ (al.drop k) ++ (vars [(nd : Int)] ++ encD 0 dl)))) (fun _ _ i _ => na - (intOf i).toNat)
  case atStart => exact ⟨0, vars [slots, (na : Int)], v2, 0, Nat.zero_le _, rfl, rfl, rfl, ho2, hb2, by simpa using hl2, Lib.hid rfl, Lib.hid (by rw [henc.out]; rfl)⟩
  case round =>
    obtain ⟨k, ys, v1, at_, hk, rfl, rfl, rfl, hown, hb, hyl, hat, hst⟩ := hrel
    clear row1
    have row1 := R1.out.below hb hz
    have hb0 : Below w.heap.size w wr := hbw.trans (hb.mono hbw.size)
    unfold Row at row1
    by_cases hlt : k < na
    · obtain ⟨a, ha⟩ := get_of_lt (l := al) (k := k) (by rw [← HA.out]; exact hlt)
      obtain ⟨b, off, rfl, hbB, hcs⟩ := (hA.below hb0).at_ ha
      obtain ⟨c0, c1, c2, c3, c4, c5, c6, c7⟩ := hcs k a ha
      obtain ⟨q1, q2⟩ := atts_all G4.out ha
      have q3 := lastA_nonneg G4.out k
      rw [← hat.out] at q2 q3
      obtain ⟨⟨m0, m1⟩, ⟨m2, m3⟩, ⟨m4, m5⟩, ⟨m6, m7⟩, ⟨m8, m9⟩, ⟨m10, m11⟩, ⟨m12, m13⟩, ⟨m14, m15⟩⟩ := attB_ranges q1
      have hd := Lib.hid (drop_of_get ha)
      have hls := Lib.hid (lastA_succ ha)
      have hsz := hb.size
      clear hcs ha q1
      go_wp2_with fail
      have hcon := write_ints (attI at_ a) w1.heap.size v1 ys (wr.heap.size + 1) 8 8 ((wr.alloc (.cells #[.int .i64 a.s, .int .i64 a.f, .int .i64 a.cs, .int .i64 a.co, .int .i64 a.cf, .int .i64 a.ct, .int .i64 a.cl, .int .i64 a.o] 45)).alloc (.cells #[.int .i64 (a.s - at_), .int .i64 a.f, .int .i64 a.cs, .int .i64 a.co, .int .i64 a.cf, .int .i64 a.ct, .int .i64 a.cl, .int .i64 a.o] 3)) rfl (by intro z hz'; simp [attI] at hz'; omega) (by simp [attI]) (by omega) ((hown.alloc _).alloc _) (by simp; omega) (by simp) (own_ne hown (by simp)) (Row.ints (l := attI at_ a) (Row.new' [.int .i64 (a.s - at_), .int .i64 a.f, .int .i64 a.cs, .int .i64 a.co, .int .i64 a.cf, .int .i64 a.ct, .int .i64 a.cl, .int .i64 a.o] _ (by simp)))
      refine hcon.mono ?_
      clear hcon
      rintro e w3 ⟨v3, rfl, ho3, hg3⟩
      have hb3 : Below w1.heap.size w1 w3 := ((hb.alloc hsz _).alloc (by simp; omega) _).trans (hg3.below (by simp; omega) (own_base hown))
      have row8 : Row w3 wr.heap.size [.int .i64 a.s, .int .i64 a.f, .int .i64 a.cs, .int .i64 a.co, .int .i64 a.cf, .int .i64 a.ct, .int .i64 a.cl, .int .i64 a.o] := fun i => (hg3.cell (by simp; omega) (own_ne hown (Nat.le_refl _))).trans ((Row.alloc (Row.new wr _ _) (by simp) _) i)
      have hl3 := vars_length (attI at_ a)
      have hl4 : (attI at_ a).length = 8 := rfl
      clear hg3 hown
      unfold Row at row8
      go_wp2_with fail
      go_roundw
      case rel => exact ⟨k + 1, ys ++ vars (attI at_ a), v3, a.s, by omega, by go_num, rfl, rfl, ho3, hb3, by simp; omega, Lib.hid (by rw [hls.out]), Lib.hid (by rw [hst.out, hd.out]; simp [encA])⟩
      case measure => simp [intOf]; omega
    · have hst1 : full = ys ++ (vars [(nd : Int)] ++ encD 0 dl) := by rw [hst.out, List.drop_of_length_le (by rw [← HA.out]; omega)]; simp [encA]
      have hst2 := Lib.hid hst1
      have hsz := hb.size
      clear hst1 hst hat
      go_wp2_with fail
      have hcon := write_ints [(nd : Int)] w1.heap.size v1 ys wr.heap.size 1 1 (wr.alloc (.cells #[.int .i64 (nd : Int)] 3)) rfl (by intro z hz'; simp at hz'; omega) (by simp) (by omega) (hown.alloc _) (by simp; omega) (by simp) (own_ne hown (by simp)) (Row.ints (l := [(nd : Int)]) (Row.new wr [.int .i64 (nd : Int)] _))
      refine hcon.mono ?_
      clear hcon
      rintro e w4 ⟨v4, rfl, ho4, hg4⟩
      have hb4 : Below w1.heap.size w1 w4 := (hb.alloc hsz _).trans (hg4.below (by simp; omega) (own_base hown))
      have hl5 := vars_length [(nd : Int)]
      have hl6 : ([(nd : Int)] : List Int).length = 1 := rfl
      clear hg4 hown row1
      have row1 := R1.out.below hb4 hz
      unfold Row at row1
      go_wp2_with fail
      go_loopw [5, 6, 72] (fun s5 s6 i wr => ∃ (k : Nat) (zs : List UInt8) (v1 : Value) (at_ : Int), k ≤ nd ∧ i = .int .i64 k ∧ s6 = .int .i64 at_ ∧ v1 = s5 ∧ wr.ownsRow w1.heap.size 5 1 v1 zs.length (zs.map B8) ∧ Below w1.heap.size w1 wr ∧ zs.length ≤ 10000000 + 30 * k ∧ Hid (at_ = lastD dl k) ∧
          Hid (full = zs ++ encD at_ (dl.drop k))) (fun _ _ i _ => nd - (intOf i).toNat)
      case atStart => exact ⟨0, ys ++ vars [(nd : Int)], v4, 0, Nat.zero_le _, rfl, rfl, rfl, ho4, hb4, by simp; omega, Lib.hid rfl, Lib.hid (by rw [hst2.out]; simp)⟩
      case round =>
        clear ho4 hb4 row1 hsz hb0 hb
        obtain ⟨k, zs, v1, at_, hk, rfl, rfl, rfl, hown, hb, hyl, hat, hst⟩ := hrel
        have row1 := R1.out.below hb hz
        have hb0 : Below w.heap.size w wr := hbw.trans (hb.mono hbw.size)
        have hsz := hb.size
        unfold Row at row1
        by_cases hlt : k < nd
        · obtain ⟨a, ha⟩ := get_of_lt (l := dl) (k := k) (by rw [← HD.out]; exact hlt)
          obtain ⟨b, off, rfl, hbB, hcs⟩ := (hD.below hb0).at_ ha
          obtain ⟨c0, c1, c2⟩ := hcs k a ha
          obtain ⟨q1, q2⟩ := dlvs_all G5.out ha
          have q3 := lastD_nonneg G5.out k
          rw [← hat.out] at q2 q3
          obtain ⟨⟨m0, m1⟩, ⟨m2, m3⟩, ⟨m4, m5⟩⟩ := dlvB_ranges q1
          have hd := Lib.hid (drop_of_get ha)
          have hls := Lib.hid (lastD_succ ha)
          clear hcs ha q1
          go_wp2_with fail
          have hcon := write_ints (dlvI at_ a) w1.heap.size v1 zs (wr.heap.size + 1) 3 3 ((wr.alloc (.cells #[.int .i64 a.fl, .int .i64 a.fr, .int .i64 a.sl] 62)).alloc (.cells #[.int .i64 (a.sl - at_), .int .i64 a.fl, .int .i64 a.fr] 3)) rfl (by intro z hz'; simp [dlvI] at hz'; omega) (by simp [dlvI]) (by omega) ((hown.alloc _).alloc _) (by simp; omega) (by simp) (own_ne hown (by simp)) (Row.ints (l := dlvI at_ a) (Row.new' [.int .i64 (a.sl - at_), .int .i64 a.fl, .int .i64 a.fr] _ (by simp)))
          refine hcon.mono ?_
          clear hcon
          rintro e w3 ⟨v3, rfl, ho3, hg3⟩
          have hb3 : Below w1.heap.size w1 w3 := ((hb.alloc hsz _).alloc (by simp; omega) _).trans (hg3.below (by simp; omega) (own_base hown))
          have row8 : Row w3 wr.heap.size [.int .i64 a.fl, .int .i64 a.fr, .int .i64 a.sl] := fun i => (hg3.cell (by simp; omega) (own_ne hown (Nat.le_refl _))).trans ((Row.alloc (Row.new wr _ _) (by simp) _) i)
          have hl3 := vars_length (dlvI at_ a)
          have hl4 : (dlvI at_ a).length = 3 := rfl
          clear hg3 hown
          unfold Row at row8
          go_wp2_with fail
          go_roundw
          case rel => exact ⟨k + 1, zs ++ vars (dlvI at_ a), v3, a.sl, by omega, by go_num, rfl, rfl, ho3, hb3, by simp; omega, Lib.hid (by rw [hls.out]), Lib.hid (by rw [hst.out, hd.out]; simp [encD])⟩
          case measure => simp [intOf]; omega
        · have hst1 : full = zs := by rw [hst.out, List.drop_of_length_le (by rw [← HD.out]; omega)]; simp [encD]
          have hst2 := Lib.hid hst1
          clear hst1 hst hat row1
          have hcv := run_string_own hown
          go_wp2_with fail
          go_ret2
          exact ⟨ret_str2 hst2.out.symm, hb0⟩

end Go.Proofs.Ytllakkepphpfmaa

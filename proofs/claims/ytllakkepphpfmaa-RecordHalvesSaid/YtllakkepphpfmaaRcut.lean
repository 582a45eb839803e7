/- Walk: Cut of the reference. -/
import Derived.Test.YtllakkepphpfmaaCut
import Derived.Test.YtllakkepphpfmaaMixR
import Derived.Test.YtllakkepphpfmaaRcheck
namespace Go.Proofs.Ytllakkepphpfmaa
open Go.RowKit
open Rc

set_option maxRecDepth 100000 in
set_option maxHeartbeats 8000000 in
theorem rcut_any (r : Rec) (A D : Option Addr) (ca cd : Nat) (n : Int) (w : World) (hA : LiesA w w.heap.size A r.al) (hD : LiesD w w.heap.size D r.dl) (hla : r.al.length ≤ 1000000) (hld : r.dl.length ≤ 1000000) :
    Calls Try.prog 31 #[.agg #[.int .i64 r.slots, .slice A r.al.length ca, .slice D r.dl.length cd], .int .i64 n] w (RecRes w (cutR r n) (cutE r n)) := by
  have con := fun W (h : Below w.heap.size w W) => rcheck_any r A D ca cd W ((hA.below h).more h.size) ((hD.below h).more h.size) (by omega) (by omega)
  have HCon := Lib.hid con
  clear con
  obtain ⟨slots, al, dl⟩ := r
  dsimp only at *
  obtain ⟨na, hna⟩ : ∃ n, n = al.length := ⟨_, rfl⟩
  obtain ⟨nd, hnd⟩ : ∃ n, n = dl.length := ⟨_, rfl⟩
  rw [← hna, ← hnd] at HCon ⊢
  rw [← hna] at hla
  rw [← hnd] at hld
  have HNA := Lib.hid hna
  have HND := Lib.hid hnd
  clear hna hnd
  obtain ⟨ck, hck⟩ : ∃ c, c = checkE ⟨slots, al, dl⟩ := ⟨_, rfl⟩
  rw [← check_agree, ← hck] at HCon
  have hck01 : (good ⟨slots, al, dl⟩ = true ∧ ck = 0) ∨ (good ⟨slots, al, dl⟩ = false ∧ ck = 1) := by
    rw [hck]; unfold checkE
    cases good ⟨slots, al, dl⟩ <;> simp
  have HCK := Lib.hid hck01
  clear hck hck01
  obtain ⟨i0, hi, hz0, hz1, hz2⟩ := info_parts Try.infoAtt
  obtain ⟨j0, ji, jz0, jz1, jz2⟩ := info_parts Try.infoDlv
  have HI := Lib.hid (And.intro hi (And.intro hz0 (And.intro hz1 hz2)))
  have HJ := Lib.hid (And.intro ji (And.intro jz0 (And.intro jz1 jz2)))
  clear hi hz0 hz1 hz2 ji jz0 jz1 jz2
  obtain ⟨R, hR⟩ : ∃ R, R = cutR ⟨slots, al, dl⟩ n := ⟨_, rfl⟩
  obtain ⟨E, hE⟩ : ∃ E, E = cutE ⟨slots, al, dl⟩ n := ⟨_, rfl⟩
  rw [← hR, ← hE]
  have HR := Lib.hid hR
  have HE := Lib.hid hE
  clear hR hE
  go_enter Try.func31, Try.ntmps31
  go_wp2_with fail
  generalize hW0 : World.alloc _ _ = W0
  have bR : Blk W0 w.heap.size 28 [.int .i64 slots, .slice A na ca, .slice D nd cd] := by rw [← hW0]; exact (Blk.new' _ [.int .i64 slots, .slice A na ca, .slice D nd cd] rfl).alloc _
  have bO : Blk W0 (w.heap.size + 1) 28 [.int .i64 0, .slice none 0 0, .slice none 0 0] := by rw [← hW0]; exact Blk.new' _ [.int .i64 0, .slice none 0 0, .slice none 0 0] (by simp)
  have hb0 : Below w.heap.size w W0 := by rw [← hW0]; exact ((Below.refl _ _).alloc (Nat.le_refl _) _).alloc (by simp) _
  clear hW0
  refine (HCon.out _ hb0).mono ?_
  rintro e w1 ⟨rfl, hb1⟩
  have bR1 := bR.below hb1 bR.lt
  have bO1 := bO.below hb1 bO.lt
  have hbw : Below w.heap.size w w1 := hb0.trans (hb1.mono hb0.size)
  clear bR bO hb0 hb1
  have hA1 := hA.below hbw
  have hD1 := hD.below hbw
  clear hA hD HCon
  obtain ⟨N, hN⟩ : ∃ N, N = w.heap.size := ⟨_, rfl⟩
  rw [← hN] at bR1 bO1 hbw hA1 hD1 ⊢
  have HN := Lib.hid hN
  clear hN
  have cR := bR1.row
  have cO := bO1.row
  have fO := bO1.frozen
  unfold Row at cR cO
  have b7 := ((bO1.set_ 0 (.int .i64 0)).set_ 1 (.slice none 0 0)).set_ 2 (.slice none 0 0)
  have C7 := Lib.hid b7.row
  clear b7
  have hW7 : Hid (Below N w (((w1.setCell ⟨N + 1, 0, none⟩ (.int .i64 0)).setCell ⟨N + 1, 1, none⟩ (.slice none 0 0)).setCell ⟨N + 1, 2, none⟩ (.slice none 0 0))) := Lib.hid (((hbw.setCell (p := ⟨N + 1, 0, none⟩) (by dsimp only; omega) _).setCell (p := ⟨N + 1, 1, none⟩) (by dsimp only; omega) _).setCell (p := ⟨N + 1, 2, none⟩) (by dsimp only; omega) _)
  rcases HCK.out with ⟨hg, hc⟩ | ⟨hg, hc⟩
  case inr =>
    subst hc
    have hr : Hid (R = ⟨0, [], []⟩ ∧ E = 1) := Lib.hid (by rw [HR.out, HE.out]; simp [cutR, cutE, hg])
    clear hg HCK
    go_wp2_with fail
    have c7 := C7.out
    unfold Row at c7
    simp only [List.set_cons_zero, List.set_cons_succ] at c7
    refine bodyPost_ret (v := .tuple #[.agg #[.int .i64 0, .slice none 0 0, .slice none 0 0], .int .i64 1]) (by simp [results, Try.results31, go_sem, c7]) rfl ?_
    obtain ⟨h1, h2⟩ := hr.out
    rw [h1, h2]
    exact ⟨by rw [← HN.out]; exact hW7.out, none, none, 0, 0, rfl, LiesA.nil, LiesD.nil⟩
  subst hc
  by_cases hn : n < 0 ∨ slots < n
  · have hr : Hid (R = ⟨0, [], []⟩ ∧ E = 2) := Lib.hid (by rw [HR.out, HE.out]; simp [cutR, cutE, hg, hn])
    clear hg HCK
    have hfin : ∀ a : Act, True := fun _ => trivial
    by_cases hn0 : n < 0
    · clear hn
      go_wp2_with fail
      have c7 := C7.out
      unfold Row at c7
      simp only [List.set_cons_zero, List.set_cons_succ] at c7
      refine bodyPost_ret (v := .tuple #[.agg #[.int .i64 0, .slice none 0 0, .slice none 0 0], .int .i64 2]) (by simp [results, Try.results31, go_sem, c7]) rfl ?_
      obtain ⟨h1, h2⟩ := hr.out
      rw [h1, h2]
      exact ⟨by rw [← HN.out]; exact hW7.out, none, none, 0, 0, rfl, LiesA.nil, LiesD.nil⟩
    · have hn1 : slots < n := by omega
      clear hn
      go_wp2_with fail
      have c7 := C7.out
      unfold Row at c7
      simp only [List.set_cons_zero, List.set_cons_succ] at c7
      refine bodyPost_ret (v := .tuple #[.agg #[.int .i64 0, .slice none 0 0, .slice none 0 0], .int .i64 2]) (by simp [results, Try.results31, go_sem, c7]) rfl ?_
      obtain ⟨h1, h2⟩ := hr.out
      rw [h1, h2]
      exact ⟨by rw [← HN.out]; exact hW7.out, none, none, 0, 0, rfl, LiesA.nil, LiesD.nil⟩
  have hn0 : ¬ n < 0 := fun h => hn (.inl h)
  have hn1 : ¬ slots < n := fun h => hn (.inr h)
  have hr : Hid (R = ⟨n, cutA al n, cutD dl n⟩ ∧ E = 0) := Lib.hid (by rw [HR.out, HE.out]; simp [cutR, cutE, hg, hn0, hn1])
  clear hg HCK hn HR HE C7 hW7
  have d0 : decide (n < 0) = false := by simpa using hn0
  have d1 : decide (slots < n) = false := by simpa using hn1
  have hz0 := bR1.lt
  have hz1 := bO1.lt
  go_wp2_with fail
  generalize hW2 : World.alloc _ _ = W2
  obtain ⟨P, hP⟩ : ∃ P, P = w1.heap.size := ⟨_, rfl⟩
  rw [← hP] at hz0 hz1 ⊢
  have bR : Blk W2 N 28 [.int .i64 slots, .slice A na ca, .slice D nd cd] := by rw [← hW2]; exact bR1.alloc _
  have bO : Blk W2 (N + 1) 28 [.int .i64 0, .slice none 0 0, .slice none 0 0] := by rw [← hW2]; exact bO1.alloc _
  have bX : Blk W2 P 28 [.int .i64 n, .slice none 0 0, .slice none 0 0] := by rw [← hW2]; exact Blk.new' _ [.int .i64 n, .slice none 0 0, .slice none 0 0] hP
  have hb2 : Below N w W2 := by rw [← hW2]; exact hbw.alloc (by omega) _
  have hA2 : LiesA W2 N A al := by rw [← hW2]; exact hA1.below ((Below.refl _ _).alloc (by omega) _)
  have hD2 : LiesD W2 N D dl := by rw [← hW2]; exact hD1.below ((Below.refl _ _).alloc (by omega) _)
  have hz2 : P + 1 ≤ W2.heap.size := bX.lt
  clear hW2 bR1 bO1 cR cO fO hA1 hD1 hP hbw d0 d1
  obtain ⟨Rel, hRel⟩ : ∃ Rel : Nat → Value → World → Prop, Rel = fun (k : Nat) (s30 : Value) (wr : World) => ∃ (acc : List Att) (va : Value), s30 = .slice A na ca ∧ acc.length ≤ k ∧ Blk wr N 28 [.int .i64 slots, .slice A na ca, .slice D nd cd] ∧ Blk wr (N + 1) 28 [.int .i64 0, .slice none 0 0, .slice none 0 0] ∧
      Blk wr P 28 [.int .i64 n, va, .slice none 0 0] ∧ wr.ownsRow (P + 1) 45 8 va acc.length (flatA acc) ∧ Below N W2 wr ∧ P + 1 ≤ wr.heap.size ∧ Hid (R = ⟨n, acc ++ cutA (al.drop k) n, cutD dl n⟩) := ⟨_, rfl⟩
  have HRel := Lib.hid hRel
  clear hRel
  have hst0 : Rel 0 (.slice A na ca) W2 := by
    rw [HRel.out]
    exact ⟨[], _, rfl, Nat.le_refl _, bR, bO, bX, World.ownsRow_nil _ _ _ _, Below.refl _ _, hz2, Lib.hid (by rw [hr.out.1]; simp)⟩
  clear bR bO bX
  go_loopw [7] (fun i wr => ∃ (k : Nat), k ≤ na ∧ i = .int .i64 k ∧ Rel k (.slice A na ca) wr) (fun i _ => na - (intOf i).toNat)
  case atStart => exact ⟨0, Nat.zero_le _, rfl, hst0⟩
  case round =>
    clear hst0
    obtain ⟨k, hk, rfl, hrel⟩ := hrel
    rw [HRel.out] at hrel
    obtain ⟨acc, va, _, hal, bR, bO, bX, hown, hb, hMw, hst⟩ := hrel
    have cR := bR.row
    unfold Row at cR
    by_cases hlt : k < na
    · obtain ⟨a, ha⟩ := get_of_lt (l := al) (k := k) (by rw [← HNA.out]; exact hlt)
      obtain ⟨b, off, rfl, hbB, hcs⟩ := (hA2.below hb).at_ ha
      obtain ⟨c0, c1, c2, c3, c4, c5, c6, c7⟩ := hcs k a ha
      have hd := Lib.hid (drop_of_get ha)
      have hvl : ∀ g, va.ownBlock = some g → P + 1 ≤ g ∧ g < wr.heap.size := hown.lt
      have HV := Lib.hid hvl
      clear hcs ha hvl
      by_cases hm : a.s < n
      · have hst' : Hid (R = ⟨n, (acc ++ [a]) ++ cutA (al.drop (k + 1)) n, cutD dl n⟩) := Lib.hid (by rw [hst.out, hd.out]; simp [cutA, hm])
        have HOD : Hid (wr.drew.ownsRow (P + 1) 45 8 va acc.length (flatA acc)) := Lib.hid (own_kept hown fun g cs hg h => h.drew)
        clear hown hst
        go_upto_region 10 with fail
        clear cR
        have xP : ∀ (x : ExtW (P + 1) wr.drew) (i : Nat), x.val.cell? ⟨P, i, none⟩ = _ := (bX.row.drew).ext (by omega)
        have xN : ∀ (x : ExtW (P + 1) wr.drew) (i : Nat), x.val.cell? ⟨N, i, none⟩ = _ := (bR.row.drew).ext (by omega)
        have y0 : ∀ (x : ExtW (P + 1) wr.drew), x.val.cell? ⟨b, off + k * 8, none⟩ = _ := fun x => (x.cell ⟨b, off + k * 8, none⟩ (by show b < P + 1; omega)).trans c0
        have y1 : ∀ (x : ExtW (P + 1) wr.drew), x.val.cell? ⟨b, off + k * 8 + 1, none⟩ = _ := fun x => (x.cell ⟨b, off + k * 8 + 1, none⟩ (by show b < P + 1; omega)).trans c1
        have y2 : ∀ (x : ExtW (P + 1) wr.drew), x.val.cell? ⟨b, off + k * 8 + 2, none⟩ = _ := fun x => (x.cell ⟨b, off + k * 8 + 2, none⟩ (by show b < P + 1; omega)).trans c2
        have y3 : ∀ (x : ExtW (P + 1) wr.drew), x.val.cell? ⟨b, off + k * 8 + 3, none⟩ = _ := fun x => (x.cell ⟨b, off + k * 8 + 3, none⟩ (by show b < P + 1; omega)).trans c3
        have y4 : ∀ (x : ExtW (P + 1) wr.drew), x.val.cell? ⟨b, off + k * 8 + 4, none⟩ = _ := fun x => (x.cell ⟨b, off + k * 8 + 4, none⟩ (by show b < P + 1; omega)).trans c4
        have y5 : ∀ (x : ExtW (P + 1) wr.drew), x.val.cell? ⟨b, off + k * 8 + 5, none⟩ = _ := fun x => (x.cell ⟨b, off + k * 8 + 5, none⟩ (by show b < P + 1; omega)).trans c5
        have y6 : ∀ (x : ExtW (P + 1) wr.drew), x.val.cell? ⟨b, off + k * 8 + 6, none⟩ = _ := fun x => (x.cell ⟨b, off + k * 8 + 6, none⟩ (by show b < P + 1; omega)).trans c6
        have y7 : ∀ (x : ExtW (P + 1) wr.drew), x.val.cell? ⟨b, off + k * 8 + 7, none⟩ = _ := fun x => (x.cell ⟨b, off + k * 8 + 7, none⟩ (by show b < P + 1; omega)).trans c7
        clear c0 c1 c2 c3 c4 c5 c6 c7
        refine wp_region_rough (P + 1) 14 [13] #[false, false, false, false, false, false, false, false, false, false, false, false, false, false] (by kernel_rfl) rfl rfl ?_
        refine anyR_take0 0 _ (nth0) rfl (by kernel_rfl) (by kernel_rfl) (by kernel_rfl) (l' := #[true, false, false, false, false, false, false, false, false, false, false, false, false, false]) rfl rfl ?_; intro K hK; go_big_quiet_op; go_big_quiet_on
        refine anyR_take0 1 _ (nthS (nth0)) rfl (by kernel_rfl) (by kernel_rfl) (by kernel_rfl) (l' := #[true, true, false, false, false, false, false, false, false, false, false, false, false, false]) rfl rfl ?_; intro K hK; go_big_quiet_op; go_big_quiet_on
        refine anyR_take 2 _ (nthS (nthS (nth0))) rfl (by kernel_rfl) (by kernel_rfl) (by kernel_rfl) (by kernel_rfl) (l' := #[true, true, true, false, false, false, false, false, false, false, false, false, false, false]) rfl rfl ?_; intro K hK; go_big_quiet_op; go_big_quiet_on
        refine anyR_take0 3 _ (nthS (nthS (nthS (nth0)))) rfl (by kernel_rfl) (by kernel_rfl) (by kernel_rfl) (l' := #[true, true, true, true, false, false, false, false, false, false, false, false, false, false]) rfl rfl ?_; intro K hK; go_big_quiet_op; go_big_quiet_on
        refine anyR_take0 4 _ (nthS (nthS (nthS (nthS (nth0))))) rfl (by kernel_rfl) (by kernel_rfl) (by kernel_rfl) (l' := #[true, true, true, true, true, false, false, false, false, false, false, false, false, false]) rfl rfl ?_; intro K hK; go_big_quiet_op; go_big_quiet_on
        refine anyR_take 5 _ (nthS (nthS (nthS (nthS (nthS (nth0)))))) rfl (by kernel_rfl) (by kernel_rfl) (by kernel_rfl) (by kernel_rfl) (l' := #[true, true, true, true, true, true, false, false, false, false, false, false, false, false]) rfl rfl ?_; intro K hK; go_big_quiet_op; go_big_quiet_on
        refine anyR_take0 6 _ (nthS (nthS (nthS (nthS (nthS (nthS (nth0))))))) rfl (by kernel_rfl) (by kernel_rfl) (by kernel_rfl) (l' := #[true, true, true, true, true, true, true, false, false, false, false, false, false, false]) rfl rfl ?_; intro K hK; go_big_quiet_op; go_big_quiet_on
        refine anyR_take0 7 _ (nthS (nthS (nthS (nthS (nthS (nthS (nthS (nth0)))))))) rfl (by kernel_rfl) (by kernel_rfl) (by kernel_rfl) (l' := #[true, true, true, true, true, true, true, true, false, false, false, false, false, false]) rfl rfl ?_; intro K hK; go_big_quiet_op; go_big_quiet_on
        refine anyR_take 8 _ (nthS (nthS (nthS (nthS (nthS (nthS (nthS (nthS (nth0))))))))) rfl (by kernel_rfl) (by kernel_rfl) (by kernel_rfl) (by kernel_rfl) (l' := #[true, true, true, true, true, true, true, true, true, false, false, false, false, false]) rfl rfl ?_; intro K hK; go_big_quiet_op; go_big_quiet_on
        clear xP xN y0 y1 y2 y3 y4 y5 y6 y7
        refine anyR_one 9 _ (nthS (nthS (nthS (nthS (nthS (nthS (nthS (nthS (nthS (nth0)))))))))) (by kernel_rfl) (l' := #[true, true, true, true, true, true, true, true, true, true, false, false, false, false]) rfl ?_
        go_wp2_with fail
        refine OneR_mk ((Below.refl _ _).alloc (by have : wr.drew.heap.size = wr.heap.size := rfl; omega) _) ?_
        refine anyR_one 10 _ (nthS (nthS (nthS (nthS (nthS (nthS (nthS (nthS (nthS (nthS (nth0))))))))))) (by kernel_rfl) (l' := #[true, true, true, true, true, true, true, true, true, true, true, false, false, false]) rfl ?_
        go_wp2_with (at_builtin; refine wpList_append_own_at _ rfl (.tmp 43) (.tmp 50) 23 rfl (P + 1) 45 i0 (.agg #[.int .i64 0, .int .i64 0, .int .i64 0, .int .i64 0, .int .i64 0, .int .i64 0, .int .i64 0, .int .i64 0]) 8 64 Try.underlying23 HI.out.1 HI.out.2.1 HI.out.2.2.1 HI.out.2.2.2 rfl (by decide) va acc.length (flatA acc) rfl (HOD.out.alloc _) ⟨wr.heap.size, 0, none⟩ 1 1 [.int .i64 a.s, .int .i64 a.f, .int .i64 a.cs, .int .i64 a.co, .int .i64 a.cf, .int .i64 a.ct, .int .i64 a.cl, .int .i64 a.o] rfl rfl ?e0 ?e1 ?e2 ?e3 ?e4 ?_)
        case e0 => exact (Blk.new' 45 [.int .i64 a.s, .int .i64 a.f, .int .i64 a.cs, .int .i64 a.co, .int .i64 a.cf, .int .i64 a.ct, .int .i64 a.cl, .int .i64 a.o] rfl).news
        case e1 => exact ints_one (l := [a.s, a.f, a.cs, a.co, a.cf, a.ct, a.cl, a.o])
        case e2 => unfold maxLen; omega
        case e3 => omega
        case e4 => have : wr.drew.heap.size = wr.heap.size := rfl; simp; omega
        intro v3 w3 ho3 hg3 hnil3 hat3
        clear hnil3 hat3
        obtain ⟨A3, c3', hv3⟩ := own_form ho3
        have far : ∀ g t cs, g < (P + 1) → Blk wr g t cs → Blk w3 g t cs := fun g t cs h1 h => ((Blk.drew h).alloc _).grown_ hg3 (by intro e; have := HV.out g e.symm; omega)
        have bX3 := far _ _ _ (by omega) bX
        have cX3 := bX3.row
        have fX3 := bX3.frozen
        unfold Row at cX3
        have hb3 : Below N W2 w3 := (hb.drew.alloc (by have : wr.drew.heap.size = wr.heap.size := rfl; omega) _).grown hg3 (by have : wr.drew.heap.size = wr.heap.size := rfl; simp; omega) (by intro g hg; have := HV.out g hg; omega)
        have hz3 : (P + 1) ≤ w3.heap.size := by have := hg3.size; have : wr.drew.heap.size = wr.heap.size := rfl; simp at *; omega
        have hbP : Below (P + 1) (wr.drew.alloc (.cells #[.int .i64 a.s, .int .i64 a.f, .int .i64 a.cs, .int .i64 a.co, .int .i64 a.cf, .int .i64 a.ct, .int .i64 a.cl, .int .i64 a.o] 45)) w3 := (Below.refl _ _).grown hg3 (by have : wr.drew.heap.size = wr.heap.size := rfl; simp; omega) (by intro g hg; have := HV.out g hg; omega)
        have hnew : Rel (k + 1) (.slice (some ⟨b, off, none⟩) na ca) (w3.setCell ⟨P, 1, none⟩ v3) := by
          rw [HRel.out]
          have h1 : w3.ownsRow (P + 1) 45 8 v3 (acc ++ [a]).length (flatA (acc ++ [a])) := by simpa [flatA, Att.row] using ho3
          exact ⟨acc ++ [a], v3, rfl, by simp; omega, (far _ _ _ (by omega) bR).far (p := ⟨P, 1, none⟩) (by dsimp only; omega) _, (far _ _ _ (by omega) bO).far (p := ⟨P, 1, none⟩) (by dsimp only; omega) _, bX3.set_ 1 _, own_kept h1 fun g cs hg h => h.far (p := ⟨P, 1, none⟩) (by have := (h1.lt g hg).1; dsimp only; omega) _, hb3.setCell (p := ⟨P, 1, none⟩) (by dsimp only; omega) _, by simp [World.setCell]; omega, hst'⟩
        have HNEW := Lib.hid hnew
        clear ho3 hg3 HOD far bX3 bR bO bX hnew
        subst hv3
        go_wp2_with fail
        refine OneR_mk (hbP) ?_
        refine anyR_take0 11 _ (nthS (nthS (nthS (nthS (nthS (nthS (nthS (nthS (nthS (nthS (nthS (nth0)))))))))))) rfl (by kernel_rfl) (by kernel_rfl) (by kernel_rfl) (l' := #[true, true, true, true, true, true, true, true, true, true, true, true, false, false]) rfl rfl ?_; intro K hK; go_big_quiet_op; go_big_quiet_on
        refine anyR_take0 12 _ (nthS (nthS (nthS (nthS (nthS (nthS (nthS (nthS (nthS (nthS (nthS (nthS (nth0))))))))))))) rfl (by kernel_rfl) (by kernel_rfl) (by kernel_rfl) (l' := #[true, true, true, true, true, true, true, true, true, true, true, true, true, false]) rfl rfl ?_; intro K hK; go_big_quiet_op; go_big_quiet_on
        refine anyR_one 13 _ (nthS (nthS (nthS (nthS (nthS (nthS (nthS (nthS (nthS (nthS (nthS (nthS (nthS (nth0)))))))))))))) (by kernel_rfl) (l' := #[true, true, true, true, true, true, true, true, true, true, true, true, true, true]) rfl ?_
        go_wp2_with fail
        refine OneR_rough (by kernel_rfl) ((Below.refl _ _).setCell (Nat.zero_le _) _) ?_
        refine anyR_end (by kernel_rfl) ?_
        go_wp2_with fail
        go_roundw
        case rel => exact ⟨k + 1, by omega, by go_num, HNEW.out⟩
        case measure => simp [intOf]; omega
      · have hnew : Rel (k + 1) (.slice (some ⟨b, off, none⟩) na ca) wr := by
          rw [HRel.out]
          exact ⟨acc, va, rfl, by omega, bR, bO, bX, hown, hb, by omega, Lib.hid (by rw [hst.out, hd.out]; simp only [cutA, List.filter_cons, hm, decide_false, Bool.false_eq_true, if_false])⟩
        go_wp2_with fail
        go_roundw
        case rel => exact ⟨k + 1, by omega, by go_num, hnew⟩
        case measure => simp [intOf]; omega
    · have hst' : Hid (R = ⟨n, acc, cutD dl n⟩) := Lib.hid (by rw [hst.out, List.drop_of_length_le (by rw [← HNA.out]; omega)]; simp [cutA])
      clear hst
      obtain ⟨W3, hW3⟩ : ∃ W3 : World, W3 = wr := ⟨_, rfl⟩
      subst hW3
      obtain ⟨Q, hQ⟩ : ∃ Q, Q = W3.heap.size := ⟨_, rfl⟩
      have hvl : ∀ g, va.ownBlock = some g → P + 1 ≤ g ∧ g < Q := by rw [hQ]; exact hown.lt
      have HVA := Lib.hid hvl
      have hzQ : P + 1 ≤ Q := by rw [hQ]; exact hMw
      obtain ⟨Rel2, hRel2⟩ : ∃ Rel2 : Nat → World → Prop, Rel2 = fun (k : Nat) (wr : World) => ∃ (ac : List Dlv) (vd : Value), ac.length ≤ k ∧ Blk wr N 28 [.int .i64 slots, .slice A na ca, .slice D nd cd] ∧ Blk wr (N + 1) 28 [.int .i64 0, .slice none 0 0, .slice none 0 0] ∧
          Blk wr P 28 [.int .i64 n, va, vd] ∧ wr.ownsRow (P + 1) 45 8 va acc.length (flatA acc) ∧ wr.ownsRow Q 62 3 vd ac.length (flatD ac) ∧ Below N W2 wr ∧ Q ≤ wr.heap.size ∧ Hid (R = ⟨n, acc, ac ++ cutD (dl.drop k) n⟩) := ⟨_, rfl⟩
      have HRel2 := Lib.hid hRel2
      have hst2 : Rel2 0 W3 := by
        rw [hRel2]
        exact ⟨[], _, Nat.le_refl _, bR, bO, bX, hown, World.ownsRow_nil _ _ _ _, hb, by rw [hQ]; exact Nat.le_refl _, Lib.hid (by rw [hst'.out]; simp)⟩
      clear hRel2 bR bO bX hown hb hMw hvl hst' HRel hQ
      go_wp2_with fail
      go_loopw [8] (fun i wr => ∃ (k : Nat), k ≤ nd ∧ i = .int .i64 k ∧ Rel2 k wr) (fun i _ => nd - (intOf i).toNat)
      case atStart => exact ⟨0, Nat.zero_le _, rfl, hst2⟩
      case round =>
        clear hst2 hk
        obtain ⟨k, hk, rfl, hrel⟩ := hrel
        rw [HRel2.out] at hrel
        obtain ⟨ac, vd, hal2, bR, bO, bX, howna, hown, hb, hMw, hst⟩ := hrel
        have cR := bR.row
        unfold Row at cR
        by_cases hlt : k < nd
        · obtain ⟨a, ha⟩ := get_of_lt (l := dl) (k := k) (by rw [← HND.out]; exact hlt)
          obtain ⟨b, off, rfl, hbB, hcs⟩ := (hD2.below hb).at_ ha
          obtain ⟨c0, c1, c2⟩ := hcs k a ha
          have hd := Lib.hid (drop_of_get ha)
          have hvl : ∀ g, vd.ownBlock = some g → Q ≤ g ∧ g < wr.heap.size := hown.lt
          have HV := Lib.hid hvl
          clear hcs ha hvl
          by_cases hm : a.sl < n
          · have hst' : Hid (R = ⟨n, acc, (ac ++ [a]) ++ cutD (dl.drop (k + 1)) n⟩) := Lib.hid (by rw [hst.out, hd.out]; simp [cutD, hm])
            have HOD : Hid (wr.drew.ownsRow Q 62 3 vd ac.length (flatD ac)) := Lib.hid (own_kept hown fun g cs hg h => h.drew)
            clear hown hst
            go_upto_region 15 with fail
            clear cR
            have xP : ∀ (x : ExtW (P + 1) wr.drew) (i : Nat), x.val.cell? ⟨P, i, none⟩ = _ := (bX.row.drew).ext (by omega)
            have xN : ∀ (x : ExtW (P + 1) wr.drew) (i : Nat), x.val.cell? ⟨N, i, none⟩ = _ := (bR.row.drew).ext (by omega)
            have y0 : ∀ (x : ExtW (P + 1) wr.drew), x.val.cell? ⟨b, off + k * 3, none⟩ = _ := fun x => (x.cell ⟨b, off + k * 3, none⟩ (by show b < P + 1; omega)).trans c0
            have y1 : ∀ (x : ExtW (P + 1) wr.drew), x.val.cell? ⟨b, off + k * 3 + 1, none⟩ = _ := fun x => (x.cell ⟨b, off + k * 3 + 1, none⟩ (by show b < P + 1; omega)).trans c1
            have y2 : ∀ (x : ExtW (P + 1) wr.drew), x.val.cell? ⟨b, off + k * 3 + 2, none⟩ = _ := fun x => (x.cell ⟨b, off + k * 3 + 2, none⟩ (by show b < P + 1; omega)).trans c2
            clear c0 c1 c2
            refine wp_region_rough (P + 1) 14 [13] #[false, false, false, false, false, false, false, false, false, false, false, false, false, false] (by kernel_rfl) rfl rfl ?_
            refine anyR_take0 0 _ (nth0) rfl (by kernel_rfl) (by kernel_rfl) (by kernel_rfl) (l' := #[true, false, false, false, false, false, false, false, false, false, false, false, false, false]) rfl rfl ?_; intro K hK; go_big_quiet_op; go_big_quiet_on
            refine anyR_take0 1 _ (nthS (nth0)) rfl (by kernel_rfl) (by kernel_rfl) (by kernel_rfl) (l' := #[true, true, false, false, false, false, false, false, false, false, false, false, false, false]) rfl rfl ?_; intro K hK; go_big_quiet_op; go_big_quiet_on
            refine anyR_take 2 _ (nthS (nthS (nth0))) rfl (by kernel_rfl) (by kernel_rfl) (by kernel_rfl) (by kernel_rfl) (l' := #[true, true, true, false, false, false, false, false, false, false, false, false, false, false]) rfl rfl ?_; intro K hK; go_big_quiet_op; go_big_quiet_on
            refine anyR_take0 3 _ (nthS (nthS (nthS (nth0)))) rfl (by kernel_rfl) (by kernel_rfl) (by kernel_rfl) (l' := #[true, true, true, true, false, false, false, false, false, false, false, false, false, false]) rfl rfl ?_; intro K hK; go_big_quiet_op; go_big_quiet_on
            refine anyR_take0 4 _ (nthS (nthS (nthS (nthS (nth0))))) rfl (by kernel_rfl) (by kernel_rfl) (by kernel_rfl) (l' := #[true, true, true, true, true, false, false, false, false, false, false, false, false, false]) rfl rfl ?_; intro K hK; go_big_quiet_op; go_big_quiet_on
            refine anyR_take 5 _ (nthS (nthS (nthS (nthS (nthS (nth0)))))) rfl (by kernel_rfl) (by kernel_rfl) (by kernel_rfl) (by kernel_rfl) (l' := #[true, true, true, true, true, true, false, false, false, false, false, false, false, false]) rfl rfl ?_; intro K hK; go_big_quiet_op; go_big_quiet_on
            refine anyR_take0 6 _ (nthS (nthS (nthS (nthS (nthS (nthS (nth0))))))) rfl (by kernel_rfl) (by kernel_rfl) (by kernel_rfl) (l' := #[true, true, true, true, true, true, true, false, false, false, false, false, false, false]) rfl rfl ?_; intro K hK; go_big_quiet_op; go_big_quiet_on
            refine anyR_take0 7 _ (nthS (nthS (nthS (nthS (nthS (nthS (nthS (nth0)))))))) rfl (by kernel_rfl) (by kernel_rfl) (by kernel_rfl) (l' := #[true, true, true, true, true, true, true, true, false, false, false, false, false, false]) rfl rfl ?_; intro K hK; go_big_quiet_op; go_big_quiet_on
            refine anyR_take 8 _ (nthS (nthS (nthS (nthS (nthS (nthS (nthS (nthS (nth0))))))))) rfl (by kernel_rfl) (by kernel_rfl) (by kernel_rfl) (by kernel_rfl) (l' := #[true, true, true, true, true, true, true, true, true, false, false, false, false, false]) rfl rfl ?_; intro K hK; go_big_quiet_op; go_big_quiet_on
            clear xP xN y0 y1 y2
            refine anyR_one 9 _ (nthS (nthS (nthS (nthS (nthS (nthS (nthS (nthS (nthS (nth0)))))))))) (by kernel_rfl) (l' := #[true, true, true, true, true, true, true, true, true, true, false, false, false, false]) rfl ?_
            go_wp2_with fail
            refine OneR_mk ((Below.refl _ _).alloc (by have : wr.drew.heap.size = wr.heap.size := rfl; omega) _) ?_
            refine anyR_one 10 _ (nthS (nthS (nthS (nthS (nthS (nthS (nthS (nthS (nthS (nthS (nth0))))))))))) (by kernel_rfl) (l' := #[true, true, true, true, true, true, true, true, true, true, true, false, false, false]) rfl ?_
            go_wp2_with (at_builtin; refine wpList_append_own_at _ rfl (.tmp 73) (.tmp 80) 24 rfl Q 62 j0 (.agg #[.int .i64 0, .int .i64 0, .int .i64 0]) 3 24 Try.underlying24 HJ.out.1 HJ.out.2.1 HJ.out.2.2.1 HJ.out.2.2.2 rfl (by decide) vd ac.length (flatD ac) rfl (HOD.out.alloc _) ⟨wr.heap.size, 0, none⟩ 1 1 [.int .i64 a.fl, .int .i64 a.fr, .int .i64 a.sl] rfl rfl ?e0 ?e1 ?e2 ?e3 ?e4 ?_)
            case e0 => exact (Blk.new' 62 [.int .i64 a.fl, .int .i64 a.fr, .int .i64 a.sl] rfl).news
            case e1 => exact ints_one (l := [a.fl, a.fr, a.sl])
            case e2 => unfold maxLen; omega
            case e3 => omega
            case e4 => have : wr.drew.heap.size = wr.heap.size := rfl; simp; omega
            intro v3 w3 ho3 hg3 hnil3 hat3
            clear hnil3 hat3
            obtain ⟨A3, c3', hv3⟩ := own_form ho3
            have far : ∀ g t cs, g < Q → Blk wr g t cs → Blk w3 g t cs := fun g t cs h1 h => ((Blk.drew h).alloc _).grown_ hg3 (by intro e; have := HV.out g e.symm; omega)
            have bX3 := far _ _ _ (by omega) bX
            have cX3 := bX3.row
            have fX3 := bX3.frozen
            unfold Row at cX3
            have hb3 : Below N W2 w3 := (hb.drew.alloc (by have : wr.drew.heap.size = wr.heap.size := rfl; omega) _).grown hg3 (by have : wr.drew.heap.size = wr.heap.size := rfl; simp; omega) (by intro g hg; have := HV.out g hg; omega)
            have hz3 : Q ≤ w3.heap.size := by have := hg3.size; have : wr.drew.heap.size = wr.heap.size := rfl; simp at *; omega
            have hbP : Below (P + 1) (wr.drew.alloc (.cells #[.int .i64 a.fl, .int .i64 a.fr, .int .i64 a.sl] 62)) w3 := (Below.refl _ _).grown hg3 (by have : wr.drew.heap.size = wr.heap.size := rfl; simp; omega) (by intro g hg; have := HV.out g hg; omega)
            have hnew : Rel2 (k + 1) (w3.setCell ⟨P, 2, none⟩ v3) := by
              rw [HRel2.out]
              have h1 : w3.ownsRow Q 62 3 v3 (ac ++ [a]).length (flatD (ac ++ [a])) := by simpa [flatD, Dlv.row] using ho3
              exact ⟨ac ++ [a], v3, by simp; omega, (far _ _ _ (by omega) bR).far (p := ⟨P, 2, none⟩) (by dsimp only; omega) _, (far _ _ _ (by omega) bO).far (p := ⟨P, 2, none⟩) (by dsimp only; omega) _, bX3.set_ 2 _, own_kept howna fun g cs hg h => (far _ _ _ (HVA.out g hg).2 h).far (p := ⟨P, 2, none⟩) (by have := HVA.out g hg; dsimp only; omega) _, own_kept h1 fun g cs hg h => h.far (p := ⟨P, 2, none⟩) (by have := (h1.lt g hg).1; dsimp only; omega) _, hb3.setCell (p := ⟨P, 2, none⟩) (by dsimp only; omega) _, by simp [World.setCell]; omega, hst'⟩
            have HNEW := Lib.hid hnew
            clear ho3 hg3 HOD far bX3 bR bO bX hnew howna
            subst hv3
            go_wp2_with fail
            refine OneR_mk (hbP) ?_
            refine anyR_take0 11 _ (nthS (nthS (nthS (nthS (nthS (nthS (nthS (nthS (nthS (nthS (nthS (nth0)))))))))))) rfl (by kernel_rfl) (by kernel_rfl) (by kernel_rfl) (l' := #[true, true, true, true, true, true, true, true, true, true, true, true, false, false]) rfl rfl ?_; intro K hK; go_big_quiet_op; go_big_quiet_on
            refine anyR_take0 12 _ (nthS (nthS (nthS (nthS (nthS (nthS (nthS (nthS (nthS (nthS (nthS (nthS (nth0))))))))))))) rfl (by kernel_rfl) (by kernel_rfl) (by kernel_rfl) (l' := #[true, true, true, true, true, true, true, true, true, true, true, true, true, false]) rfl rfl ?_; intro K hK; go_big_quiet_op; go_big_quiet_on
            refine anyR_one 13 _ (nthS (nthS (nthS (nthS (nthS (nthS (nthS (nthS (nthS (nthS (nthS (nthS (nthS (nth0)))))))))))))) (by kernel_rfl) (l' := #[true, true, true, true, true, true, true, true, true, true, true, true, true, true]) rfl ?_
            go_wp2_with fail
            refine OneR_rough (by kernel_rfl) ((Below.refl _ _).setCell (Nat.zero_le _) _) ?_
            refine anyR_end (by kernel_rfl) ?_
            go_wp2_with fail
            go_roundw
            case rel => exact ⟨k + 1, by omega, by go_num, HNEW.out⟩
            case measure => simp [intOf]; omega
          · have hnew : Rel2 (k + 1) wr := by
              rw [HRel2.out]
              exact ⟨ac, vd, by omega, bR, bO, bX, howna, hown, hb, by omega, Lib.hid (by rw [hst.out, hd.out]; simp only [cutD, List.filter_cons, hm, decide_false, Bool.false_eq_true, if_false])⟩
            go_wp2_with fail
            go_roundw
            case rel => exact ⟨k + 1, by omega, by go_num, hnew⟩
            case measure => simp [intOf]; omega
        · have hst' : Hid (R = ⟨n, acc, ac⟩) := Lib.hid (by rw [hst.out, List.drop_of_length_le (by rw [← HND.out]; omega)]; simp [cutD])
          have HE0 : Hid (E = 0) := Lib.hid hr.out.2
          obtain ⟨A6, cA6, hvA⟩ := own_form howna
          obtain ⟨D6, cD6, hvD⟩ := own_form hown
          subst hvA hvD
          have b7 := ((bO.set_ 0 (.int .i64 n)).set_ 1 (.slice A6 acc.length cA6)).set_ 2 (.slice D6 ac.length cD6)
          have C7 := Lib.hid b7.row
          clear b7
          have cX := bX.row
          have cO := bO.row
          have fO := bO.frozen
          unfold Row at cX cO
          have far : ∀ g t cs, g ≠ N + 1 → Blk wr g t cs → Blk (((wr.setCell ⟨N + 1, 0, none⟩ (.int .i64 n)).setCell ⟨N + 1, 1, none⟩ (.slice A6 acc.length cA6)).setCell ⟨N + 1, 2, none⟩ (.slice D6 ac.length cD6)) g t cs := fun g t cs h1 h => ((h.far (p := ⟨N + 1, 0, none⟩) h1 _).far (p := ⟨N + 1, 1, none⟩) h1 _).far (p := ⟨N + 1, 2, none⟩) h1 _
          have O1 := Lib.hid (own_kept howna fun g cs hg h => far g _ cs (by have := HVA.out g hg; omega) h)
          have O2 := Lib.hid (own_kept hown fun g cs hg h => far g _ cs (by have := (hown.lt g hg).1; omega) h)
          have hW7 : Hid (Below N w (((wr.setCell ⟨N + 1, 0, none⟩ (.int .i64 n)).setCell ⟨N + 1, 1, none⟩ (.slice A6 acc.length cA6)).setCell ⟨N + 1, 2, none⟩ (.slice D6 ac.length cD6))) := Lib.hid ((((hb2.trans hb).setCell (p := ⟨N + 1, 0, none⟩) (by dsimp only; omega) _).setCell (p := ⟨N + 1, 1, none⟩) (by dsimp only; omega) _).setCell (p := ⟨N + 1, 2, none⟩) (by dsimp only; omega) _)
          have hne : ¬ P = N + 1 := by omega
          have hne' : ¬ N + 1 = P := by omega
          clear hst bX bO bR howna hown far hr
          go_wp2_with fail
          have c7 := C7.out
          unfold Row at c7
          simp only [List.set_cons_zero, List.set_cons_succ] at c7
          refine bodyPost_ret (v := .tuple #[.agg #[.int .i64 n, .slice A6 acc.length cA6, .slice D6 ac.length cD6], .int .i64 0]) (by simp [results, Try.results31, go_sem, c7]) rfl ?_
          rw [hst'.out, HE0.out]
          obtain ⟨A7, cA7, e7, l7⟩ := own_liesA O1.out
          obtain ⟨D7, cD7, e8, l8⟩ := own_liesD O2.out
          injection e7 with e7 _ _
          injection e8 with e8 _ _
          subst e7 e8
          exact ⟨by rw [← HN.out]; exact hW7.out, A6, D6, cA6, cD6, rfl, l7, l8⟩

end Go.Proofs.Ytllakkepphpfmaa

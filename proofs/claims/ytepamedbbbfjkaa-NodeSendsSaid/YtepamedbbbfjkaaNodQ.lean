/- Walks: copied, find of package node; clone, find of its reference. -/
import Derived.Test.YtepamedbbbfjkaaNodO
namespace Go.Proofs.Ytepamedbbbfjkaa
open Go.RowKit
open Nd
theorem own_form2 {w : World} {b : Nat} {e : TypeId} {s : Nat} {v : Value} {n : Nat} {x : List Value} (h : w.ownsRow b e s v n x) : ∃ A c, v = .slice A n c := by
  rcases h.2 with ⟨rfl, rfl⟩ | ⟨g, cap, cur, rfl, _⟩
  · exact ⟨_, _, rfl⟩
  · exact ⟨_, _, rfl⟩
theorem own_type2 {w : World} {base : Nat} {e t : TypeId} {size : Nat} {v : Value} {n : Nat} {xs cs : List Value} {g : Nat} (h : w.ownsRow base e size v n xs) (hg : some g = v.ownBlock) (hb : Blk w g t cs) : t = e := by
  rcases h.2 with ⟨rfl, _⟩ | ⟨g', cap, cur, rfl, _, e3, _⟩
  · cases hg
  · simp only [Value.ownBlock, Option.some.injEq] at hg
    subst hg
    unfold Blk at hb
    rw [e3] at hb
    injection hb with hb
    injection hb with _ hb
    exact hb.symm
theorem Blk.news2 {w : World} {g : Nat} {t : TypeId} {cs : List Value} (h : Blk w g t cs) : ∀ j u, cs[j]? = some u → w.cell? ((⟨g, 0, none⟩ : Addr).add j) = some u := fun j u hu => by rw [add_off]; exact (h.row j).trans hu
theorem run_append_zero {P : Program} {w : World} {base : Nat} (t ty e : TypeId) (i : TypeInfo) (size : Nat) (ht : P.underlying t = some (.slice e)) (hi : P.info? e = some i)
    (v : Value) (n : Nat) (xs : List Value) (hown : w.ownsRow base e size v n xs) (A : Option Addr) (c : Nat) :
    (Builtin.append_ #[t, t] ty #[v, .slice A 0 c]).run P w = .ok v w := by
  have hl : ∀ (x : Addr), (loadCells x 0).run P w = .ok #[] w := fun x => by simpa using run_loadCells_list (P := P) w x [] (by simp)
  rcases hown.2 with ⟨rfl, rfl⟩ | ⟨g, cap, cur, rfl, _, _, hnc, _⟩
  · cases A <;> simp [Builtin.append_, run_underlying ht, sizeOf, typeInfo, hi, Builtin.lenOf, Builtin.firstCells, hl]
  · cases A <;> simp [Builtin.append_, run_underlying ht, sizeOf, typeInfo, hi, Builtin.lenOf, Builtin.firstCells, hnc, storeCells, hl]
theorem take_succ_map {l : List Ho} {k : Nat} {a : Ho} (h : l[k]? = some a) : (l.take (k + 1)).map Ho.d = (l.take k).map Ho.d ++ [a.d] := by
  have hk : k < l.length := (List.getElem?_eq_some_iff.1 h).1
  rw [List.take_succ_eq_append_getElem hk, List.map_append]
  have := (List.getElem?_eq_some_iff.1 h).2
  simp [this]
/-- What has been copied so far. -/
def CopRel (w : World) (l : List Ho) (k : Nat) (v : Value) (wr : World) : Prop := Below w.heap.size w wr ∧ ∃ acc, acc.length = k ∧ OutH wr w.heap.size v acc ∧ acc.map Ho.d = (l.take k).map Ho.d

set_option maxRecDepth 100000 in
set_option maxHeartbeats 4000000 in
theorem copied_any (l : List Ho) (A : Option Addr) (c : Nat) (w : World) (hD : LiesH w w.heap.size A l) (hl : l.length ≤ 1000000) :
    Calls Try.prog 29 #[.slice A l.length c] w fun e w' => Below w.heap.size w w' ∧ ∃ v l', e = .returned v ∧ OutH w' w.heap.size v l' ∧ l'.map Ho.d = l.map Ho.d := by
  obtain ⟨n, hn⟩ : ∃ n, n = l.length := ⟨_, rfl⟩
  rw [← hn] at hl ⊢
  have HL := Lib.hid hn
  have HD := Lib.hid (fun W (h : Below w.heap.size w W) => LiesH.later hD h)
  clear hn hD
  obtain ⟨i0, hi, hz0, hz1, hz2⟩ := info_parts Try.infoH
  go_enter Try.func29, Try.ntmps29
  go_wp2_with fail
  go_loopw [3, 8] (fun s3 i wr => ∃ (k : Nat) (v : Value), v = s3 ∧ k ≤ n ∧ i = .int .i64 k ∧ Hid (CopRel w l k v wr)) (fun _ i _ => n - (intOf i).toNat)
  case atStart => exact ⟨0, _, rfl, Nat.zero_le _, rfl, Lib.hid ⟨Below.refl _ _, [], rfl, OutH.nil _ _, rfl⟩⟩
  case round =>
    obtain ⟨k, v, rfl, hk, rfl, HR⟩ := hrel
    by_cases hlt : k < n
    case neg =>
      obtain ⟨hb, acc, hlen, hout, hmap⟩ := HR.out
      obtain ⟨A3, c3, hv3⟩ := own_form2 hout.1
      have HO := Lib.hid hout
      have HM : Hid (acc.map Ho.d = l.map Ho.d) := Lib.hid (by rw [hmap, List.take_of_length_le (by rw [← HL.out]; omega)])
      clear hout hmap HR
      subst hv3
      go_wp2_with fail
      go_ret
      exact ⟨hb, _, acc, rfl, HO.out, HM.out⟩
    obtain ⟨hb, acc, hlen, hout, hmap⟩ := HR.out
    obtain ⟨a, ha⟩ := get_of_lt (l := l) (k := k) (by rw [← HL.out]; exact hlt)
    obtain ⟨b, off, rfl, hbB, hcs⟩ := (HD.out _ hb).1.at_ ha
    have HI := Lib.hid (fun W (h : Below w.heap.size w W) => (HD.out W h).inn ha)
    have HM : Hid ((l.take (k + 1)).map Ho.d = acc.map Ho.d ++ [a.d]) := Lib.hid (by rw [take_succ_map ha, hmap])
    have c0 := hcs k a ha 0 _ rfl
    have c1 := hcs k a ha 1 _ rfl
    have c2 := hcs k a ha 2 _ rfl
    simp only [Nat.add_zero] at c0 c1 c2
    have HO := Lib.hid hout
    have HB := Lib.hid hb
    have HLen := Lib.hid hlen
    clear hcs ha hout hmap HR hb hlen
    go_upto_region 5 with fail
    generalize hW1 : wr.alloc _ = W1
    have ba : Blk W1 wr.heap.size 45 [.int .i64 a.fl, .int .i64 a.fr, .slice a.A a.ak.length a.c] := by rw [← hW1]; exact Blk.new2 _ [.int .i64 a.fl, .int .i64 a.fr, .slice a.A a.ak.length a.c] rfl
    have hb1 : Below w.heap.size w W1 := by rw [← hW1]; exact HB.out.alloc HB.out.size _
    have hbr : Below wr.heap.size wr W1 := by rw [← hW1]; exact (Below.refl _ _).alloc (Nat.le_refl _) _
    have HO1 := Lib.hid (HO.out.below hbr (Nat.le_refl _))
    have HO0 := HO
    have hwz := HB.out.size
    clear hW1 c0 c1 c2 hbr HO
    have ca := ba.row
    unfold Row at ca
    go_wp2_with fail
    refine (own_any a _ (HI.out _ hb1).1 (HI.out _ hb1).2).mono ?_
    rintro e w2 ⟨hb2, h', hd', rfl, hO'⟩
    have hB2 : Below w.heap.size w w2 := hb1.trans (hb2.mono hb1.size)
    have HOw := Lib.hid (HO1.out.below hb2 (Nat.le_refl _))
    have HOI := Lib.hid (hO'.base (b' := w.heap.size) hb1.size)
    have HDD := Lib.hid hd'
    clear HO1 hO' hd' ca
    go_wp2_with (at_builtin; refine wpList_append_own_at _ rfl (.tmp 12) (.tmp 15) 23 rfl w.heap.size 45 i0 (.agg #[.int .i64 0, .int .i64 0, .slice none 0 0]) 3 40 Try.underlying23 hi hz0 hz1 hz2 rfl (by decide) v acc.length (acc.flatMap Ho.row) rfl (HOw.out.1.alloc _) ⟨w2.heap.size, 0, none⟩ 1 1 [.int .i64 h'.fl, .int .i64 h'.fr, .slice h'.A h'.ak.length h'.c] rfl rfl ?e0 ?e1 ?e2 ?e3 ?e4 ?_)
    case e0 => exact (Blk.new2 45 [.int .i64 h'.fl, .int .i64 h'.fr, .slice h'.A h'.ak.length h'.c] rfl).news2
    case e1 => exact oneH _
    case e2 => unfold maxLen; have := HLen.out; omega
    case e3 => have := HLen.out; omega
    case e4 => simp; have := hB2.size; omega
    intro v3 w3 ho3 hg3 hnil3 hat3
    clear hnil3 hat3
    have hb3 : Below w.heap.size w w3 := (hB2.alloc hB2.size _).grown hg3 (by simp; have := hB2.size; omega) (by intro g hg; exact (HOw.out.1.lt g hg).1)
    have hbn : Below w2.heap.size w2 (w2.alloc (.cells [.int .i64 h'.fl, .int .i64 h'.fr, .slice h'.A h'.ak.length h'.c].toArray 45)) := (Below.refl _ _).alloc (Nat.le_refl _) _
    have O3 : Hid (CopRel w l (k + 1) v3 w3) := Lib.hid ⟨hb3, acc ++ [h'], by simp [HLen.out], OutH.turn (HOw.out.below hbn (Nat.le_refl _)) hg3 (by rw [flat_snoc, List.length_append]; exact ho3) (fun x hx => by
      rcases List.mem_append.1 hx with hx | hx
      · exact (HOw.out.2 x hx).below hbn (Nat.le_refl _)
      · obtain rfl : x = h' := by simpa using hx
        exact HOI.out.below hbn (Nat.le_refl _)), by rw [HM.out, List.map_append, List.map_cons, List.map_nil, HDD.out]⟩
    obtain ⟨A3, c3, hv3⟩ := own_form2 ho3
    clear ho3 hg3 HOw HOI hbn hb3
    subst hv3
    go_wp2_with fail
    go_roundw
    case rel => exact ⟨k + 1, _, rfl, by omega, by go_num, O3⟩
    case measure => simp [intOf]; omega

set_option maxRecDepth 100000 in
set_option maxHeartbeats 4000000 in
theorem rclone_any (l : List Ho) (A : Option Addr) (c : Nat) (w : World) (hD : LiesH w w.heap.size A l) (hl : l.length ≤ 1000000) :
    Calls Try.prog 36 #[.slice A l.length c] w fun e w' => Below w.heap.size w w' ∧ ∃ v l', e = .returned v ∧ OutH w' w.heap.size v l' ∧ l'.map Ho.d = l.map Ho.d := by
  obtain ⟨n, hn⟩ : ∃ n, n = l.length := ⟨_, rfl⟩
  rw [← hn] at hl ⊢
  have HL := Lib.hid hn
  have HD := Lib.hid (fun W (h : Below w.heap.size w W) => LiesH.later hD h)
  clear hn hD
  obtain ⟨i0, hi, hz0, hz1, hz2⟩ := info_parts Try.infoH
  obtain ⟨j0, ji, jz0, jz1, jz2⟩ := info_parts Try.infoI
  go_enter Try.func36, Try.ntmps36
  go_wp2_with fail
  go_loopw [3, 4] (fun s3 i wr => ∃ (k : Nat) (v : Value), v = s3 ∧ k ≤ n ∧ i = .int .i64 k ∧ Hid (CopRel w l k v wr)) (fun _ i _ => n - (intOf i).toNat)
  case atStart => exact ⟨0, _, rfl, Nat.zero_le _, rfl, Lib.hid ⟨Below.refl _ _, [], rfl, OutH.nil _ _, rfl⟩⟩
  case round =>
    obtain ⟨k, v, rfl, hk, rfl, HR⟩ := hrel
    by_cases hlt : k < n
    case neg =>
      obtain ⟨hb, acc, hlen, hout, hmap⟩ := HR.out
      obtain ⟨A3, c3, hv3⟩ := own_form2 hout.1
      have HO := Lib.hid hout
      have HM : Hid (acc.map Ho.d = l.map Ho.d) := Lib.hid (by rw [hmap, List.take_of_length_le (by rw [← HL.out]; omega)])
      clear hout hmap HR
      subst hv3
      go_wp2_with fail
      go_ret
      exact ⟨hb, _, acc, rfl, HO.out, HM.out⟩
    obtain ⟨hb, acc, hlen, hout, hmap⟩ := HR.out
    obtain ⟨a, ha⟩ := get_of_lt (l := l) (k := k) (by rw [← HL.out]; exact hlt)
    obtain ⟨b, off, rfl, hbB, hcs⟩ := (HD.out _ hb).1.at_ ha
    have HI := Lib.hid (fun W (h : Below w.heap.size w W) => (HD.out W h).inn ha)
    have HM : Hid ((l.take (k + 1)).map Ho.d = acc.map Ho.d ++ [a.d]) := Lib.hid (by rw [take_succ_map ha, hmap])
    have c0 := hcs k a ha 0 _ rfl
    have c1 := hcs k a ha 1 _ rfl
    have c2 := hcs k a ha 2 _ rfl
    simp only [Nat.add_zero] at c0 c1 c2
    have HO := Lib.hid hout
    have HB := Lib.hid hb
    have HLen := Lib.hid hlen
    clear hcs ha hout hmap HR hb hlen
    go_upto_region 6 with fail
    generalize hW1 : wr.alloc _ = W1
    have ba : Blk W1 wr.heap.size 45 [.int .i64 a.fl, .int .i64 a.fr, .slice a.A a.ak.length a.c] := by rw [← hW1]; exact Blk.new2 _ [.int .i64 a.fl, .int .i64 a.fr, .slice a.A a.ak.length a.c] rfl
    have hb1 : Below w.heap.size w W1 := by rw [← hW1]; exact HB.out.alloc HB.out.size _
    have hbr : Below wr.heap.size wr W1 := by rw [← hW1]; exact (Below.refl _ _).alloc (Nat.le_refl _) _
    have HO1 := Lib.hid (HO.out.below hbr (Nat.le_refl _))
    have HO0 := HO
    have hwz := HB.out.size
    clear hW1 c0 c1 c2 hbr HO
    have ca := ba.row
    unfold Row at ca
    have hbz := ba.lt
    have fa := ba.frozen
    -- the list of nodes
    obtain ⟨q, hq⟩ : ∃ q, q = a.ak.length := ⟨_, rfl⟩
    have HQ := Lib.hid hq
    have hqm : q ≤ 1000000 := by rw [hq]; exact (HI.out _ hb1).2
    obtain ⟨AA, hAA⟩ : ∃ AA, AA = a.A := ⟨_, rfl⟩
    have HI2 : Hid (∀ W, Below w.heap.size w W → LiesI W W.heap.size AA a.ak) := Lib.hid (fun W h => by rw [hAA]; exact (HI.out W h).1)
    rw [← hq, ← hAA] at ca ba
    clear hq hAA HI
    have hfl : Hid ((flatI a.ak).length = q * 1) := Lib.hid (by rw [flatI_len, HQ.out, Nat.mul_one])
    have hownE : Hid ((W1.alloc (.cells #[] 3)).ownsRow w.heap.size 3 1 (.slice (some ⟨W1.heap.size, 0, none⟩) 0 0) 0 []) := Lib.hid ⟨rfl, .inr ⟨W1.heap.size, 0, #[], rfl, hb1.size, heap_alloc_new W1 _, Nat.le_refl _, by unfold maxLen; omega, rfl, rfl⟩⟩
    have hBe : Below w.heap.size w (W1.alloc (.cells #[] 3)) := hb1.alloc hb1.size _
    have hcut : ∃ w2 v2, (Builtin.append_ #[43, 43] 43 #[.slice (some ⟨W1.heap.size, 0, none⟩) 0 0, .slice AA q a.c]).run Try.prog (W1.alloc (.cells #[] 3)) = .ok v2 w2 ∧ w2.ownsRow w.heap.size 3 1 v2 q (flatI a.ak) ∧ Below (W1.heap.size) W1 w2 := by
      have hbE : Below W1.heap.size W1 (W1.alloc (.cells #[] 3)) := (Below.refl _ _).alloc (Nat.le_refl _) _
      by_cases hq0 : q = 0
      · have h0 : a.ak = [] := List.eq_nil_of_length_eq_zero (HQ.out.symm.trans hq0)
        subst hq0
        exact ⟨_, _, run_append_zero 43 _ 3 j0 1 Try.underlying43 ji _ _ _ hownE.out _ _, by rw [h0]; exact hownE.out, hbE⟩
      · obtain ⟨y, hy⟩ := get_of_lt (l := a.ak) (k := 0) (by rw [← HQ.out]; omega)
        obtain ⟨ib, ioff, rfl, _, _⟩ := (HI2.out _ hBe).at_ hy
        have hnews : ∀ j u, (flatI a.ak)[j]? = some u → (W1.alloc (.cells #[] 3)).cell? ((⟨ib, ioff, none⟩ : Addr).add j) = some u := Lies.news (f := irow) irow_len (by decide) (HI2.out _ hBe)
        obtain ⟨v2, w2, h1, h2, h3, h4, h5⟩ := run_append_own_at (P := Try.prog) (W1.alloc (.cells #[] 3)) w.heap.size 43 43 3 j0 (.int .i64 0) 1 8 Try.underlying43 ji jz0 jz1 jz2 rfl (by decide) (.slice (some ⟨W1.heap.size, 0, none⟩) 0 0) 0 [] hownE.out ⟨ib, ioff, none⟩ q a.c (flatI a.ak) hfl.out hnews (flatI_one _) (by unfold maxLen; omega) (by omega) hBe.size
        exact ⟨w2, v2, h1, by simpa using h2, hbE.grown h3 (by simp) (by intro k hk; simp [Value.ownBlock] at hk; omega)⟩
    obtain ⟨w2, v2, hap, ho2, hb2⟩ := hcut
    obtain ⟨A2, c2, hv2⟩ := own_form2 ho2
    subst hv2
    have HAP := Lib.hid hap
    have ba2 := ba.below hb2 hbz
    have ba3 := ba2.set_ 2 (.slice A2 q c2)
    simp only [List.set_cons_zero, List.set_cons_succ] at ba3
    have hB3 : Below w.heap.size w (w2.setCell ⟨wr.heap.size, 2, none⟩ (.slice A2 q c2)) := (hb1.trans (hb2.mono hb1.size)).setCell (p := ⟨wr.heap.size, 2, none⟩) hwz _
    have hne : ∀ {x : Value} {e : TypeId} {s m : Nat} {y : List Value}, wr.ownsRow w.heap.size e s x m y → x.ownBlock ≠ some wr.heap.size := fun h e => by have := (h.lt _ e).2; omega
    have hne2 : (Value.slice A2 q c2).ownBlock ≠ some wr.heap.size := by
      intro e
      have := own_type2 ho2 e.symm ba2
      exact absurd this (by decide)
    have HOI : Hid (OwnI (w2.setCell ⟨wr.heap.size, 2, none⟩ (.slice A2 q c2)) w.heap.size ⟨a.fl, a.fr, a.ak, A2, c2⟩) := Lib.hid ⟨by dsimp only; rw [← HQ.out]; exact own_setCell ho2 hne2, by dsimp only; rw [← HQ.out]; exact hqm⟩
    have HOw : Hid (OutH (w2.setCell ⟨wr.heap.size, 2, none⟩ (.slice A2 q c2)) w.heap.size v acc) := Lib.hid (by
      have h2 := HO1.out.below hb2 (Nat.le_refl _)
      exact ⟨own_setCell h2.1 (hne HO0.out.1), fun x hx => ⟨own_setCell (h2.2 x hx).1 (hne (HO0.out.2 x hx).1), (h2.2 x hx).2⟩⟩)
    have HDD : Hid ((⟨a.fl, a.fr, a.ak, A2, c2⟩ : Ho).d = a.d) := Lib.hid rfl
    have cb2 := ba2.row
    have fb2 := ba2.frozen
    have cb3 := ba3.row
    unfold Row at cb2 cb3
    clear hap ho2 HO1 ba ba2 ba3 hne hne2 hBe hownE hfl ji jz0 jz1 jz2
    go_upto_region 7 with (at_builtin; refine Lib.wpList_append_run _ rfl (.tmp 16) (.tmp 18) 43 43 rfl (.slice (some ⟨W1.heap.size, 0, none⟩) 0 0) (.slice AA q a.c) rfl rfl _ _ HAP.out ?_)
    clear ca cb2 fb2 fa
    generalize hW3 : w2.setCell _ _ = W3 at *
    have hB2 := hB3
    clear hW3 hB3 HAP
    go_wp2_with (at_builtin; refine wpList_append_own_at _ rfl (.tmp 21) (.tmp 23) 23 rfl w.heap.size 45 i0 (.agg #[.int .i64 0, .int .i64 0, .slice none 0 0]) 3 40 Try.underlying23 hi hz0 hz1 hz2 rfl (by decide) v acc.length (acc.flatMap Ho.row) rfl (HOw.out.1.alloc _) ⟨W3.heap.size, 0, none⟩ 1 1 [.int .i64 a.fl, .int .i64 a.fr, .slice A2 q c2] rfl rfl ?e0 ?e1 ?e2 ?e3 ?e4 ?_)
    case e0 => exact (Blk.new2 45 [.int .i64 a.fl, .int .i64 a.fr, .slice A2 q c2] rfl).news2
    case e1 => exact fun u hu => by simp only [List.mem_cons, List.not_mem_nil, or_false] at hu; rcases hu with rfl | rfl | rfl <;> rfl
    case e2 => unfold maxLen; have := HLen.out; omega
    case e3 => have := HLen.out; omega
    case e4 => simp; have := hB2.size; omega
    intro v3 w3 ho3 hg3 hnil3 hat3
    clear hnil3 hat3
    have hb3 : Below w.heap.size w w3 := (hB2.alloc hB2.size _).grown hg3 (by simp; have := hB2.size; omega) (by intro g hg; exact (HOw.out.1.lt g hg).1)
    have hbn : Below W3.heap.size W3 (W3.alloc (.cells [.int .i64 a.fl, .int .i64 a.fr, .slice A2 q c2].toArray 45)) := (Below.refl _ _).alloc (Nat.le_refl _) _
    have O3 : Hid (CopRel w l (k + 1) v3 w3) := Lib.hid ⟨hb3, acc ++ [(⟨a.fl, a.fr, a.ak, A2, c2⟩ : Ho)], by simp [HLen.out], OutH.turn (HOw.out.below hbn (Nat.le_refl _)) hg3 (by rw [flat_snoc, List.length_append]; simp only [Ho.row]; rw [← HQ.out]; exact ho3) (fun x hx => by
      rcases List.mem_append.1 hx with hx | hx
      · exact (HOw.out.2 x hx).below hbn (Nat.le_refl _)
      · obtain rfl : x = (⟨a.fl, a.fr, a.ak, A2, c2⟩ : Ho) := by simpa using hx
        exact HOI.out.below hbn (Nat.le_refl _)), by rw [HM.out, List.map_append, List.map_cons, List.map_nil, HDD.out]⟩
    obtain ⟨A3, c3, hv3⟩ := own_form2 ho3
    clear ho3 hg3 HOw HOI hbn hb3
    subst hv3
    go_wp2_with fail
    go_roundw
    case rel => exact ⟨k + 1, _, rfl, by omega, by go_num, O3⟩
    case measure => simp [intOf]; omega
end Go.Proofs.Ytepamedbbbfjkaa

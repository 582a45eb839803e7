/- Walk: NodeHolds. -/
import Derived.Test.YtepamedbbbfjkaaNodAw
import Derived.Test.YtepamedbbbfjkaaNodHp
namespace Go.Proofs.Ytepamedbbbfjkaa
open Go.RowKit
open Nd

theorem holds1_any (h : Ho) (id : Int) (g : Nat) (w : World) (hc : w.cell? ⟨g, 0, none⟩ = some (.int .i64 id)) (hg : g < w.heap.size) :
    Calls Try.prog 18 #[.agg #[.int .i64 h.fl, .int .i64 h.fr, .slice h.A h.ak.length h.c], .pointer (some ⟨g, 0, none⟩)] w fun e w' => e = .returned (.bool (h.fl == id)) ∧ Below w.heap.size w w' := by
  go_enter Try.func18, Try.ntmps18
  go_wp2_with fail
  go_ret
  exact ⟨rfl, (Below.refl _ _).alloc (Nat.le_refl _) _⟩
theorem beg_fail {fs : List Fl} {self slot : Int} {l : List Hd} (h : (beg fs self slot l).2 ≠ 0) : (beg fs self slot l).1 = [] := by
  unfold beg at h ⊢
  split
  · rename_i hk; rw [if_pos hk] at h; exact absurd rfl h
  · rfl

set_option maxRecDepth 100000 in
set_option maxHeartbeats 2000000 in
theorem nodeHolds_walk (fs : List Fl) (l : List Ho) (A D : Option Addr) (c cd : Nat) (self slot : Int) (w : World) (hA : Lies w w.heap.size 6 A (fs.map Fl.row)) (hD : Lies w w.heap.size 3 D (l.map Ho.row)) (hI : ∀ h ∈ l, LiesI w w.heap.size h.A h.ak ∧ h.ak.length ≤ maxLen)
    (hf : fs.length ≤ maxLen) (hl : l.length ≤ maxLen) (hnA : A = none → fs = []) (hnD : D = none → l = []) :
    Calls Try.prog 4 #[.slice A fs.length c, .int .i64 self, .int .i64 slot, .slice D l.length cd] w fun e w' => e = .returned (.bool true) ∧ Below w.heap.size w w' := by
  obtain ⟨N, hN⟩ : ∃ N, N = w.heap.size := ⟨_, rfl⟩
  obtain ⟨W1, hW1⟩ : ∃ W1, W1 = w := ⟨_, rfl⟩
  have hb1 : Below N w W1 := by rw [hW1, hN]; exact Below.refl _ _
  obtain ⟨M, hM⟩ : ∃ M, M = W1.heap.size := ⟨_, rfl⟩
  have hNM : N ≤ M := by rw [hM, hN]; exact (hN ▸ hb1).size
  have HW := Lib.hid (fun W (h' : Below M W1 W) => (show Below w.heap.size w W ∧ M ≤ W.heap.size from ⟨by rw [← hN]; exact hb1.trans (h'.mono hNM), by rw [hM]; exact h'.size⟩))
  have HA := Lib.hid (fun W (h' : Below M W1 W) => Lies.later hA (HW.out W h').1)
  have HD0 := Lib.hid (fun W (h' : Below M W1 W) => Lies.later hD (HW.out W h').1)
  have HD := Lib.hid (fun (hs : ∀ h ∈ l, h.ak.length ≤ 1000000) W (h' : Below M W1 W) => (show LiesH W W.heap.size D l from ⟨HD0.out W h', fun h hh => ⟨(hI h hh).1.below (HW.out W h').1 |>.more (HW.out W h').1.size, hs h hh⟩⟩))
  have HFw := Lib.hid (fun W (h' : Below M W1 W) (dA : Option Addr) (nd dc : Nat) (hd : nd ≤ maxLen) => few_any fs.length nd l D A dA cd c dc W (HD0.out W h') (fun h hh => (hI h hh).2) hl hf hd)
  have HnA := Lib.hid hnA
  have HnD := Lib.hid hnD
  have HN := Lib.hid hN
  have HM := Lib.hid hM
  have HW1 := Lib.hid hW1
  clear hA hD hI hb1 hN hM HW1 hnA hnD
  subst hW1
  go_enter Try.func4, Try.ntmps4
  go_wp2_with fail
  refine (awake_any W1).mono ?_
  rintro e w2 ⟨rfl, hb2⟩
  rw [← HM.out] at hb2
  go_wp2_with fail
  refine (HFw.out _ hb2 none 0 0 (by unfold maxLen; omega)).mono ?_
  rintro e w3 ⟨rfl, rfl⟩
  by_cases hfew : fs.length ≤ 20 ∧ l.length ≤ 20 ∧ 0 ≤ 40 ∧ ∀ h ∈ l, h.ak.length ≤ 40
  case neg =>
    have hb : (decide (fs.length ≤ 20) && decide (l.length ≤ 20) && decide (0 ≤ 40) && l.all (fun h => decide (h.ak.length ≤ 40))) = false := by
      rw [Bool.eq_false_iff]
      intro h
      simp only [Bool.and_eq_true, decide_eq_true_eq, List.all_eq_true] at h
      exact hfew ⟨h.1.1.1, h.1.1.2, h.1.2, h.2⟩
    rw [hb]
    clear hb hfew
    go_wp2_with fail
    refine (awake_any _).mono ?_
    rintro e w4 ⟨rfl, hb4⟩
    have hb4' : Below M W1 w4 := hb2.trans (hb4.mono (HW.out _ hb2).2)
    go_wp2_with fail
    go_ret
    exact ⟨rfl, (HW.out _ hb4').1⟩
  have hb : (decide (fs.length ≤ 20) && decide (l.length ≤ 20) && decide (0 ≤ 40) && l.all (fun h => decide (h.ak.length ≤ 40))) = true := by
    simp only [Bool.and_eq_true, decide_eq_true_eq, List.all_eq_true]
    exact ⟨⟨⟨hfew.1, hfew.2.1⟩, hfew.2.2.1⟩, hfew.2.2.2⟩
  rw [hb]
  clear hb
  obtain ⟨hf20, hl20, hd40, hak⟩ := hfew
  have HDs := Lib.hid (HD.out (fun h hh => by have := hak h hh; omega))
  clear hak HD HFw hf hl
  have hl20' : l.length ≤ 20 := hl20
  obtain ⟨n, hn⟩ : ∃ n, n = l.length := ⟨_, rfl⟩
  obtain ⟨m, hm⟩ : ∃ m, m = fs.length := ⟨_, rfl⟩
  obtain ⟨R, hR⟩ : ∃ R, R = beg fs self slot (l.map Ho.d) := ⟨_, rfl⟩
  have HCP := Lib.hid (fun W h' => cp_any l D cd W (HDs.out W h') (by omega) HnD.out)
  have HBG := Lib.hid (fun (l' : List Ho) D' cd' W h' (h2 : LiesH W W.heap.size D' l') (hl' : l'.length ≤ 1000) => begin_any fs l' A D' c cd' self slot W (HA.out W h') (by omega) h2 (by omega))
  have HCK := Lib.hid (fun (l' : List Ho) D' cd' W h' (h2 : LiesH W W.heap.size D' l') (hl' : l'.length ≤ 1000) => nCheck_any fs l' A D' c cd' W (HA.out W h') (by omega) h2 (by omega))
  have HRL : Hid (R.1.length ≤ 40) := Lib.hid (by rw [hR]; have := beg_len fs self slot (l.map Ho.d); rw [List.length_map] at this; omega)
  have HR := Lib.hid hR
  have HLL : Hid (l.length ≤ 20) := Lib.hid hl20
  rw [← hn] at HCP ⊢
  rw [← hm] at HBG HCK ⊢
  have HNn := Lib.hid hn
  have HMm := Lib.hid hm
  have hm20 : m ≤ 20 := by rw [hm]; exact hf20
  clear hn hm hR hf20 hl20 hd40 hl20'
  go_wp2_with fail
  refine (HCP.out _ hb2).mono ?_
  rintro e w4 ⟨hb4, v4, l4, rfl, ho4, hm4⟩
  obtain ⟨A4, c4, hv4, hL4⟩ := ho4.lies
  subst hv4
  have hl4 : l4.length = l.length := by have := congrArg List.length hm4; simpa using this
  have hB4 : Below M W1 w4 := hb2.trans (hb4.mono (HW.out _ hb2).2)
  have con := HBG.out l4 A4 c4 w4 hB4 hL4 (by have := HLL.out; omega)
  rw [hm4, ← HR.out] at con
  have Con := Lib.hid con
  clear ho4 hm4 hL4 con hl4
  go_wp2_with fail
  refine Con.out.mono ?_
  rintro e w5 ⟨hb5, v5, l5, rfl, ho5, hm5⟩
  have hB5 : Below M W1 w5 := hB4.trans (hb5.mono (HW.out _ hB4).2)
  obtain ⟨A5, c5, hv5, hL5⟩ := ho5.lies
  subst hv5
  clear Con ho5
  by_cases hE : R.2 = 0
  case neg =>
    have h5 : l5 = [] := by
      have := beg_fail (fs := fs) (self := self) (slot := slot) (l := l.map Ho.d) (by rw [← HR.out]; exact hE)
      rw [← HR.out] at this
      rw [this] at hm5
      simpa using hm5
    subst h5
    have hE' : (R.2 != 0) = true := by simpa using hE
    simp only [List.length_nil]
    clear hE hL5 hm5
    go_wp2_with fail
    go_ret
    exact ⟨rfl, (HW.out _ hB5).1⟩
  obtain ⟨out, e0⟩ := R
  dsimp only at hE hm5 ⊢
  subst hE
  obtain ⟨hck, hag, hall⟩ := beg_holds (fs := fs) (self := self) (slot := slot) (l := l.map Ho.d) (out := out) HR.out.symm
  have HAG := Lib.hid hag
  have HALL := Lib.hid hall
  have HCKZ := Lib.hid hck
  have HM5 := Lib.hid hm5
  have HL5 := Lib.hid (fun W (h' : Below w5.heap.size w5 W) => hL5.later h')
  have hl5 : l5.length ≤ 40 := by have h1 := congrArg List.length hm5; rw [List.length_map] at h1; have := HRL.out; dsimp only at this; omega
  have HN5 : Hid (A5 = none → l5 = []) := Lib.hid (fun h => by
    cases hq : l5 with
    | nil => rfl
    | cons a t =>
      obtain ⟨_, _, e, _⟩ := hL5.1.at_ (k := 0) (a := a) (by rw [hq]; rfl)
      rw [h] at e; cases e)
  have HCP5 := Lib.hid (fun W (h' : Below w5.heap.size w5 W) => cp_any l5 A5 c5 W (HL5.out W h') (by omega) HN5.out)
  obtain ⟨q, hq⟩ : ∃ q, q = l5.length := ⟨_, rfl⟩
  rw [← hq] at HCP5 ⊢
  have HQ := Lib.hid hq
  have hq40 : q ≤ 40 := by rw [hq]; exact hl5
  clear hck hag hall hm5 hL5 hq hl5
  go_wp2_with fail
  refine (HCP5.out _ (Below.refl _ _)).mono ?_
  rintro e w6 ⟨hb6, v6, l6, rfl, ho6, hm6⟩
  have hB6 : Below M W1 w6 := hB5.trans (hb6.mono (HW.out _ hB5).2)
  obtain ⟨A6, c6, hv6, hL6⟩ := ho6.lies
  subst hv6
  have hl6 : l6.length = q := by have := congrArg List.length hm6; rw [HQ.out]; simpa using this
  have con := HCK.out l6 A6 c6 w6 hB6 hL6 (by omega)
  rw [hm6, HM5.out, HCKZ.out] at con
  have Con := Lib.hid con
  clear ho6 hm6 hL6 con hl6
  go_wp2_with fail
  refine Con.out.mono ?_
  rintro e w7 ⟨rfl, hb7⟩
  have hb57 : Below w5.heap.size w5 w7 := hb6.trans (hb7.mono hb6.size)
  clear Con hB6 hb6 hb7
  go_wp2_with fail
  go_loopw [48] (fun i wr => ∃ (k : Nat), k ≤ m ∧ i = .int .i64 k ∧ Below w5.heap.size w5 wr) (fun i _ => m - (intOf i).toNat)
  case atStart => exact ⟨0, Nat.zero_le _, rfl, hb57⟩
  case round =>
    clear hb57
    obtain ⟨k, hk, rfl, hb⟩ := hrel
    have hB : Below M W1 wr := hB5.trans (hb.mono (HW.out _ hB5).2)
    by_cases hlt : k < m
    · obtain ⟨f, hfk⟩ := get_of_lt (l := fs) (k := k) (by rw [← HMm.out]; exact hlt)
      obtain ⟨fb, foff, rfl, hfB, hfc⟩ := (HA.out _ hB).at_ hfk
      have f0 := hfc k f hfk 0 _ rfl
      have f1 := hfc k f hfk 1 _ rfl
      have f2 := hfc k f hfk 2 _ rfl
      have f3 := hfc k f hfk 3 _ rfl
      have f4 := hfc k f hfk 4 _ rfl
      have f5 := hfc k f hfk 5 _ rfl
      simp only [Nat.add_zero] at f0 f1 f2 f3 f4 f5
      have HAF := Lib.hid (HALL.out f (List.mem_of_getElem? hfk))
      have con := fun W => current_any f slot W
      obtain ⟨⟨cn, cb⟩, hcur⟩ : ∃ X, cur f slot = X := ⟨_, rfl⟩
      rw [hcur] at con HAF
      dsimp only at con HAF
      have Con := Lib.hid con
      clear hfc hfk con hcur
      go_upto_region 11 with fail
      generalize hW8 : World.alloc _ _ = W8
      have ba : Blk W8 wr.heap.size 33 [.int .i64 f.id, .int .i64 f.fr, .int .i64 f.tn, .int .i64 f.pe, .int .i64 f.ph, .int .i64 f.dl] := by rw [← hW8]; exact Blk.new2 _ [.int .i64 f.id, .int .i64 f.fr, .int .i64 f.tn, .int .i64 f.pe, .int .i64 f.ph, .int .i64 f.dl] rfl
      have hb8 : Below w5.heap.size w5 W8 := by rw [← hW8]; exact hb.alloc hb.size _
      have hbz := ba.lt
      clear hW8 f0 f1 f2 f3 f4 f5
      have ca := ba.row
      unfold Row at ca
      obtain ⟨gb, hgb⟩ : ∃ gb, gb = wr.heap.size := ⟨_, rfl⟩
      rw [← hgb] at ba ca hbz ⊢
      clear hgb
      go_wp2_with fail
      refine (Con.out _).mono ?_
      rintro e w9 ⟨rfl, hb9⟩
      have hb59 : Below w5.heap.size w5 w9 := hb8.trans (hb9.mono hb8.size)
      have ba9 := ba.below hb9 hbz
      have con2 := indexH_any (fun h => h.fl == f.id) 18 #[.pointer (some ⟨gb, 0, none⟩)] l5 A5 c5 w9 (enters_of Try.func18 (by kernel_rfl) rfl) (HL5.out _ hb59).1 (by rw [← HQ.out]; omega) (fun W hW a _ => holds1_any a f.id gb W ((ba9.below hW ba9.lt).row 0) (ba9.below hW ba9.lt).lt)
      rw [findH_eq, HM5.out, ← HQ.out] at con2
      have Con2 := Lib.hid con2
      obtain ⟨G, hG⟩ : ∃ G, G = findH out f.id := ⟨_, rfl⟩
      rw [← hG] at Con2 HAF
      clear con2 Con ca ba hb9 hb8 hG
      go_wp2_with fail
      refine (show Calls Try.prog 17 #[.slice A5 q c5, .func (.func 18) #[] #[.pointer (some ⟨gb, 0, none⟩)]] w9 _ from Con2.out).mono ?_
      rintro e wx ⟨rfl, hbx⟩
      have hb5x : Below w5.heap.size w5 wx := hb59.trans (hbx.mono hb59.size)
      have bax := ba9.below hbx ba9.lt
      have cx := bax.row
      unfold Row at cx
      clear Con2 hbx ba9 hb59
      by_cases hG : 0 ≤ G
      · obtain ⟨i, a, hia, hGi, hca⟩ := HAF.out.1 hG
        obtain ⟨rfl, rfl⟩ : cn = a.fr ∧ cb = true := ⟨(Prod.mk.inj hca).1, (Prod.mk.inj hca).2⟩
        have h5 : l5.map Ho.d = out := HM5.out
        rw [← h5, List.getElem?_map] at hia
        cases hx : l5[i]? with
        | none => rw [hx] at hia; cases hia
        | some b =>
          rw [hx] at hia
          have hba : b.fr = a.fr := by injection hia with hia; rw [← hia]; rfl
          obtain ⟨bb, boff, hAe, _, hbc⟩ := (HL5.out _ hb5x).1.at_ hx
          have c1 := hbc i b hx 1 _ rfl
          rw [hba] at c1
          subst hGi
          have hiq : i < q := by rw [HQ.out]; exact (List.getElem?_eq_some_iff.1 hx).1
          obtain ⟨fr0, hfr0⟩ : ∃ fr0, fr0 = a.fr := ⟨_, rfl⟩
          rw [← hfr0] at c1 ⊢
          have hnn : (fr0 != fr0) = false := by simp
          have hneg : decide ((i : Int) < 0) = false := decide_eq_false (by omega)
          subst hAe
          clear hbc hx hia HAF hca hba h5 hfr0
          go_wp2_with fail
          go_roundw
          case rel => exact ⟨k + 1, by omega, by go_num, hb5x⟩
          case measure => simp [intOf]; omega
      · have hG1 : decide (0 ≤ G) = false := decide_eq_false hG
        have hG2 : decide (G < 0) = true := decide_eq_true (by omega)
        have hno := HAF.out.2 (by omega)
        clear HAF
        cases cb with
        | false =>
          clear hno
          go_wp2_with fail
          go_roundw
          case rel => exact ⟨k + 1, by omega, by go_num, hb5x⟩
          case measure => simp [intOf]; omega
        | true =>
          have hs : (f.fr == self) = false := by rw [beq_eq_false_iff_ne]; exact fun e => hno ⟨rfl, e⟩
          clear hno
          go_wp2_with fail
          go_roundw
          case rel => exact ⟨k + 1, by omega, by go_num, hb5x⟩
          case measure => simp [intOf]; omega
    · go_wp2_with fail
      refine (HCP5.out _ hb).mono ?_
      rintro e w8 ⟨hb8, v8, l8, rfl, ho8, hm8⟩
      have hb58 : Below w5.heap.size w5 w8 := hb.trans (hb8.mono hb.size)
      have hB8 : Below M W1 w8 := hB5.trans (hb58.mono (HW.out _ hB5).2)
      obtain ⟨A8, c8, hv8, hL8⟩ := ho8.lies
      subst hv8
      have hl8 : l8.length = q := by have := congrArg List.length hm8; rw [HQ.out]; simpa using this
      have con := HBG.out l8 A8 c8 w8 hB8 hL8 (by omega)
      rw [hm8, HM5.out, HAG.out] at con
      have Con := Lib.hid con
      clear ho8 hm8 hL8 con hl8
      go_wp2_with fail
      refine Con.out.mono ?_
      rintro e w9 ⟨hb9, v9, l9, rfl, ho9, hm9⟩
      have hb59 : Below w5.heap.size w5 w9 := hb58.trans (hb9.mono hb58.size)
      have hB9 : Below M W1 w9 := hB5.trans (hb59.mono (HW.out _ hB5).2)
      obtain ⟨A9, c9, hv9, hL9⟩ := ho9.lies
      subst hv9
      have HSm := same_eq l9 l5 A9 A5 c9 c5 w9 hL9 (HL5.out _ hb59) (by have h1 := congrArg List.length hm9; rw [List.length_map] at h1; have h2 : out.length ≤ 40 := HRL.out; have h3 : l9.length = out.length := h1; omega) (by rw [hm9, HM5.out])
      rw [← HQ.out] at HSm
      have HSM := Lib.hid HSm
      clear ho9 hm9 hL9 HSm Con
      go_wp2_with fail
      refine HSM.out.mono ?_
      rintro e wx ⟨rfl, hbx⟩
      have hBx : Below M W1 wx := hB9.trans (hbx.mono (HW.out _ hB9).2)
      go_wp2_with fail
      go_ret
      exact ⟨rfl, (HW.out _ hBx).1⟩
end Go.Proofs.Ytepamedbbbfjkaa

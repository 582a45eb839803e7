/- Walk: NodeOnce. -/
import Derived.Test.YtepamedbbbfjkaaNodAw
import Derived.Test.YtepamedbbbfjkaaNodNp
import Derived.Test.YtepamedbbbfjkaaNodM
namespace Go.Proofs.Ytepamedbbbfjkaa
open Go.RowKit
open Nd

/-- An event: three bytes. -/
structure Ev where
  (a b c : Int)
  (ha : 0 ≤ a ∧ a < 256) (hb : 0 ≤ b ∧ b < 256) (hc : 0 ≤ c ∧ c < 256)
def Ev.row (e : Ev) : List Value := [.int .u8 e.a, .int .u8 e.b, .int .u8 e.c]

/-- What the rounds keep. -/
def OnceRel (M B : Nat) (W1 : World) (fs : List Fl) (k : Nat) (slot : Int) (v : Value) (wr : World) : Prop :=
  Below M W1 wr ∧ ∃ (l : List Ho) (D : Option Addr) (cd : Nat) (S : List (Int × Int)), v = .slice D l.length cd ∧ LiesH wr wr.heap.size D l ∧ (D = none → l = []) ∧ OwnsSet wr B k S ∧ Once fs k slot (l.map Ho.d) S

set_option maxRecDepth 100000 in
set_option maxHeartbeats 2000000 in
theorem nodeOnce_walk (fs : List Fl) (evs : List Ev) (A E : Option Addr) (c ce : Nat) (self : Int) (w : World) (hA : Lies w w.heap.size 6 A (fs.map Fl.row)) (hE : Lies w w.heap.size 3 E (evs.map Ev.row)) (hf : fs.length ≤ maxLen) (he : evs.length ≤ maxLen) :
    Calls Try.prog 5 #[.slice A fs.length c, .int .i64 self, .slice E evs.length ce] w fun e w' => e = .returned (.bool true) ∧ Below w.heap.size w w' := by
  obtain ⟨M, hM⟩ : ∃ M, M = w.heap.size := ⟨_, rfl⟩
  have HW := Lib.hid (fun W (h' : Below M w W) => (show Below w.heap.size w W ∧ M ≤ W.heap.size from ⟨by rw [← hM]; exact h', by rw [hM]; exact h'.size⟩))
  have HA := Lib.hid (fun W (h' : Below M w W) => Lies.later hA (HW.out W h').1)
  have HE := Lib.hid (fun W (h' : Below M w W) => Lies.later hE (HW.out W h').1)
  have HFw := Lib.hid (fun W => few_any fs.length 0 [] none A none 0 c 0 W (Lies.nil _ _ _ _) (fun h hh => by cases hh) (Nat.zero_le _) hf (Nat.zero_le _))
  have HCK := Lib.hid (fun W (h' : Below M w W) (hm : fs.length ≤ 20) => nCheck_any fs [] A none c 0 W (HA.out W h') (by omega) ⟨Lies.nil _ _ _ _, fun h hh => by cases hh⟩ (by simp))
  obtain ⟨m, hm⟩ : ∃ m, m = fs.length := ⟨_, rfl⟩
  obtain ⟨n, hn⟩ : ∃ n, n = evs.length := ⟨_, rfl⟩
  rw [← hm] at HFw HCK hf ⊢
  rw [← hn] at he ⊢
  have HM := Lib.hid hM
  have Hm := Lib.hid hm
  have Hn := Lib.hid hn
  clear hA hE hM hm hn
  unfold maxLen at hf he
  have hmm := @run_makeMap Try.prog
  go_enter Try.func5, Try.ntmps5
  go_wp2_with fail
  refine (awake_any w).mono ?_
  rintro e w2 ⟨rfl, hb2⟩
  rw [← HM.out] at hb2
  go_wp2_with fail
  refine (HFw.out _).mono ?_
  rintro e w3 ⟨rfl, rfl⟩
  have HAW : Hid (Calls Try.prog 7 #[] w2 fun e w' => e = .returned (.bool true) ∧ Below M w w') := Lib.hid ((awake_any w2).mono (by rintro e w4 ⟨rfl, hb4⟩; exact ⟨rfl, hb2.trans (hb4.mono (HW.out _ hb2).2)⟩))
  simp only [List.length_nil, List.all_nil, Nat.zero_le, decide_true, Bool.and_true]
  by_cases hm20 : m ≤ 20
  case neg =>
    rw [decide_eq_false hm20]
    clear hm20
    go_wp2_with fail
    refine HAW.out.mono ?_
    rintro e w4 ⟨rfl, hb4⟩
    go_wp2_with fail
    go_ret
    exact ⟨rfl, (HW.out _ hb4).1⟩
  rw [decide_eq_true hm20]
  by_cases hn60 : n ≤ 60
  case neg =>
    have d1 : decide ((60 : Int) < (n : Int)) = true := decide_eq_true (by omega)
    clear hn60
    go_wp2_with fail
    refine HAW.out.mono ?_
    rintro e w4 ⟨rfl, hb4⟩
    go_wp2_with fail
    go_ret
    exact ⟨rfl, (HW.out _ hb4).1⟩
  have d1 : decide ((60 : Int) < (n : Int)) = false := decide_eq_false (by omega)
  by_cases hm0 : m = 0
  case pos =>
    subst hm0
    go_wp2_with fail
    refine HAW.out.mono ?_
    rintro e w4 ⟨rfl, hb4⟩
    go_wp2_with fail
    go_ret
    exact ⟨rfl, (HW.out _ hb4).1⟩
  have d2 : ((m : Int) == 0) = false := by simpa using hm0
  have con := HCK.out _ hb2 hm20
  simp only [List.map_nil, List.length_nil] at con
  obtain ⟨K, hK⟩ : ∃ K, K = chkH fs [] := ⟨_, rfl⟩
  rw [← hK] at con
  have HCk := Lib.hid con
  clear con HCK HFw
  go_wp2_with fail
  refine HCk.out.mono ?_
  rintro e w4 ⟨rfl, hb4⟩
  have hB4 : Below M w w4 := hb2.trans (hb4.mono (HW.out _ hb2).2)
  have HAW4 : Hid (Calls Try.prog 7 #[] w4 fun e w' => e = .returned (.bool true) ∧ Below M w w') := Lib.hid ((awake_any w4).mono (by rintro e w5 ⟨rfl, hb5⟩; exact ⟨rfl, hB4.trans (hb5.mono (HW.out _ hB4).2)⟩))
  clear HAW HCk hb2 hb4
  by_cases hK0 : K = 0
  case neg =>
    have d3 : (K != 0) = true := by simpa using hK0
    clear hK0 hK
    go_wp2_with fail
    refine HAW4.out.mono ?_
    rintro e w5 ⟨rfl, hb5⟩
    go_wp2_with fail
    go_ret
    exact ⟨rfl, (HW.out _ hb5).1⟩
  have HK : Hid (chkH fs [] = 0) := Lib.hid (hK.symm.trans hK0)
  subst hK0
  clear hK
  by_cases hs0 : 0 ≤ self
  case neg =>
    have d4 : decide (self < 0) = true := decide_eq_true (by omega)
    clear hs0
    go_wp2_with fail
    refine HAW4.out.mono ?_
    rintro e w5 ⟨rfl, hb5⟩
    go_wp2_with fail
    go_ret
    exact ⟨rfl, (HW.out _ hb5).1⟩
  have d4 : decide (self < 0) = false := decide_eq_false (by omega)
  by_cases hs1 : self < 32
  case neg =>
    have d5 : decide (32 ≤ self) = true := decide_eq_true (by omega)
    clear hs1
    go_wp2_with fail
    refine HAW4.out.mono ?_
    rintro e w5 ⟨rfl, hb5⟩
    go_wp2_with fail
    go_ret
    exact ⟨rfl, (HW.out _ hb5).1⟩
  have d5 : decide (32 ≤ self) = false := decide_eq_false (by omega)
  have HS : Hid (0 ≤ self ∧ self < 32) := Lib.hid ⟨hs0, hs1⟩
  clear HAW4 hs0 hs1
  go_upto_region 6 with fail
  have hOS := OwnsSet.made w4
  generalize hW5 : w4.alloc _ = W5 at hOS ⊢
  have hB5 : Below M w W5 := by rw [← hW5]; exact hB4.alloc (HW.out _ hB4).2 _
  obtain ⟨B, hB⟩ : ∃ B, B = w4.heap.size := ⟨_, rfl⟩
  rw [← hB] at hOS ⊢
  have HBM : Hid (M ≤ B) := Lib.hid (by rw [hB]; exact (HW.out _ hB4).2)
  clear hmm hW5 hB hB4 d1 d2 d4 d5
  go_wp2_with fail
  go_loopw [7, 8, 55] (fun s7 s8 i wr => ∃ (k : Nat) (slot : Int), k ≤ n ∧ s8 = .int .i64 slot ∧ i = .int .i64 k ∧ Hid (OnceRel M B w fs k slot s7 wr)) (fun _ _ i _ => n - (intOf i).toNat)
  case atStart => exact ⟨0, 0, Nat.zero_le _, rfl, rfl, Lib.hid ⟨hB5, [], none, 0, [], rfl, ⟨Lies.nil _ _ _ _, fun h hh => by cases hh⟩, fun _ => rfl, hOS, Once.start HK.out⟩⟩
  case round =>
    clear hB5 hOS
    obtain ⟨k, slot, hk, rfl, rfl, HRel⟩ := hrel
    obtain ⟨hBr, l, D, cd, S, rfl, hD, hDn, hS, hO⟩ := HRel.out
    by_cases hlt : k < n
    · obtain ⟨ev, hev⟩ := get_of_lt (l := evs) (k := k) (by rw [← Hn.out]; exact hlt)
      obtain ⟨b, off, rfl, hbB, hcs⟩ := (HE.out _ hBr).at_ hev
      have c0 := hcs k ev hev 0 _ rfl
      have c1 := hcs k ev hev 1 _ rfl
      have c2 := hcs k ev hev 2 _ rfl
      simp only [Nat.add_zero] at c0 c1 c2
      obtain ⟨ea, eb, ec, ⟨a0, a1⟩, ⟨b0, b1⟩, ⟨g0, g1⟩⟩ := ev
      clear hcs hev hbB HRel
      dsimp only at c0 c1 c2
      have HBr := Lib.hid hBr
      have HD := Lib.hid hD
      have HDn := Lib.hid hDn
      have HSet := Lib.hid hS
      have HO := Lib.hid hO
      have hsl0 := hO.s0
      have hsl1 := hO.s1
      clear hBr hD hDn hS hO
      go_upto_region 9 with fail
      generalize hW6 : World.alloc _ _ = W6
      have be : Blk W6 wr.heap.size 51 [.int .u8 ea, .int .u8 eb, .int .u8 ec] := by rw [← hW6]; exact Blk.new2 _ [.int .u8 ea, .int .u8 eb, .int .u8 ec] rfl
      have hbr : Below wr.heap.size wr W6 := by rw [← hW6]; exact (Below.refl _ _).alloc (Nat.le_refl _) _
      have hB6 : Below M w W6 := HBr.out.trans (hbr.mono (HW.out _ HBr.out).2)
      have HD6 := Lib.hid (HD.out.later hbr)
      have HS6 := Lib.hid (HSet.out.below hbr HSet.out.lt)
      obtain ⟨gb, hgb⟩ : ∃ gb, gb = wr.heap.size := ⟨_, rfl⟩
      rw [← hgb] at be ⊢
      have hez := be.lt
      have ce0 := be.row
      unfold Row at ce0
      clear hW6 hbr c0 c1 c2 hgb HBr HD HSet
      go_upto_region 10 with fail
      obtain ⟨sl, hsl⟩ : ∃ sl, sl = slot + ea % 8 := ⟨_, rfl⟩
      rw [← hsl]
      have HSl : Hid (∃ d, 0 ≤ d ∧ d ≤ 7 ∧ sl = slot + d) := Lib.hid ⟨ea % 8, by omega, by omega, hsl⟩
      have hsl2 : 0 ≤ sl ∧ sl ≤ 7 * (k : Int) + 7 := by omega
      obtain ⟨hsl3, hsl4⟩ := hsl2
      clear hsl hsl0 hsl1 a0 a1
      have hmp : (0 : Int) < (m : Int) := by omega
      have hm1 : 0 ≤ eb % (m : Int) := Int.emod_nonneg _ (by omega)
      have hm2 : eb % (m : Int) < (m : Int) := Int.emod_lt_of_pos _ hmp
      obtain ⟨i, hi⟩ : ∃ i : Nat, eb % (m : Int) = (i : Int) := ⟨(eb % (m : Int)).toNat, (Int.toNat_of_nonneg hm1).symm⟩
      have hi2 : eb.tmod (m : Int) = (i : Int) := by rw [Int.tmod_eq_emod_of_nonneg b0]; exact hi
      have him : i < m := by omega
      clear hm1 hm2
      obtain ⟨f, hfi⟩ := get_of_lt (l := fs) (k := i) (by rw [← Hm.out]; exact him)
      obtain ⟨fb, foff, rfl, hfB, hfc⟩ := (HA.out _ hB6).at_ hfi
      have f0 := hfc i f hfi 0 _ rfl
      have f1 := hfc i f hfi 1 _ rfl
      have f2 := hfc i f hfi 2 _ rfl
      have f3 := hfc i f hfi 3 _ rfl
      have f4 := hfc i f hfi 4 _ rfl
      have f5 := hfc i f hfi 5 _ rfl
      simp only [Nat.add_zero] at f0 f1 f2 f3 f4 f5
      have HFm := Lib.hid (List.mem_of_getElem? hfi)
      clear hfc hfi hfB
      go_upto_region 11 with fail
      generalize hW7 : World.alloc _ _ = W7
      have bf : Blk W7 W6.heap.size 33 [.int .i64 f.id, .int .i64 f.fr, .int .i64 f.tn, .int .i64 f.pe, .int .i64 f.ph, .int .i64 f.dl] := by rw [← hW7]; exact Blk.new2 _ [.int .i64 f.id, .int .i64 f.fr, .int .i64 f.tn, .int .i64 f.pe, .int .i64 f.ph, .int .i64 f.dl] rfl
      have hb7 : Below W6.heap.size W6 W7 := by rw [← hW7]; exact (Below.refl _ _).alloc (Nat.le_refl _) _
      have hB7 : Below M w W7 := hB6.trans (hb7.mono (HW.out _ hB6).2)
      have HD7 := Lib.hid (HD6.out.later hb7)
      have HS7 := Lib.hid (HS6.out.below hb7 HS6.out.lt)
      have be7 := be.below hb7 hez
      obtain ⟨gf, hgf⟩ : ∃ gf, gf = W6.heap.size := ⟨_, rfl⟩
      rw [← hgf] at bf ⊢
      have hfz := bf.lt
      have hez7 := be7.lt
      clear hW7 hb7 hgf be ce0 hez HD6 HS6 f0 f1 f2 f3 f4 f5 hi hi2 him hmp b0 b1 hB6
      have hL1000 : l.length ≤ 1400 := by have h1 := HO.out.len; rw [List.length_map] at h1; omega
      obtain ⟨L1, hL1⟩ : ∃ L1, L1 = (beg fs self sl (l.map Ho.d)).1 := ⟨_, rfl⟩
      have hE1 : (beg fs self sl (l.map Ho.d)).2 = 0 := by
        obtain ⟨d, hd0, hd1, rfl⟩ := HSl.out
        exact HO.out.begin HS.out (by omega) hd0 hd1
      have con := begin_any fs l (some ⟨fb, foff, none⟩) D c cd self sl W7 (HA.out _ hB7) (by rw [← Hm.out]; omega) HD7.out (by omega)
      rw [← hL1, hE1, ← Hm.out] at con
      have Con := Lib.hid con
      have HL1 := Lib.hid hL1
      clear con hL1 hE1 HD7
      go_upto_region 12 with fail
      go_wp2_with fail
      refine Con.out.mono ?_
      rintro e w8 ⟨hb8, v8, l8, rfl, ho8, hm8⟩
      obtain ⟨D8, c8, hv8, hL8⟩ := ho8.lies
      subst hv8
      have hB8 : Below M w w8 := hB7.trans (hb8.mono (HW.out _ hB7).2)
      have HS8 := Lib.hid (HS7.out.below hb8 HS7.out.lt)
      have be8 := be7.below hb8 hez7
      have bf8 := bf.below hb8 hfz
      have HM8 := Lib.hid hm8
      have HL8 := Lib.hid hL8
      have HC8 := Lib.hid ho8
      have ce8 := be8.row
      have cf8 := bf8.row
      unfold Row at ce8 cf8
      have hez8 := be8.lt
      have hfz8 := bf8.lt
      clear ho8 hm8 hL8 Con HS7 be7 bf hb8 hfz hez7 hB7
      have con := fun W => current_any f sl W
      obtain ⟨⟨cn, cb⟩, hcur⟩ : ∃ X, cur f sl = X := ⟨_, rfl⟩
      rw [hcur] at con
      dsimp only at con
      have Con := Lib.hid con
      have HCur := Lib.hid hcur
      clear con hcur
      go_wp2_with fail
      refine (Con.out _).mono ?_
      rintro e w9 ⟨rfl, hb9⟩
      have hB9 : Below M w w9 := hB8.trans (hb9.mono (HW.out _ hB8).2)
      have HS9 := Lib.hid (HS8.out.below hb9 HS8.out.lt)
      have be9 := be8.below hb9 hez8
      have bf9 := bf8.below hb9 hfz8
      have HL9 := Lib.hid (HL8.out.later hb9)
      have ce9 := be9.row
      have cf9 := bf9.row
      have hfz9 := bf9.lt
      clear Con HS8 be8 bf8 ce8 cf8 hb9 hez8 hfz8 HC8 HL8 hB8
      have Hcn : Hid (0 ≤ cn ∧ cn ≤ 1073741824) := Lib.hid (by
        have h1 := cur_small f (slot := sl) (by omega)
        rw [HCur.out] at h1
        exact h1)
      unfold Row at ce9
      go_upto_if 96 with fail
      go_cut [14] (fun s14 W => ∃ frame : Int, s14 = .int .i64 frame ∧ Hid (0 ≤ frame ∧ frame ≤ 1073741824) ∧ W = w9)
      case first =>
        by_cases hq : 128 ≤ ec
        · have hq1 : decide (128 ≤ ec) = true := decide_eq_true hq
          go_wp2_with fail
          go_meet
          exact ⟨cn, rfl, Hcn, rfl⟩
        · have hq1 : decide (128 ≤ ec) = false := decide_eq_false hq
          go_wp2_with fail
          go_meet
          exact ⟨ec % 16, rfl, Lib.hid (by omega), rfl⟩
      case rest =>
      obtain ⟨frame, rfl, Hfr, rfl⟩ := hcut
      clear ce9 be9 g0 g1
      obtain ⟨R, hR⟩ : ∃ R, R = hear fs self sl L1 f.id frame := ⟨_, rfl⟩
      have hst : Hid (R.2.2 = 0 ∧ (R.2.1 = true → (f.id, frame) ∉ S ∧ f.tn = self ∧ cb = true ∧ frame = cn) ∧ Once fs (k + 1) sl R.1 (if R.2.1 = true then (f.id, frame) :: S else S)) := Lib.hid (by
        obtain ⟨d, hd0, hd1, hsd⟩ := HSl.out
        subst hsd
        have := once_step HO.out HS.out (by rw [← Hm.out]; exact hm20) (by omega) hd0 hd1 HFm.out frame HL1.out hR
        rw [HCur.out] at this
        exact this)
      have hl8 : l8.length ≤ 1500 := by
        have h1 := beg_len fs self sl (l.map Ho.d)
        rw [← HL1.out, ← HM8.out, List.length_map, List.length_map, ← Hm.out] at h1
        omega
      obtain ⟨q8, hq8⟩ : ∃ q8, q8 = l8.length := ⟨_, rfl⟩
      have HD8n : Hid (D8 = none → l8 = []) := Lib.hid (fun e => by
        by_cases hx : l8 = []
        · exact hx
        · obtain ⟨_, _, e2, _⟩ := HL9.out.1 (by simpa using hx)
          rw [e] at e2; cases e2)
      have HCP := Lib.hid (fun W (h' : Below wc.heap.size wc W) => cp_any l8 D8 c8 W (HL9.out.later h') (by omega) HD8n.out)
      have HH := Lib.hid (fun (l' : List Ho) D' cd' W (h1 : Below M w W) (h2 : LiesH W W.heap.size D' l') (he : l'.map Ho.d = l8.map Ho.d) => (by
        have hlen : l'.length = l8.length := by have := congrArg List.length he; simpa using this
        have := hear_any fs l' (some ⟨fb, foff, none⟩) D' c cd' self sl 0 0 1 self f.id frame W (HA.out _ h1) (by rw [← Hm.out]; omega) h2 (by omega)
        rw [he, hlen, HM8.out, ← hR, ← Hm.out] at this
        exact this : Calls Try.prog 9 #[.slice (some ⟨fb, foff, none⟩) m c, .int .i64 self, .int .i64 sl, .slice D' l8.length cd', .agg #[.int .i64 0, .int .i64 0, .int .i64 1, .int .i64 self, .int .i64 f.id], .int .i64 frame] W fun e w' => Below W.heap.size W w' ∧ ∃ v l', e = .returned (.tuple #[v, .bool R.2.1, .int .i64 R.2.2]) ∧ OutH w' W.heap.size v l' ∧ l'.map Ho.d = R.1))
      rw [← hq8] at HCP HH ⊢
      have HQ8 := Lib.hid hq8
      clear hq8 hR hl8
      go_wp2_with fail
      have xx : ∀ (x : ExtW wc.heap.size wc.drew) (i : Nat), x.val.cell? ⟨gf, i, none⟩ = _ := (Row.drew cf9).ext hfz9
      go_cut [17, 18, 19] (fun s17 s18 s19 W => ∃ (l10 : List Ho) (D10 : Option Addr) (c10 : Nat), s17 = .slice D10 l10.length c10 ∧ s18 = .bool R.2.1 ∧ s19 = .int .i64 R.2.2 ∧ Below wc.heap.size wc W ∧ Hid (l10.map Ho.d = R.1) ∧ Hid (LiesH W W.heap.size D10 l10))
      case first =>
        refine wp_region_rough (wc.heap.size) 18 [] #[false, false, false, false, false, false, false, false, false, false, false, false, false, false, false, false, false, false] (by kernel_rfl) rfl rfl ?_
        generalize hwd : wc.drew = wd at xx ⊢
        have hBd : Below wc.heap.size wc wd := by rw [← hwd]; exact (Below.refl _ _).drew
        have HDZ : Hid (wc.heap.size = wd.heap.size) := Lib.hid (by rw [← hwd]; rfl)
        clear hwd
        refine anyR_take0 0 _ (nth0) rfl (by kernel_rfl) (by kernel_rfl) (by kernel_rfl) (l' := #[true, false, false, false, false, false, false, false, false, false, false, false, false, false, false, false, false, false]) rfl rfl ?_; intro K hK; go_big_quiet_op; go_big_quiet_on
        refine anyR_take0 1 _ (nthS (nth0)) rfl (by kernel_rfl) (by kernel_rfl) (by kernel_rfl) (l' := #[true, true, false, false, false, false, false, false, false, false, false, false, false, false, false, false, false, false]) rfl rfl ?_; intro K hK; go_big_quiet_op; go_big_quiet_on
        refine anyR_take0 2 _ (nthS (nthS (nth0))) rfl (by kernel_rfl) (by kernel_rfl) (by kernel_rfl) (l' := #[true, true, true, false, false, false, false, false, false, false, false, false, false, false, false, false, false, false]) rfl rfl ?_; intro K hK; go_big_quiet_op; go_big_quiet_on
        refine anyR_take0 3 _ (nthS (nthS (nthS (nth0)))) rfl (by kernel_rfl) (by kernel_rfl) (by kernel_rfl) (l' := #[true, true, true, true, false, false, false, false, false, false, false, false, false, false, false, false, false, false]) rfl rfl ?_; intro K hK; go_big_quiet_op; go_big_quiet_on
        refine anyR_take0 5 _ (nthS (nthS (nthS (nthS (nthS (nth0)))))) rfl (by kernel_rfl) (by kernel_rfl) (by kernel_rfl) (l' := #[true, true, true, true, false, true, false, false, false, false, false, false, false, false, false, false, false, false]) rfl rfl ?_; intro K hK; go_big_quiet_op; go_big_quiet_on
        refine anyR_take0 6 _ (nthS (nthS (nthS (nthS (nthS (nthS (nth0))))))) rfl (by kernel_rfl) (by kernel_rfl) (by kernel_rfl) (l' := #[true, true, true, true, false, true, true, false, false, false, false, false, false, false, false, false, false, false]) rfl rfl ?_; intro K hK; go_big_quiet_op; go_big_quiet_on
        refine anyR_take 7 _ (nthS (nthS (nthS (nthS (nthS (nthS (nthS (nth0)))))))) rfl (by kernel_rfl) (by kernel_rfl) (by kernel_rfl) (by kernel_rfl) (l' := #[true, true, true, true, false, true, true, true, false, false, false, false, false, false, false, false, false, false]) rfl rfl ?_; intro K hK; go_big_quiet_op; go_big_quiet_on
        refine anyR_take0 8 _ (nthS (nthS (nthS (nthS (nthS (nthS (nthS (nthS (nth0))))))))) rfl (by kernel_rfl) (by kernel_rfl) (by kernel_rfl) (l' := #[true, true, true, true, false, true, true, true, true, false, false, false, false, false, false, false, false, false]) rfl rfl ?_; intro K hK; go_big_quiet_op; go_big_quiet_on
        refine anyR_take0 9 _ (nthS (nthS (nthS (nthS (nthS (nthS (nthS (nthS (nthS (nth0)))))))))) rfl (by kernel_rfl) (by kernel_rfl) (by kernel_rfl) (l' := #[true, true, true, true, false, true, true, true, true, true, false, false, false, false, false, false, false, false]) rfl rfl ?_; intro K hK; go_big_quiet_op; go_big_quiet_on
        refine anyR_one 4 _ (nthS (nthS (nthS (nthS (nth0))))) (by kernel_rfl) (l' := #[true, true, true, true, true, true, true, true, true, true, false, false, false, false, false, false, false, false]) rfl ?_
        clear xx
        go_wp2_with fail
        refine (HCP.out _ hBd).mono ?_
        rintro e V5 ⟨hv5, v5, l5, rfl, ho5, hm5⟩
        obtain ⟨A5, c5, hv5e, hL5⟩ := ho5.lies
        have hn5 : l5.length = q8 := by have := congrArg List.length hm5; rw [HQ8.out]; simpa using this
        rw [hn5] at hv5e
        subst hv5e
        have hB5 : Below wc.heap.size wc V5 := hBd.trans (hv5.mono (Nat.le_of_eq HDZ.out))
        have HM5 := Lib.hid hm5
        clear ho5 hn5 hm5
        go_wp2_with fail
        refine OneR_mk (hv5.mono (Nat.le_of_eq HDZ.out)) ?_
        refine anyR_one 10 _ (nthS (nthS (nthS (nthS (nthS (nthS (nthS (nthS (nthS (nthS (nth0))))))))))) (by kernel_rfl) (l' := #[true, true, true, true, true, true, true, true, true, true, true, false, false, false, false, false, false, false]) rfl ?_
        go_wp2_with fail
        refine (HH.out l5 A5 c5 _ (hB9.trans (hB5.mono (HW.out _ hB9).2)) hL5 HM5.out).mono ?_
        rintro e V8 ⟨hv8, v8, l10, rfl, ho8, hm8⟩
        obtain ⟨D10, c10, hv8e, hL8⟩ := ho8.lies
        have hB10 : Below wc.heap.size wc V8 := hB5.trans (hv8.mono hB5.size)
        have HM10 := Lib.hid hm8
        have HL10 := Lib.hid hL8
        clear ho8 hm8 hL8
        subst hv8e
        go_wp2_with fail
        refine OneR_mk (hv8.mono (Nat.le_trans (Nat.le_of_eq HDZ.out) hv5.size)) ?_
        refine anyR_take0 11 _ (nthS (nthS (nthS (nthS (nthS (nthS (nthS (nthS (nthS (nthS (nthS (nth0)))))))))))) rfl (by kernel_rfl) (by kernel_rfl) (by kernel_rfl) (l' := #[true, true, true, true, true, true, true, true, true, true, true, true, false, false, false, false, false, false]) rfl rfl ?_; intro K hK; go_big_quiet_op; go_big_quiet_on
        refine anyR_take0 12 _ (nthS (nthS (nthS (nthS (nthS (nthS (nthS (nthS (nthS (nthS (nthS (nthS (nth0))))))))))))) rfl (by kernel_rfl) (by kernel_rfl) (by kernel_rfl) (l' := #[true, true, true, true, true, true, true, true, true, true, true, true, true, false, false, false, false, false]) rfl rfl ?_; intro K hK; go_big_quiet_op; go_big_quiet_on
        refine anyR_take0 13 _ (nthS (nthS (nthS (nthS (nthS (nthS (nthS (nthS (nthS (nthS (nthS (nthS (nthS (nth0)))))))))))))) rfl (by kernel_rfl) (by kernel_rfl) (by kernel_rfl) (l' := #[true, true, true, true, true, true, true, true, true, true, true, true, true, true, false, false, false, false]) rfl rfl ?_; intro K hK; go_big_quiet_op; go_big_quiet_on
        refine anyR_take0 14 _ (nthS (nthS (nthS (nthS (nthS (nthS (nthS (nthS (nthS (nthS (nthS (nthS (nthS (nthS (nth0))))))))))))))) rfl (by kernel_rfl) (by kernel_rfl) (by kernel_rfl) (l' := #[true, true, true, true, true, true, true, true, true, true, true, true, true, true, true, false, false, false]) rfl rfl ?_; intro K hK; go_big_quiet_op; go_big_quiet_on
        refine anyR_take0 15 _ (nthS (nthS (nthS (nthS (nthS (nthS (nthS (nthS (nthS (nthS (nthS (nthS (nthS (nthS (nthS (nth0)))))))))))))))) rfl (by kernel_rfl) (by kernel_rfl) (by kernel_rfl) (l' := #[true, true, true, true, true, true, true, true, true, true, true, true, true, true, true, true, false, false]) rfl rfl ?_; intro K hK; go_big_quiet_op; go_big_quiet_on
        refine anyR_take0 16 _ (nthS (nthS (nthS (nthS (nthS (nthS (nthS (nthS (nthS (nthS (nthS (nthS (nthS (nthS (nthS (nthS (nth0))))))))))))))))) rfl (by kernel_rfl) (by kernel_rfl) (by kernel_rfl) (l' := #[true, true, true, true, true, true, true, true, true, true, true, true, true, true, true, true, true, false]) rfl rfl ?_; intro K hK; go_big_quiet_op; go_big_quiet_on
        refine anyR_take0 17 _ (nthS (nthS (nthS (nthS (nthS (nthS (nthS (nthS (nthS (nthS (nthS (nthS (nthS (nthS (nthS (nthS (nthS (nth0)))))))))))))))))) rfl (by kernel_rfl) (by kernel_rfl) (by kernel_rfl) (l' := #[true, true, true, true, true, true, true, true, true, true, true, true, true, true, true, true, true, true]) rfl rfl ?_; intro K hK; go_big_quiet_op; go_big_quiet_on
        refine anyR_end (by kernel_rfl) ?_
        go_wp2_with fail
        go_meet
        exact ⟨l10, D10, c10, rfl, rfl, rfl, hB10, HM10, HL10⟩
      case rest =>
      obtain ⟨l10, D10, c10, rfl, rfl, rfl, hb10, HM10, HL10⟩ := hcut
      obtain ⟨R1, rb, re⟩ := R
      obtain ⟨hr0, hdel, hon⟩ := hst.out
      dsimp only at hr0 hdel hon
      subst hr0
      have HOn := Lib.hid hon
      clear hon hst xx HH HCP
      have bf10 := bf9.below hb10 hfz9
      have hfz10 := bf10.lt
      have HS10 := Lib.hid (HS9.out.below hb10 HS9.out.lt)
      have hB10 : Below M w wc := hB9.trans (hb10.mono (HW.out _ hB9).2)
      have cf10 := bf10.row
      unfold Row at cf10
      clear cf9 bf9 hb10 HS9
      go_upto_region 21 with fail
      generalize hW11 : wc.alloc _ = W11
      have bk : Blk W11 wc.heap.size 52 [.int .i64 f.id, .int .i64 frame] := by rw [← hW11]; exact Blk.new2 _ [.int .i64 f.id, .int .i64 frame] rfl
      have hb11 : Below wc.heap.size wc W11 := by rw [← hW11]; exact (Below.refl _ _).alloc (Nat.le_refl _) _
      have hB11 : Below M w W11 := hB10.trans (hb11.mono (HW.out _ hB10).2)
      have HL11 := Lib.hid (HL10.out.later hb11)
      have hS11 := HS10.out.below hb11 HS10.out.lt
      have bf11 := bf10.below hb11 hfz10
      have cf11 := bf11.row
      have ck11 := bk.row
      unfold Row at cf11 ck11
      obtain ⟨gk, hgk⟩ : ∃ gk, gk = wc.heap.size := ⟨_, rfl⟩
      rw [← hgk] at ck11 ⊢
      have hid : Num64 f.id := by
        have hz := fault_zero ((chkF_ok (chkH_zero HK.out).1).1 f HFm.out)
        exact WalkArith.wf_i64 (by omega)
      have hnf : Num64 frame := by
        have := Hfr.out
        exact WalkArith.wf_i64 (by omega)
      have HL10n : Hid (D10 = none → l10 = []) := Lib.hid (fun e => by
        by_cases hx : l10 = []
        · exact hx
        · obtain ⟨_, _, e2, _⟩ := HL10.out.1 (by simpa using hx)
          rw [e] at e2; cases e2)
      clear hW11 hb11 hgk bk bf11 bf10 cf10 hB10 HS10 hfz10
      cases rb with
      | false =>
        have HRl : Hid (OnceRel M B w fs (k + 1) sl (.slice D10 l10.length c10) W11) := Lib.hid ⟨hB11, l10, D10, c10, S, rfl, HL11.out, HL10n.out, hS11.mono (Nat.le_succ _), by have h1 := HOn.out; have h2 : l10.map Ho.d = R1 := HM10.out; rw [← h2] at h1; exact h1⟩
        clear hS11 hdel HOn HM10 HL11 hid hnf
        go_wp2_with fail
        go_roundw
        case rel => exact ⟨k + 1, sl, by omega, rfl, by go_num, HRl⟩
        case measure => simp [intOf]; omega
      | true =>
        obtain ⟨hnin, htn, rfl, hfc⟩ := hdel rfl
        have hlook := hS11.look hid hnf
        rw [decide_eq_false hnin] at hlook
        obtain ⟨W12, hput, hS12, hg12⟩ := hS11.put (by unfold maxLen; omega) hid hnf
        have x1 : (f.tn != self) = false := by rw [htn]; simp
        have x2 : (frame != cn) = false := by rw [hfc]; simp
        have hB12 : Below M w W12 := hB11.grown hg12 (HW.out _ hB11).2 (fun j hj => by injection hj with hj; rw [← hj]; exact HBM.out)
        have hL12 : LiesH W12 W12.heap.size D10 l10 := ⟨hS11.lies hg12 HL11.out.1, fun h hh => ⟨hS11.lies hg12 (HL11.out.2 h hh).1, (HL11.out.2 h hh).2⟩⟩
        have HRl : Hid (OnceRel M B w fs (k + 1) sl (.slice D10 l10.length c10) W12) := Lib.hid ⟨hB12, l10, D10, c10, (f.id, frame) :: S, rfl, hL12, HL10n.out, hS12, by have h1 := HOn.out; have h2 : l10.map Ho.d = R1 := HM10.out; rw [← h2] at h1; exact h1⟩
        clear hS11 HOn HM10 HL11 hid hnf hnin htn hfc hS12 hg12 hB12 hL12 hdel
        go_wp2_with fail
        go_roundw
        case rel => exact ⟨k + 1, sl, by omega, rfl, by go_num, HRl⟩
        case measure => simp [intOf]; omega
    · have hbx := (HW.out _ hBr).1
      go_wp2_with fail
      go_ret
      exact ⟨rfl, hbx⟩
end Go.Proofs.Ytepamedbbbfjkaa

/- Walk: NodeSends. -/
import Derived.Test.YtepamedbbbfjkaaNodC3
import Derived.Test.YtepamedbbbfjkaaNodSt
namespace Go.Proofs.Ytepamedbbbfjkaa
open Go.RowKit
open Nd

theorem in_cells (I : In) (h : I = In.zero) : I.ki = 0 ∧ I.cs = 0 ∧ I.co = 0 ∧ I.cf = 0 ∧ I.ct = 0 ∧ I.cl = 0 ∧ I.fr = 0 := by subst h; exact ⟨rfl, rfl, rfl, rfl, rfl, rfl, rfl⟩

set_option maxRecDepth 100000 in
set_option maxHeartbeats 2000000 in
theorem nodeSends_walk (fs : List Fl) (l : List Ho) (A D : Option Addr) (c cd : Nat) (d : List Du) (E : Option Addr) (ce : Nat) (ln sl : Int) (w : World) (hA : Lies w w.heap.size 6 A (fs.map Fl.row)) (hD : Lies w w.heap.size 3 D (l.map Ho.row)) (hI : ∀ h ∈ l, LiesI w w.heap.size h.A h.ak ∧ h.ak.length ≤ maxLen)
    (hf : fs.length ≤ maxLen) (hl : l.length ≤ maxLen) (hnA : A = none → fs = []) (hnD : D = none → l = []) (hE : Lies w w.heap.size 9 E (d.map Du.row)) (hdm : d.length ≤ maxLen) :
    Calls Try.prog 6 #[.slice A fs.length c, .slice E d.length ce, .int .i64 ln, .int .i64 sl, .slice D l.length cd] w fun e w' => e = .returned (.bool true) ∧ Below w.heap.size w w' := by
  obtain ⟨N, hN⟩ : ∃ N, N = w.heap.size := ⟨_, rfl⟩
  obtain ⟨W1, hW1⟩ : ∃ W1, W1 = w := ⟨_, rfl⟩
  have hb1 : Below N w W1 := by rw [hW1, hN]; exact Below.refl _ _
  obtain ⟨M, hM⟩ : ∃ M, M = W1.heap.size := ⟨_, rfl⟩
  have hNM : N ≤ M := by rw [hM, hN]; exact (hN ▸ hb1).size
  have HW := Lib.hid (fun W (h' : Below M W1 W) => (show Below w.heap.size w W ∧ M ≤ W.heap.size from ⟨by rw [← hN]; exact hb1.trans (h'.mono hNM), by rw [hM]; exact h'.size⟩))
  have HA := Lib.hid (fun W (h' : Below M W1 W) => Lies.later hA (HW.out W h').1)
  have HD0 := Lib.hid (fun W (h' : Below M W1 W) => Lies.later hD (HW.out W h').1)
  have HD := Lib.hid (fun (hs : ∀ h ∈ l, h.ak.length ≤ 1000000) W (h' : Below M W1 W) => (show LiesH W W.heap.size D l from ⟨HD0.out W h', fun h hh => ⟨(hI h hh).1.below (HW.out W h').1 |>.more (HW.out W h').1.size, hs h hh⟩⟩))
  have HFw := Lib.hid (fun W (h' : Below M W1 W) (dA : Option Addr) (nd dc : Nat) (hd : nd ≤ maxLen) => few_any fs.length nd l D A dA cd c dc W (HD0.out W h') (fun h hh => (hI h hh).2) hl hf hd)
  have HE := Lib.hid (fun W (h' : Below M W1 W) => Lies.later hE (HW.out W h').1)
  have HnA := Lib.hid hnA
  have HnD := Lib.hid hnD
  have HN := Lib.hid hN
  have HM := Lib.hid hM
  have HW1 := Lib.hid hW1
  clear hE hA hD hI hb1 hN hM HW1 hnA hnD
  subst hW1
  go_enter Try.func6, Try.ntmps6
  go_wp2_with fail
  refine (awake_any W1).mono ?_
  rintro e w2 ⟨rfl, hb2⟩
  rw [← HM.out] at hb2
  go_wp2_with fail
  refine (HFw.out _ hb2 E d.length ce hdm).mono ?_
  rintro e w3 ⟨rfl, rfl⟩
  by_cases hfew : fs.length ≤ 20 ∧ l.length ≤ 20 ∧ d.length ≤ 40 ∧ ∀ h ∈ l, h.ak.length ≤ 40
  case neg =>
    have hb : (decide (fs.length ≤ 20) && decide (l.length ≤ 20) && decide (d.length ≤ 40) && l.all (fun h => decide (h.ak.length ≤ 40))) = false := by
      rw [Bool.eq_false_iff]
      intro h
      simp only [Bool.and_eq_true, decide_eq_true_eq, List.all_eq_true] at h
      exact hfew ⟨h.1.1.1, h.1.1.2, h.1.2, h.2⟩
    rw [hb]
    clear hb hfew
    go_wp2_with fail
    refine (awake_any _).mono ?_
    rintro e w4 ⟨rfl, hb4⟩
    have hb4' : Below M W1 w4 := hb2.trans (hb4.mono (HW.out _ hb2).2)
    go_wp2_with fail
    go_ret
    exact ⟨rfl, (HW.out _ hb4').1⟩
  have hb : (decide (fs.length ≤ 20) && decide (l.length ≤ 20) && decide (d.length ≤ 40) && l.all (fun h => decide (h.ak.length ≤ 40))) = true := by
    simp only [Bool.and_eq_true, decide_eq_true_eq, List.all_eq_true]
    exact ⟨⟨⟨hfew.1, hfew.2.1⟩, hfew.2.2.1⟩, hfew.2.2.2⟩
  rw [hb]
  clear hb
  obtain ⟨hf20, hl20, hd40, hak⟩ := hfew
  have HDs := Lib.hid (HD.out (fun h hh => by have := hak h hh; omega))
  have HAK := Lib.hid hak
  clear hak HD HFw hf hl hdm
  have HLL : Hid (l.length ≤ 20) := Lib.hid hl20
  have HCP := Lib.hid (fun W h' => cp_any l D cd W (HDs.out W h') (by omega) HnD.out)
  have HCH := Lib.hid (fun (l' : List Ho) D' cd' W h' (h2 : LiesH W W.heap.size D' l') (hl' : l'.length ≤ 1000) => choose_any fs l' d A D' E c cd' ce ln sl W (HA.out W h') (by omega) h2 (by omega) (HE.out W h') (by omega))
  have HAt := Lib.hid (fun (h1 : 1 ≤ ln) (h2 : ln ≤ 512) (h3 : 0 ≤ sl) (h4 : sl ≤ 1073741824) W (h' : Below M W1 W) => at_any d E ce ln sl W (HE.out W h') (by omega) h1 h2 h3 h4)
  have HIX := Lib.hid (fun (p : Ho → Bool) g cb eg W h' hp => indexH_any p g cb l D cd W eg (HDs.out W h').1 (by omega) hp)
  have HDl : Hid (d.length ≤ 40) := Lib.hid hd40
  obtain ⟨n, hn⟩ : ∃ n, n = l.length := ⟨_, rfl⟩
  obtain ⟨m, hm⟩ : ∃ m, m = fs.length := ⟨_, rfl⟩
  obtain ⟨dn, hdn⟩ : ∃ dn, dn = d.length := ⟨_, rfl⟩
  rw [← hn] at HCP HIX ⊢
  rw [← hm] at HCH ⊢
  rw [← hdn] at HCH HAt ⊢
  have HNn := Lib.hid hn
  have HMm := Lib.hid hm
  clear hn hm hdn hf20 hl20 hd40
  go_wp2_with fail
  refine (HCP.out _ hb2).mono ?_
  rintro e w4 ⟨hb4, v4, l4, rfl, ho4, hm4⟩
  obtain ⟨A4, c4, hv4, hL4⟩ := ho4.lies
  subst hv4
  have hl4 : l4.length = l.length := by have := congrArg List.length hm4; simpa using this
  have hB4 : Below M W1 w4 := hb2.trans (hb4.mono (HW.out _ hb2).2)
  have con := HCH.out l4 A4 c4 w4 hB4 hL4 (by have := HLL.out; omega)
  rw [hm4] at con
  have Con := Lib.hid con
  clear ho4 hm4 hL4 con hl4
  go_wp2_with fail
  refine Con.out.mono ?_
  rintro e w5 ⟨hb5, I, er, rfl, hres⟩
  have hB5 : Below M W1 w5 := hB4.trans (hb5.mono (HW.out _ hB4).2)
  have HRes := Lib.hid hres
  clear Con hres hb4 hb5
  go_upto_region 4 with fail
  generalize hW6 : World.alloc _ _ = W6
  obtain ⟨X, hX⟩ : ∃ X, X = w5.heap.size := ⟨_, rfl⟩
  have bX : Blk W6 X 56 [.int .i64 I.ki, .int .i64 I.cs, .int .i64 I.co, .int .i64 I.cf, .int .i64 I.ct, .int .i64 I.cl, .int .i64 I.fr] := by rw [← hW6]; exact Blk.new2 56 [.int .i64 I.ki, .int .i64 I.cs, .int .i64 I.co, .int .i64 I.cf, .int .i64 I.ct, .int .i64 I.cl, .int .i64 I.fr] hX
  have hB6 : Below M W1 W6 := by rw [← hW6]; exact hB5.alloc (HW.out _ hB5).2 _
  rw [← hX]
  clear hW6 hX hB5
  rcases HRes.out with ⟨h1, h2, _⟩ | ⟨h1, hck, hrg, now, hpm, hI⟩
  · obtain ⟨i0, i1, i2, i3, i4, i5, i6⟩ := in_cells I h2
    rw [i0, i1, i2, i3, i4, i5, i6] at bX
    have cX := bX.row
    unfold Row at cX
    have h1' : (er != 0) = true := by simpa using h1
    clear h1 h2 i0 i1 i2 i3 i4 i5 i6 HRes bX
    go_wp2_with fail
    go_ret
    exact ⟨rfl, (HW.out _ hB6).1⟩
  subst h1
  have HPm := Lib.hid hpm
  have HCK := Lib.hid hck
  obtain ⟨r1, r2, r3, r4⟩ := hrg
  have HAt := Lib.hid (HAt.out r1 r2 r3 r4)
  have HRg := Lib.hid (show 1 ≤ ln ∧ ln ≤ 512 ∧ 0 ≤ sl ∧ sl ≤ 1073741824 from ⟨r1, r2, r3, r4⟩)
  have HX := Lib.hid (fun W (h' : Below W6.heap.size W6 W) => (show Blk W X 56 [.int .i64 I.ki, .int .i64 I.cs, .int .i64 I.co, .int .i64 I.cf, .int .i64 I.ct, .int .i64 I.cl, .int .i64 I.fr] ∧ X < W.heap.size from ⟨bX.below h' bX.lt, (bX.below h' bX.lt).lt⟩))
  have hXM : M ≤ W6.heap.size := (HW.out _ hB6).2
  clear hpm hck r1 r2 r3 r4 HRes bX
  go_wp2_with fail
  refine (HAt.out _ hB6).mono ?_
  rintro e w7 ⟨hb7, L, A7, c7, rfl, hpm7, hL7⟩
  have hB7 : Below M W1 w7 := hB6.trans (hb7.mono hXM)
  have hb67 : Below W6.heap.size W6 w7 := hb7
  have HPL : Hid (∀ x, x ∈ now ↔ x ∈ L) := Lib.hid (fun x => by rw [HPm.out.mem_iff, hpm7.mem_iff])
  have HLl : Hid (L.length ≤ 40) := Lib.hid (by rw [hpm7.length_eq]; exact Nat.le_trans (List.length_filter_le _ _) HDl.out)
  have HL7 := Lib.hid (fun W (h' : Below w7.heap.size w7 W) => Lies.later hL7 h')
  have HCT := Lib.hid (fun p g cb eg W h' hp => contD_any p g cb L A7 c7 W eg (HL7.out W h') (by have := HLl.out; omega) hp)
  obtain ⟨nl, hnl⟩ : ∃ nl, nl = L.length := ⟨_, rfl⟩
  rw [← hnl] at HCT ⊢
  have cX := (HX.out _ hb67).1.row
  have hXl := (HX.out _ hb67).2
  have HXR := Lib.hid cX
  clear hpm7 hL7 HAt hnl hb7
  rcases choose_kind fs (l.map Ho.d) now with ⟨x, hx, hsx, hIe⟩ | ⟨x, hx, hsx, hIe⟩ | ⟨hIe, hall⟩
  case inr.inr =>
    rw [hIe] at hI
    obtain ⟨i0, i1, i2, i3, i4, i5, i6⟩ := in_cells I hI
    rw [i0, i1, i2, i3, i4, i5, i6] at cX
    unfold Row at cX
    have hcon := HCT.out (fun y => !y.se) 27 #[] (enters_of Try.func27 (by kernel_rfl) rfl) w7 (Below.refl _ _) (fun W _ a _ => sends4_any a W)
    have hany : L.any (fun y => !y.se) = false := by
      rw [List.any_eq_false]
      intro y hy
      rw [hall y ((HPL.out y).2 hy)]
      decide
    rw [hany] at hcon
    have Con := Lib.hid hcon
    clear hcon hany hall hIe hI i1 i2 i3 i4 i5 i6 HCT
    go_wp2_with fail
    refine Con.out.mono ?_
    rintro e w8 ⟨rfl, hb8⟩
    go_wp2_with fail
    go_ret
    exact ⟨rfl, (HW.out _ (hB7.trans (hb8.mono (HW.out _ hB7).2))).1⟩
  case inr.inl =>
    rw [hIe] at hI
    subst hI
    dsimp only at cX HXR
    unfold Row at cX
    have hcon := HCT.out (fun y => !y.se && sameC y x.cs x.co x.cf x.ct x.cl) 26 #[.pointer (some ⟨X, 0, none⟩)] (enters_of Try.func26 (by kernel_rfl) rfl) w7 (Below.refl _ _) (fun W hW a _ => sends3_any a 2 x.cs x.co x.cf x.ct x.cl 0 X W (fun i => (hW.cell (p := ⟨X, i, none⟩) hXl).trans (HXR.out i)) (Nat.lt_of_lt_of_le hXl hW.size))
    have hany : L.any (fun y => !y.se && sameC y x.cs x.co x.cf x.ct x.cl) = true := List.any_eq_true.2 ⟨x, (HPL.out x).1 hx, by rw [hsx]; simp [sameC]⟩
    rw [hany] at hcon
    have Con := Lib.hid hcon
    clear hcon hany hIe hx hsx HCT
    go_wp2_with fail
    refine Con.out.mono ?_
    rintro e w8 ⟨rfl, hb8⟩
    go_wp2_with fail
    go_ret
    exact ⟨rfl, (HW.out _ (hB7.trans (hb8.mono (HW.out _ hB7).2))).1⟩
  rw [hIe] at hI
  obtain ⟨hse, hd9, fl9, hf9, hc9, _, _⟩ := sends_inv hsx
  obtain ⟨k, h, hk, hkT⟩ : ∃ (k : Nat) (h : Ho), l[k]? = some h ∧ findH (l.map Ho.d) x.cl = (k : Int) := by
    rcases findH_cases l x.cl with h | h
    · rw [find_none_d h] at hf9; cases hf9
    · exact h
  have hfd := find_map_d l x.cl hk hkT
  rw [hfd.1] at hf9
  injection hf9 with hf9
  subst hf9
  have hcI : conI h.ak x.ct = false := hc9
  have hfr : frameOf (l.map Ho.d) x.cl = h.fr := by unfold frameOf; rw [hfd.1]; rfl
  rw [hfr] at hI
  subst hI
  dsimp only at cX HXR HX
  unfold Row at cX
  have hkn : k < n := by rw [HNn.out]; exact (List.getElem?_eq_some_iff.1 hk).1
  have hcon1 := HIX.out (fun h => h.fl == x.cl) 21 #[.pointer (some ⟨X, 0, none⟩)] (enters_of Try.func21 (by kernel_rfl) rfl) w7 hB7 (fun W hW a _ => sends1_any a x.cl X W ((hW.cell (p := ⟨X, 5, none⟩) hXl).trans (HXR.out 5)) (Nat.lt_of_lt_of_le hXl hW.size))
  rw [findH_eq, hkT] at hcon1
  have Con1 := Lib.hid hcon1
  have hany : L.any (fun y => y.se && sameC y x.cs x.co x.cf x.ct x.cl) = true := List.any_eq_true.2 ⟨x, (HPL.out x).1 hx, by rw [hse]; simp [sameC]⟩
  have Con2 := Lib.hid (fun W (hW : Below w7.heap.size w7 W) => (by
    have := HCT.out (fun y => y.se && sameC y x.cs x.co x.cf x.ct x.cl) 23 #[.pointer (some ⟨X, 0, none⟩)] (enters_of Try.func23 (by kernel_rfl) rfl) W hW (fun W2 hW2 a _ => sends2_any a 1 x.cs x.co x.cf x.ct x.cl h.fr X W2 (fun i => ((hW.trans (hW2.mono hW.size)).cell (p := ⟨X, i, none⟩) hXl).trans (HXR.out i)) (Nat.lt_of_lt_of_le hXl (hW.trans (hW2.mono hW.size)).size))
    rw [hany] at this
    exact this : Calls Try.prog 22 #[.slice A7 nl c7, .func (.func 23) #[] #[.pointer (some ⟨X, 0, none⟩)]] W fun e w' => e = .returned (.bool true) ∧ Below W.heap.size W w'))
  obtain ⟨hb_, hoff_, hDe, hbB, hcs⟩ := (HDs.out _ (Below.refl _ _)).1.at_ (k := k) (a := h) hk
  have q1 := hcs k h hk 1 _ rfl
  have q2 := hcs k h hk 2 _ rfl
  rw [← HM.out] at hbB
  have HCo := Lib.hid (fun W h' => contains_any h.ak x.ct h.A h.c W ((HDs.out W h').inn hk).1 ((HDs.out W h').inn hk).2)
  rw [hcI] at HCo
  have HSame : Hid (∀ l' : List Ho, l'.map Ho.d = l.map Ho.d → l'.length = n ∧ ∃ h5, l'[k]? = some h5 ∧ h5.d = h.d ∧ findH (l'.map Ho.d) x.cl = (k : Int)) := Lib.hid (fun l' he => by
    have hlen : l'.length = n := by rw [HNn.out]; have := congrArg List.length he; simpa using this
    obtain ⟨h5, hk5⟩ := get_of_lt (l := l') (k := k) (by omega)
    refine ⟨hlen, h5, hk5, ?_, by rw [he]; exact hkT⟩
    have e1 := map_get_d hk5
    rw [he, map_get_d hk] at e1
    injection e1 with e1
    exact e1.symm)
  have HAk : Hid (h.ak.length ≤ 40) := Lib.hid (HAK.out h (List.mem_of_getElem? hk))
  have HcI : Hid (conI h.ak x.ct = false) := Lib.hid hcI
  have HKd : Hid ((l.map Ho.d)[k]? = some h.d) := Lib.hid (map_get_d hk)
  have HkT : Hid (idxP (fun h : Hd => h.fl == x.cl) (l.map Ho.d) 0 = (k : Int)) := Lib.hid hkT
  have HQe : Hid (∀ ct : Int, 0 ≤ ct → ct < 32 → x.ct = ct → chkH fs ((l.map Ho.d).set k ⟨h.fl, h.fr, insI h.ak x.ct⟩) = 0) := Lib.hid (fun ct h0 h1 e => chkH_sent (h := h.d) HCK.out (map_get_d hk) (by omega) (by omega) hcI)
  subst hDe
  clear hcon1 hany hIe hx hsx hse hc9 hfd hfr hcs hcI hk hkT HCT HIX
  have hk0 : decide ((k : Int) < 0) = false := decide_eq_false (by omega)
  have hk0' : ¬ (k : Int) < 0 := by omega
  go_wp2_with fail
  refine Con1.out.mono ?_
  rintro e w8 ⟨rfl, hb8⟩
  have hB8 : Below M W1 w8 := hB7.trans (hb8.mono (HW.out _ hB7).2)
  clear Con1 cX
  go_wp2_with fail
  refine (Con2.out _ hb8).mono ?_
  rintro e w9 ⟨rfl, hb9⟩
  have hB9 : Below M W1 w9 := hB8.trans (hb9.mono (HW.out _ hB8).2)
  have hb79 := hb8.trans (hb9.mono hb8.size)
  have hXl9 : X < w9.heap.size := Nat.lt_of_lt_of_le hXl hb79.size
  have HX9 : Hid (Row w9 X [.int .i64 1, .int .i64 x.cs, .int .i64 x.co, .int .i64 x.cf, .int .i64 x.ct, .int .i64 x.cl, .int .i64 h.fr]) := Lib.hid (fun i => (hb79.cell (p := ⟨X, i, none⟩) hXl).trans (HXR.out i))
  clear Con2
  have hh9 : hb_ < w9.heap.size := Nat.lt_of_lt_of_le hbB (HW.out _ hB9).2
  have x1 : ∀ (x' : ExtW w9.heap.size w9), x'.val.cell? ⟨hb_, hoff_ + k * 3 + 1, none⟩ = some (.int .i64 h.fr) := fun x' => (x'.cell _ hh9).trans ((hB9.cell (p := ⟨hb_, hoff_ + k * 3 + 1, none⟩) hbB).trans q1)
  have x2 : ∀ (x' : ExtW w9.heap.size w9), x'.val.cell? ⟨hb_, hoff_ + k * 3 + 2, none⟩ = some (.slice h.A h.ak.length h.c) := fun x' => (x'.cell _ hh9).trans ((hB9.cell (p := ⟨hb_, hoff_ + k * 3 + 2, none⟩) hbB).trans q2)
  have x3 : ∀ (x' : ExtW w9.heap.size w9), x'.val.cell? ⟨X, 4, none⟩ = some (.int .i64 x.ct) := fun x' => (x'.cell _ hXl9).trans (HX9.out 4)
  have x4 : ∀ (x' : ExtW w9.heap.size w9), x'.val.cell? ⟨X, 6, none⟩ = some (.int .i64 h.fr) := fun x' => (x'.cell _ hXl9).trans (HX9.out 6)
  have HBx := Lib.hid (fun (x' : ExtW w9.heap.size w9) => hB9.trans (x'.below.mono (HW.out _ hB9).2))
  obtain ⟨q, hq⟩ : ∃ q, q = h.ak.length := ⟨_, rfl⟩
  rw [← hq] at x2 HCo
  clear hq q1 q2
  go_wp2_with fail
  refine wp_region_ext w9.heap.size (by kernel_rfl) (by kernel_rfl) ?_
  repeat (go_big_quiet_step ((go_at_call 24; exact Calls.ext_same (HCo.out _ (HBx.out _)))))
  refine wpQuiet_nil ?_
  rintro _ ⟨x', rfl⟩
  obtain ⟨wx, hbx⟩ := x'
  dsimp only
  have hBx : Below M W1 wx := HBx.out ⟨wx, hbx⟩
  have hXlx : X < wx.heap.size := Nat.lt_of_lt_of_le hXl9 hbx.size
  have HXx : Hid (Row wx X [.int .i64 1, .int .i64 x.cs, .int .i64 x.co, .int .i64 x.cf, .int .i64 x.ct, .int .i64 x.cl, .int .i64 h.fr]) := Lib.hid (fun i => (hbx.cell (p := ⟨X, i, none⟩) hXl9).trans (HX9.out i))
  clear x1 x2 x3 x4 HBx HCo
  have z4 := HXx.out 4
  simp only [List.getElem?_cons_succ, List.getElem?_cons_zero] at z4
  by_cases g1 : x.ct < 0
  · have d1 : decide (x.ct < 0) = true := decide_eq_true g1
    go_wp2_with fail
    go_ret
    exact ⟨rfl, (HW.out _ hBx).1⟩
  have d1 : decide (x.ct < 0) = false := decide_eq_false g1
  by_cases g2 : 32 ≤ x.ct
  · have d2 : decide (32 ≤ x.ct) = true := decide_eq_true g2
    go_wp2_with fail
    go_ret
    exact ⟨rfl, (HW.out _ hBx).1⟩
  have d2 : decide (32 ≤ x.ct) = false := decide_eq_false g2
  have HCK6 := Lib.hid (HQe.out x.ct (by omega) (by omega) rfl)
  clear g1 g2 HQe
  go_upto_region 17 with fail
  clear z4 d1 d2
  go_cut [17, 18] (fun s17 s18 W => ∃ (J : In) (Y : Nat), s17 = .pointer (some ⟨Y, 0, none⟩) ∧ s18 = .int .i64 0 ∧ Below M W1 W ∧ Hid (Row W Y [.int .i64 J.ki, .int .i64 J.cs, .int .i64 J.co, .int .i64 J.cf, .int .i64 J.ct, .int .i64 J.cl, .int .i64 J.fr]) ∧ Hid (Row W X [.int .i64 1, .int .i64 x.cs, .int .i64 x.co, .int .i64 x.cf, .int .i64 x.ct, .int .i64 x.cl, .int .i64 h.fr]) ∧ Hid (J.ki ≠ 1 ∨ J.ct ≠ x.ct ∨ J.cl ≠ x.cl))
  case first =>
    refine wp_region_rough (wx.heap.size) 16 [14] #[false, false, false, false, false, false, false, false, false, false, false, false, false, false, false, false] (by kernel_rfl) rfl rfl ?_
    generalize hwd : wx.drew = wd
    have hB_wd : Below M W1 wd := by rw [← hwd]; exact hBx.drew
    have hxd : Below wx.heap.size wx wd := by rw [← hwd]; exact (Below.refl _ _).drew
    have hX_wd := hxd
    clear hwd
    have y1 : ∀ (x' : ExtW wx.heap.size wd), x'.val.cell? ⟨X, 1, none⟩ = some (.int .i64 x.cs) := fun x' => (x'.cell _ hXlx).trans ((hxd.cell (p := ⟨X, 1, none⟩) hXlx).trans (HXx.out 1))
    have y2 : ∀ (x' : ExtW wx.heap.size wd), x'.val.cell? ⟨X, 2, none⟩ = some (.int .i64 x.co) := fun x' => (x'.cell _ hXlx).trans ((hxd.cell (p := ⟨X, 2, none⟩) hXlx).trans (HXx.out 2))
    have y3 : ∀ (x' : ExtW wx.heap.size wd), x'.val.cell? ⟨X, 3, none⟩ = some (.int .i64 x.cf) := fun x' => (x'.cell _ hXlx).trans ((hxd.cell (p := ⟨X, 3, none⟩) hXlx).trans (HXx.out 3))
    have y4 : ∀ (x' : ExtW wx.heap.size wd), x'.val.cell? ⟨X, 4, none⟩ = some (.int .i64 x.ct) := fun x' => (x'.cell _ hXlx).trans ((hxd.cell (p := ⟨X, 4, none⟩) hXlx).trans (HXx.out 4))
    have y5 : ∀ (x' : ExtW wx.heap.size wd), x'.val.cell? ⟨X, 5, none⟩ = some (.int .i64 x.cl) := fun x' => (x'.cell _ hXlx).trans ((hxd.cell (p := ⟨X, 5, none⟩) hXlx).trans (HXx.out 5))
    refine anyR_take0 0 _ (nth0) rfl (by kernel_rfl) (by kernel_rfl) (by kernel_rfl) (l' := #[true, false, false, false, false, false, false, false, false, false, false, false, false, false, false, false]) rfl rfl ?_; intro K hK; go_big_quiet_op; go_big_quiet_on
    refine anyR_take0 1 _ (nthS (nth0)) rfl (by kernel_rfl) (by kernel_rfl) (by kernel_rfl) (l' := #[true, true, false, false, false, false, false, false, false, false, false, false, false, false, false, false]) rfl rfl ?_; intro K hK; go_big_quiet_op; go_big_quiet_on
    refine anyR_take0 2 _ (nthS (nthS (nth0))) rfl (by kernel_rfl) (by kernel_rfl) (by kernel_rfl) (l' := #[true, true, true, false, false, false, false, false, false, false, false, false, false, false, false, false]) rfl rfl ?_; intro K hK; go_big_quiet_op; go_big_quiet_on
    refine anyR_take0 3 _ (nthS (nthS (nthS (nth0)))) rfl (by kernel_rfl) (by kernel_rfl) (by kernel_rfl) (l' := #[true, true, true, true, false, false, false, false, false, false, false, false, false, false, false, false]) rfl rfl ?_; intro K hK; go_big_quiet_op; go_big_quiet_on
    refine anyR_take0 4 _ (nthS (nthS (nthS (nthS (nth0))))) rfl (by kernel_rfl) (by kernel_rfl) (by kernel_rfl) (l' := #[true, true, true, true, true, false, false, false, false, false, false, false, false, false, false, false]) rfl rfl ?_; intro K hK; go_big_quiet_op; go_big_quiet_on
    refine anyR_take0 6 _ (nthS (nthS (nthS (nthS (nthS (nthS (nth0))))))) rfl (by kernel_rfl) (by kernel_rfl) (by kernel_rfl) (l' := #[true, true, true, true, true, false, true, false, false, false, false, false, false, false, false, false]) rfl rfl ?_; intro K hK; go_big_quiet_op; go_big_quiet_on
    refine anyR_take 7 _ (nthS (nthS (nthS (nthS (nthS (nthS (nthS (nth0)))))))) rfl (by kernel_rfl) (by kernel_rfl) (by kernel_rfl) (by kernel_rfl) (l' := #[true, true, true, true, true, false, true, true, false, false, false, false, false, false, false, false]) rfl rfl ?_; intro K hK; go_big_quiet_op; go_big_quiet_on
    refine anyR_two 5 13 _ _ (nthS (nthS (nthS (nthS (nthS (nth0)))))) (nthS (nthS (nthS (nthS (nthS (nthS (nthS (nthS (nthS (nthS (nthS (nthS (nthS (nth0)))))))))))))) (by kernel_rfl) (l1 := #[true, true, true, true, true, true, true, true, false, false, false, false, false, false, false, false]) (l2 := #[true, true, true, true, true, false, true, true, false, false, false, false, false, true, false, false]) rfl rfl ?_ ?_
    · go_wp2_with fail
      refine (HCP.out _ hB_wd).mono ?_
      rintro e V1 ⟨hsV1, v1, l5, rfl, ho5, hm5⟩
      obtain ⟨A5, c5, hv5, hL5⟩ := ho5.lies
      obtain ⟨hl5, h5, hk5, hd5, hT5⟩ := HSame.out l5 hm5
      rw [hl5] at hv5
      subst hv5
      have HL5 := Lib.hid (fun W (h' : Below V1.heap.size V1 W) => hL5.later h')
      have HM5 := Lib.hid hm5
      have HK5 := Lib.hid (show l5[k]? = some h5 ∧ h5.d = h.d ∧ findH (l5.map Ho.d) x.cl = (k : Int) ∧ l5.length = n from ⟨hk5, hd5, hT5, hl5⟩)
      clear ho5 hm5 hL5 hk5 hd5 hT5 hl5
      go_wp2_with fail
      have hB_V1 : Below M W1 V1 := hB_wd.trans (hsV1.mono (HW.out _ hB_wd).2)
      have hX_V1 : Below wx.heap.size wx V1 := hX_wd.trans (hsV1.mono hX_wd.size)
      refine OneR_mk (hsV1.mono hX_wd.size) ?_
      refine anyR_two 8 13 _ _ (nthS (nthS (nthS (nthS (nthS (nthS (nthS (nthS (nth0))))))))) (nthS (nthS (nthS (nthS (nthS (nthS (nthS (nthS (nthS (nthS (nthS (nthS (nthS (nth0)))))))))))))) (by kernel_rfl) (l1 := #[true, true, true, true, true, true, true, true, true, false, false, false, false, false, false, false]) (l2 := #[true, true, true, true, true, true, true, true, false, false, false, false, false, true, false, false]) rfl rfl ?_ ?_
      · obtain ⟨hk5, hd5, hT5, hl5⟩ := HK5.out
        simp only [Ho.d, Hd.mk.injEq] at hd5
        have hcon := sent_any l5 k h5 x.cs x.co x.cf x.ct x.cl A5 c5 V1 (HL5.out _ (Below.refl _ _)) (by have := HLL.out; have := HNn.out; omega) hk5 hT5 (by rw [hd5.2.2]; exact HcI.out) (by rw [hd5.2.2]; have := HAk.out; omega)
        rw [HM5.out, hd5.1, hd5.2.1, hd5.2.2, hl5] at hcon
        have Con := Lib.hid hcon
        clear hcon hk5 hd5 hT5 hl5
        go_wp2_with fail
        refine Con.out.mono ?_
        rintro e V2 ⟨hsV2, v2, l6, rfl, ho6, hm6⟩
        obtain ⟨A6, c6, hv6, hL6⟩ := ho6.lies
        subst hv6
        have HL6 := Lib.hid (fun W (h' : Below V2.heap.size V2 W) => hL6.later h')
        have HM6 := Lib.hid hm6
        clear ho6 hm6 hL6 Con
        go_wp2_with fail
        have hB_V2 : Below M W1 V2 := hB_V1.trans (hsV2.mono (HW.out _ hB_V1).2)
        have hX_V2 : Below wx.heap.size wx V2 := hX_V1.trans (hsV2.mono hX_V1.size)
        refine OneR_mk (hsV2.mono hX_V1.size) ?_
        refine anyR_two 9 13 _ _ (nthS (nthS (nthS (nthS (nthS (nthS (nthS (nthS (nthS (nth0)))))))))) (nthS (nthS (nthS (nthS (nthS (nthS (nthS (nthS (nthS (nthS (nthS (nthS (nthS (nth0)))))))))))))) (by kernel_rfl) (l1 := #[true, true, true, true, true, true, true, true, true, true, false, false, false, false, false, false]) (l2 := #[true, true, true, true, true, true, true, true, true, false, false, false, false, true, false, false]) rfl rfl ?_ ?_
        · have hcon := HCH.out l6 A6 c6 V2 hB_V2 (HL6.out _ (Below.refl _ _)) (by have h1 := congrArg List.length HM6.out; simp at h1; have := HLL.out; omega)
          rw [HM6.out] at hcon
          have Con := Lib.hid hcon
          clear hcon
          go_wp2_with fail
          refine Con.out.mono ?_
          rintro e V3 ⟨hsV3, J, er2, rfl, hres2⟩
          have hJ : er2 = 0 ∧ (J.ki ≠ 1 ∨ J.ct ≠ x.ct ∨ J.cl ≠ x.cl) := by
            rcases hres2 with ⟨_, _, hn⟩ | ⟨h1, _, _, now2, _, hJe⟩
            · exact absurd ⟨HCK6.out, HRg.out⟩ hn
            · exact ⟨h1, choose_again (h := h.d) HKd.out HkT.out now2 J hJe⟩
          obtain ⟨hJ0, hJ1⟩ := hJ
          subst hJ0
          have HJ := Lib.hid hJ1
          clear hres2 hJ1 Con
          go_wp2_with fail
          have hB_V3 : Below M W1 V3 := hB_V2.trans (hsV3.mono (HW.out _ hB_V2).2)
          have hX_V3 : Below wx.heap.size wx V3 := hX_V2.trans (hsV3.mono hX_V2.size)
          refine OneR_mk (hsV3.mono hX_V2.size) ?_
          refine anyR_take0 10 _ (nthS (nthS (nthS (nthS (nthS (nthS (nthS (nthS (nthS (nthS (nth0))))))))))) rfl (by kernel_rfl) (by kernel_rfl) (by kernel_rfl) (l' := #[true, true, true, true, true, true, true, true, true, true, true, false, false, false, false, false]) rfl rfl ?_; intro K hK; go_big_quiet_op; go_big_quiet_on
          refine anyR_take0 11 _ (nthS (nthS (nthS (nthS (nthS (nthS (nthS (nthS (nthS (nthS (nthS (nth0)))))))))))) rfl (by kernel_rfl) (by kernel_rfl) (by kernel_rfl) (l' := #[true, true, true, true, true, true, true, true, true, true, true, true, false, false, false, false]) rfl rfl ?_; intro K hK; go_big_quiet_op; go_big_quiet_on
          refine anyR_take0 12 _ (nthS (nthS (nthS (nthS (nthS (nthS (nthS (nthS (nthS (nthS (nthS (nthS (nth0))))))))))))) rfl (by kernel_rfl) (by kernel_rfl) (by kernel_rfl) (l' := #[true, true, true, true, true, true, true, true, true, true, true, true, true, false, false, false]) rfl rfl ?_; intro K hK; go_big_quiet_op; go_big_quiet_on
          refine anyR_one 13 _ (nthS (nthS (nthS (nthS (nthS (nthS (nthS (nthS (nthS (nthS (nthS (nthS (nthS (nth0)))))))))))))) (by kernel_rfl) (l' := #[true, true, true, true, true, true, true, true, true, true, true, true, true, true, false, false]) rfl ?_
          go_wp2_with fail
          generalize hWa : World.alloc _ _ = Wa
          obtain ⟨Y, hY⟩ : ∃ Y, Y = V3.heap.size := ⟨_, rfl⟩
          have hsWa : Below V3.heap.size V3 Wa := by rw [← hWa]; exact (Below.refl _ _).alloc (Nat.le_refl _) _
          have HY := Lib.hid (fun W (h' : Below Wa.heap.size Wa W) => (show Blk W Y 56 [.int .i64 0, .int .i64 0, .int .i64 0, .int .i64 0, .int .i64 0, .int .i64 0, .int .i64 0] ∧ Y < W.heap.size from by
            have b0 : Blk Wa Y 56 [.int .i64 0, .int .i64 0, .int .i64 0, .int .i64 0, .int .i64 0, .int .i64 0, .int .i64 0] := by rw [← hWa]; exact Blk.new2 56 [.int .i64 0, .int .i64 0, .int .i64 0, .int .i64 0, .int .i64 0, .int .i64 0, .int .i64 0] hY
            exact ⟨b0.below h' b0.lt, (b0.below h' b0.lt).lt⟩))
          have hYM : M ≤ Y := by rw [hY]; exact (HW.out _ hB_V3).2
          rw [← hY]
          have hXY : X < Y := by rw [hY]; exact Nat.lt_of_lt_of_le hXlx hX_V3.size
          clear hWa hY
          have hB_Wa : Below M W1 Wa := hB_V3.trans (hsWa.mono (HW.out _ hB_V3).2)
          have hX_Wa : Below wx.heap.size wx Wa := hX_V3.trans (hsWa.mono hX_V3.size)
          refine OneR_mk (hsWa.mono hX_V3.size) ?_
          refine anyR_one 14 _ (nthS (nthS (nthS (nthS (nthS (nthS (nthS (nthS (nthS (nthS (nthS (nthS (nthS (nthS (nth0))))))))))))))) (by kernel_rfl) (l' := #[true, true, true, true, true, true, true, true, true, true, true, true, true, true, true, false]) rfl ?_
          obtain ⟨b5, hYl⟩ := HY.out _ (Below.refl _ _)
          have cb5 := b5.row
          have fb5 := b5.frozen
          unfold Row at cb5
          have b6 := (((((((b5.set_ 0 (.int .i64 J.ki)).set_ 1 (.int .i64 J.cs)).set_ 2 (.int .i64 J.co)).set_ 3 (.int .i64 J.cf)).set_ 4 (.int .i64 J.ct)).set_ 5 (.int .i64 J.cl)).set_ 6 (.int .i64 J.fr))
          simp only [List.set_cons_zero, List.set_cons_succ] at b6
          have C6 := Lib.hid b6.row
          clear b6
          go_wp2_with fail
          generalize hW6 : World.setCell _ _ _ = W6'
          have hbe : Below 0 Wa W6' := by rw [← hW6]; exact ((((((((Below.refl 0 Wa).setCell (p := ⟨Y, 0, none⟩) (Nat.zero_le _) (.int .i64 J.ki)).setCell (p := ⟨Y, 1, none⟩) (Nat.zero_le _) (.int .i64 J.cs)).setCell (p := ⟨Y, 2, none⟩) (Nat.zero_le _) (.int .i64 J.co)).setCell (p := ⟨Y, 3, none⟩) (Nat.zero_le _) (.int .i64 J.cf)).setCell (p := ⟨Y, 4, none⟩) (Nat.zero_le _) (.int .i64 J.ct)).setCell (p := ⟨Y, 5, none⟩) (Nat.zero_le _) (.int .i64 J.cl)).setCell (p := ⟨Y, 6, none⟩) (Nat.zero_le _) (.int .i64 J.fr))
          have HB6 : Hid (Below M W1 W6') := Lib.hid (by rw [← hW6]; exact (((((((hB_Wa.setCell (p := ⟨Y, 0, none⟩) hYM (.int .i64 J.ki)).setCell (p := ⟨Y, 1, none⟩) hYM (.int .i64 J.cs)).setCell (p := ⟨Y, 2, none⟩) hYM (.int .i64 J.co)).setCell (p := ⟨Y, 3, none⟩) hYM (.int .i64 J.cf)).setCell (p := ⟨Y, 4, none⟩) hYM (.int .i64 J.ct)).setCell (p := ⟨Y, 5, none⟩) hYM (.int .i64 J.cl)).setCell (p := ⟨Y, 6, none⟩) hYM (.int .i64 J.fr)))
          have C7 : Hid (Row W6' Y [.int .i64 J.ki, .int .i64 J.cs, .int .i64 J.co, .int .i64 J.cf, .int .i64 J.ct, .int .i64 J.cl, .int .i64 J.fr]) := Lib.hid (by rw [← hW6]; exact C6.out)
          have CX : Hid (Row W6' X [.int .i64 1, .int .i64 x.cs, .int .i64 x.co, .int .i64 x.cf, .int .i64 x.ct, .int .i64 x.cl, .int .i64 h.fr]) := Lib.hid (by
            have hx0 : Row Wa X [.int .i64 1, .int .i64 x.cs, .int .i64 x.co, .int .i64 x.cf, .int .i64 x.ct, .int .i64 x.cl, .int .i64 h.fr] := fun i => (hX_Wa.cell (p := ⟨X, i, none⟩) hXlx).trans (HXx.out i)
            rw [← hW6]
            exact (Row.far (Row.far (Row.far (Row.far (Row.far (Row.far (Row.far hx0 (p := ⟨Y, 0, none⟩) (by dsimp only; omega) (.int .i64 J.ki)) (p := ⟨Y, 1, none⟩) (by dsimp only; omega) (.int .i64 J.cs)) (p := ⟨Y, 2, none⟩) (by dsimp only; omega) (.int .i64 J.co)) (p := ⟨Y, 3, none⟩) (by dsimp only; omega) (.int .i64 J.cf)) (p := ⟨Y, 4, none⟩) (by dsimp only; omega) (.int .i64 J.ct)) (p := ⟨Y, 5, none⟩) (by dsimp only; omega) (.int .i64 J.cl)) (p := ⟨Y, 6, none⟩) (by dsimp only; omega) (.int .i64 J.fr)))
          clear hW6 C6 cb5 fb5 b5
          refine OneR_rough (by kernel_rfl) (hbe) ?_
          refine anyR_take0 15 _ (nthS (nthS (nthS (nthS (nthS (nthS (nthS (nthS (nthS (nthS (nthS (nthS (nthS (nthS (nthS (nth0)))))))))))))))) rfl (by kernel_rfl) (by kernel_rfl) (by kernel_rfl) (l' := #[true, true, true, true, true, true, true, true, true, true, true, true, true, true, true, true]) rfl rfl ?_; intro K hK; go_big_quiet_op; go_big_quiet_on
          refine anyR_end (by kernel_rfl) ?_
          go_wp2_with fail
          go_meet
          exact ⟨J, Y, rfl, rfl, HB6.out, C7, CX, HJ⟩
        · go_wp2_with fail
          generalize hWa : World.alloc _ _ = Wa
          obtain ⟨Y, hY⟩ : ∃ Y, Y = V2.heap.size := ⟨_, rfl⟩
          have hsWa : Below V2.heap.size V2 Wa := by rw [← hWa]; exact (Below.refl _ _).alloc (Nat.le_refl _) _
          have HY := Lib.hid (fun W (h' : Below Wa.heap.size Wa W) => (show Blk W Y 56 [.int .i64 0, .int .i64 0, .int .i64 0, .int .i64 0, .int .i64 0, .int .i64 0, .int .i64 0] ∧ Y < W.heap.size from by
            have b0 : Blk Wa Y 56 [.int .i64 0, .int .i64 0, .int .i64 0, .int .i64 0, .int .i64 0, .int .i64 0, .int .i64 0] := by rw [← hWa]; exact Blk.new2 56 [.int .i64 0, .int .i64 0, .int .i64 0, .int .i64 0, .int .i64 0, .int .i64 0, .int .i64 0] hY
            exact ⟨b0.below h' b0.lt, (b0.below h' b0.lt).lt⟩))
          have hYM : M ≤ Y := by rw [hY]; exact (HW.out _ hB_V2).2
          rw [← hY]
          have hXY : X < Y := by rw [hY]; exact Nat.lt_of_lt_of_le hXlx hX_V2.size
          clear hWa hY
          have hB_Wa : Below M W1 Wa := hB_V2.trans (hsWa.mono (HW.out _ hB_V2).2)
          have hX_Wa : Below wx.heap.size wx Wa := hX_V2.trans (hsWa.mono hX_V2.size)
          refine OneR_mk (hsWa.mono hX_V2.size) ?_
          refine anyR_one 9 _ (nthS (nthS (nthS (nthS (nthS (nthS (nthS (nthS (nthS (nth0)))))))))) (by kernel_rfl) (l' := #[true, true, true, true, true, true, true, true, true, true, false, false, false, true, false, false]) rfl ?_
          have hcon := HCH.out l6 A6 c6 Wa hB_Wa (HL6.out _ (hsWa)) (by have h1 := congrArg List.length HM6.out; simp at h1; have := HLL.out; omega)
          rw [HM6.out] at hcon
          have Con := Lib.hid hcon
          clear hcon
          go_wp2_with fail
          refine Con.out.mono ?_
          rintro e V3 ⟨hsV3, J, er2, rfl, hres2⟩
          have hJ : er2 = 0 ∧ (J.ki ≠ 1 ∨ J.ct ≠ x.ct ∨ J.cl ≠ x.cl) := by
            rcases hres2 with ⟨_, _, hn⟩ | ⟨h1, _, _, now2, _, hJe⟩
            · exact absurd ⟨HCK6.out, HRg.out⟩ hn
            · exact ⟨h1, choose_again (h := h.d) HKd.out HkT.out now2 J hJe⟩
          obtain ⟨hJ0, hJ1⟩ := hJ
          subst hJ0
          have HJ := Lib.hid hJ1
          clear hres2 hJ1 Con
          go_wp2_with fail
          have hB_V3 : Below M W1 V3 := hB_Wa.trans (hsV3.mono (HW.out _ hB_Wa).2)
          have hX_V3 : Below wx.heap.size wx V3 := hX_Wa.trans (hsV3.mono hX_Wa.size)
          refine OneR_mk (hsV3.mono hX_Wa.size) ?_
          refine anyR_take0 10 _ (nthS (nthS (nthS (nthS (nthS (nthS (nthS (nthS (nthS (nthS (nth0))))))))))) rfl (by kernel_rfl) (by kernel_rfl) (by kernel_rfl) (l' := #[true, true, true, true, true, true, true, true, true, true, true, false, false, true, false, false]) rfl rfl ?_; intro K hK; go_big_quiet_op; go_big_quiet_on
          refine anyR_take0 11 _ (nthS (nthS (nthS (nthS (nthS (nthS (nthS (nthS (nthS (nthS (nthS (nth0)))))))))))) rfl (by kernel_rfl) (by kernel_rfl) (by kernel_rfl) (l' := #[true, true, true, true, true, true, true, true, true, true, true, true, false, true, false, false]) rfl rfl ?_; intro K hK; go_big_quiet_op; go_big_quiet_on
          refine anyR_take0 12 _ (nthS (nthS (nthS (nthS (nthS (nthS (nthS (nthS (nthS (nthS (nthS (nthS (nth0))))))))))))) rfl (by kernel_rfl) (by kernel_rfl) (by kernel_rfl) (l' := #[true, true, true, true, true, true, true, true, true, true, true, true, true, true, false, false]) rfl rfl ?_; intro K hK; go_big_quiet_op; go_big_quiet_on
          refine anyR_one 14 _ (nthS (nthS (nthS (nthS (nthS (nthS (nthS (nthS (nthS (nthS (nthS (nthS (nthS (nthS (nth0))))))))))))))) (by kernel_rfl) (l' := #[true, true, true, true, true, true, true, true, true, true, true, true, true, true, true, false]) rfl ?_
          obtain ⟨b5, hYl⟩ := HY.out _ (hsV3)
          have cb5 := b5.row
          have fb5 := b5.frozen
          unfold Row at cb5
          have b6 := (((((((b5.set_ 0 (.int .i64 J.ki)).set_ 1 (.int .i64 J.cs)).set_ 2 (.int .i64 J.co)).set_ 3 (.int .i64 J.cf)).set_ 4 (.int .i64 J.ct)).set_ 5 (.int .i64 J.cl)).set_ 6 (.int .i64 J.fr))
          simp only [List.set_cons_zero, List.set_cons_succ] at b6
          have C6 := Lib.hid b6.row
          clear b6
          go_wp2_with fail
          generalize hW6 : World.setCell _ _ _ = W6'
          have hbe : Below 0 V3 W6' := by rw [← hW6]; exact ((((((((Below.refl 0 V3).setCell (p := ⟨Y, 0, none⟩) (Nat.zero_le _) (.int .i64 J.ki)).setCell (p := ⟨Y, 1, none⟩) (Nat.zero_le _) (.int .i64 J.cs)).setCell (p := ⟨Y, 2, none⟩) (Nat.zero_le _) (.int .i64 J.co)).setCell (p := ⟨Y, 3, none⟩) (Nat.zero_le _) (.int .i64 J.cf)).setCell (p := ⟨Y, 4, none⟩) (Nat.zero_le _) (.int .i64 J.ct)).setCell (p := ⟨Y, 5, none⟩) (Nat.zero_le _) (.int .i64 J.cl)).setCell (p := ⟨Y, 6, none⟩) (Nat.zero_le _) (.int .i64 J.fr))
          have HB6 : Hid (Below M W1 W6') := Lib.hid (by rw [← hW6]; exact (((((((hB_V3.setCell (p := ⟨Y, 0, none⟩) hYM (.int .i64 J.ki)).setCell (p := ⟨Y, 1, none⟩) hYM (.int .i64 J.cs)).setCell (p := ⟨Y, 2, none⟩) hYM (.int .i64 J.co)).setCell (p := ⟨Y, 3, none⟩) hYM (.int .i64 J.cf)).setCell (p := ⟨Y, 4, none⟩) hYM (.int .i64 J.ct)).setCell (p := ⟨Y, 5, none⟩) hYM (.int .i64 J.cl)).setCell (p := ⟨Y, 6, none⟩) hYM (.int .i64 J.fr)))
          have C7 : Hid (Row W6' Y [.int .i64 J.ki, .int .i64 J.cs, .int .i64 J.co, .int .i64 J.cf, .int .i64 J.ct, .int .i64 J.cl, .int .i64 J.fr]) := Lib.hid (by rw [← hW6]; exact C6.out)
          have CX : Hid (Row W6' X [.int .i64 1, .int .i64 x.cs, .int .i64 x.co, .int .i64 x.cf, .int .i64 x.ct, .int .i64 x.cl, .int .i64 h.fr]) := Lib.hid (by
            have hx0 : Row V3 X [.int .i64 1, .int .i64 x.cs, .int .i64 x.co, .int .i64 x.cf, .int .i64 x.ct, .int .i64 x.cl, .int .i64 h.fr] := fun i => (hX_V3.cell (p := ⟨X, i, none⟩) hXlx).trans (HXx.out i)
            rw [← hW6]
            exact (Row.far (Row.far (Row.far (Row.far (Row.far (Row.far (Row.far hx0 (p := ⟨Y, 0, none⟩) (by dsimp only; omega) (.int .i64 J.ki)) (p := ⟨Y, 1, none⟩) (by dsimp only; omega) (.int .i64 J.cs)) (p := ⟨Y, 2, none⟩) (by dsimp only; omega) (.int .i64 J.co)) (p := ⟨Y, 3, none⟩) (by dsimp only; omega) (.int .i64 J.cf)) (p := ⟨Y, 4, none⟩) (by dsimp only; omega) (.int .i64 J.ct)) (p := ⟨Y, 5, none⟩) (by dsimp only; omega) (.int .i64 J.cl)) (p := ⟨Y, 6, none⟩) (by dsimp only; omega) (.int .i64 J.fr)))
          clear hW6 C6 cb5 fb5 b5
          refine OneR_rough (by kernel_rfl) (hbe) ?_
          refine anyR_take0 15 _ (nthS (nthS (nthS (nthS (nthS (nthS (nthS (nthS (nthS (nthS (nthS (nthS (nthS (nthS (nthS (nth0)))))))))))))))) rfl (by kernel_rfl) (by kernel_rfl) (by kernel_rfl) (l' := #[true, true, true, true, true, true, true, true, true, true, true, true, true, true, true, true]) rfl rfl ?_; intro K hK; go_big_quiet_op; go_big_quiet_on
          refine anyR_end (by kernel_rfl) ?_
          go_wp2_with fail
          go_meet
          exact ⟨J, Y, rfl, rfl, HB6.out, C7, CX, HJ⟩
      · go_wp2_with fail
        generalize hWa : World.alloc _ _ = Wa
        obtain ⟨Y, hY⟩ : ∃ Y, Y = V1.heap.size := ⟨_, rfl⟩
        have hsWa : Below V1.heap.size V1 Wa := by rw [← hWa]; exact (Below.refl _ _).alloc (Nat.le_refl _) _
        have HY := Lib.hid (fun W (h' : Below Wa.heap.size Wa W) => (show Blk W Y 56 [.int .i64 0, .int .i64 0, .int .i64 0, .int .i64 0, .int .i64 0, .int .i64 0, .int .i64 0] ∧ Y < W.heap.size from by
          have b0 : Blk Wa Y 56 [.int .i64 0, .int .i64 0, .int .i64 0, .int .i64 0, .int .i64 0, .int .i64 0, .int .i64 0] := by rw [← hWa]; exact Blk.new2 56 [.int .i64 0, .int .i64 0, .int .i64 0, .int .i64 0, .int .i64 0, .int .i64 0, .int .i64 0] hY
          exact ⟨b0.below h' b0.lt, (b0.below h' b0.lt).lt⟩))
        have hYM : M ≤ Y := by rw [hY]; exact (HW.out _ hB_V1).2
        rw [← hY]
        have hXY : X < Y := by rw [hY]; exact Nat.lt_of_lt_of_le hXlx hX_V1.size
        clear hWa hY
        have hB_Wa : Below M W1 Wa := hB_V1.trans (hsWa.mono (HW.out _ hB_V1).2)
        have hX_Wa : Below wx.heap.size wx Wa := hX_V1.trans (hsWa.mono hX_V1.size)
        refine OneR_mk (hsWa.mono hX_V1.size) ?_
        refine anyR_one 8 _ (nthS (nthS (nthS (nthS (nthS (nthS (nthS (nthS (nth0))))))))) (by kernel_rfl) (l' := #[true, true, true, true, true, true, true, true, true, false, false, false, false, true, false, false]) rfl ?_
        obtain ⟨hk5, hd5, hT5, hl5⟩ := HK5.out
        simp only [Ho.d, Hd.mk.injEq] at hd5
        have hcon := sent_any l5 k h5 x.cs x.co x.cf x.ct x.cl A5 c5 Wa (HL5.out _ (hsWa)) (by have := HLL.out; have := HNn.out; omega) hk5 hT5 (by rw [hd5.2.2]; exact HcI.out) (by rw [hd5.2.2]; have := HAk.out; omega)
        rw [HM5.out, hd5.1, hd5.2.1, hd5.2.2, hl5] at hcon
        have Con := Lib.hid hcon
        clear hcon hk5 hd5 hT5 hl5
        go_wp2_with fail
        refine Con.out.mono ?_
        rintro e V2 ⟨hsV2, v2, l6, rfl, ho6, hm6⟩
        obtain ⟨A6, c6, hv6, hL6⟩ := ho6.lies
        subst hv6
        have HL6 := Lib.hid (fun W (h' : Below V2.heap.size V2 W) => hL6.later h')
        have HM6 := Lib.hid hm6
        clear ho6 hm6 hL6 Con
        go_wp2_with fail
        have hB_V2 : Below M W1 V2 := hB_Wa.trans (hsV2.mono (HW.out _ hB_Wa).2)
        have hX_V2 : Below wx.heap.size wx V2 := hX_Wa.trans (hsV2.mono hX_Wa.size)
        refine OneR_mk (hsV2.mono hX_Wa.size) ?_
        refine anyR_one 9 _ (nthS (nthS (nthS (nthS (nthS (nthS (nthS (nthS (nthS (nth0)))))))))) (by kernel_rfl) (l' := #[true, true, true, true, true, true, true, true, true, true, false, false, false, true, false, false]) rfl ?_
        have hcon := HCH.out l6 A6 c6 V2 hB_V2 (HL6.out _ (Below.refl _ _)) (by have h1 := congrArg List.length HM6.out; simp at h1; have := HLL.out; omega)
        rw [HM6.out] at hcon
        have Con := Lib.hid hcon
        clear hcon
        go_wp2_with fail
        refine Con.out.mono ?_
        rintro e V3 ⟨hsV3, J, er2, rfl, hres2⟩
        have hJ : er2 = 0 ∧ (J.ki ≠ 1 ∨ J.ct ≠ x.ct ∨ J.cl ≠ x.cl) := by
          rcases hres2 with ⟨_, _, hn⟩ | ⟨h1, _, _, now2, _, hJe⟩
          · exact absurd ⟨HCK6.out, HRg.out⟩ hn
          · exact ⟨h1, choose_again (h := h.d) HKd.out HkT.out now2 J hJe⟩
        obtain ⟨hJ0, hJ1⟩ := hJ
        subst hJ0
        have HJ := Lib.hid hJ1
        clear hres2 hJ1 Con
        go_wp2_with fail
        have hB_V3 : Below M W1 V3 := hB_V2.trans (hsV3.mono (HW.out _ hB_V2).2)
        have hX_V3 : Below wx.heap.size wx V3 := hX_V2.trans (hsV3.mono hX_V2.size)
        refine OneR_mk (hsV3.mono hX_V2.size) ?_
        refine anyR_take0 10 _ (nthS (nthS (nthS (nthS (nthS (nthS (nthS (nthS (nthS (nthS (nth0))))))))))) rfl (by kernel_rfl) (by kernel_rfl) (by kernel_rfl) (l' := #[true, true, true, true, true, true, true, true, true, true, true, false, false, true, false, false]) rfl rfl ?_; intro K hK; go_big_quiet_op; go_big_quiet_on
        refine anyR_take0 11 _ (nthS (nthS (nthS (nthS (nthS (nthS (nthS (nthS (nthS (nthS (nthS (nth0)))))))))))) rfl (by kernel_rfl) (by kernel_rfl) (by kernel_rfl) (l' := #[true, true, true, true, true, true, true, true, true, true, true, true, false, true, false, false]) rfl rfl ?_; intro K hK; go_big_quiet_op; go_big_quiet_on
        refine anyR_take0 12 _ (nthS (nthS (nthS (nthS (nthS (nthS (nthS (nthS (nthS (nthS (nthS (nthS (nth0))))))))))))) rfl (by kernel_rfl) (by kernel_rfl) (by kernel_rfl) (l' := #[true, true, true, true, true, true, true, true, true, true, true, true, true, true, false, false]) rfl rfl ?_; intro K hK; go_big_quiet_op; go_big_quiet_on
        refine anyR_one 14 _ (nthS (nthS (nthS (nthS (nthS (nthS (nthS (nthS (nthS (nthS (nthS (nthS (nthS (nthS (nth0))))))))))))))) (by kernel_rfl) (l' := #[true, true, true, true, true, true, true, true, true, true, true, true, true, true, true, false]) rfl ?_
        obtain ⟨b5, hYl⟩ := HY.out _ ((hsV2).trans (hsV3.mono (hsV2).size))
        have cb5 := b5.row
        have fb5 := b5.frozen
        unfold Row at cb5
        have b6 := (((((((b5.set_ 0 (.int .i64 J.ki)).set_ 1 (.int .i64 J.cs)).set_ 2 (.int .i64 J.co)).set_ 3 (.int .i64 J.cf)).set_ 4 (.int .i64 J.ct)).set_ 5 (.int .i64 J.cl)).set_ 6 (.int .i64 J.fr))
        simp only [List.set_cons_zero, List.set_cons_succ] at b6
        have C6 := Lib.hid b6.row
        clear b6
        go_wp2_with fail
        generalize hW6 : World.setCell _ _ _ = W6'
        have hbe : Below 0 V3 W6' := by rw [← hW6]; exact ((((((((Below.refl 0 V3).setCell (p := ⟨Y, 0, none⟩) (Nat.zero_le _) (.int .i64 J.ki)).setCell (p := ⟨Y, 1, none⟩) (Nat.zero_le _) (.int .i64 J.cs)).setCell (p := ⟨Y, 2, none⟩) (Nat.zero_le _) (.int .i64 J.co)).setCell (p := ⟨Y, 3, none⟩) (Nat.zero_le _) (.int .i64 J.cf)).setCell (p := ⟨Y, 4, none⟩) (Nat.zero_le _) (.int .i64 J.ct)).setCell (p := ⟨Y, 5, none⟩) (Nat.zero_le _) (.int .i64 J.cl)).setCell (p := ⟨Y, 6, none⟩) (Nat.zero_le _) (.int .i64 J.fr))
        have HB6 : Hid (Below M W1 W6') := Lib.hid (by rw [← hW6]; exact (((((((hB_V3.setCell (p := ⟨Y, 0, none⟩) hYM (.int .i64 J.ki)).setCell (p := ⟨Y, 1, none⟩) hYM (.int .i64 J.cs)).setCell (p := ⟨Y, 2, none⟩) hYM (.int .i64 J.co)).setCell (p := ⟨Y, 3, none⟩) hYM (.int .i64 J.cf)).setCell (p := ⟨Y, 4, none⟩) hYM (.int .i64 J.ct)).setCell (p := ⟨Y, 5, none⟩) hYM (.int .i64 J.cl)).setCell (p := ⟨Y, 6, none⟩) hYM (.int .i64 J.fr)))
        have C7 : Hid (Row W6' Y [.int .i64 J.ki, .int .i64 J.cs, .int .i64 J.co, .int .i64 J.cf, .int .i64 J.ct, .int .i64 J.cl, .int .i64 J.fr]) := Lib.hid (by rw [← hW6]; exact C6.out)
        have CX : Hid (Row W6' X [.int .i64 1, .int .i64 x.cs, .int .i64 x.co, .int .i64 x.cf, .int .i64 x.ct, .int .i64 x.cl, .int .i64 h.fr]) := Lib.hid (by
          have hx0 : Row V3 X [.int .i64 1, .int .i64 x.cs, .int .i64 x.co, .int .i64 x.cf, .int .i64 x.ct, .int .i64 x.cl, .int .i64 h.fr] := fun i => (hX_V3.cell (p := ⟨X, i, none⟩) hXlx).trans (HXx.out i)
          rw [← hW6]
          exact (Row.far (Row.far (Row.far (Row.far (Row.far (Row.far (Row.far hx0 (p := ⟨Y, 0, none⟩) (by dsimp only; omega) (.int .i64 J.ki)) (p := ⟨Y, 1, none⟩) (by dsimp only; omega) (.int .i64 J.cs)) (p := ⟨Y, 2, none⟩) (by dsimp only; omega) (.int .i64 J.co)) (p := ⟨Y, 3, none⟩) (by dsimp only; omega) (.int .i64 J.cf)) (p := ⟨Y, 4, none⟩) (by dsimp only; omega) (.int .i64 J.ct)) (p := ⟨Y, 5, none⟩) (by dsimp only; omega) (.int .i64 J.cl)) (p := ⟨Y, 6, none⟩) (by dsimp only; omega) (.int .i64 J.fr)))
        clear hW6 C6 cb5 fb5 b5
        refine OneR_rough (by kernel_rfl) (hbe) ?_
        refine anyR_take0 15 _ (nthS (nthS (nthS (nthS (nthS (nthS (nthS (nthS (nthS (nthS (nthS (nthS (nthS (nthS (nthS (nth0)))))))))))))))) rfl (by kernel_rfl) (by kernel_rfl) (by kernel_rfl) (l' := #[true, true, true, true, true, true, true, true, true, true, true, true, true, true, true, true]) rfl rfl ?_; intro K hK; go_big_quiet_op; go_big_quiet_on
        refine anyR_end (by kernel_rfl) ?_
        go_wp2_with fail
        go_meet
        exact ⟨J, Y, rfl, rfl, HB6.out, C7, CX, HJ⟩
    · go_wp2_with fail
      generalize hWa : World.alloc _ _ = Wa
      obtain ⟨Y, hY⟩ : ∃ Y, Y = wd.heap.size := ⟨_, rfl⟩
      have hsWa : Below wd.heap.size wd Wa := by rw [← hWa]; exact (Below.refl _ _).alloc (Nat.le_refl _) _
      have HY := Lib.hid (fun W (h' : Below Wa.heap.size Wa W) => (show Blk W Y 56 [.int .i64 0, .int .i64 0, .int .i64 0, .int .i64 0, .int .i64 0, .int .i64 0, .int .i64 0] ∧ Y < W.heap.size from by
        have b0 : Blk Wa Y 56 [.int .i64 0, .int .i64 0, .int .i64 0, .int .i64 0, .int .i64 0, .int .i64 0, .int .i64 0] := by rw [← hWa]; exact Blk.new2 56 [.int .i64 0, .int .i64 0, .int .i64 0, .int .i64 0, .int .i64 0, .int .i64 0, .int .i64 0] hY
        exact ⟨b0.below h' b0.lt, (b0.below h' b0.lt).lt⟩))
      have hYM : M ≤ Y := by rw [hY]; exact (HW.out _ hB_wd).2
      rw [← hY]
      have hXY : X < Y := by rw [hY]; exact Nat.lt_of_lt_of_le hXlx hX_wd.size
      clear hWa hY
      have hB_Wa : Below M W1 Wa := hB_wd.trans (hsWa.mono (HW.out _ hB_wd).2)
      have hX_Wa : Below wx.heap.size wx Wa := hX_wd.trans (hsWa.mono hX_wd.size)
      refine OneR_mk (hsWa.mono hX_wd.size) ?_
      refine anyR_one 5 _ (nthS (nthS (nthS (nthS (nthS (nth0)))))) (by kernel_rfl) (l' := #[true, true, true, true, true, true, true, true, false, false, false, false, false, true, false, false]) rfl ?_
      go_wp2_with fail
      refine (HCP.out _ hB_Wa).mono ?_
      rintro e V1 ⟨hsV1, v1, l5, rfl, ho5, hm5⟩
      obtain ⟨A5, c5, hv5, hL5⟩ := ho5.lies
      obtain ⟨hl5, h5, hk5, hd5, hT5⟩ := HSame.out l5 hm5
      rw [hl5] at hv5
      subst hv5
      have HL5 := Lib.hid (fun W (h' : Below V1.heap.size V1 W) => hL5.later h')
      have HM5 := Lib.hid hm5
      have HK5 := Lib.hid (show l5[k]? = some h5 ∧ h5.d = h.d ∧ findH (l5.map Ho.d) x.cl = (k : Int) ∧ l5.length = n from ⟨hk5, hd5, hT5, hl5⟩)
      clear ho5 hm5 hL5 hk5 hd5 hT5 hl5
      go_wp2_with fail
      have hB_V1 : Below M W1 V1 := hB_Wa.trans (hsV1.mono (HW.out _ hB_Wa).2)
      have hX_V1 : Below wx.heap.size wx V1 := hX_Wa.trans (hsV1.mono hX_Wa.size)
      refine OneR_mk (hsV1.mono hX_Wa.size) ?_
      refine anyR_one 8 _ (nthS (nthS (nthS (nthS (nthS (nthS (nthS (nthS (nth0))))))))) (by kernel_rfl) (l' := #[true, true, true, true, true, true, true, true, true, false, false, false, false, true, false, false]) rfl ?_
      obtain ⟨hk5, hd5, hT5, hl5⟩ := HK5.out
      simp only [Ho.d, Hd.mk.injEq] at hd5
      have hcon := sent_any l5 k h5 x.cs x.co x.cf x.ct x.cl A5 c5 V1 (HL5.out _ (Below.refl _ _)) (by have := HLL.out; have := HNn.out; omega) hk5 hT5 (by rw [hd5.2.2]; exact HcI.out) (by rw [hd5.2.2]; have := HAk.out; omega)
      rw [HM5.out, hd5.1, hd5.2.1, hd5.2.2, hl5] at hcon
      have Con := Lib.hid hcon
      clear hcon hk5 hd5 hT5 hl5
      go_wp2_with fail
      refine Con.out.mono ?_
      rintro e V2 ⟨hsV2, v2, l6, rfl, ho6, hm6⟩
      obtain ⟨A6, c6, hv6, hL6⟩ := ho6.lies
      subst hv6
      have HL6 := Lib.hid (fun W (h' : Below V2.heap.size V2 W) => hL6.later h')
      have HM6 := Lib.hid hm6
      clear ho6 hm6 hL6 Con
      go_wp2_with fail
      have hB_V2 : Below M W1 V2 := hB_V1.trans (hsV2.mono (HW.out _ hB_V1).2)
      have hX_V2 : Below wx.heap.size wx V2 := hX_V1.trans (hsV2.mono hX_V1.size)
      refine OneR_mk (hsV2.mono hX_V1.size) ?_
      refine anyR_one 9 _ (nthS (nthS (nthS (nthS (nthS (nthS (nthS (nthS (nthS (nth0)))))))))) (by kernel_rfl) (l' := #[true, true, true, true, true, true, true, true, true, true, false, false, false, true, false, false]) rfl ?_
      have hcon := HCH.out l6 A6 c6 V2 hB_V2 (HL6.out _ (Below.refl _ _)) (by have h1 := congrArg List.length HM6.out; simp at h1; have := HLL.out; omega)
      rw [HM6.out] at hcon
      have Con := Lib.hid hcon
      clear hcon
      go_wp2_with fail
      refine Con.out.mono ?_
      rintro e V3 ⟨hsV3, J, er2, rfl, hres2⟩
      have hJ : er2 = 0 ∧ (J.ki ≠ 1 ∨ J.ct ≠ x.ct ∨ J.cl ≠ x.cl) := by
        rcases hres2 with ⟨_, _, hn⟩ | ⟨h1, _, _, now2, _, hJe⟩
        · exact absurd ⟨HCK6.out, HRg.out⟩ hn
        · exact ⟨h1, choose_again (h := h.d) HKd.out HkT.out now2 J hJe⟩
      obtain ⟨hJ0, hJ1⟩ := hJ
      subst hJ0
      have HJ := Lib.hid hJ1
      clear hres2 hJ1 Con
      go_wp2_with fail
      have hB_V3 : Below M W1 V3 := hB_V2.trans (hsV3.mono (HW.out _ hB_V2).2)
      have hX_V3 : Below wx.heap.size wx V3 := hX_V2.trans (hsV3.mono hX_V2.size)
      refine OneR_mk (hsV3.mono hX_V2.size) ?_
      refine anyR_take0 10 _ (nthS (nthS (nthS (nthS (nthS (nthS (nthS (nthS (nthS (nthS (nth0))))))))))) rfl (by kernel_rfl) (by kernel_rfl) (by kernel_rfl) (l' := #[true, true, true, true, true, true, true, true, true, true, true, false, false, true, false, false]) rfl rfl ?_; intro K hK; go_big_quiet_op; go_big_quiet_on
      refine anyR_take0 11 _ (nthS (nthS (nthS (nthS (nthS (nthS (nthS (nthS (nthS (nthS (nthS (nth0)))))))))))) rfl (by kernel_rfl) (by kernel_rfl) (by kernel_rfl) (l' := #[true, true, true, true, true, true, true, true, true, true, true, true, false, true, false, false]) rfl rfl ?_; intro K hK; go_big_quiet_op; go_big_quiet_on
      refine anyR_take0 12 _ (nthS (nthS (nthS (nthS (nthS (nthS (nthS (nthS (nthS (nthS (nthS (nthS (nth0))))))))))))) rfl (by kernel_rfl) (by kernel_rfl) (by kernel_rfl) (l' := #[true, true, true, true, true, true, true, true, true, true, true, true, true, true, false, false]) rfl rfl ?_; intro K hK; go_big_quiet_op; go_big_quiet_on
      refine anyR_one 14 _ (nthS (nthS (nthS (nthS (nthS (nthS (nthS (nthS (nthS (nthS (nthS (nthS (nthS (nthS (nth0))))))))))))))) (by kernel_rfl) (l' := #[true, true, true, true, true, true, true, true, true, true, true, true, true, true, true, false]) rfl ?_
      obtain ⟨b5, hYl⟩ := HY.out _ (((hsV1).trans (hsV2.mono (hsV1).size)).trans (hsV3.mono ((hsV1).trans (hsV2.mono (hsV1).size)).size))
      have cb5 := b5.row
      have fb5 := b5.frozen
      unfold Row at cb5
      have b6 := (((((((b5.set_ 0 (.int .i64 J.ki)).set_ 1 (.int .i64 J.cs)).set_ 2 (.int .i64 J.co)).set_ 3 (.int .i64 J.cf)).set_ 4 (.int .i64 J.ct)).set_ 5 (.int .i64 J.cl)).set_ 6 (.int .i64 J.fr))
      simp only [List.set_cons_zero, List.set_cons_succ] at b6
      have C6 := Lib.hid b6.row
      clear b6
      go_wp2_with fail
      generalize hW6 : World.setCell _ _ _ = W6'
      have hbe : Below 0 V3 W6' := by rw [← hW6]; exact ((((((((Below.refl 0 V3).setCell (p := ⟨Y, 0, none⟩) (Nat.zero_le _) (.int .i64 J.ki)).setCell (p := ⟨Y, 1, none⟩) (Nat.zero_le _) (.int .i64 J.cs)).setCell (p := ⟨Y, 2, none⟩) (Nat.zero_le _) (.int .i64 J.co)).setCell (p := ⟨Y, 3, none⟩) (Nat.zero_le _) (.int .i64 J.cf)).setCell (p := ⟨Y, 4, none⟩) (Nat.zero_le _) (.int .i64 J.ct)).setCell (p := ⟨Y, 5, none⟩) (Nat.zero_le _) (.int .i64 J.cl)).setCell (p := ⟨Y, 6, none⟩) (Nat.zero_le _) (.int .i64 J.fr))
      have HB6 : Hid (Below M W1 W6') := Lib.hid (by rw [← hW6]; exact (((((((hB_V3.setCell (p := ⟨Y, 0, none⟩) hYM (.int .i64 J.ki)).setCell (p := ⟨Y, 1, none⟩) hYM (.int .i64 J.cs)).setCell (p := ⟨Y, 2, none⟩) hYM (.int .i64 J.co)).setCell (p := ⟨Y, 3, none⟩) hYM (.int .i64 J.cf)).setCell (p := ⟨Y, 4, none⟩) hYM (.int .i64 J.ct)).setCell (p := ⟨Y, 5, none⟩) hYM (.int .i64 J.cl)).setCell (p := ⟨Y, 6, none⟩) hYM (.int .i64 J.fr)))
      have C7 : Hid (Row W6' Y [.int .i64 J.ki, .int .i64 J.cs, .int .i64 J.co, .int .i64 J.cf, .int .i64 J.ct, .int .i64 J.cl, .int .i64 J.fr]) := Lib.hid (by rw [← hW6]; exact C6.out)
      have CX : Hid (Row W6' X [.int .i64 1, .int .i64 x.cs, .int .i64 x.co, .int .i64 x.cf, .int .i64 x.ct, .int .i64 x.cl, .int .i64 h.fr]) := Lib.hid (by
        have hx0 : Row V3 X [.int .i64 1, .int .i64 x.cs, .int .i64 x.co, .int .i64 x.cf, .int .i64 x.ct, .int .i64 x.cl, .int .i64 h.fr] := fun i => (hX_V3.cell (p := ⟨X, i, none⟩) hXlx).trans (HXx.out i)
        rw [← hW6]
        exact (Row.far (Row.far (Row.far (Row.far (Row.far (Row.far (Row.far hx0 (p := ⟨Y, 0, none⟩) (by dsimp only; omega) (.int .i64 J.ki)) (p := ⟨Y, 1, none⟩) (by dsimp only; omega) (.int .i64 J.cs)) (p := ⟨Y, 2, none⟩) (by dsimp only; omega) (.int .i64 J.co)) (p := ⟨Y, 3, none⟩) (by dsimp only; omega) (.int .i64 J.cf)) (p := ⟨Y, 4, none⟩) (by dsimp only; omega) (.int .i64 J.ct)) (p := ⟨Y, 5, none⟩) (by dsimp only; omega) (.int .i64 J.cl)) (p := ⟨Y, 6, none⟩) (by dsimp only; omega) (.int .i64 J.fr)))
      clear hW6 C6 cb5 fb5 b5
      refine OneR_rough (by kernel_rfl) (hbe) ?_
      refine anyR_take0 15 _ (nthS (nthS (nthS (nthS (nthS (nthS (nthS (nthS (nthS (nthS (nthS (nthS (nthS (nthS (nthS (nth0)))))))))))))))) rfl (by kernel_rfl) (by kernel_rfl) (by kernel_rfl) (l' := #[true, true, true, true, true, true, true, true, true, true, true, true, true, true, true, true]) rfl rfl ?_; intro K hK; go_big_quiet_op; go_big_quiet_on
      refine anyR_end (by kernel_rfl) ?_
      go_wp2_with fail
      go_meet
      exact ⟨J, Y, rfl, rfl, HB6.out, C7, CX, HJ⟩
  case rest =>
    obtain ⟨J, Y, rfl, rfl, hBc, HJr, HXr, HJ⟩ := hcut
    have j0 := HJr.out 0
    have j4 := HJr.out 4
    have j5 := HJr.out 5
    have e4 := HXr.out 4
    have e5 := HXr.out 5
    simp only [List.getElem?_cons_succ, List.getElem?_cons_zero] at j0 j4 j5 e4 e5
    have fin := (HW.out _ hBc).1
    by_cases u1 : J.ki = 1
    · by_cases u2 : J.ct = x.ct
      · have u3 : (J.cl != x.cl) = true := by
          rcases HJ.out with h1 | h1 | h1
          · exact absurd u1 h1
          · exact absurd u2 h1
          · simpa using h1
        have u1' : (J.ki != 1) = false := by simpa using u1
        have u2' : (J.ct != x.ct) = false := by simpa using u2
        clear u1 u2
        go_wp2_with fail
        go_ret
        exact ⟨rfl, fin⟩
      · have u2' : (J.ct != x.ct) = true := by simpa using u2
        have u1' : (J.ki != 1) = false := by simpa using u1
        clear u1 u2
        go_wp2_with fail
        go_ret
        exact ⟨rfl, fin⟩
    · have u1' : (J.ki != 1) = true := by simpa using u1
      clear u1
      go_wp2_with fail
      go_ret
      exact ⟨rfl, fin⟩
end Go.Proofs.Ytepamedbbbfjkaa

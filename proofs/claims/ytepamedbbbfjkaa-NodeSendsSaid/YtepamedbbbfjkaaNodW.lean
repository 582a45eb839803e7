/- Walk: Begin of package node. -/
import Derived.Test.YtepamedbbbfjkaaNodV
namespace Go.Proofs.Ytepamedbbbfjkaa
open Go.RowKit
open Nd
namespace Nd
def curIs (fs : List Fl) (slot : Int) (h : Hd) : Bool := match fs[(findF fs h.fl).toNat]? with
  | some f => (cur f slot).2 && ((cur f slot).1 == h.fr)
  | none => false
def beg1 (fs : List Fl) (slot : Int) (l : List Hd) : List Hd := l.filter (curIs fs slot)
def addB (self slot : Int) (f : Fl) (acc : List Hd) : Bool := (cur f slot).2 && (f.fr == self) && decide (findH acc f.id < 0)
def begStep (self slot : Int) (f : Fl) (acc : List Hd) : List Hd := if addB self slot f acc = true then ins acc ⟨f.id, (cur f slot).1, []⟩ else acc
def beg2 (self slot : Int) : List Fl → List Hd → List Hd
  | [], acc => acc
  | f :: fs, acc => beg2 self slot fs (begStep self slot f acc)
def beg (fs : List Fl) (self slot : Int) (l : List Hd) : List Hd × Int := if chk fs self slot l = 0 then (beg2 self slot fs (beg1 fs slot l), 0) else ([], chk fs self slot l)
theorem findH_none {l : List Hd} {id : Int} (h : findH l id < 0) : ∀ x ∈ l, x.fl ≠ id := by
  rcases idxP_spec (fun h : Hd => h.fl == id) l 0 with ⟨_, h2⟩ | ⟨i, a, _, _, h3, _⟩
  · intro x hx e
    have := List.all_eq_true.1 h2 x hx
    simp [e] at this
  · unfold findH at h; rw [h3] at h; omega
theorem ins_up {l : List Hd} {h : Hd} (hl : l.Pairwise (fun a b => a.fl < b.fl)) (hn : ∀ x ∈ l, x.fl ≠ h.fl) : (ins l h).Pairwise (fun a b => a.fl < b.fl) := by
  induction l with
  | nil => simp [ins]
  | cons x l ih =>
    rw [List.pairwise_cons] at hl
    by_cases hx : x.fl < h.fl
    · have e : ins (x :: l) h = x :: ins l h := by
        unfold ins
        rw [List.takeWhile_cons, if_pos (by simpa using hx), List.dropWhile_cons, if_pos (by simpa using hx)]
        rfl
      rw [e, List.pairwise_cons]
      refine ⟨fun a ha => ?_, ih hl.2 (fun y hy => hn y (List.mem_cons_of_mem _ hy))⟩
      unfold ins at ha
      rcases List.mem_append.1 ha with ha | ha
      · exact hl.1 a ((List.takeWhile_sublist _).subset ha)
      · rcases List.mem_cons.1 ha with rfl | ha
        · exact hx
        · exact hl.1 a ((List.dropWhile_sublist _).subset ha)
    · have e : ins (x :: l) h = h :: x :: l := by
        unfold ins
        rw [List.takeWhile_cons, if_neg (by simpa using hx), List.dropWhile_cons, if_neg (by simpa using hx)]
        rfl
      have hx2 : h.fl < x.fl := by have := hn x List.mem_cons_self; omega
      rw [e, List.pairwise_cons, List.pairwise_cons]
      exact ⟨fun a ha => by
        rcases List.mem_cons.1 ha with rfl | ha
        · exact hx2
        · have := hl.1 a ha; omega, hl⟩
theorem ins_len (l : List Hd) (h : Hd) : (ins l h).length = l.length + 1 := by
  have := congrArg List.length (List.takeWhile_append_dropWhile (p := fun x : Hd => decide (x.fl < h.fl)) (l := l))
  unfold ins
  rw [List.length_append] at this ⊢
  rw [List.length_cons]
  omega
theorem begStep_up {self slot : Int} {f : Fl} {acc : List Hd} (h : acc.Pairwise (fun a b => a.fl < b.fl)) : (begStep self slot f acc).Pairwise (fun a b => a.fl < b.fl) := by
  unfold begStep
  split
  · rename_i hb
    refine ins_up h (findH_none ?_)
    simp only [addB, Bool.and_eq_true, decide_eq_true_eq] at hb
    exact hb.2
  · exact h
end Nd

theorem hdGo_find (fs : List Fl) : ∀ (l : List Hd) (p : Option Hd), hdGo fs p l = true → ∀ a ∈ l, 0 ≤ findF fs a.fl
  | [], _, _, a, ha => by cases ha
  | h :: l, p, hg, a, ha => by
    simp only [hdGo, Bool.and_eq_true] at hg
    rcases List.mem_cons.1 ha with rfl | ha
    · have h1 := hg.1.1
      simp only [hdB, Bool.and_eq_true, decide_eq_true_eq] at h1
      exact h1.1.1.1
    · exact hdGo_find fs l _ hg.2 a ha
def BegRel1 (w : World) (fs : List Fl) (slot : Int) (l : List Ho) (k : Nat) (v : Value) (wr : World) : Prop := Below w.heap.size w wr ∧ ∃ acc : List Ho, acc.length ≤ k ∧ OutH wr w.heap.size v acc ∧ acc.map Ho.d = beg1 fs slot ((l.take k).map Ho.d)
def BegRel2 (w : World) (fs : List Fl) (self slot : Int) (n k : Nat) (T : List Hd) (v : Value) (wr : World) : Prop := Below w.heap.size w wr ∧ ∃ acc : List Ho, acc.length ≤ n + k ∧ OutH wr w.heap.size v acc ∧ (acc.map Ho.d).Pairwise (fun a b => a.fl < b.fl) ∧ T = beg2 self slot (fs.drop k) (acc.map Ho.d)
theorem beg1_snoc {fs : List Fl} {slot : Int} {l : List Ho} {k : Nat} {a : Ho} (h : l[k]? = some a) : beg1 fs slot ((l.take (k + 1)).map Ho.d) = if curIs fs slot a.d = true then beg1 fs slot ((l.take k).map Ho.d) ++ [a.d] else beg1 fs slot ((l.take k).map Ho.d) := by
  rw [take_succ_map h]
  unfold beg1
  rw [List.filter_append]
  by_cases hc : curIs fs slot a.d = true
  · rw [if_pos hc]; simp [hc]
  · rw [if_neg hc]; simp [hc]

set_option maxRecDepth 100000 in
set_option maxHeartbeats 2000000 in
theorem begin_any (fs : List Fl) (l : List Ho) (A D : Option Addr) (c cd : Nat) (self slot : Int) (w : World) (hA : Lies w w.heap.size 6 A (fs.map Fl.row)) (hf : fs.length ≤ 10000) (hD : LiesH w w.heap.size D l) (hl : l.length ≤ 10000) :
    Calls Try.prog 14 #[.slice A fs.length c, .int .i64 self, .int .i64 slot, .slice D l.length cd] w fun e w' => Below w.heap.size w w' ∧ ∃ v l', e = .returned (.tuple #[v, .int .i64 (beg fs self slot (l.map Ho.d)).2]) ∧ OutH w' w.heap.size v l' ∧ l'.map Ho.d = (beg fs self slot (l.map Ho.d)).1 := by
  have HCk := Lib.hid (check_any fs l A D c cd self slot w hA (by omega) hD (by omega))
  have HA := Lib.hid (fun W (h : Below w.heap.size w W) => Lies.later hA h)
  have HD := Lib.hid (fun W (h : Below w.heap.size w W) => LiesH.later hD h)
  have HFi := Lib.hid (fun x W (h : Below w.heap.size w W) => find_any fs x A c W (HA.out W h) (by omega))
  obtain ⟨R, hR⟩ : ∃ R, R = beg fs self slot (l.map Ho.d) := ⟨_, rfl⟩
  rw [← hR]
  obtain ⟨K, hK⟩ : ∃ K, K = chk fs self slot (l.map Ho.d) := ⟨_, rfl⟩
  rw [← hK] at HCk
  obtain ⟨n, hn⟩ : ∃ n, n = l.length := ⟨_, rfl⟩
  obtain ⟨m, hm⟩ : ∃ m, m = fs.length := ⟨_, rfl⟩
  rw [← hn, ← hm] at HCk
  rw [← hn] at hl
  rw [← hm] at hf HFi
  rw [← hn, ← hm]
  have HN := Lib.hid hn
  have HM := Lib.hid hm
  clear hn hm hA hD
  by_cases hK0 : K = 0
  case neg =>
    have HE : Hid (R = ([], K)) := Lib.hid (by rw [hR]; unfold beg; rw [← hK, if_neg hK0])
    have hK' : (K != 0) = true := by simpa using hK0
    clear hR hK hK0
    go_enter Try.func14, Try.ntmps14
    go_wp2_with fail
    refine HCk.out.mono ?_
    rintro e w2 ⟨rfl, hb2⟩
    go_wp2_with fail
    go_ret2
    exact ⟨hb2, .slice none 0 0, [], by rw [HE.out]; rfl, OutH.nil _ _, by rw [HE.out]; rfl⟩
  have hz := chk_zero (hK.symm.trans hK0)
  have hgo := (chkH_zero hz.1).2
  have HUP := Lib.hid (hdGo_up fs _ none hgo).2
  have HOK : Hid (∀ (k : Nat) (a : Ho), l[k]? = some a → ∃ (i : Nat) (f : Fl), fs[i]? = some f ∧ findF fs a.fl = (i : Int)) := Lib.hid (fun k a ha => by
    have h1 := hdGo_find fs (l.map Ho.d) none hgo a.d (List.mem_map_of_mem (List.mem_of_getElem? ha))
    rcases findF_bounds fs a.fl with h | ⟨i, f, h2, _, h3⟩
    · exact absurd h1 (by show ¬ 0 ≤ findF fs a.fl; rw [h]; decide)
    · exact ⟨i, f, h2, h3⟩)
  have HR : Hid (R = (beg2 self slot fs (beg1 fs slot (l.map Ho.d)), 0)) := Lib.hid (by rw [hR]; unfold beg; rw [← hK, if_pos hK0])
  obtain ⟨i0, hi, hz0, hz1, hz2⟩ := info_parts Try.infoH
  have HIF := Lib.hid (And.intro hi (And.intro hz0 (And.intro hz1 hz2)))
  subst hK0
  clear hR hK hz hgo hi hz0 hz1 hz2
  go_enter Try.func14, Try.ntmps14
  go_wp2_with fail
  refine HCk.out.mono ?_
  rintro e w2 ⟨rfl, hb2⟩
  clear HCk
  go_wp2_with fail
  go_loopw [11, 30] (fun s3 i wr => ∃ (k : Nat) (v : Value), v = s3 ∧ k ≤ n ∧ i = .int .i64 k ∧ Hid (BegRel1 w fs slot l k v wr)) (fun _ i _ => n - (intOf i).toNat)
  case atStart => exact ⟨0, _, rfl, Nat.zero_le _, rfl, Lib.hid ⟨hb2, [], Nat.le_refl _, OutH.nil _ _, rfl⟩⟩
  case round =>
    clear hb2
    obtain ⟨k, v, rfl, hk, rfl, HRel⟩ := hrel
    obtain ⟨hb, acc, hlen, hout, hmap⟩ := HRel.out
    by_cases hlt : k < n
    · obtain ⟨a, ha⟩ := get_of_lt (l := l) (k := k) (by rw [← HN.out]; exact hlt)
      obtain ⟨b, off, rfl, hbB, hcs⟩ := (HD.out _ hb).1.at_ ha
      obtain ⟨i, f, hfi, hF⟩ := HOK.out k a ha
      have HI := Lib.hid (fun W (h : Below w.heap.size w W) => (HD.out W h).inn ha)
      have HFa := Lib.hid (fun W h => HFi.out a.fl W h)
      rw [hF] at HFa
      have HMs := Lib.hid (beg1_snoc (fs := fs) (slot := slot) ha)
      have hcu : curIs fs slot a.d = ((cur f slot).2 && ((cur f slot).1 == a.fr)) := by
        unfold curIs
        show (match fs[(findF fs a.fl).toNat]? with | some f => _ | none => _) = _
        rw [hF, Int.toNat_natCast, hfi]
        rfl
      rw [hcu, ← hmap] at HMs
      have c0 := hcs k a ha 0 _ rfl
      have c1 := hcs k a ha 1 _ rfl
      have c2 := hcs k a ha 2 _ rfl
      simp only [Nat.add_zero] at c0 c1 c2
      have him : i < m := by rw [HM.out]; exact (List.getElem?_eq_some_iff.1 hfi).1
      have HO := Lib.hid hout
      have HB := Lib.hid hb
      have HLen := Lib.hid hlen
      have HFI := Lib.hid hfi
      have con := fun W => current_any f slot W
      obtain ⟨⟨cn, cb⟩, hcur⟩ : ∃ X, cur f slot = X := ⟨_, rfl⟩
      rw [hcur] at con HMs
      dsimp only at con HMs
      have Con := Lib.hid con
      clear hcs ha hout hmap HRel hb hlen hF hfi hcu con hcur
      go_upto_region 8 with fail
      generalize hW1 : wr.alloc _ = W1
      have ba : Blk W1 wr.heap.size 45 [.int .i64 a.fl, .int .i64 a.fr, .slice a.A a.ak.length a.c] := by rw [← hW1]; exact Blk.new2 _ [.int .i64 a.fl, .int .i64 a.fr, .slice a.A a.ak.length a.c] rfl
      have hb1 : Below w.heap.size w W1 := by rw [← hW1]; exact HB.out.alloc HB.out.size _
      have hbr : Below wr.heap.size wr W1 := by rw [← hW1]; exact (Below.refl _ _).alloc (Nat.le_refl _) _
      have HO1 := Lib.hid (HO.out.below hbr (Nat.le_refl _))
      have hbz := ba.lt
      clear hW1 c0 c1 c2 hbr HO
      have ca := ba.row
      unfold Row at ca
      go_wp2_with fail
      refine (HFa.out _ hb1).mono ?_
      rintro e w3 ⟨rfl, hb3⟩
      have hB3 : Below w.heap.size w w3 := hb1.trans (hb3.mono hb1.size)
      have HO3 := Lib.hid (HO1.out.below hb3 (Nat.le_refl _))
      have ba3 := ba.below hb3 hbz
      obtain ⟨fb, foff, rfl, hfB, hfc⟩ := (HA.out _ hB3).at_ HFI.out
      have f0 := hfc i f HFI.out 0 _ rfl
      have f1 := hfc i f HFI.out 1 _ rfl
      have f2 := hfc i f HFI.out 2 _ rfl
      have f3 := hfc i f HFI.out 3 _ rfl
      have f4 := hfc i f HFI.out 4 _ rfl
      have f5 := hfc i f HFI.out 5 _ rfl
      simp only [Nat.add_zero] at f0 f1 f2 f3 f4 f5
      clear hfc ca hb3 HO1 ba
      go_wp2_with fail
      refine (Con.out _).mono ?_
      rintro e w4 ⟨rfl, hb4⟩
      have hB4 : Below w.heap.size w w4 := hB3.trans (hb4.mono hB3.size)
      have HO4 := Lib.hid (HO3.out.below hb4 (Nat.le_refl _))
      have ba4 := ba3.below hb4 ba3.lt
      have ca4 := ba4.row
      unfold Row at ca4
      clear f0 f1 f2 f3 f4 f5 hb4 HO3 ba3 hB3 Con
      cases cb with
      | false =>
        have HNX : Hid (BegRel1 w fs slot l (k + 1) v w4) := Lib.hid ⟨hB4, acc, by have := HLen.out; omega, HO4.out, by rw [HMs.out]; rfl⟩
        clear HMs HO4 ba4
        go_wp2_with fail
        go_roundw
        case rel => exact ⟨k + 1, _, rfl, by omega, by go_num, HNX⟩
        case measure => simp [intOf]; omega
      | true =>
      by_cases hfr : cn = a.fr
      case neg =>
        have hfr' : (cn == a.fr) = false := by simpa using hfr
        have HNX : Hid (BegRel1 w fs slot l (k + 1) v w4) := Lib.hid ⟨hB4, acc, by have := HLen.out; omega, HO4.out, by rw [HMs.out, hfr']; rfl⟩
        clear HMs HO4 ba4 hfr
        go_wp2_with fail
        go_roundw
        case rel => exact ⟨k + 1, _, rfl, by omega, by go_num, HNX⟩
        case measure => simp [intOf]; omega
      have hfr' : (cn == a.fr) = true := by simpa using hfr
      have HMs2 : Hid (beg1 fs slot ((l.take (k + 1)).map Ho.d) = acc.map Ho.d ++ [a.d]) := Lib.hid (by rw [HMs.out, hfr']; rfl)
      clear HMs hfr
      go_wp2_with fail
      refine (own_any a _ (HI.out _ hB4).1 (HI.out _ hB4).2).mono ?_
      rintro e w5 ⟨hb5, h', hd', rfl, hO'⟩
      have hB5 : Below w.heap.size w w5 := hB4.trans (hb5.mono hB4.size)
      have HOw := Lib.hid (HO4.out.below hb5 (Nat.le_refl _))
      have HOI := Lib.hid (hO'.base (b' := w.heap.size) hB4.size)
      have HDD := Lib.hid hd'
      clear HO4 hO' hd' ca4 ba4 hb5 hB4
      go_wp2_with (at_builtin; refine wpList_append_own_at _ rfl (.tmp 53) (.tmp 56) 23 rfl w.heap.size 45 i0 (.agg #[.int .i64 0, .int .i64 0, .slice none 0 0]) 3 40 Try.underlying23 HIF.out.1 HIF.out.2.1 HIF.out.2.2.1 HIF.out.2.2.2 rfl (by decide) v acc.length (acc.flatMap Ho.row) rfl (HOw.out.1.alloc _) ⟨w5.heap.size, 0, none⟩ 1 1 [.int .i64 h'.fl, .int .i64 h'.fr, .slice h'.A h'.ak.length h'.c] rfl rfl ?e0 ?e1 ?e2 ?e3 ?e4 ?_)
      case e0 => exact (Blk.new2 45 [.int .i64 h'.fl, .int .i64 h'.fr, .slice h'.A h'.ak.length h'.c] rfl).news2
      case e1 => exact oneH _
      case e2 => unfold maxLen; have := HLen.out; omega
      case e3 => have := HLen.out; omega
      case e4 => simp; have := hB5.size; omega
      intro v6 w6 ho6 hg6 hnil6 hat6
      clear hnil6 hat6
      have hb6 : Below w.heap.size w w6 := (hB5.alloc hB5.size _).grown hg6 (by simp; have := hB5.size; omega) (by intro g hg; exact (HOw.out.1.lt g hg).1)
      have hbn : Below w5.heap.size w5 (w5.alloc (.cells [.int .i64 h'.fl, .int .i64 h'.fr, .slice h'.A h'.ak.length h'.c].toArray 45)) := (Below.refl _ _).alloc (Nat.le_refl _) _
      have HNX : Hid (BegRel1 w fs slot l (k + 1) v6 w6) := Lib.hid ⟨hb6, acc ++ [h'], by have := HLen.out; simp; omega, OutH.turn (HOw.out.below hbn (Nat.le_refl _)) hg6 (by rw [flat_snoc, List.length_append]; exact ho6) (fun x hx => by
        rcases List.mem_append.1 hx with hx | hx
        · exact (HOw.out.2 x hx).below hbn (Nat.le_refl _)
        · obtain rfl : x = h' := by simpa using hx
          exact HOI.out.below hbn (Nat.le_refl _)), by rw [HMs2.out, List.map_append, List.map_cons, List.map_nil, HDD.out]⟩
      obtain ⟨A6, c6, hv6⟩ := own_form2 ho6
      clear ho6 hg6 HOw HOI hbn hb6
      subst hv6
      go_wp2_with fail
      go_roundw
      case rel => exact ⟨k + 1, _, rfl, by omega, by go_num, HNX⟩
      case measure => simp [intOf]; omega
    · have hkn : k = n := by omega
      have HR1 : Hid (BegRel2 w fs self slot n 0 R.1 v wr) := Lib.hid (by
        refine ⟨hb, acc, by omega, hout, ?_, ?_⟩
        · rw [hmap, List.take_of_length_le (by rw [← HN.out]; omega)]
          exact List.Pairwise.filter _ HUP.out
        · rw [HR.out, hmap, List.take_of_length_le (by rw [← HN.out]; omega)]; rfl)
      have HR2 : Hid (R.2 = 0) := Lib.hid (by rw [HR.out])
      obtain ⟨A3, c3, hv3⟩ := own_form2 hout.1
      generalize acc.length = q at hv3
      subst hv3
      clear HRel hb hlen hout hmap HR hkn
      go_wp2_with fail
      go_loopw [11, 61] (fun s3 i wi => ∃ (j : Nat) (v : Value), v = s3 ∧ j ≤ m ∧ i = .int .i64 j ∧ Hid (BegRel2 w fs self slot n j R.1 v wi)) (fun _ i _ => m - (intOf i).toNat)
      case atStart => exact ⟨0, _, rfl, Nat.zero_le _, rfl, HR1⟩
      case round =>
        clear HR1
        obtain ⟨j, v, rfl, hj, rfl, HRel⟩ := hrel
        obtain ⟨hb, acc, hlen, hout, hup, hst⟩ := HRel.out
        by_cases hjm : j < m
        case neg =>
          have HF : Hid (acc.map Ho.d = R.1) := Lib.hid (by rw [hst, List.drop_of_length_le (by rw [← HM.out]; omega)]; rfl)
          obtain ⟨A3, c3, hv3⟩ := own_form2 hout.1
          have HO := Lib.hid hout
          clear HRel hlen hup hst hout
          subst hv3
          go_wp2_with fail
          go_ret2
          exact ⟨hb, _, acc, by rw [HR2.out]; rfl, HO.out, HF.out⟩
        obtain ⟨f, hfj⟩ := get_of_lt (l := fs) (k := j) (by rw [← HM.out]; exact hjm)
        obtain ⟨fb, foff, rfl, hfB, hfc⟩ := (HA.out _ hb).at_ hfj
        have f0 := hfc j f hfj 0 _ rfl
        have f1 := hfc j f hfj 1 _ rfl
        have f2 := hfc j f hfj 2 _ rfl
        have f3 := hfc j f hfj 3 _ rfl
        have f4 := hfc j f hfj 4 _ rfl
        have f5 := hfc j f hfj 5 _ rfl
        simp only [Nat.add_zero] at f0 f1 f2 f3 f4 f5
        have HST : Hid (R.1 = beg2 self slot (fs.drop (j + 1)) (begStep self slot f (acc.map Ho.d))) := Lib.hid (by rw [hst, drop_of_get hfj]; rfl)
        have HUPS := Lib.hid (begStep_up (self := self) (slot := slot) (f := f) hup)
        have HUH := Lib.hid (up_of hup)
        have HO := Lib.hid hout
        have HB := Lib.hid hb
        have HLen := Lib.hid hlen
        have con := fun W => current_any f slot W
        have HBS : Hid (begStep self slot f (acc.map Ho.d) = if ((cur f slot).2 && (f.fr == self) && decide (findH (acc.map Ho.d) f.id < 0)) = true then ins (acc.map Ho.d) ⟨f.id, (cur f slot).1, []⟩ else acc.map Ho.d) := Lib.hid rfl
        obtain ⟨⟨cn, cb⟩, hcur⟩ : ∃ X, cur f slot = X := ⟨_, rfl⟩
        rw [hcur] at con HBS
        dsimp only at con HBS
        have Con := Lib.hid con
        clear hfc hfj hout hup hst hb hlen con hcur HRel
        go_upto_region 15 with fail
        generalize hW1 : World.alloc _ _ = W1
        have ba : Blk W1 wr.heap.size 33 [.int .i64 f.id, .int .i64 f.fr, .int .i64 f.tn, .int .i64 f.pe, .int .i64 f.ph, .int .i64 f.dl] := by rw [← hW1]; exact Blk.new2 _ [.int .i64 f.id, .int .i64 f.fr, .int .i64 f.tn, .int .i64 f.pe, .int .i64 f.ph, .int .i64 f.dl] rfl
        have hb1 : Below w.heap.size w W1 := by rw [← hW1]; exact HB.out.alloc HB.out.size _
        have HO1 : Hid (OutH W1 w.heap.size v acc) := Lib.hid (by rw [← hW1]; exact HO.out.below ((Below.refl _ _).alloc (Nat.le_refl _) _) (Nat.le_refl _))
        have hbz := ba.lt
        clear hW1 f0 f1 f2 f3 f4 f5 HO
        have ca := ba.row
        unfold Row at ca
        go_wp2_with fail
        refine (Con.out _).mono ?_
        rintro e w4 ⟨rfl, hb4⟩
        have hB4 : Below w.heap.size w w4 := hb1.trans (hb4.mono hb1.size)
        have HO4 := Lib.hid (HO1.out.below hb4 (Nat.le_refl _))
        have ba4 := ba.below hb4 hbz
        have ca4 := ba4.row
        unfold Row at ca4
        clear hb4 HO1 ba Con ca
        cases cb with
        | false =>
          have HNX : Hid (BegRel2 w fs self slot n (j + 1) R.1 v w4) := Lib.hid ⟨hB4, acc, by have := HLen.out; omega, HO4.out, by have h := HUPS.out; rw [HBS.out] at h; exact h, by rw [HST.out, HBS.out]; rfl⟩
          clear HBS HO4 ba4 HUPS
          go_wp2_with fail
          go_roundw
          case rel => exact ⟨j + 1, _, rfl, by omega, by go_num, HNX⟩
          case measure => simp [intOf]; omega
        | true =>
        by_cases hself : f.fr = self
        case neg =>
          have hs' : (f.fr == self) = false := by simpa using hself
          have HNX : Hid (BegRel2 w fs self slot n (j + 1) R.1 v w4) := Lib.hid ⟨hB4, acc, by have := HLen.out; omega, HO4.out, by have h := HUPS.out; rw [HBS.out, hs'] at h; exact h, by rw [HST.out, HBS.out, hs']; rfl⟩
          clear HBS HO4 ba4 HUPS hself
          go_wp2_with fail
          go_roundw
          case rel => exact ⟨j + 1, _, rfl, by omega, by go_num, HNX⟩
          case measure => simp [intOf]; omega
        have hs' : (f.fr == self) = true := by simpa using hself
        obtain ⟨A4, c4, hv4, hL4⟩ := HO4.out.lies
        have hfd := hfind_any acc f.id A4 c4 w4 hL4 (by have := HLen.out; omega)
        rw [← hv4] at hfd
        have HFD := Lib.hid hfd
        obtain ⟨G, hG⟩ : ∃ G, G = findH (acc.map Ho.d) f.id := ⟨_, rfl⟩
        rw [← hG] at HFD HBS
        clear hG hfd hL4 hself
        have HV4 := Lib.hid hv4
        clear hv4
        go_wp2_with fail
        refine HFD.out.mono ?_
        rintro e w5 ⟨rfl, hb5⟩
        have hB5 : Below w.heap.size w w5 := hB4.trans (hb5.mono hB4.size)
        have HO5 := Lib.hid (HO4.out.below hb5 (Nat.le_refl _))
        have ba5 := ba4.below hb5 ba4.lt
        have ca5 := ba5.row
        unfold Row at ca5
        clear hb5 HO4 ba4 ca4 hB4 HFD
        by_cases hG : G < 0
        · have HNXD : Hid (begStep self slot f (acc.map Ho.d) = ins (acc.map Ho.d) ⟨f.id, cn, []⟩) := Lib.hid (by rw [HBS.out, hs', decide_eq_true hG]; rfl)
          clear HBS
          have HAD := Lib.hid (hadd_any acc f.id cn w.heap.size v w5 HO5.out HUH.out (by have := HLen.out; omega) hB5.size)
          go_wp2_with fail
          refine HAD.out.mono ?_
          rintro e w6 ⟨hb6, v6, l6, rfl, ho6, hm6⟩
          have HNX : Hid (BegRel2 w fs self slot n (j + 1) R.1 v6 w6) := Lib.hid ⟨hB5.trans hb6, l6, by
            have h1 := congrArg List.length hm6
            rw [ins_len, List.length_map, List.length_map] at h1
            have := HLen.out
            omega, ho6, by rw [hm6, ← HNXD.out]; exact HUPS.out, by rw [HST.out, hm6, HNXD.out]⟩
          obtain ⟨A6, c6, hv6⟩ := own_form2 ho6.1
          generalize l6.length = q6 at hv6
          clear ho6 hm6 hb6 HO5 HAD ba5 ca5
          subst hv6
          go_wp2_with fail
          go_roundw
          case rel => exact ⟨j + 1, _, rfl, by omega, by go_num, HNX⟩
          case measure => simp [intOf]; omega
        · have hG' : decide (G < 0) = false := decide_eq_false hG
          have HNX : Hid (BegRel2 w fs self slot n (j + 1) R.1 v w5) := Lib.hid ⟨hB5, acc, by have := HLen.out; omega, HO5.out, by have h := HUPS.out; rw [HBS.out, hs', hG'] at h; exact h, by rw [HST.out, HBS.out, hs', hG']; rfl⟩
          clear HBS HO5 ba5 HUPS hG
          go_wp2_with fail
          go_roundw
          case rel => exact ⟨j + 1, _, rfl, by omega, by go_num, HNX⟩
          case measure => simp [intOf]; omega
end Go.Proofs.Ytepamedbbbfjkaa

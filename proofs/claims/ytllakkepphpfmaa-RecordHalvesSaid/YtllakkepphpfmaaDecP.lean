/- Decode of package record, plain; owned rows of structs. -/
import Derived.Test.YtllakkepphpfmaaRead
import Derived.Test.YtllakkepphpfmaaCheck
namespace Go.Proofs.Ytllakkepphpfmaa
open Go.RowKit
namespace Rc

def nat8 (l : List Nat) (i : Nat) : Nat := l.getD i 0
def mkA (at_ : Nat) (vs : List Nat) : Att := ⟨((at_ + nat8 vs 0 : Nat) : Int), (nat8 vs 1 : Nat), (nat8 vs 2 : Nat), (nat8 vs 3 : Nat), (nat8 vs 4 : Nat), (nat8 vs 5 : Nat), (nat8 vs 6 : Nat), (nat8 vs 7 : Nat)⟩
def mkD (at_ : Nat) (vs : List Nat) : Dlv := ⟨(nat8 vs 1 : Nat), (nat8 vs 2 : Nat), ((at_ + nat8 vs 0 : Nat) : Int)⟩
/-- up to n attempts -/
def attsP : Nat → Nat → List UInt8 → Bool → List Att × List UInt8 × Bool
  | 0, _, d, b => ([], d, b)
  | n + 1, at_, d, b => if b then ([], d, b) else
      (mkA at_ (readS 8 d b).1 :: (attsP n (at_ + nat8 (readS 8 d b).1 0) (readS 8 d b).2.1 (readS 8 d b).2.2).1, (attsP n (at_ + nat8 (readS 8 d b).1 0) (readS 8 d b).2.1 (readS 8 d b).2.2).2)
def dlvsP : Nat → Nat → List UInt8 → Bool → List Dlv × List UInt8 × Bool
  | 0, _, d, b => ([], d, b)
  | n + 1, at_, d, b => if b then ([], d, b) else
      (mkD at_ (readS 3 d b).1 :: (dlvsP n (at_ + nat8 (readS 3 d b).1 0) (readS 3 d b).2.1 (readS 3 d b).2.2).1, (dlvsP n (at_ + nat8 (readS 3 d b).1 0) (readS 3 d b).2.1 (readS 3 d b).2.2).2)
structure Dec where
  r : Rec
  d : List UInt8
  bad : Bool
def decP (data : List UInt8) : Dec :=
  let h := readS 2 data false
  let a := attsP (nat8 h.1 1) 0 h.2.1 h.2.2
  let m := readS 1 a.2.1 a.2.2
  let q := dlvsP (nat8 m.1 0) 0 m.2.1 m.2.2
  ⟨⟨(nat8 h.1 0 : Nat), a.1, q.1⟩, q.2.1, q.2.2⟩
def decOk (data : List UInt8) : Bool := !(decP data).bad && ((decP data).d.isEmpty && good (decP data).r)

theorem readS_length : ∀ (k : Nat) (d : List UInt8) (b : Bool), (readS k d b).1.length = k
  | 0, _, _ => rfl
  | k + 1, d, b => by simp [readS, readS_length k]
theorem readS_lt : ∀ (k : Nat) (d : List UInt8) (b : Bool) (i : Nat), nat8 (readS k d b).1 i < 34359738368
  | 0, _, _, i => by simp [readS, nat8]
  | k + 1, d, b, i => by
    cases i with
    | zero => simpa [readS, nat8] using numS_lt d b
    | succ i =>
      have := readS_lt k (numS 5 d b).2.1 (numS 5 d b).2.2 i
      simpa [readS, nat8] using this
theorem numS_bad (k : Nat) (d : List UInt8) : numS k d true = (0, d, true) := by simp [numS]
theorem readS_bad : ∀ (k : Nat) (d : List UInt8), (readS k d true).2 = (d, true)
  | 0, _ => rfl
  | k + 1, d => by simp [readS, numS_bad, readS_bad k]
theorem readS_len : ∀ (k : Nat) (d : List UInt8) (b : Bool), (readS k d b).2.1.length ≤ d.length ∧ ((readS k d b).2.2 = false → (readS k d b).2.1.length + k ≤ d.length)
  | 0, d, b => by simp [readS]
  | k + 1, d, b => by
    have h1 := numS_len 5 d b
    obtain ⟨h2, h3⟩ := readS_len k (numS 5 d b).2.1 (numS 5 d b).2.2
    simp only [readS]
    refine ⟨by omega, fun hb => ?_⟩
    have h4 := h3 hb
    have hnb : (numS 5 d b).2.2 = false := by
      cases hq : (numS 5 d b).2.2 with
      | false => rfl
      | true => rw [hq, readS_bad] at hb; cases hb
    have := numS_len_lt 5 d b hnb
    omega
theorem readS1 (d : List UInt8) (b : Bool) : ∃ v0 d' b', readS 1 d b = ([v0], d', b') ∧ v0 < 34359738368 := by
  have h0 := readS_lt 1 d b 0
  have hl := readS_length 1 d b
  generalize readS 1 d b = q at *
  obtain ⟨vs, d', b'⟩ := q
  match vs, hl with
  | [v0], _ => exact ⟨v0, d', b', rfl, by simpa [nat8] using h0⟩
theorem readS2 (d : List UInt8) (b : Bool) : ∃ v0 v1 d' b', readS 2 d b = ([v0, v1], d', b') ∧ v0 < 34359738368 ∧ v1 < 34359738368 := by
  have h0 := readS_lt 2 d b 0
  have h1 := readS_lt 2 d b 1
  have hl := readS_length 2 d b
  generalize readS 2 d b = q at *
  obtain ⟨vs, d', b'⟩ := q
  match vs, hl with
  | [v0, v1], _ => exact ⟨v0, v1, d', b', rfl, by simpa [nat8] using h0, by simpa [nat8] using h1⟩
theorem readS3 (d : List UInt8) (b : Bool) : ∃ v0 v1 v2 d' b', readS 3 d b = ([v0, v1, v2], d', b') ∧ v0 < 34359738368 ∧ v1 < 34359738368 ∧ v2 < 34359738368 := by
  have h0 := readS_lt 3 d b 0
  have h1 := readS_lt 3 d b 1
  have h2 := readS_lt 3 d b 2
  have hl := readS_length 3 d b
  generalize readS 3 d b = q at *
  obtain ⟨vs, d', b'⟩ := q
  match vs, hl with
  | [v0, v1, v2], _ => exact ⟨v0, v1, v2, d', b', rfl, by simpa [nat8] using h0, by simpa [nat8] using h1, by simpa [nat8] using h2⟩
theorem readS8 (d : List UInt8) (b : Bool) : ∃ v0 v1 v2 v3 v4 v5 v6 v7 d' b', readS 8 d b = ([v0, v1, v2, v3, v4, v5, v6, v7], d', b') ∧ v0 < 34359738368 := by
  have h0 := readS_lt 8 d b 0
  have hl := readS_length 8 d b
  generalize readS 8 d b = q at *
  obtain ⟨vs, d', b'⟩ := q
  match vs, hl with
  | [v0, v1, v2, v3, v4, v5, v6, v7], _ => exact ⟨v0, v1, v2, v3, v4, v5, v6, v7, d', b', rfl, by simpa [nat8] using h0⟩
end Rc

theorem Blk.new' {w : World} {g : Nat} (t : TypeId) (cs : List Value) (h : g = w.heap.size) : Blk (w.alloc (.cells cs.toArray t)) g t cs := by rw [h]; exact Blk.new w t cs
theorem Blk.cell0 {w : World} {g : Nat} {t : TypeId} {cs : List Value} (h : Blk w g t cs) (i : Nat) : w.cell? ⟨g, i, none⟩ = cs[i]? := h.row i

theorem updL_other (b : Nat) : ∀ (ps : List (Nat × Nat)) (vs : List Nat) (cs : List Value), (∀ p ∈ ps, p.1 ≠ b) → updL b ps vs cs = cs
  | p :: ps, v :: vs, cs, h => by
    simp only [updL]
    rw [if_neg (h p List.mem_cons_self)]
    exact updL_other b ps vs cs fun q hq => h q (List.mem_cons_of_mem _ hq)
  | [], _, _, _ => by simp [updL]
  | _ :: _, [], _, _ => by simp [updL]

/-- An owned row is kept where its block is kept. -/
theorem own_kept {w w' : World} {base : Nat} {e : TypeId} {size : Nat} {v : Value} {n : Nat} {xs : List Value} (h : w.ownsRow base e size v n xs) (hk : ∀ g cs, v.ownBlock = some g → Blk w g e cs → Blk w' g e cs) : w'.ownsRow base e size v n xs := by
  refine ⟨h.1, ?_⟩
  rcases h.2 with h0 | ⟨g, cap, cur, hv, hg, hh, h1, h2, h3, h4⟩
  · exact .inl h0
  · refine .inr ⟨g, cap, cur, hv, hg, ?_, h1, h2, h3, h4⟩
    have := hk g cur.toList (by rw [hv]; rfl) (by unfold Blk; simpa using hh)
    unfold Blk at this
    simpa using this
theorem Blk.grown_ {w w' : World} {g : Nat} {t : TypeId} {cs : List Value} {row : Option Nat} (h : Blk w g t cs) (hg : w.grownBy w' row) (hne : some g ≠ row) : Blk w' g t cs := (hg.block g h.lt hne).trans h
theorem Blk.news {w : World} {g : Nat} {t : TypeId} {cs : List Value} (h : Blk w g t cs) : ∀ j u, cs[j]? = some u → w.cell? ((⟨g, 0, none⟩ : Addr).add j) = some u := fun j u hu => by
  have e : (⟨g, 0, none⟩ : Addr).add j = ⟨g, j, none⟩ := by
    unfold Addr.add
    split
    · rename_i h; subst h; rfl
    · simp
  rw [e]; exact (h.row j).trans hu
theorem ints_one {l : List Int} : ∀ u ∈ l.map (Value.int .i64), u.oneCell' = true := fun u hu => by
  obtain ⟨z, _, rfl⟩ := List.mem_map.1 hu
  rfl

theorem own_form {w : World} {base : Nat} {e : TypeId} {size : Nat} {v : Value} {n : Nat} {xs : List Value} (h : w.ownsRow base e size v n xs) : ∃ A c, v = .slice A n c := by
  rcases h.2 with ⟨rfl, h0⟩ | ⟨g, cap, cur, rfl, _⟩
  · exact ⟨none, 0, by rw [h0]⟩
  · exact ⟨_, _, rfl⟩
theorem own_not {w : World} {base : Nat} {e : TypeId} {size : Nat} {v : Value} {n : Nat} {xs : List Value} (h : w.ownsRow base e size v n xs) {g : Nat} (hg : g < base) : some g ≠ v.ownBlock := fun e => by
  have := (h.lt g e.symm).1; omega

def flatA (l : List Rc.Att) : List Value := l.flatMap Rc.Att.row
def flatD (l : List Rc.Dlv) : List Value := l.flatMap Rc.Dlv.row

theorem flat_get {α : Type} (f : α → List Value) (sz : Nat) (hf : ∀ a, (f a).length = sz) : ∀ (l : List α) (k j : Nat) (a : α), l[k]? = some a → j < sz → (l.flatMap f)[k * sz + j]? = (f a)[j]?
  | [], k, j, a, h, _ => by simp at h
  | x :: l, 0, j, a, h, hj => by
    simp at h
    subst h
    simp only [List.flatMap_cons, Nat.zero_mul, Nat.zero_add]
    rw [List.getElem?_append_left (by rw [hf]; exact hj)]
  | x :: l, k + 1, j, a, h, hj => by
    have h' : l[k]? = some a := by simpa using h
    simp only [List.flatMap_cons]
    rw [List.getElem?_append_right (by rw [hf, Nat.succ_mul]; omega), hf, show (k + 1) * sz + j - sz = k * sz + j by rw [Nat.succ_mul]; omega]
    exact flat_get f sz hf l k j a h' hj

theorem add_off (g j : Nat) : (⟨g, 0, none⟩ : Addr).add j = ⟨g, j, none⟩ := by
  unfold Addr.add
  split
  · rename_i h; subst h; rfl
  · simp

/-- An owned row of structs reads as a list. -/
theorem own_lies {α : Type} {f : α → List Value} {sz : Nat} (hf : ∀ a, (f a).length = sz) {w : World} {base : Nat} {e : TypeId} {v : Value} {l : List α} (h : w.ownsRow base e sz v l.length (l.flatMap f)) :
    ∃ A c, v = .slice A l.length c ∧ Lies w w.heap.size sz A (l.map f) ∧ l.length ≤ maxLen := by
  rcases h.2 with ⟨rfl, h0⟩ | ⟨g, cap, cur, rfl, hg, hh, hnc, hm, hs, ht⟩
  · refine ⟨none, 0, by rw [h0], ?_, by rw [h0]; unfold maxLen; omega⟩
    have : l = [] := List.eq_nil_of_length_eq_zero h0
    subst this
    exact Lies.nil _ _ _ _
  · refine ⟨_, cap, rfl, fun _ => ⟨g, 0, rfl, ?_, fun k row hr j u hu => ?_⟩, Nat.le_trans hnc hm⟩
    · rcases Nat.lt_or_ge g w.heap.size with h' | h'
      · exact h'
      · rw [Array.getElem?_eq_none h'] at hh; cases hh
    · rw [List.getElem?_map] at hr
      cases hk : l[k]? with
      | none => rw [hk] at hr; cases hr
      | some a =>
        rw [hk] at hr
        have hra : f a = row := by simpa using hr
        subst hra
        have hj : j < sz := by
          have := (List.getElem?_eq_some_iff.1 hu).1
          rw [hf] at this; exact this
        have := h.cells (g := g) rfl (k * sz + j) u (by rw [flat_get f sz hf l k j a hk hj]; exact hu)
        rw [add_off] at this
        rw [Nat.zero_add]; exact this
theorem row_len_A (a : Rc.Att) : a.row.length = 8 := rfl
theorem row_len_D (a : Rc.Dlv) : a.row.length = 3 := rfl
end Go.Proofs.Ytllakkepphpfmaa

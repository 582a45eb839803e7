/- Plain: no frame is delivered twice. -/
import Derived.Test.YtepamedbbbfjkaaNodHp
namespace Go.Proofs.Ytepamedbbbfjkaa
namespace Nd

theorem cur_between {f : Fl} {a b c x : Int} (h0 : cur f a = (x, true)) (h2 : cur f c = (x, true)) (hab : a ≤ b) (hbc : b ≤ c) : cur f b = (x, true) := by
  unfold cur at h0 h2 ⊢
  split at h0
  · rename_i k0
    split at h2
    · rename_i k2
      have hz := fault_zero k0.1
      rw [if_pos ⟨k0.1, by omega, by omega⟩]
      have e0 : (a - f.ph) / f.pe = x := (Prod.mk.inj h0).1
      have e2 : (c - f.ph) / f.pe = x := (Prod.mk.inj h2).1
      have l1 : (a - f.ph) / f.pe ≤ (b - f.ph) / f.pe := Int.ediv_le_ediv (by omega) (by omega)
      have l2 : (b - f.ph) / f.pe ≤ (c - f.ph) / f.pe := Int.ediv_le_ediv (by omega) (by omega)
      have : (b - f.ph) / f.pe = x := by omega
      rw [this]
    · cases h2
  · cases h0
theorem cur_small (f : Fl) {slot : Int} (hs : slot ≤ 1073741824) : 0 ≤ (cur f slot).1 ∧ (cur f slot).1 ≤ 1073741824 := by
  cases h : (cur f slot).2 with
  | true => exact cur_range (Prod.ext rfl h) hs
  | false =>
    unfold cur at h ⊢
    split at h
    · cases h
    · rename_i hn
      rw [if_neg hn]
      exact ⟨Int.le_refl _, by decide⟩
theorem hear_is {fs : List Fl} {self slot : Int} {l : List Hd} (hk : chk fs self slot l = 0) (hp : fs.Pairwise (fun a b => a.id < b.id)) {f : Fl} (hf : f ∈ fs) (frame : Int) :
    hear fs self slot l f.id frame = if findH l f.id < 0 ∧ cur f slot = (frame, true) then (ins l ⟨f.id, frame, []⟩, f.tn == self, 0) else (l, false, 0) := by
  obtain ⟨i, hi, hF⟩ := find_self hp hf
  unfold hear
  rw [if_pos hk, hF, Int.toNat_natCast, hi]
  dsimp only
  by_cases h1 : findH l f.id < 0
  · have hno : ¬ ((i : Int) < 0 ∨ 0 ≤ findH l f.id) := by omega
    rw [if_neg hno]
    by_cases h2 : cur f slot = (frame, true)
    · have hy : findH l f.id < 0 ∧ cur f slot = (frame, true) := ⟨h1, h2⟩
      have hy2 : (cur f slot).2 = true ∧ (cur f slot).1 = frame := by rw [h2]; exact ⟨rfl, rfl⟩
      rw [if_pos hy, if_pos hy2]
    · have hy : ¬ (findH l f.id < 0 ∧ cur f slot = (frame, true)) := fun h => h2 h.2
      have hy2 : ¬ ((cur f slot).2 = true ∧ (cur f slot).1 = frame) := fun h => h2 (Prod.ext h.2 h.1)
      rw [if_neg hy, if_neg hy2]
  · have hno : (i : Int) < 0 ∨ 0 ≤ findH l f.id := by omega
    have hy : ¬ (findH l f.id < 0 ∧ cur f slot = (frame, true)) := fun h => h1 h.1
    rw [if_pos hno, if_neg hy]

/-- Behind k rounds: the pairs of S were delivered; one that is current still has its holding. -/
structure Once (fs : List Fl) (k : Nat) (slot : Int) (l : List Hd) (S : List (Int × Int)) : Prop where
  ok : chkH fs l = 0
  s0 : 0 ≤ slot
  s1 : slot ≤ 7 * (k : Int)
  len : l.length ≤ 21 * k
  del : ∀ p ∈ S, ∃ f ∈ fs, f.id = p.1 ∧ ∃ s, s ≤ slot ∧ cur f s = (p.2, true) ∧ (cur f slot = (p.2, true) → ∃ h ∈ l, h.fl = p.1 ∧ h.fr = p.2)

theorem Once.start {fs : List Fl} (h : chkH fs [] = 0) : Once fs 0 0 [] [] := ⟨h, Int.le_refl _, by decide, Nat.le_refl _, fun _ hp => (by cases hp)⟩
theorem Once.begin {fs : List Fl} {self : Int} {k : Nat} {slot d : Int} {l : List Hd} {S : List (Int × Int)} (hO : Once fs k slot l S) (hs : 0 ≤ self ∧ self < 32) (hk : k ≤ 60) (h0 : 0 ≤ d) (h1 : d ≤ 7) : (beg fs self (slot + d) l).2 = 0 := by
  have := hO.s0
  have := hO.s1
  have hck : chk fs self (slot + d) l = 0 := by
    unfold chk
    rw [if_pos hO.ok, if_pos ⟨hs.1, hs.2, by omega, by omega⟩]
  unfold beg
  rw [if_pos hck]
theorem once_step {fs : List Fl} {self : Int} {k : Nat} {slot d : Int} {l : List Hd} {S : List (Int × Int)} (hO : Once fs k slot l S) (hs : 0 ≤ self ∧ self < 32) (hn : fs.length ≤ 20) (hk : k ≤ 60) (h0 : 0 ≤ d) (h1 : d ≤ 7) {f : Fl} (hf : f ∈ fs) (frame : Int)
    {l1 : List Hd} {R : List Hd × Bool × Int} (hl1 : l1 = (beg fs self (slot + d) l).1) (hR : R = hear fs self (slot + d) l1 f.id frame) :
    R.2.2 = 0 ∧ (R.2.1 = true → (f.id, frame) ∉ S ∧ f.tn = self ∧ (cur f (slot + d)).2 = true ∧ frame = (cur f (slot + d)).1) ∧ Once fs (k + 1) (slot + d) R.1 (if R.2.1 = true then (f.id, frame) :: S else S) := by
  have hs0 := hO.s0
  have hs1 := hO.s1
  have hb : beg fs self (slot + d) l = (l1, 0) := Prod.ext hl1.symm (hO.begin hs hk h0 h1)
  have hck : chk fs self (slot + d) l = 0 := by
    unfold chk
    rw [if_pos hO.ok, if_pos ⟨hs.1, hs.2, by omega, by omega⟩]
  obtain ⟨hg, hup⟩ := beg_good hb
  have hH := (beg_holds hb).1
  obtain ⟨hF, hgo⟩ := chkH_zero hH
  obtain ⟨_, hp⟩ := chkF_ok hF
  have hck1 : chk fs self (slot + d) l1 = 0 := by
    unfold chk
    rw [if_pos hH, if_pos ⟨hs.1, hs.2, by omega, by omega⟩]
  have hlen : l1.length ≤ fs.length + l.length := by rw [hl1]; exact beg_len fs self (slot + d) l
  have hol := hO.len
  have hdel : ∀ p ∈ S, ∃ g ∈ fs, g.id = p.1 ∧ ∃ s, s ≤ slot + d ∧ cur g s = (p.2, true) ∧ (cur g (slot + d) = (p.2, true) → ∃ h ∈ l1, h.fl = p.1 ∧ h.fr = p.2) := fun p hpS => by
    obtain ⟨g, hgf, hid, s, hs', hc, hh⟩ := hO.del p hpS
    refine ⟨g, hgf, hid, s, by omega, hc, fun hc2 => ?_⟩
    obtain ⟨h, hm, e1, e2⟩ := hh (cur_between hc hc2 hs' (by omega))
    refine ⟨h, ?_, e1, e2⟩
    have hi : curIs fs (slot + d) h = true := by
      rw [curIs_of hp hgf (e1.trans hid.symm), hc2, e2]
      simp
    rw [hl1]
    unfold beg
    rw [if_pos hck]
    exact beg2_mono self (slot + d) fs _ h (List.mem_filter.2 ⟨hm, hi⟩)
  rw [hear_is hck1 hp hf frame] at hR
  by_cases hc : findH l1 f.id < 0 ∧ cur f (slot + d) = (frame, true)
  · rw [if_pos hc] at hR
    subst hR
    obtain ⟨hc1, hc2⟩ := hc
    have hnin : (f.id, frame) ∉ S := fun hin => by
      obtain ⟨g, hgf, hid, s, _, _, hh⟩ := hdel _ hin
      have hgf' : g = f := by
        obtain ⟨i1, e1, f1⟩ := find_self hp hf
        obtain ⟨i2, e2, f2⟩ := find_self hp hgf
        have hid' : g.id = f.id := hid
        rw [hid', f1] at f2
        have : i1 = i2 := by omega
        subst this
        rw [e1] at e2
        injection e2 with e2
        exact e2.symm
      subst hgf'
      obtain ⟨h, hm, e1, _⟩ := hh hc2
      have := findH_nonneg.2 ⟨h, hm, e1⟩
      have hc1' : findH l1 g.id < 0 := hc1
      dsimp only at this
      omega
    have hgood : ∀ x ∈ ins l1 ⟨f.id, frame, []⟩, GoodH fs (slot + d) x := fun x hx => by
      rcases mem_ins.1 hx with rfl | hx
      · exact ⟨⟨f, hf, rfl, hc2⟩, rfl⟩
      · exact hg x hx
    refine ⟨rfl, fun hd => ⟨hnin, by simpa using hd, by rw [hc2], by rw [hc2]⟩, ?_⟩
    refine ⟨?_, by omega, by push_cast; omega, by dsimp only; rw [ins_len]; omega, ?_⟩
    · unfold chkH
      rw [if_pos ⟨hF, hdGo_of hp (by omega) _ none (fun q hq => by cases hq) (ins_up hup (findH_none hc1)) hgood⟩]
    · have hold : ∀ p ∈ S, ∃ g ∈ fs, g.id = p.1 ∧ ∃ s, s ≤ slot + d ∧ cur g s = (p.2, true) ∧ (cur g (slot + d) = (p.2, true) → ∃ h ∈ ins l1 ⟨f.id, frame, []⟩, h.fl = p.1 ∧ h.fr = p.2) := fun p hpS => by
        obtain ⟨g, a1, a2, s, a3, a4, a5⟩ := hdel p hpS
        exact ⟨g, a1, a2, s, a3, a4, fun hh => by obtain ⟨h, b1, b2⟩ := a5 hh; exact ⟨h, mem_ins.2 (.inr b1), b2⟩⟩
      intro p hpS
      dsimp only at hpS
      split at hpS
      · rcases List.mem_cons.1 hpS with rfl | hpS
        · exact ⟨f, hf, rfl, slot + d, Int.le_refl _, hc2, fun _ => ⟨_, mem_ins.2 (.inl rfl), rfl, rfl⟩⟩
        · exact hold p hpS
      · exact hold p hpS
  · rw [if_neg hc] at hR
    subst hR
    refine ⟨rfl, fun hd => Bool.noConfusion hd, ?_⟩
    exact ⟨hH, by omega, by push_cast; omega, by dsimp only; omega, by simpa using hdel⟩
end Nd
end Go.Proofs.Ytepamedbbbfjkaa

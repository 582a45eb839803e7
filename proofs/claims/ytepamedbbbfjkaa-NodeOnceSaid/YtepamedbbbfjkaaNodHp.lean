/- Plain: what holds behind Begin. -/
import Derived.Test.YtepamedbbbfjkaaNodW
namespace Go.Proofs.Ytepamedbbbfjkaa
namespace Nd

theorem findH_nonneg {l : List Hd} {id : Int} : 0 ≤ findH l id ↔ ∃ h ∈ l, h.fl = id := by
  rcases idxP_spec (fun h : Hd => h.fl == id) l 0 with ⟨h1, h2⟩ | ⟨i, a, h1, h2, h3, _⟩
  · constructor
    · intro h; unfold findH at h; rw [h1] at h; omega
    · rintro ⟨h, hh, e⟩
      have := List.all_eq_true.1 h2 h hh
      simp [e] at this
  · constructor
    · intro _; exact ⟨a, List.mem_of_getElem? h1, by simpa using h2⟩
    · intro _; unfold findH; rw [h3]; omega
theorem findH_at {l : List Hd} {id : Int} (h : 0 ≤ findH l id) : ∃ (i : Nat) (a : Hd), l[i]? = some a ∧ a.fl = id ∧ findH l id = (i : Int) := by
  rcases idxP_spec (fun h : Hd => h.fl == id) l 0 with ⟨h1, h2⟩ | ⟨i, a, h1, h2, h3, _⟩
  · unfold findH at h; rw [h1] at h; omega
  · exact ⟨i, a, h1, by simpa using h2, by unfold findH; rw [h3]; omega⟩

/-- Flows without a fault, their numbers ascending. -/
theorem chkGo_ok : ∀ (l : List Fl) (p : Option Fl) (i : Int), (chkGo p i l).2 = 0 → (∀ f ∈ l, fault f = 0) ∧ (∀ q, p = some q → ∀ f ∈ l, q.id < f.id) ∧ l.Pairwise (fun a b => a.id < b.id)
  | [], _, _, _ => ⟨fun _ h => (by cases h), fun _ _ _ h => (by cases h), List.Pairwise.nil⟩
  | f :: l, p, i, h => by
    unfold chkGo at h
    split at h
    · rename_i hf
      split at h
      · cases h
      · rename_i hn
        obtain ⟨i1, i2, i3⟩ := chkGo_ok l (some f) (i + 1) h
        have i2' := i2 f rfl
        refine ⟨fun g hg => ?_, fun q hq g hg => ?_, List.Pairwise.cons i2' i3⟩
        · rcases List.mem_cons.1 hg with rfl | hg
          · exact hf
          · exact i1 g hg
        · subst hq
          have h4 : q.id < f.id := by
            simp only [notUp, decide_eq_true_eq] at hn
            omega
          rcases List.mem_cons.1 hg with rfl | hg
          · exact h4
          · have := i2' g hg; omega
    · rename_i hf
      exact absurd h hf
theorem chkF_ok {l : List Fl} (h : (chkF l).2 = 0) : (∀ f ∈ l, fault f = 0) ∧ l.Pairwise (fun a b => a.id < b.id) := by
  unfold chkF at h
  split at h
  · cases h
  · have := chkGo_ok l none 0 h
    exact ⟨this.1, this.2.2⟩
theorem find_self {l : List Fl} (hp : l.Pairwise (fun a b => a.id < b.id)) {f : Fl} (hf : f ∈ l) : ∃ i : Nat, l[i]? = some f ∧ findF l f.id = (i : Int) := by
  obtain ⟨k, hk⟩ := List.getElem?_of_mem hf
  rcases idxP_spec (fun g : Fl => g.id == f.id) l 0 with ⟨_, h2⟩ | ⟨i, a, h1, h2, h3, _⟩
  · have := List.all_eq_true.1 h2 f hf
    simp at this
  · have ha : a.id = f.id := by simpa using h2
    obtain ⟨b1, e1⟩ := List.getElem?_eq_some_iff.1 hk
    obtain ⟨b2, e2⟩ := List.getElem?_eq_some_iff.1 h1
    have hpw := List.pairwise_iff_getElem.1 hp
    have hik : i = k := by
      rcases Nat.lt_trichotomy i k with h | h | h
      · have := hpw i k b2 b1 h; rw [e1, e2] at this; omega
      · exact h
      · have := hpw k i b1 b2 h; rw [e1, e2] at this; omega
    subst hik
    exact ⟨i, hk, by unfold findF; rw [h3]; omega⟩
theorem curIs_of {fs : List Fl} (hp : fs.Pairwise (fun a b => a.id < b.id)) {f : Fl} (hf : f ∈ fs) {slot : Int} {h : Hd} (he : h.fl = f.id) : curIs fs slot h = ((cur f slot).2 && ((cur f slot).1 == h.fr)) := by
  obtain ⟨i, hi, hF⟩ := find_self hp hf
  unfold curIs
  rw [he, hF, Int.toNat_natCast, hi]

/-- A holding that is right in a slot. -/
def GoodH (fs : List Fl) (slot : Int) (h : Hd) : Prop := (∃ f ∈ fs, f.id = h.fl ∧ cur f slot = (h.fr, true)) ∧ akGo none h.ak = true
theorem cur_range {f : Fl} {slot x : Int} (h : cur f slot = (x, true)) (hs : slot ≤ 1073741824) : 0 ≤ x ∧ x ≤ 1073741824 := by
  unfold cur at h
  split at h
  · rename_i hc
    have hz := fault_zero hc.1
    have e : (slot - f.ph) / f.pe = x := (Prod.mk.inj h).1
    have h1 : 0 ≤ (slot - f.ph) / f.pe := Int.ediv_nonneg (by omega) (by omega)
    have h2 : (slot - f.ph) / f.pe ≤ slot - f.ph := Int.ediv_le_self _ (by omega)
    omega
  · cases h
theorem hdGo_ak (fs : List Fl) : ∀ (l : List Hd) (p : Option Hd), hdGo fs p l = true → ∀ a ∈ l, akGo none a.ak = true
  | [], _, _, a, ha => by cases ha
  | h :: l, p, hg, a, ha => by
    simp only [hdGo, Bool.and_eq_true] at hg
    rcases List.mem_cons.1 ha with rfl | ha
    · exact hg.1.2
    · exact hdGo_ak fs l _ hg.2 a ha
theorem hdGo_of {fs : List Fl} (hp : fs.Pairwise (fun a b => a.id < b.id)) {slot : Int} (hs : slot ≤ 1073741824) : ∀ (l : List Hd) (p : Option Hd), (∀ q, p = some q → ∀ a ∈ l, q.fl < a.fl) → l.Pairwise (fun a b => a.fl < b.fl) → (∀ h ∈ l, GoodH fs slot h) → hdGo fs p l = true
  | [], _, _, _, _ => rfl
  | h :: l, p, h1, h2, h3 => by
    rw [List.pairwise_cons] at h2
    obtain ⟨⟨f, hf, hid, hc⟩, hak⟩ := h3 h List.mem_cons_self
    have ih := hdGo_of hp hs l (some h) (fun q hq a ha => by cases hq; exact h2.1 a ha) h2.2 (fun x hx => h3 x (List.mem_cons_of_mem _ hx))
    obtain ⟨i, _, hF⟩ := find_self hp hf
    have hr := cur_range hc hs
    have hB : hdB fs p h = true := by
      unfold hdB
      rw [← hid, hF]
      simp only [Bool.and_eq_true, decide_eq_true_eq]
      refine ⟨⟨⟨by omega, ?_⟩, hr.1⟩, hr.2⟩
      cases p with
      | none => rfl
      | some q =>
        have := h1 q rfl h List.mem_cons_self
        exact decide_eq_true (by omega)
    simp only [hdGo, Bool.and_eq_true]
    exact ⟨⟨hB, hak⟩, ih⟩
theorem mem_ins {l : List Hd} {h x : Hd} : x ∈ ins l h ↔ x = h ∨ x ∈ l := by
  unfold ins
  rw [List.mem_append, List.mem_cons]
  have e := List.takeWhile_append_dropWhile (p := fun x : Hd => decide (x.fl < h.fl)) (l := l)
  constructor
  · rintro (h1 | h1 | h1)
    · exact .inr (by rw [← e]; exact List.mem_append_left _ h1)
    · exact .inl h1
    · exact .inr (by rw [← e]; exact List.mem_append_right _ h1)
  · rintro (h1 | h1)
    · exact .inr (.inl h1)
    · rw [← e] at h1
      rcases List.mem_append.1 h1 with h2 | h2
      · exact .inl h2
      · exact .inr (.inr h2)
theorem begStep_good {fs : List Fl} {self slot : Int} {f : Fl} {acc : List Hd} (hf : f ∈ fs) (h : ∀ x ∈ acc, GoodH fs slot x) : ∀ x ∈ begStep self slot f acc, GoodH fs slot x := by
  unfold begStep
  split
  · rename_i hb
    intro x hx
    rcases mem_ins.1 hx with rfl | hx
    · simp only [addB, Bool.and_eq_true] at hb
      exact ⟨⟨f, hf, rfl, Prod.ext rfl hb.1.1⟩, rfl⟩
    · exact h x hx
  · exact h
theorem begStep_mono {self slot : Int} {f : Fl} {acc : List Hd} {x : Hd} (h : x ∈ acc) : x ∈ begStep self slot f acc := by
  unfold begStep
  split
  · exact mem_ins.2 (.inr h)
  · exact h
theorem beg2_mono (self slot : Int) : ∀ (fs : List Fl) (acc : List Hd) (x : Hd), x ∈ acc → x ∈ beg2 self slot fs acc
  | [], _, _, h => h
  | _ :: fs, _, x, h => beg2_mono self slot fs _ x (begStep_mono h)
theorem beg2_good {all : List Fl} (self slot : Int) : ∀ (fs : List Fl) (acc : List Hd), (∀ f ∈ fs, f ∈ all) → (∀ x ∈ acc, GoodH all slot x) → acc.Pairwise (fun a b => a.fl < b.fl) → (∀ x ∈ beg2 self slot fs acc, GoodH all slot x) ∧ (beg2 self slot fs acc).Pairwise (fun a b => a.fl < b.fl)
  | [], _, _, h2, h3 => ⟨h2, h3⟩
  | f :: fs, _, h1, h2, h3 => beg2_good self slot fs _ (fun g hg => h1 g (List.mem_cons_of_mem _ hg)) (begStep_good (h1 f List.mem_cons_self) h2) (begStep_up h3)
/-- Each flow that begins at the node has a holding. -/
theorem beg2_full (self slot : Int) : ∀ (fs : List Fl) (acc : List Hd) (f : Fl), f ∈ fs → (cur f slot).2 = true → f.fr = self → ∃ h ∈ beg2 self slot fs acc, h.fl = f.id
  | g :: fs, acc, f, hf, hc, hs => by
    rcases List.mem_cons.1 hf with rfl | hf
    · have : ∃ h ∈ begStep self slot f acc, h.fl = f.id := by
        unfold begStep
        split
        · exact ⟨_, mem_ins.2 (.inl rfl), rfl⟩
        · rename_i hb
          have hn : ¬ findH acc f.id < 0 := fun hlt => hb (by simp [addB, hc, hs, hlt])
          exact findH_nonneg.1 (by omega)
      obtain ⟨h, hh, e⟩ := this
      exact ⟨h, beg2_mono self slot fs _ h hh, e⟩
    · exact beg2_full self slot fs _ f hf hc hs
theorem beg2_same (self slot : Int) (l : List Hd) : ∀ (fs : List Fl), (∀ f ∈ fs, addB self slot f l = false) → beg2 self slot fs l = l
  | [], _ => rfl
  | f :: fs, h => by
    have e : begStep self slot f l = l := by unfold begStep; rw [if_neg (by rw [h f List.mem_cons_self]; decide)]
    show beg2 self slot fs (begStep self slot f l) = l
    rw [e]
    exact beg2_same self slot l fs (fun g hg => h g (List.mem_cons_of_mem _ hg))

theorem beg2_len (self slot : Int) : ∀ (fs : List Fl) (acc : List Hd), (beg2 self slot fs acc).length ≤ fs.length + acc.length
  | [], acc => by simp [beg2]
  | f :: fs, acc => by
    have h1 := beg2_len self slot fs (begStep self slot f acc)
    have h2 : (begStep self slot f acc).length ≤ acc.length + 1 := by
      unfold begStep
      split
      · rw [ins_len]; omega
      · omega
    show (beg2 self slot fs (begStep self slot f acc)).length ≤ _
    rw [List.length_cons]
    omega
theorem beg_len (fs : List Fl) (self slot : Int) (l : List Hd) : (beg fs self slot l).1.length ≤ fs.length + l.length := by
  unfold beg
  split
  · have h1 := beg2_len self slot fs (beg1 fs slot l)
    have h2 : (beg1 fs slot l).length ≤ l.length := List.length_filter_le _ _
    show (beg2 self slot fs (beg1 fs slot l)).length ≤ _
    omega
  · simp
/-- Behind Begin every holding is right in the slot. -/
theorem beg_good {fs : List Fl} {self slot : Int} {l out : List Hd} (h : beg fs self slot l = (out, 0)) : (∀ x ∈ out, GoodH fs slot x) ∧ out.Pairwise (fun a b => a.fl < b.fl) := by
  have hk : chk fs self slot l = 0 := by
    unfold beg at h
    split at h
    · assumption
    · exact (Prod.mk.inj h).2
  obtain ⟨hH, _, _, _, _⟩ := chk_zero hk
  obtain ⟨hF, hg⟩ := chkH_zero hH
  obtain ⟨_, hp⟩ := chkF_ok hF
  have ho : out = beg2 self slot fs (beg1 fs slot l) := by
    unfold beg at h
    rw [if_pos hk] at h
    exact (Prod.mk.inj h).1.symm
  have hup := (hdGo_up fs l none hg).2
  have g1 : ∀ x ∈ beg1 fs slot l, GoodH fs slot x := fun x hx => by
    unfold beg1 at hx
    rw [List.mem_filter] at hx
    have hfind := hdGo_find fs l none hg x hx.1
    rcases findF_bounds fs x.fl with hb | ⟨i, f, hi, hid, hFx⟩
    · rw [hb] at hfind; exact absurd hfind (by decide)
    · have hc := hx.2
      rw [curIs_of hp (List.mem_of_getElem? hi) hid.symm] at hc
      simp only [Bool.and_eq_true, beq_iff_eq] at hc
      exact ⟨⟨f, List.mem_of_getElem? hi, hid, Prod.ext hc.2 hc.1⟩, hdGo_ak fs l none hg x hx.1⟩
  have hall := beg2_good (all := fs) self slot fs (beg1 fs slot l) (fun _ hf => hf) g1 (List.Pairwise.filter _ hup)
  rw [← ho] at hall
  exact hall

/-- What the law asks of the holdings behind Begin. -/
theorem beg_holds {fs : List Fl} {self slot : Int} {l out : List Hd} (h : beg fs self slot l = (out, 0)) :
    chkH fs out = 0 ∧ beg fs self slot out = (out, 0) ∧ (∀ f ∈ fs, (0 ≤ findH out f.id → ∃ (i : Nat) (a : Hd), out[i]? = some a ∧ findH out f.id = (i : Int) ∧ cur f slot = (a.fr, true)) ∧ (findH out f.id < 0 → ¬ ((cur f slot).2 = true ∧ f.fr = self))) := by
  have hk : chk fs self slot l = 0 := by
    unfold beg at h
    split at h
    · assumption
    · exact (Prod.mk.inj h).2
  obtain ⟨hH, h1, h2, h3, h4⟩ := chk_zero hk
  obtain ⟨hF, hg⟩ := chkH_zero hH
  obtain ⟨_, hp⟩ := chkF_ok hF
  have ho : out = beg2 self slot fs (beg1 fs slot l) := by
    unfold beg at h
    rw [if_pos hk] at h
    exact (Prod.mk.inj h).1.symm
  have hall := beg_good h
  have hck : chkH fs out = 0 := by
    unfold chkH
    rw [if_pos ⟨hF, hdGo_of hp h4 out none (fun q hq => by cases hq) hall.2 hall.1⟩]
  have hall2 : ∀ f ∈ fs, (0 ≤ findH out f.id → ∃ (i : Nat) (a : Hd), out[i]? = some a ∧ findH out f.id = (i : Int) ∧ cur f slot = (a.fr, true)) ∧ (findH out f.id < 0 → ¬ ((cur f slot).2 = true ∧ f.fr = self)) := fun f hf => by
    constructor
    · intro hn
      obtain ⟨i, a, hi, ha, hFi⟩ := findH_at hn
      obtain ⟨⟨g, hgf, hgid, hc⟩, _⟩ := hall.1 a (List.mem_of_getElem? hi)
      refine ⟨i, a, hi, hFi, ?_⟩
      obtain ⟨i1, e1, f1⟩ := find_self hp hf
      obtain ⟨i2, e2, f2⟩ := find_self hp hgf
      rw [hgid, ha, f1] at f2
      have : i1 = i2 := by omega
      subst this
      rw [e1] at e2
      injection e2 with e2
      rw [e2]; exact hc
    · rintro hlt ⟨hc, hs⟩
      have := beg2_full self slot fs (beg1 fs slot l) f hf hc hs
      rw [← ho] at this
      have := findH_nonneg.2 this
      omega
  refine ⟨hck, ?_, hall2⟩
  have hk2 : chk fs self slot out = 0 := by
    unfold chk
    rw [if_pos hck, if_pos ⟨h1, h2, h3, h4⟩]
  unfold beg
  rw [if_pos hk2]
  have b1 : beg1 fs slot out = out := by
    unfold beg1
    rw [List.filter_eq_self]
    intro x hx
    obtain ⟨⟨g, hgf, hgid, hc⟩, _⟩ := hall.1 x hx
    rw [curIs_of hp hgf hgid.symm, hc]
    simp
  rw [b1, beg2_same]
  intro f hf
  rw [Bool.eq_false_iff]
  intro hb
  simp only [addB, Bool.and_eq_true, decide_eq_true_eq, beq_iff_eq] at hb
  exact (hall2 f hf).2 hb.2 ⟨hb.1.1, hb.1.2⟩
end Nd
end Go.Proofs.Ytepamedbbbfjkaa

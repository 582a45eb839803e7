/- Plain: what a node chooses, and what it holds behind a transmission. No program's numbers. -/
import Derived.Test.YtepamedbbbfjkaaNodT
import Derived.Test.YtepamedbbbfjkaaSoD6
namespace Go.Proofs.Ytepamedbbbfjkaa
open Nd
namespace Nd
/-- What a node does. -/
structure In where
  (ki cs co cf ct cl fr : Int)
def In.zero : In := ⟨0, 0, 0, 0, 0, 0, 0⟩
theorem idx_find {α : Type} (p : α → Bool) (l : List α) : (idxP p l 0 = -1 ∧ l.find? p = none) ∨ ∃ (i : Nat) (a : α), l[i]? = some a ∧ p a = true ∧ idxP p l 0 = (i : Int) ∧ l.find? p = some a := by
  rcases idxP_spec p l 0 with ⟨h1, h2⟩ | ⟨i, a, h1, h2, h3, h4⟩
  · refine .inl ⟨h1, List.find?_eq_none.2 fun x hx => ?_⟩
    have := List.all_eq_true.1 h2 x hx
    simpa using this
  · refine .inr ⟨i, a, h1, h2, by rw [h3]; omega, ?_⟩
    obtain ⟨hi, e⟩ := List.getElem?_eq_some_iff.1 h1
    rw [List.find?_eq_some_iff_append]
    refine ⟨h2, l.take i, l.drop (i + 1), ?_, fun x hx => ?_⟩
    · rw [← e, List.getElem_cons_drop, List.take_append_drop]
    · exact List.all_eq_true.1 h4 x hx
/-- Whether a node has something to send in a duty. -/
def sends (fs : List Fl) (l : List Hd) (x : Du) : Bool := x.se && (match l.find? (fun h => h.fl == x.cl) with | none => false | some h => !conI h.ak x.ct && (match fs.find? (fun f => f.id == x.cl) with | none => false | some f => !(f.tn == x.cf)))
def frameOf (l : List Hd) (id : Int) : Int := match l.find? (fun h => h.fl == id) with | none => 0 | some h => h.fr
/-- What a node chooses of the duties of a slot. -/
def chooseN (fs : List Fl) (l : List Hd) (now : List Du) : In := match now.find? (sends fs l) with
  | some x => ⟨1, x.cs, x.co, x.cf, x.ct, x.cl, frameOf l x.cl⟩
  | none => match now.find? (fun x => !x.se) with
    | some x => ⟨2, x.cs, x.co, x.cf, x.ct, x.cl, 0⟩
    | none => In.zero
theorem choose_kind (fs : List Fl) (l : List Hd) (now : List Du) :
    (∃ x ∈ now, sends fs l x = true ∧ chooseN fs l now = ⟨1, x.cs, x.co, x.cf, x.ct, x.cl, frameOf l x.cl⟩) ∨
    (∃ x ∈ now, x.se = false ∧ chooseN fs l now = ⟨2, x.cs, x.co, x.cf, x.ct, x.cl, 0⟩) ∨
    (chooseN fs l now = In.zero ∧ ∀ x ∈ now, x.se = true) := by
  unfold chooseN
  cases h1 : now.find? (sends fs l) with
  | some x => exact .inl ⟨x, List.mem_of_find?_eq_some h1, List.find?_some h1, rfl⟩
  | none =>
    cases h2 : now.find? (fun x => !x.se) with
    | some x => exact .inr (.inl ⟨x, List.mem_of_find?_eq_some h2, by simpa using List.find?_some h2, rfl⟩)
    | none => exact .inr (.inr ⟨rfl, fun x hx => by simpa using List.find?_eq_none.1 h2 x hx⟩)
theorem sends_inv {fs : List Fl} {l : List Hd} {x : Du} (h : sends fs l x = true) : x.se = true ∧ ∃ hd f, l.find? (fun h => h.fl == x.cl) = some hd ∧ conI hd.ak x.ct = false ∧ fs.find? (fun f => f.id == x.cl) = some f ∧ f.tn ≠ x.cf := by
  unfold sends at h
  rw [Bool.and_eq_true] at h
  obtain ⟨h1, h2⟩ := h
  refine ⟨h1, ?_⟩
  split at h2
  · cases h2
  · rename_i hd hf
    rw [Bool.and_eq_true] at h2
    obtain ⟨h3, h4⟩ := h2
    split at h4
    · cases h4
    · rename_i f hff
      exact ⟨hd, f, hf, by simpa using h3, hff, by simpa using h4⟩
theorem conI_iff (l : List Int) (x : Int) : conI l x = true ↔ x ∈ l := by
  unfold conI
  rcases idxP_spec (fun y => x == y) l 0 with ⟨h1, h2⟩ | ⟨i, a, h1, h2, h3, _⟩
  · rw [h1]
    constructor
    · intro h; simp at h
    · intro h
      have := List.all_eq_true.1 h2 x h
      simp at this
  · rw [h3]
    constructor
    · intro _
      have : x = a := by simpa using h2
      rw [this]; exact List.mem_of_getElem? h1
    · intro _; exact decide_eq_true (by omega)
/-- A node laid in its place. -/
def insI : List Int → Int → List Int
  | [], n => [n]
  | a :: l, n => if n < a then n :: a :: l else a :: insI l n
theorem mem_insI (n : Int) : ∀ l : List Int, n ∈ insI l n
  | [] => by simp [insI]
  | a :: l => by
    unfold insI
    split
    · simp
    · exact List.mem_cons_of_mem _ (mem_insI n l)
theorem insI_at (n : Int) : ∀ (l : List Int) (k : Int), (idxP (fun a => decide (n < a)) l k = -1 ∧ insI l n = l ++ [n]) ∨ ∃ i : Nat, idxP (fun a => decide (n < a)) l k = k + (i : Int) ∧ i < l.length ∧ insI l n = l.take i ++ n :: l.drop i
  | [], k => .inl ⟨rfl, rfl⟩
  | a :: l, k => by
    unfold idxP insI
    by_cases h : n < a
    · rw [if_pos (by simpa using h), if_pos h]
      exact .inr ⟨0, by simp, by simp, rfl⟩
    · rw [if_neg (by simpa using h), if_neg h]
      rcases insI_at n l (k + 1) with ⟨h1, h2⟩ | ⟨i, h1, h2, h3⟩
      · exact .inl ⟨h1, by rw [h2]; rfl⟩
      · exact .inr ⟨i + 1, by rw [h1]; push_cast; omega, by simpa using h2, by rw [h3]; rfl⟩
theorem insI_len (n : Int) : ∀ l : List Int, (insI l n).length = l.length + 1
  | [] => rfl
  | a :: l => by
    unfold insI
    split
    · rfl
    · simp [insI_len n l]
theorem akGo_ins (n : Int) (h0 : 0 ≤ n) (h1 : n < 32) : ∀ (l : List Int) (p : Option Int), akGo p l = true → n ∉ l → upI p n = true → akGo p (insI l n) = true
  | [], p, _, _, hu => by rw [insI, akGo_cons]; simp [h0, h1, hu, akGo]
  | a :: l, p, h, hn, hu => by
    rw [akGo_cons] at h
    simp only [Bool.and_eq_true, decide_eq_true_eq] at h
    obtain ⟨⟨⟨h2, h3⟩, h4⟩, h5⟩ := h
    have hne : n ≠ a := fun e => hn (by rw [e]; exact List.mem_cons_self)
    unfold insI
    split
    · rename_i hlt
      rw [akGo_cons, hu, akGo_cons]
      simp [h0, h1, h2, h3, h5, upI, hlt]
    · rename_i hlt
      rw [akGo_cons]
      have hu2 : upI (some a) n = true := by simp [upI]; omega
      rw [akGo_ins n h0 h1 l (some a) h5 (fun hm => hn (List.mem_cons_of_mem _ hm)) hu2]
      simp [h2, h3, h4]
theorem hdGo_prev (fs : List Fl) {p q : Option Hd} (h : p.map Hd.fl = q.map Hd.fl) : ∀ l : List Hd, hdGo fs p l = hdGo fs q l
  | [] => by cases p <;> cases q <;> rfl
  | a :: l => by
    show (hdB fs p a && akGo none a.ak && hdGo fs (some a) l) = (hdB fs q a && akGo none a.ak && hdGo fs (some a) l)
    rw [hdB_eq, hdB_eq]
    have : upB p a = upB q a := by
      cases p <;> cases q
      · rfl
      · cases h
      · cases h
      · simp at h; simp [upB, h]
    rw [this]
theorem hdGo_set (fs : List Fl) : ∀ (l : List Hd) (p : Option Hd) (i : Nat) (h : Hd) (ak : List Int), hdGo fs p l = true → l[i]? = some h → akGo none ak = true → hdGo fs p (l.set i ⟨h.fl, h.fr, ak⟩) = true
  | [], _, i, h, _, _, hi, _ => by simp at hi
  | a :: l, p, 0, h, ak, hg, hi, ha => by
    obtain rfl : a = h := by simpa using hi
    have hg' : (hdB fs p a && akGo none a.ak && hdGo fs (some a) l) = true := hg
    simp only [Bool.and_eq_true] at hg'
    show (hdB fs p ⟨a.fl, a.fr, ak⟩ && akGo none ak && hdGo fs (some ⟨a.fl, a.fr, ak⟩) l) = true
    rw [hdGo_prev fs (p := some ⟨a.fl, a.fr, ak⟩) (q := some a) rfl l, hg'.2, ha, Bool.and_true, Bool.and_true]
    exact hg'.1.1
  | a :: l, p, i + 1, h, ak, hg, hi, ha => by
    have hg' : (hdB fs p a && akGo none a.ak && hdGo fs (some a) l) = true := hg
    simp only [Bool.and_eq_true] at hg'
    show (hdB fs p a && akGo none a.ak && hdGo fs (some a) (l.set i ⟨h.fl, h.fr, ak⟩)) = true
    rw [hdGo_set fs l (some a) i h ak hg'.2 (by simpa using hi) ha, hg'.1.1, hg'.1.2]
    rfl
theorem hdGo_ak (fs : List Fl) : ∀ (l : List Hd) (p : Option Hd) (i : Nat) (h : Hd), hdGo fs p l = true → l[i]? = some h → akGo none h.ak = true ∧ 0 ≤ findF fs h.fl
  | [], _, i, h, _, hi => by simp at hi
  | a :: l, p, 0, h, hg, hi => by
    obtain rfl : a = h := by simpa using hi
    have hg' : (hdB fs p a && akGo none a.ak && hdGo fs (some a) l) = true := hg
    simp only [Bool.and_eq_true, hdB_eq, decide_eq_true_eq] at hg'
    exact ⟨hg'.1.2, hg'.1.1.1.1.1⟩
  | a :: l, p, i + 1, h, hg, hi => by
    have hg' : (hdB fs p a && akGo none a.ak && hdGo fs (some a) l) = true := hg
    simp only [Bool.and_eq_true] at hg'
    exact hdGo_ak fs l (some a) i h hg'.2 (by simpa using hi)
theorem chkH_mk {fs : List Fl} {l : List Hd} (h1 : (chkF fs).2 = 0) (h2 : hdGo fs none l = true) : chkH fs l = 0 := by unfold chkH; rw [if_pos ⟨h1, h2⟩]
/-- The holdings behind a transmission that was acknowledged. -/
theorem chkH_sent {fs : List Fl} {l : List Hd} (hc : chkH fs l = 0) {i : Nat} {h : Hd} (hi : l[i]? = some h) {n : Int} (h0 : 0 ≤ n) (h1 : n < 32) (hn : conI h.ak n = false) : chkH fs (l.set i ⟨h.fl, h.fr, insI h.ak n⟩) = 0 := by
  obtain ⟨c1, c2⟩ := chkH_zero hc
  refine chkH_mk c1 (hdGo_set fs l none i h _ c2 hi (akGo_ins n h0 h1 h.ak none (hdGo_ak fs l none i h c2 hi).1 (fun hm => ?_) rfl))
  rw [(conI_iff _ _).2 hm] at hn; cases hn
theorem find_set {l : List Hd} {id : Int} {i : Nat} {h h' : Hd} (hi : l[i]? = some h) (hx : idxP (fun h => h.fl == id) l 0 = (i : Int)) (hf : h'.fl = h.fl) : (l.set i h').find? (fun h => h.fl == id) = some h' := by
  rcases idxP_spec (fun h : Hd => h.fl == id) l 0 with ⟨h1, h2⟩ | ⟨j, a, h1, h2, h3, h4⟩
  · rw [hx] at h1; omega
  · have hj : j = i := by rw [hx] at h3; omega
    subst hj
    obtain rfl : h = a := by rw [hi] at h1; simpa using h1
    have hlt := (List.getElem?_eq_some_iff.1 hi).1
    rw [List.find?_eq_some_iff_append]
    refine ⟨by rw [hf]; exact h2, l.take j, l.drop (j + 1), ?_, fun x hx => List.all_eq_true.1 h4 x hx⟩
    rw [List.set_eq_take_append_cons_drop, if_pos hlt]
/-- What is sent, and acknowledged, is not sent again to the same node. -/
theorem choose_again {fs : List Fl} {l : List Hd} {id n : Int} {i : Nat} {h : Hd} (hi : l[i]? = some h) (hx : idxP (fun h => h.fl == id) l 0 = (i : Int)) (now : List Du) :
    ∀ J, J = chooseN fs (l.set i ⟨h.fl, h.fr, insI h.ak n⟩) now → J.ki ≠ 1 ∨ J.ct ≠ n ∨ J.cl ≠ id := by
  rintro _ rfl
  rcases choose_kind fs (l.set i ⟨h.fl, h.fr, insI h.ak n⟩) now with ⟨x, _, hs, he⟩ | ⟨x, _, _, he⟩ | ⟨he, _⟩
  · rw [he]
    by_cases h1 : x.ct = n
    · by_cases h2 : x.cl = id
      · exfalso
        obtain ⟨_, hd, f, hf, hc, _⟩ := sends_inv hs
        rw [h2, find_set (h' := ⟨h.fl, h.fr, insI h.ak n⟩) hi hx rfl] at hf
        injection hf with hf
        rw [← hf, h1, (conI_iff _ _).2 (mem_insI n h.ak)] at hc
        cases hc
      · exact .inr (.inr h2)
    · exact .inr (.inl h1)
  · rw [he]; exact .inl (by simp)
  · rw [he]; exact .inl (by simp [In.zero])
end Nd
end Go.Proofs.Ytepamedbbbfjkaa

import Derived.WalkKit
import Derived.ProofKit
import Derived.OpenShut
import Derived.Carry
import Derived.ChangeSame
import Derived.Deep.Slices
import Derived.Shelf.SlSortCmp.WholeK
import Derived.Test.YtkdigdnacggknaaZ7
import Derived.Test.YtkdigdnacggknaaRows
set_option linter.unusedVariables false
set_option linter.unusedSimpArgs false
/- Abstract states: a region that draws its order, with effects: appends, stores; any two operations of which neither waits for the other leave one another alone (footprints, checked by the kernel). Generic. -/
namespace Go.Proofs.Ytkdigdnacggknaa
open Go.RowKit
namespace Av

/-- What an operation does to an abstract state. -/
structure Eff where
  slot : Option (Nat × AV) := none
  nbox : Option (Nat × List PV) := none
  pat : Option (Nat × Nat × List PV) := none
  own : List (Loc × Option (TypeId × Nat)) := []
def ovr : List (Loc × Option (TypeId × Nat)) → List (Loc × (TypeId × Nat)) → List (Loc × (TypeId × Nat))
  | [], o => o
  | (L, none) :: l, o => delL (ovr l o) L
  | (L, some e) :: l, o => (L, e) :: delL (ovr l o) L
theorem lookL_ovr (L : Loc) (r : Option (TypeId × Nat)) (l : List (Loc × Option (TypeId × Nat))) (o : List (Loc × (TypeId × Nat))) (M : Loc) : lookL (ovr ((L, r) :: l) o) M = if M = L then r else lookL (ovr l o) M := by
  cases r with
  | none => exact lookL_del _ _ _
  | some e =>
    show lookL ((L, e) :: delL (ovr l o) L) M = _
    rw [lookL_cons, lookL_del]
    by_cases h : M = L
    · rw [if_pos h.symm, if_pos h]
    · rw [if_neg (fun e => h e.symm), if_neg h, if_neg h]
theorem ovr_out : ∀ {l : List (Loc × Option (TypeId × Nat))} {o : List (Loc × (TypeId × Nat))} {M : Loc}, (∀ x ∈ l, x.1 ≠ M) → lookL (ovr l o) M = lookL o M
  | [], _, _, _ => rfl
  | (L, r) :: l, o, M, h => by
    rw [lookL_ovr, if_neg (fun e => h (L, r) List.mem_cons_self e.symm)]
    exact ovr_out fun x hx => h x (List.mem_cons_of_mem _ hx)
theorem ovr_in : ∀ {l : List (Loc × Option (TypeId × Nat))} {o o' : List (Loc × (TypeId × Nat))} {M : Loc}, (∃ x ∈ l, x.1 = M) → lookL (ovr l o) M = lookL (ovr l o') M
  | [], _, _, _, h => by obtain ⟨x, hx, _⟩ := h; cases hx
  | (L, r) :: l, o, o', M, h => by
    rw [lookL_ovr, lookL_ovr]
    by_cases e : M = L
    · rw [if_pos e, if_pos e]
    · rw [if_neg e, if_neg e]
      obtain ⟨x, hx, hM⟩ := h
      rcases List.mem_cons.1 hx with rfl | hx
      · exact absurd hM.symm e
      · exact ovr_in ⟨x, hx, hM⟩
theorem ovr_congr {l : List (Loc × Option (TypeId × Nat))} {o o' : List (Loc × (TypeId × Nat))} {M : Loc} (h : lookL o M = lookL o' M) : lookL (ovr l o) M = lookL (ovr l o') M := by
  by_cases hm : ∃ x ∈ l, x.1 = M
  · exact ovr_in hm
  · rw [ovr_out fun x hx e => hm ⟨x, hx, e⟩, ovr_out fun x hx e => hm ⟨x, hx, e⟩, h]
def putO {α : Type} (x : Option (Nat × α)) (l : List (Nat × α)) : List (Nat × α) := match x with
  | some y => y :: l
  | none => l
def patO (x : Option (Nat × Nat × List PV)) (l : List (Nat × List PV)) : List (Nat × List PV) := match x with
  | some (k, off, xs) => (k, setAt ((look l k).getD []) off xs) :: l
  | none => l
def Eff.app (E : Eff) (σ : St) : St := { slot := putO E.slot σ.slot, box := patO E.pat (putO E.nbox σ.box), own := ovr E.own σ.own, ext := σ.ext }
def Eqv (σ τ : St) : Prop := (∀ t, look τ.slot t = look σ.slot t) ∧ (∀ k, look τ.box k = look σ.box k) ∧ (∀ L, lookL τ.own L = lookL σ.own L) ∧ τ.ext = σ.ext
theorem Eqv.refl (σ : St) : Eqv σ σ := ⟨fun _ => rfl, fun _ => rfl, fun _ => rfl, rfl⟩
theorem Eqv.symm {σ τ : St} (h : Eqv σ τ) : Eqv τ σ := ⟨fun t => (h.1 t).symm, fun t => (h.2.1 t).symm, fun t => (h.2.2.1 t).symm, h.2.2.2.symm⟩
theorem Eqv.trans {σ τ υ : St} (h : Eqv σ τ) (g : Eqv τ υ) : Eqv σ υ := ⟨fun t => (g.1 t).trans (h.1 t), fun t => (g.2.1 t).trans (h.2.1 t), fun t => (g.2.2.1 t).trans (h.2.2.1 t), g.2.2.2.trans h.2.2.2⟩
theorem look_putO {α : Type} (x : Option (Nat × α)) (l : List (Nat × α)) (t : Nat) : look (putO x l) t = match x with | some y => if y.1 = t then some y.2 else look l t | none => look l t := by
  cases x with
  | none => rfl
  | some y => exact look_cons _ _ _ _
theorem look_putO_congr {α : Type} {x : Option (Nat × α)} {l l' : List (Nat × α)} {t : Nat} (h : look l t = look l' t) : look (putO x l) t = look (putO x l') t := by
  rw [look_putO, look_putO, h]
theorem look_patO_congr {x : Option (Nat × Nat × List PV)} {l l' : List (Nat × List PV)} (h : ∀ t, look l t = look l' t) (t : Nat) : look (patO x l) t = look (patO x l') t := by
  cases x with
  | none => exact h t
  | some y =>
    obtain ⟨k, off, xs⟩ := y
    unfold patO
    dsimp only
    rw [look_cons, look_cons, h, h]
theorem look_patO (x : Option (Nat × Nat × List PV)) (l : List (Nat × List PV)) (t : Nat) : look (patO x l) t = match x with | some y => if y.1 = t then some (setAt ((look l y.1).getD []) y.2.1 y.2.2) else look l t | none => look l t := by
  cases x with
  | none => rfl
  | some y => exact look_cons _ _ _ _
theorem Eff.eqv (E : Eff) {σ τ : St} (h : Eqv σ τ) : Eqv (E.app σ) (E.app τ) :=
  ⟨fun t => look_putO_congr (h.1 t), fun k => look_patO_congr (fun t => look_putO_congr (h.2.1 t)) k, fun L => ovr_congr (h.2.2.1 L), h.2.2.2⟩

/-- Footprints: slots, places of ownership, boxes that are read and written; cells of boxes that are stored; boxes that are made. -/
structure FP where
  rs : List Nat
  ws : List Nat
  ro : List Loc
  wo : List Loc
  rb : List Nat
  wb : List (Nat × Nat × Nat)
  nb : List Nat
def apartN (a b : List Nat) : Bool := a.all fun x => b.all fun y => !Nat.beq x y
def Loc.eqB : Loc → Loc → Bool
  | .s t, .s u => Nat.beq t u
  | .b k o, .b l p => Nat.beq k l && Nat.beq o p
  | _, _ => false
def apartL (a b : List Loc) : Bool := a.all fun x => b.all fun y => !Loc.eqB x y
def apartW (a b : List (Nat × Nat × Nat)) : Bool := a.all fun x => b.all fun y => !Nat.beq x.1 y.1 || Nat.ble (x.2.1 + x.2.2) y.2.1 || Nat.ble (y.2.1 + y.2.2) x.2.1
def indep (f g : FP) : Bool :=
  apartN f.ws g.rs && (apartN f.ws g.ws && (apartN g.ws f.rs && (apartL f.wo g.ro && (apartL f.wo g.wo && (apartL g.wo f.ro &&
  (apartN f.nb g.rb && (apartN f.nb g.nb && (apartN f.nb (g.wb.map (·.1)) && (apartN g.nb f.rb && (apartN g.nb (f.wb.map (·.1)) && (apartN (f.wb.map (·.1)) g.rb && (apartN (g.wb.map (·.1)) f.rb && apartW f.wb g.wb))))))))))))
theorem apartN_iff {a b : List Nat} (h : apartN a b = true) {x : Nat} (hx : x ∈ a) : x ∉ b := fun hb => by
  have := List.all_eq_true.1 (List.all_eq_true.1 h x hx) x hb
  simp at this
theorem eqB_iff {L M : Loc} : Loc.eqB L M = true ↔ L = M := by
  cases L <;> cases M <;> simp [Loc.eqB]
theorem apartL_iff {a b : List Loc} (h : apartL a b = true) {x : Loc} (hx : x ∈ a) : x ∉ b := fun hb => by
  have := List.all_eq_true.1 (List.all_eq_true.1 h x hx) x hb
  rw [eqB_iff.2 rfl] at this
  cases this
theorem apartW_iff {a b : List (Nat × Nat × Nat)} (h : apartW a b = true) {k o n p m : Nat} (hx : (k, o, n) ∈ a) (hy : (k, p, m) ∈ b) : o + n ≤ p ∨ p + m ≤ o := by
  have := List.all_eq_true.1 (List.all_eq_true.1 h _ hx) _ hy
  simpa using this
/-- The effect stays within the footprint. -/
structure Fits (WB : List Nat) (f : FP) (E : Eff) : Prop where
  slot : ∀ x, E.slot = some x → x.1 ∈ f.ws
  nbox : ∀ x, E.nbox = some x → x.1 ∈ f.nb
  pat : ∀ k off xs, E.pat = some (k, off, xs) → (k, off, xs.length) ∈ f.wb
  own : ∀ x ∈ E.own, x.1 ∈ f.wo
  nbW : ∀ k ∈ f.nb, k ∈ WB
  wbW : ∀ x ∈ f.wb, x.1 ∈ WB
/-- What an operation reads is here as it is there. -/
structure Agree (WB : List Nat) (f : FP) (σi σ : St) : Prop where
  rs : ∀ t ∈ f.rs, look σ.slot t = look σi.slot t
  ro : ∀ L ∈ f.ro, lookL σ.own L = lookL σi.own L
  rb : ∀ k, k ∈ f.rb ∨ k ∉ WB → look σ.box k = look σi.box k
  wb : ∀ k o n, (k, o, n) ∈ f.wb → ∃ cs, look σ.box k = some cs ∧ o + n ≤ cs.length
  nb : ∀ k ∈ f.nb, look σ.box k = none
  ext : σ.ext = σi.ext
theorem Agree.eqv {WB : List Nat} {f : FP} {σi σ τ : St} (h : Agree WB f σi σ) (e : Eqv σ τ) : Agree WB f σi τ :=
  ⟨fun t ht => (e.1 t).trans (h.rs t ht), fun L hL => (e.2.2.1 L).trans (h.ro L hL), fun k hk => (e.2.1 k).trans (h.rb k hk), fun k o n hk => by rw [e.2.1 k]; exact h.wb k o n hk, fun k hk => (e.2.1 k).trans (h.nb k hk), e.2.2.2.trans h.ext⟩
section
variable {WB : List Nat} {f g : FP} {E G : Eff} {σ : St}
theorem app_slot (hf : Fits WB f E) {t : Nat} (ht : t ∉ f.ws) : look (E.app σ).slot t = look σ.slot t := by
  show look (putO E.slot σ.slot) t = _
  rw [look_putO]
  cases he : E.slot with
  | none => rfl
  | some x => exact if_neg (fun e => ht (by rw [← e]; exact hf.slot x he))
theorem app_own (hf : Fits WB f E) {L : Loc} (hL : L ∉ f.wo) : lookL (E.app σ).own L = lookL σ.own L :=
  ovr_out fun x hx e => hL (by rw [← e]; exact hf.own x hx)
theorem app_box (hf : Fits WB f E) {k : Nat} (h1 : k ∉ f.nb) (h2 : k ∉ f.wb.map (·.1)) : look (E.app σ).box k = look σ.box k := by
  show look (patO E.pat (putO E.nbox σ.box)) k = _
  have h3 : look (putO E.nbox σ.box) k = look σ.box k := by
    rw [look_putO]
    cases he : E.nbox with
    | none => rfl
    | some x => exact if_neg (fun e => h1 (by rw [← e]; exact hf.nbox x he))
  cases hp : E.pat with
  | none => exact h3
  | some y =>
    obtain ⟨j, off, xs⟩ := y
    unfold patO
    dsimp only
    rw [look_cons, if_neg (fun e => h2 (by rw [← e]; exact List.mem_map_of_mem (f := (·.1)) (hf.pat j off xs hp)))]
    exact h3
/-- The length of a box that is stored into. -/
theorem app_len (hf : Fits WB f E) {σi : St} (ha : Agree WB f σi σ) {k : Nat} (h1 : k ∉ f.nb) {m : Nat} : (∃ cs, look (E.app σ).box k = some cs ∧ m ≤ cs.length) ↔ ∃ cs, look σ.box k = some cs ∧ m ≤ cs.length := by
  have h3 : look (putO E.nbox σ.box) k = look σ.box k := by
    rw [look_putO]
    cases he : E.nbox with
    | none => rfl
    | some x => exact if_neg (fun e => h1 (by rw [← e]; exact hf.nbox x he))
  show (∃ cs, look (patO E.pat (putO E.nbox σ.box)) k = some cs ∧ _) ↔ _
  cases hp : E.pat with
  | none => rw [show patO none (putO E.nbox σ.box) = putO E.nbox σ.box from rfl, h3]
  | some y =>
    obtain ⟨j, off, xs⟩ := y
    unfold patO
    dsimp only
    rw [look_cons]
    by_cases e : j = k
    · subst e
      rw [if_pos rfl, h3]
      obtain ⟨cs, h4, h5⟩ := ha.wb j off xs.length (hf.pat j off xs hp)
      rw [h4]
      simp [setAt_length h5]
    · rw [if_neg e, h3]
theorem mapfst {l : List (Nat × Nat × Nat)} {k o n : Nat} (h : (k, o, n) ∈ l) : k ∈ l.map (·.1) := List.mem_map_of_mem (f := (·.1)) h
/-- An effect that is apart from it leaves what an operation reads. -/
theorem Agree.app_iff (hf : Fits WB f E) {σf σg : St} (haf : Agree WB f σf σ) (h1 : apartN f.ws g.rs = true) (h2 : apartL f.wo g.ro = true) (h3 : apartN f.nb g.rb = true) (h4 : apartN f.nb g.nb = true) (h5 : apartN f.nb (g.wb.map (·.1)) = true) (h6 : apartN (f.wb.map (·.1)) g.rb = true) (h7 : apartN (f.wb.map (·.1)) g.nb = true) :
    Agree WB g σg (E.app σ) ↔ Agree WB g σg σ := by
  have e1 : ∀ t ∈ g.rs, look (E.app σ).slot t = look σ.slot t := fun t ht => app_slot hf fun hw => apartN_iff h1 hw ht
  have e2 : ∀ L ∈ g.ro, lookL (E.app σ).own L = lookL σ.own L := fun L hL => app_own hf fun hw => apartL_iff h2 hw hL
  have e3 : ∀ k, k ∈ g.rb ∨ k ∉ WB → look (E.app σ).box k = look σ.box k := fun k hk => by
    rcases hk with hk | hk
    · exact app_box hf (fun hw => apartN_iff h3 hw hk) (fun hw => apartN_iff h6 hw hk)
    · refine app_box hf (fun hw => hk (hf.nbW k hw)) (fun hw => ?_)
      obtain ⟨x, hx, rfl⟩ := List.mem_map.1 hw
      exact hk (hf.wbW x hx)
  have e4 : ∀ k o n, (k, o, n) ∈ g.wb → ((∃ cs, look (E.app σ).box k = some cs ∧ o + n ≤ cs.length) ↔ ∃ cs, look σ.box k = some cs ∧ o + n ≤ cs.length) := fun k o n hk => app_len hf haf fun hw => apartN_iff h5 hw (mapfst hk)
  have e5 : ∀ k ∈ g.nb, look (E.app σ).box k = look σ.box k := fun k hk => app_box hf (fun hw => apartN_iff h4 hw hk) (fun hw => apartN_iff h7 hw hk)
  constructor
  · intro h
    exact ⟨fun t ht => (e1 t ht).symm.trans (h.rs t ht), fun L hL => (e2 L hL).symm.trans (h.ro L hL), fun k hk => (e3 k hk).symm.trans (h.rb k hk), fun k o n hk => (e4 k o n hk).1 (h.wb k o n hk), fun k hk => (e5 k hk).symm.trans (h.nb k hk), h.ext⟩
  · intro h
    exact ⟨fun t ht => (e1 t ht).trans (h.rs t ht), fun L hL => (e2 L hL).trans (h.ro L hL), fun k hk => (e3 k hk).trans (h.rb k hk), fun k o n hk => (e4 k o n hk).2 (h.wb k o n hk), fun k hk => (e5 k hk).trans (h.nb k hk), h.ext⟩
theorem setAt_get {α : Type} {l : List α} {o : Nat} {xs : List α} (h : o + xs.length ≤ l.length) {i : Nat} (h1 : o ≤ i) (h2 : i < o + xs.length) : (setAt l o xs)[i]? = xs[i - o]? := by
  unfold setAt
  rw [List.append_assoc, List.getElem?_append_right (by simp; omega), List.length_take, Nat.min_eq_left (by omega), List.getElem?_append_left (by omega)]
theorem setAt_comm {α : Type} {l : List α} {o p : Nat} {xs ys : List α} (h1 : o + xs.length ≤ l.length) (h2 : p + ys.length ≤ l.length) (h : o + xs.length ≤ p ∨ p + ys.length ≤ o) : setAt (setAt l o xs) p ys = setAt (setAt l p ys) o xs := by
  have l1 := setAt_length h1
  have l2 := setAt_length h2
  have h1' : o + xs.length ≤ (setAt l p ys).length := by omega
  have h2' : p + ys.length ≤ (setAt l o xs).length := by omega
  refine List.ext_getElem? fun i => ?_
  by_cases hx : o ≤ i ∧ i < o + xs.length
  · rw [setAt_out h2' (by omega), setAt_get h1 hx.1 hx.2, setAt_get h1' hx.1 hx.2]
  · by_cases hy : p ≤ i ∧ i < p + ys.length
    · rw [setAt_get h2' hy.1 hy.2, setAt_out h1' (by omega), setAt_get h2 hy.1 hy.2]
    · rw [setAt_out h2' (by omega), setAt_out h1 (by omega), setAt_out h1' (by omega), setAt_out h2 (by omega)]
theorem app_swap (hf : Fits WB f E) (hg : Fits WB g G) {σf σg : St} (haf : Agree WB f σf σ) (hag : Agree WB g σg σ) (hi : indep f g = true) : Eqv (E.app (G.app σ)) (G.app (E.app σ)) := by
  simp only [indep, Bool.and_eq_true] at hi
  obtain ⟨_, i2, _, _, i5, _, i7, i8, i9, i10, i11, i12, i13, i14⟩ := hi
  refine ⟨fun t => ?_, fun k => ?_, fun L => ?_, rfl⟩
  · by_cases ht : t ∈ f.ws
    · rw [app_slot hg (fun h => apartN_iff i2 ht h)]
      exact look_putO_congr (app_slot hg (fun h => apartN_iff i2 ht h)).symm
    · rw [app_slot (σ := G.app σ) hf ht]
      exact look_putO_congr (app_slot hf ht)
  · -- boxes
    have key : ∀ k, k ∉ f.nb → k ∉ f.wb.map (·.1) → look (G.app (E.app σ)).box k = look (E.app (G.app σ)).box k := fun k h1 h2 => by
      rw [app_box (σ := G.app σ) hf h1 h2]
      have hs := app_box (σ := σ) hf h1 h2
      show look (patO G.pat (putO G.nbox (E.app σ).box)) k = look (patO G.pat (putO G.nbox σ.box)) k
      have h3 : look (putO G.nbox (E.app σ).box) k = look (putO G.nbox σ.box) k := look_putO_congr hs
      cases hp : G.pat with
      | none => exact h3
      | some y =>
        obtain ⟨j, off, xs⟩ := y
        unfold patO
        dsimp only
        rw [look_cons, look_cons]
        by_cases e : j = k
        · subst e; rw [h3]
        · rw [if_neg e, if_neg e, h3]
    by_cases h1 : k ∈ f.nb
    · have g1 : k ∉ g.nb := fun h => apartN_iff i8 h1 h
      have g2 : k ∉ g.wb.map (·.1) := fun h => apartN_iff i9 h1 h
      rw [app_box (σ := E.app σ) hg g1 g2]
      have hs := app_box (σ := σ) hg g1 g2
      show look (patO E.pat (putO E.nbox σ.box)) k = look (patO E.pat (putO E.nbox (G.app σ).box)) k
      have h3 : look (putO E.nbox (G.app σ).box) k = look (putO E.nbox σ.box) k := look_putO_congr hs
      cases hp : E.pat with
      | none => exact h3.symm
      | some y =>
        obtain ⟨j, off, xs⟩ := y
        unfold patO
        dsimp only
        rw [look_cons, look_cons]
        by_cases e : j = k
        · subst e; rw [h3]
        · rw [if_neg e, if_neg e, h3]
    · by_cases h2 : k ∈ f.wb.map (·.1)
      · by_cases g2 : k ∈ g.wb.map (·.1)
        · have g1 : k ∉ g.nb := fun h => apartN_iff i11 h h2
          obtain ⟨⟨k', o, n⟩, hx, rfl⟩ := List.mem_map.1 h2
          obtain ⟨⟨k'', p, m⟩, hy, hk⟩ := List.mem_map.1 g2
          dsimp only at hk h1 g1 ⊢
          subst hk
          have hn1 : ∀ b, look (putO E.nbox b) k'' = look b k'' := fun b => by
            rw [look_putO]
            cases he : E.nbox with
            | none => rfl
            | some x => exact if_neg (fun e => h1 (by rw [← e]; exact hf.nbox x he))
          have hn2 : ∀ b, look (putO G.nbox b) k'' = look b k'' := fun b => by
            rw [look_putO]
            cases he : G.nbox with
            | none => rfl
            | some x => exact if_neg (fun e => g1 (by rw [← e]; exact hg.nbox x he))
          show look (patO G.pat (putO G.nbox (patO E.pat (putO E.nbox σ.box)))) k'' = look (patO E.pat (putO E.nbox (patO G.pat (putO G.nbox σ.box)))) k''
          rw [look_patO, look_patO, hn2, hn1]
          cases hpe : E.pat with
          | none =>
            cases hpg : G.pat with
            | none => simp only [look_patO, hn1, hn2]
            | some y =>
              obtain ⟨j, off, xs⟩ := y
              simp only [look_patO, hn1, hn2]
              by_cases e : j = k''
              · subst e; simp only [if_true, look_patO, hn1, hn2]
              · rw [if_neg e, if_neg e]
          | some x =>
            obtain ⟨i, o', xs⟩ := x
            cases hpg : G.pat with
            | none =>
              simp only [look_patO, hn1, hn2]
              by_cases e : i = k''
              · subst e; simp only [if_true, look_patO, hn1, hn2]
              · rw [if_neg e, if_neg e]
            | some y =>
              obtain ⟨j, p', ys⟩ := y
              simp only [look_patO, hn1, hn2]
              by_cases e : i = k''
              · subst e
                by_cases e' : j = i
                · subst e'
                  obtain ⟨cs, c1, c2⟩ := haf.wb j o' xs.length (hf.pat _ _ _ hpe)
                  obtain ⟨cs', c3, c4⟩ := hag.wb j p' ys.length (hg.pat _ _ _ hpg)
                  rw [c1] at c3
                  cases c3
                  simp only [if_true, look_patO, hn1, hn2, c1, Option.getD_some, Option.some.injEq]
                  exact setAt_comm c2 c4 (apartW_iff i14 (hf.pat _ _ _ hpe) (hg.pat _ _ _ hpg))
                · simp only [if_true, look_patO, if_neg e', hn1, hn2]
              · by_cases e' : j = k''
                · subst e'
                  simp only [if_true, look_patO, if_neg e, hn1, hn2]
                · simp only [if_neg e', if_neg e]
        · -- stored by the first alone
          by_cases g1 : k ∈ g.nb
          · exact absurd h2 (apartN_iff i11 g1)
          · rw [app_box (σ := E.app σ) hg g1 g2]
            have hs := app_box (σ := σ) hg g1 g2
            show look (patO E.pat (putO E.nbox σ.box)) k = look (patO E.pat (putO E.nbox (G.app σ).box)) k
            have h3 : look (putO E.nbox (G.app σ).box) k = look (putO E.nbox σ.box) k := look_putO_congr hs
            cases hp : E.pat with
            | none => exact h3.symm
            | some y =>
              obtain ⟨j, off, xs⟩ := y
              unfold patO
              dsimp only
              rw [look_cons, look_cons]
              by_cases e : j = k
              · subst e; rw [h3]
              · rw [if_neg e, if_neg e, h3]
      · exact key k h1 h2
  · by_cases hL : L ∈ f.wo
    · rw [app_own hg (fun h => apartL_iff i5 hL h)]
      exact ovr_congr (app_own hg (fun h => apartL_iff i5 hL h)).symm
    · rw [app_own (σ := G.app σ) hf hL]
      exact ovr_congr (app_own hf hL)
theorem apartN_symm {a b : List Nat} (h : apartN a b = true) : apartN b a = true :=
  List.all_eq_true.2 fun x hx => List.all_eq_true.2 fun y hy => by
    have h1 : ¬ x = y := fun e => by subst e; exact apartN_iff h hy hx
    cases hb : Nat.beq x y with
    | false => rfl
    | true => exact absurd (Nat.eq_of_beq_eq_true hb) h1
end
end Av
end Go.Proofs.Ytkdigdnacggknaa
/- Abstract states: the walk through a region that draws its order, with effects. Generic. -/
namespace Go.Proofs.Ytkdigdnacggknaa
open Go.RowKit
namespace Av

/-- What of a footprint is not to be read off the text: whence a row is handed on, whether a box is made; the row that an append takes; the cells that are stored. -/
inductive Dy where
  | q (S : Option Loc) (nb : Bool)
  | a (s : Option Nat)
  | st (k off n : Nat)
  | no
def stT (o : Oper) : List Loc := match o.op with
  | .store _ _ (.tmp t) => [.s t]
  | _ => []
def fpOf (ops : Array Oper) (X : List (Nat × List Nat)) (o : Oper) : Dy → FP
  | .q S nb => ⟨o.looksAt ops, o.dst.toList, S.toList, o.dst.toList.map .s ++ S.toList, (look X (o.dst.getD 0)).getD [], [], if nb then o.dst.toList else []⟩
  | .a s => ⟨o.looksAt ops, o.dst.toList, s.toList.map .s, o.dst.toList.map .s ++ s.toList.map .s, [], [], []⟩
  | .st k off n => ⟨o.looksAt ops, [], stT o, stT o ++ (List.range n).map (fun i => .b k (off + i)) ++ [.b k off], [], [(k, off, n)], []⟩
  | .no => ⟨o.looksAt ops, o.dst.toList, [], o.dst.toList.map .s, [], [], []⟩
def bxf (WB rb : List Nat) (b : Nat → Option (List PV)) (k : Nat) : Option (List PV) := if WB.contains k && !rb.contains k then none else b k
def xof (X : List (Nat × List Nat)) (d : Nat) : List Nat := (look X d).getD []
def takesS (P : Program) (st : List Nat) (g : Nat → Option AV) (o : Oper) (d : Nat) : Option Loc := if takes st o d = true then src P g o else none
/-- One operation, with its footprint. -/
def sopX (P : Program) (n : Nat) (st WB : List Nat) (X : List (Nat × List Nat)) (σ : St) (o : Oper) (K : St → Dy → Prop) : Prop :=
  match o.op, o.dst with
  | .store T x v, none => ∃ k off u cs xs, evo (look σ.slot) x = some (.ref k off) ∧ evo (look σ.slot) v = some u ∧ look σ.box k = some cs ∧ avCells u = some xs ∧ (P.info? T).map (·.size) = some xs.length ∧ off + xs.length ≤ cs.length ∧ WB.contains k = true ∧ K (storeSt σ k off cs xs v) (.st k off xs.length)
  | .call { callee := .builtin .append, args, argTypes }, some d => 
    ∃ x y T e i z rows rows2 s, args.toList = [x, y] ∧ argTypes.toList = [T, T] ∧ P.underlying T = some (.slice e) ∧ (P.info? e).map (·.size) = some i ∧ 0 < i ∧ (P.info? e).map (·.zero) = some (some z) ∧ z.cells.size = i ∧ ((P.info? e).map fun j => decide (j.bytes ≤ 1000000)) = some true ∧ d < n ∧
    ((s = none ∧ rows = [] ∧ evo (look σ.slot) x = some (.v (.slice none 0 0))) ∨ (∃ t, x = .tmp t ∧ s = some t ∧ lookL σ.own (.s t) = some (e, i) ∧ look σ.slot t = some (.sl i rows))) ∧
    (evo (look σ.slot) y = some (.sl i rows2) ∨ (rows2 = [] ∧ evo (look σ.slot) y = some (.v (.slice none 0 0)))) ∧ rows.length + rows2.length ≤ 100000000 ∧
    K ({ σ with own := delS σ.own s }.putOwn d i (rows ++ rows2) e) (.a s)
  | _, some d => d < n ∧ hopx P (look σ.slot) (bxf WB (xof X d) (look σ.box)) o (fun r => (if WB.contains d = true then look σ.box d = none ∧ (xof X d).contains d = false else bxOf r = none) ∧ K (stl P st (look σ.slot) o d (σ.res d r)) (.q (takesS P st (look σ.slot) o d) (WB.contains d)))
  | _, none => False
def sopsX (P : Program) (n : Nat) (st WB : List Nat) (X : List (Nat × List Nat)) (ops : Array Oper) : List Oper → St → List Dy → (St → List Dy → Prop) → Prop
  | [], σ, fs, K => K σ fs
  | o :: l, σ, fs, K => match guardB ops (look σ.slot) o with
    | some true => sopX P n st WB X σ o fun σ' f => sopsX P n st WB X ops l σ' (f :: fs) K
    | some false => ∃ d, o.dst = some d ∧ d < n ∧ sopsX P n st WB X ops l (σ.put d (.v undef)) (.no :: fs) K
    | none => False
def backB (ops : Array Oper) : Bool := (List.range ops.size).all fun i => match ops[i]? with
  | none => true
  | some o => o.after.all fun e => !Region.binds .any e || Nat.blt e.on i
def fpsOf (ops : Array Oper) (X : List (Nat × List Nat)) : List Oper → List Dy → List FP
  | o :: l, f :: fs => fpOf ops X o f :: fpsOf ops X l fs
  | _, _ => []
/-- Any two of which neither waits for the other are independent. -/
def indAll (ops : Array Oper) (X : List (Nat × List Nat)) (l : List Oper) (fs : List Dy) : Bool :=
  (fpsOf ops X l fs.reverse).zipIdx.all fun g => (fpsOf ops X l fs.reverse).zipIdx.all fun f => !Nat.blt f.2 g.2 || (Region.waitsFor .any ops g.2 f.2 || indep f.1 g.1)

section
variable {P : Program} {F : Fr} {ops : Array Oper}
/-- What is known of an operation. -/
structure StepX (P : Program) (F : Fr) (ops : Array Oper) (WB : List Nat) (σ : St) (o : Oper) (f : FP) (E : Eff) (σ' : St) : Prop where
  fits : Fits WB f E
  agree : Agree WB f σ σ
  next : Eqv σ' (E.app σ)
  run : ∀ τ γ a w, Agree WB f σ τ → Rel F τ γ a w → ∀ Q i, ops[i]? = some o → wpOp P ops Q i (fun a' w' => ∃ γ', Rel F (E.app τ) γ' a' w') a w
inductive RunX (P : Program) (F : Fr) (ops : Array Oper) (WB : List Nat) : List Oper → St → List (St × FP × Eff) → St → Prop
  | nil {σ : St} : RunX P F ops WB [] σ [] σ
  | cons {o : Oper} {l : List Oper} {σ σ1 σ' : St} {f : FP} {E : Eff} {T : List (St × FP × Eff)} (h : StepX P F ops WB σ o f E σ1) (t : RunX P F ops WB l σ1 T σ') : RunX P F ops WB (o :: l) σ ((σ, f, E) :: T) σ'
theorem RunX.length {WB : List Nat} {l : List Oper} {σ σ' : St} {T : List (St × FP × Eff)} (h : RunX P F ops WB l σ T σ') : T.length = l.length := by
  induction h with
  | nil => rfl
  | cons _ _ ih => simp [ih]
theorem RunX.at {WB : List Nat} {l : List Oper} {σ σ' : St} {T : List (St × FP × Eff)} (h : RunX P F ops WB l σ T σ') : ∀ {i : Nat} {x : St × FP × Eff}, T[i]? = some x → ∃ o σ1, l[i]? = some o ∧ StepX P F ops WB x.1 o x.2.1 x.2.2 σ1 := by
  induction h with
  | nil => intro i x hx; simp at hx
  | cons h _ ih =>
    intro i x hx
    cases i with
    | zero => simp at hx; subst hx; exact ⟨_, _, rfl, h⟩
    | succ i => simpa using ih (by simpa using hx)
def okX (WB : List Nat) (T : List (St × FP × Eff)) (i : Nat) (σ : St) : Prop := ∀ x, T[i]? = some x → Agree WB x.2.1 x.1 σ
def appX (T : List (St × FP × Eff)) (i : Nat) (σ : St) : St := match T[i]? with
  | some x => x.2.2.app σ
  | none => σ
theorem RunX.chain {WB : List Nat} {l : List Oper} {σ σ' : St} {T0 T : List (St × FP × Eff)} (h : RunX P F ops WB l σ T σ') : ∀ (k : Nat) (τ : St), T0.drop k = T → Eqv σ τ → chainS (okX WB T0) (appX T0) (List.range' k l.length) τ ∧ Eqv (runS (appX T0) (List.range' k l.length) τ) σ' := by
  induction h with
  | nil => intro k τ _ he; exact ⟨trivial, he.symm⟩
  | @cons o l σ σ1 σ' f E T h t ih =>
    intro k τ hT he
    have h0 : T0[k]? = some (σ, f, E) := by
      have := congrArg (·[0]?) hT
      simpa using this
    have h1 : T0.drop (k + 1) = T := by
      have := congrArg List.tail hT
      simpa [List.tail_drop] using this
    have e1 : appX T0 k τ = E.app τ := by unfold appX; rw [h0]
    obtain ⟨g1, g2⟩ := ih (k + 1) (appX T0 k τ) h1 (h.next.trans (by rw [e1]; exact E.eqv he))
    rw [List.length_cons, List.range'_succ]
    exact ⟨⟨fun x hx => by rw [h0] at hx; cases hx; exact h.agree.eqv he, g1⟩, g2⟩
theorem RunX.swap {WB : List Nat} {l : List Oper} {σ σ' : St} {T : List (St × FP × Eff)} (h : RunX P F l.toArray WB l σ T σ') (hb : backB l.toArray = true) (hi : ∀ i j x y, i < j → T[i]? = some x → T[j]? = some y → Region.waitsFor .any l.toArray j i = false → indep x.2.1 y.2.1 = true) : SwapOK l.toArray Eqv (okX WB T) (appX T) := by
  refine ⟨Eqv.refl, Eqv.symm, Eqv.trans, fun he ho x hx => (ho x hx).eqv he, fun {i s t} he => ?_, fun {i j s} hij hj hw hoi hoj => ?_, fun i o ho e he hb' => ?_⟩
  · unfold appX
    cases T[i]? with
    | none => exact he
    | some x => exact x.2.2.eqv he
  · have hlen := h.length
    have hj' : j < T.length := by rw [hlen]; simpa using hj
    have hxi : T[i]? = some T[i] := List.getElem?_eq_getElem _
    have hxj : T[j]? = some T[j] := List.getElem?_eq_getElem _
    generalize T[i] = x at hxi
    generalize T[j] = y at hxj
    obtain ⟨oi, σi, _, hsi⟩ := h.at hxi
    obtain ⟨oj, σj, _, hsj⟩ := h.at hxj
    have hind := hi i j x y hij hxi hxj hw
    have ei : appX T i = x.2.2.app := by funext s; unfold appX; rw [hxi]
    have ej : appX T j = y.2.2.app := by funext s; unfold appX; rw [hxj]
    have ai := hoi x hxi
    have aj := hoj y hxj
    rw [ei] at aj
    have hind' := hind
    simp only [indep, Bool.and_eq_true] at hind'
    obtain ⟨i1, i2, i3, i4, i5, i6, i7, i8, i9, i10, i11, i12, i13, i14⟩ := hind'
    have i15 : apartN (x.2.1.wb.map (·.1)) y.2.1.nb = true := apartN_symm i11
    have i16 : apartN (y.2.1.wb.map (·.1)) x.2.1.nb = true := apartN_symm i9
    have aj' : Agree WB y.2.1 y.1 s := (Agree.app_iff hsi.fits ai i1 i4 i7 i8 i9 i12 i15).1 aj
    refine ⟨fun z hz => ?_, fun z hz => ?_, ?_⟩
    · rw [hxj] at hz; cases hz; exact aj'
    · rw [hxi] at hz; cases hz
      rw [ej]
      exact (Agree.app_iff hsj.fits aj' i3 i6 i10 (apartN_symm i8) i11 i13 i16).2 ai
    · rw [ei, ej]
      exact app_swap hsi.fits hsj.fits ai aj' hind
  · have h1 := List.all_eq_true.1 hb i (List.mem_range.2 (Array.getElem?_eq_some_iff.1 ho).1)
    rw [ho] at h1
    have h5 := Array.all_eq_true_iff_forall_mem.1 h1 e he
    rw [hb'] at h5
    have h6 : e.on + 1 ≤ i := by simpa [Nat.blt] using h5
    omega

theorem evo_congr {g g' : Nat → Option AV} {x : Operand} (h : ∀ t, x = .tmp t → g' t = g t) : evo g' x = evo g x := by
  cases x with
  | tmp t => exact h t rfl
  | _ => rfl
theorem src_congr {g g' : Nat → Option AV} {o : Oper} (h : ∀ t, Operand.tmp t ∈ o.op.operands.toList → g' t = g t) : src P g' o = src P g o := by
  unfold src
  split
  · rfl
  · rfl
  · rename_i T p ho
    rw [h p (by rw [ho]; simp [Op.operands])]
  · rfl
theorem stl_congr {st : List Nat} {g g' : Nat → Option AV} {o : Oper} {d : Nat} {σ : St} (h : src P g' o = src P g o) : stl P st g' o d σ = stl P st g o d σ := by
  unfold stl; rw [h]
theorem lookL_keepZ {l : List (Loc × (TypeId × Nat))} {k o n : Nat} (L : Loc) : lookL (keepL l k o n) L = if hitB k o n L = true then none else lookL l L := by
  induction l with
  | nil => unfold keepL; simp [lookL]
  | cons y l ih =>
    obtain ⟨M, y⟩ := y
    unfold keepL at ih ⊢
    by_cases hM : hitB k o n M = true
    · rw [List.filter_cons_of_neg (by rw [hM]; decide), ih]
      by_cases hL : hitB k o n L = true
      · rw [if_pos hL, if_pos hL]
      · rw [if_neg hL, if_neg hL, lookL_cons, if_neg (fun e => hL (by rw [← e]; exact hM))]
    · rw [List.filter_cons_of_pos (by rw [Bool.not_eq_true] at hM; rw [hM]; rfl), lookL_cons, ih]
      by_cases e : M = L
      · subst e; rw [if_pos rfl, if_neg hM, lookL_cons, if_pos rfl]
      · rw [if_neg e]
        split
        · rfl
        · rw [lookL_cons, if_neg e]
theorem ovr_none : ∀ {l : List (Loc × Option (TypeId × Nat))} {o : List (Loc × (TypeId × Nat))} {M : Loc}, (∀ x ∈ l, x.2 = none) → (∃ x ∈ l, x.1 = M) → lookL (ovr l o) M = none
  | [], _, _, _, h => by obtain ⟨x, hx, _⟩ := h; cases hx
  | (L, r) :: l, o, M, h0, h => by
    rw [lookL_ovr]
    by_cases e : M = L
    · rw [if_pos e]; exact h0 (L, r) List.mem_cons_self
    · rw [if_neg e]
      obtain ⟨x, hx, hM⟩ := h
      rcases List.mem_cons.1 hx with rfl | hx
      · exact absurd hM.symm e
      · exact ovr_none (fun y hy => h0 y (List.mem_cons_of_mem _ hy)) ⟨x, hx, hM⟩
def clrs (k off n : Nat) : List (Loc × Option (TypeId × Nat)) := (List.range n).map fun i => (.b k (off + i), none)
theorem ovr_clrs {k off n : Nat} {o : List (Loc × (TypeId × Nat))} {M : Loc} : lookL (ovr (clrs k off n) o) M = if hitB k off n M = true then none else lookL o M := by
  by_cases h : hitB k off n M = true
  · rw [if_pos h]
    obtain ⟨p, rfl, h1, h2⟩ := hit_inv h
    refine ovr_none (fun x hx => ?_) ⟨(.b k p, none), List.mem_map.2 ⟨p - off, List.mem_range.2 (by omega), by rw [show off + (p - off) = p by omega]⟩, rfl⟩
    obtain ⟨i, _, rfl⟩ := List.mem_map.1 hx
    rfl
  · rw [if_neg h]
    refine ovr_out fun x hx e => h ?_
    obtain ⟨i, hi, rfl⟩ := List.mem_map.1 hx
    subst e
    have := List.mem_range.1 hi
    simp [hitB]; omega
def qOwn (σ : St) (d : Nat) (r : HR) : Option Loc → List (Loc × Option (TypeId × Nat))
  | none => [(.s d, ownOf r)]
  | some S => if S = .s d then [(.s d, ownOf r)] else match lookL σ.own S with
    | some e => [(.s d, some e), (S, none)]
    | none => [(.s d, ownOf r)]
def qEff (σ : St) (d : Nat) (r : HR) (S : Option Loc) : Eff := { slot := some (d, r.av), nbox := (bxOf r).map fun cs => (d, cs), own := qOwn σ d r S }
theorem lookL_steal {σ : St} {D S : Loc} (M : Loc) : lookL (stealSt σ D S).own M = match lookL σ.own S with | some e => if M = D then some e else if M = S then none else lookL σ.own M | none => lookL σ.own M := by
  unfold stealSt
  cases lookL σ.own S with
  | none => rfl
  | some e =>
    dsimp only
    rw [lookL_cons, lookL_del, lookL_del]
    by_cases h : M = D
    · rw [if_pos h.symm, if_pos h]
    · rw [if_neg (fun e => h e.symm), if_neg h, if_neg h]
theorem qEff_eqv {st : List Nat} {g : Nat → Option AV} {o : Oper} {d : Nat} {r : HR} {σ τ : St} (ho : ∀ S, takesS P st g o d = some S → lookL τ.own S = lookL σ.own S) : Eqv (stl P st g o d (τ.res d r)) ((qEff σ d r (takesS P st g o d)).app τ) := by
  have hst : stl P st g o d (τ.res d r) = match takesS P st g o d with | some S => stealSt (τ.res d r) (.s d) S | none => τ.res d r := by
    unfold stl takesS
    split
    · rfl
    · rfl
  rw [hst]
  generalize takesS P st g o d = So at ho
  have hsb : (match So with | some S => stealSt (τ.res d r) (.s d) S | none => τ.res d r).slot = (τ.res d r).slot ∧ (match So with | some S => stealSt (τ.res d r) (.s d) S | none => τ.res d r).box = (τ.res d r).box ∧ (match So with | some S => stealSt (τ.res d r) (.s d) S | none => τ.res d r).ext = (τ.res d r).ext := by
    cases So with
    | none => exact ⟨rfl, rfl, rfl⟩
    | some S =>
      refine ⟨(stealSt_slot _ _ _).1, (stealSt_slot _ _ _).2, ?_⟩
      dsimp only
      unfold stealSt
      split <;> rfl
  refine ⟨fun t => ?_, fun k => ?_, fun L => ?_, ?_⟩
  · rw [hsb.1, res_slot]
    exact look_cons _ _ _ _
  · rw [hsb.2.1, res_box]
    show look (putO ((bxOf r).map fun cs => (d, cs)) τ.box) k = _
    rw [look_putO]
    cases bxOf r <;> rfl
  · show lookL (ovr (qOwn σ d r So) τ.own) L = _
    cases So with
    | none =>
      dsimp only [qOwn]
      rw [lookL_ovr, res_own]
      rfl
    | some S =>
      dsimp only
      rw [lookL_steal]
      simp only [qOwn]
      by_cases hS : S = .s d
      · subst hS
        rw [if_pos rfl, lookL_ovr, res_own, if_pos rfl]
        show (if L = Loc.s d then ownOf r else lookL τ.own L) = _
        cases hq : ownOf r with
        | none => dsimp only; rw [res_own, hq]
        | some e =>
          dsimp only
          rw [res_own]
          by_cases hL : L = .s d
          · rw [if_pos hL, if_pos hL]
          · rw [if_neg hL, if_neg hL, if_neg hL, if_neg hL]
      · rw [if_neg hS]
        have h1 : lookL (τ.res d r).own S = lookL σ.own S := by rw [res_own, if_neg hS]; exact ho S rfl
        rw [h1]
        cases lookL σ.own S with
        | none => dsimp only; rw [lookL_ovr, res_own]; rfl
        | some e =>
          dsimp only
          rw [lookL_ovr, lookL_ovr, res_own]
          by_cases hL : L = .s d
          · rw [if_pos hL, if_pos hL]
          · rw [if_neg hL, if_neg hL, if_neg hL]
            rfl
  · rw [hsb.2.2, res_ext]; rfl
theorem qOwn_wo {σ : St} {d : Nat} {r : HR} {So : Option Loc} {x : Loc × Option (TypeId × Nat)} (h : x ∈ qOwn σ d r So) : x.1 ∈ [Loc.s d] ++ So.toList := by
  cases So with
  | none => simp [qOwn] at h; subst h; simp
  | some S =>
    simp only [qOwn] at h
    split at h
    · simp at h; subst h; simp
    · split at h
      · simp at h
        rcases h with rfl | rfl <;> simp
      · simp at h; subst h; simp
theorem stepQ {st WB : List Nat} {X : List (Nat × List Nat)} {σ : St} {o : Oper} {d : Nat} (hd : o.dst = some d) (hdn : d < F.n) (hg : guardB ops (look σ.slot) o = some true) {K : HR → Prop} (h : hopx P (look σ.slot) (bxf WB (xof X d) (look σ.box)) o K)
    (hbx : ∀ r, K r → if WB.contains d = true then look σ.box d = none ∧ (xof X d).contains d = false else bxOf r = none) :
    ∃ r, K r ∧ StepX P F ops WB σ o (fpOf ops X o (.q (takesS P st (look σ.slot) o d) (WB.contains d))) (qEff σ d r (takesS P st (look σ.slot) o d)) (stl P st (look σ.slot) o d (σ.res d r)) := by
  obtain ⟨r, hK, h1, h2, h3⟩ := hopx_full (F := F) h hd hdn
  have hb := hbx r hK
  have hbk : ∀ {k : Nat} {cs : List PV}, bxf WB (xof X d) (look σ.box) k = some cs → look σ.box k = some cs ∧ (k ∈ xof X d ∨ k ∉ WB) := fun {k cs} hk => by
    unfold bxf at hk
    split at hk
    · cases hk
    · rename_i hc
      refine ⟨hk, ?_⟩
      simp only [Bool.and_eq_true, List.contains_iff_mem, Bool.not_eq_true', not_and, Bool.not_eq_false] at hc
      by_cases hw : k ∈ WB
      · exact .inl (by simpa using hc hw)
      · exact .inr hw
  have hxof : (fpOf ops X o (.q (takesS P st (look σ.slot) o d) (WB.contains d))).rb = xof X d := by simp [fpOf, hd, xof]
  refine ⟨r, hK, ⟨⟨fun x hx => ?_, fun x hx => ?_, fun k off xs hx => (by cases hx), fun x hx => ?_, fun k hk => ?_, fun x hx => (by cases hx)⟩, ⟨fun _ _ => rfl, fun _ _ => rfl, fun _ _ => rfl, fun k o n hk => (by cases hk), fun k hk => ?_, rfl⟩, qEff_eqv fun _ _ => rfl, fun τ γ a w hag hr Q i hi => ?_⟩⟩
  · cases hx; simp [fpOf, hd]
  · simp only [qEff, Option.map_eq_some_iff] at hx
    obtain ⟨cs, hcs, rfl⟩ := hx
    by_cases hw : WB.contains d = true
    · simp only [fpOf, hd, hw]; simp
    · rw [if_neg hw] at hb; rw [hb] at hcs; cases hcs
  · have := qOwn_wo hx
    simpa [fpOf, hd] using this
  · by_cases hw : WB.contains d = true
    · simp [fpOf, hd] at hk
      obtain ⟨hw', rfl⟩ := hk
      exact hw'
    · simp [fpOf, hd] at hk
      exact absurd (by simpa using hk.1) hw
  · by_cases hw : WB.contains d = true
    · rw [if_pos hw] at hb
      simp [fpOf, hd] at hk
      obtain ⟨_, rfl⟩ := hk
      exact hb.1
    · simp [fpOf, hd] at hk
      exact absurd (by simpa using hk.1) hw
  · have hslot : ∀ t, t ∈ o.looksAt ops → look τ.slot t = look σ.slot t := fun t ht => hag.rs t ht
    have hops : ∀ t, Operand.tmp t ∈ o.op.operands.toList → look τ.slot t = look σ.slot t := fun t ht => hslot t (mem_looks ht)
    have hsrc : src P (look τ.slot) o = src P (look σ.slot) o := src_congr hops
    have hboxk : ∀ k cs, bxf WB (xof X d) (look σ.box) k = some cs → look τ.box k = some cs := fun k cs hk => by
      obtain ⟨g1, g2⟩ := hbk hk
      rw [hag.rb k (by rw [hxof]; exact g2)]; exact g1
    unfold wpOp
    rw [hi]
    dsimp only
    rw [guard_ok hr (g := look σ.slot) (fun j want t y hj hdt hy => by rw [hslot t (mem_looks_guard hj hdt)]; exact hy) hg, if_pos rfl]
    refine .inl (Oper.wp_mono (fun a' w' hst => ?_) (h3 τ γ a w hr (fun t y hm hy => by rw [hops t hm]; exact hy) hboxk (fun hk => ?_) Q))
    · obtain ⟨γ', hrel⟩ := stl_ok (st := st) hr hdn (fun S hS => by
        rw [hsrc] at hS
        have h4 := h1 S hS
        cases S with
        | s t => exact (hops t (src_slot hS)).trans h4
        | b k off =>
          show ((look τ.box k).bind (·[off]?)).map PV.av = _
          have h5 : ((bxf WB (xof X d) (look σ.box) k).bind (·[off]?)).map PV.av = some r.av := h4
          cases hq : bxf WB (xof X d) (look σ.box) k with
          | none => rw [hq] at h5; cases h5
          | some cs => rw [hboxk k cs hq]; rw [hq] at h5; exact h5) (h2.imp id fun h => hsrc.trans h) hst
      rw [stl_congr hsrc] at hrel
      have he := qEff_eqv (P := P) (st := st) (g := look σ.slot) (o := o) (d := d) (r := r) (σ := σ) (τ := τ) (fun S hS => hag.ro S (by rw [hS]; simp [fpOf]))
      exact ⟨γ', hrel.congr he.1 he.2.1 he.2.2.1 he.2.2.2⟩
    · by_cases hw : WB.contains d = true
      · exact hag.nb d (by simp [fpOf, hd]; simpa using hw)
      · have hw' : d ∉ WB := by simpa using hw
        rw [hag.rb d (.inr hw')]
        unfold bxf at hk
        rw [if_neg (by simp [hw'])] at hk
        exact hk
theorem stepN {WB : List Nat} {X : List (Nat × List Nat)} {σ : St} {o : Oper} {d : Nat} (hd : o.dst = some d) (hdn : d < F.n) (hg : guardB ops (look σ.slot) o = some false) :
    StepX P F ops WB σ o (fpOf ops X o .no) { slot := some (d, .v undef), own := [(.s d, none)] } (σ.put d (.v undef)) := by
  have heq : ∀ τ : St, Eqv (τ.put d (.v undef)) (({ slot := some (d, .v undef), own := [(.s d, none)] } : Eff).app τ) := fun τ => ⟨fun _ => rfl, fun _ => rfl, fun _ => rfl, rfl⟩
  refine ⟨⟨fun x hx => ?_, fun x hx => (by cases hx), fun k off xs hx => (by cases hx), fun x hx => ?_, fun k hk => (by cases hk), fun x hx => (by cases hx)⟩, ⟨fun _ _ => rfl, fun _ _ => rfl, fun _ _ => rfl, fun k o n hk => (by cases hk), fun k hk => (by cases hk), rfl⟩, heq σ, fun τ γ a w hag hr Q i hi => ?_⟩
  · cases hx; simp [fpOf, hd]
  · simp at hx; subst hx; simp [fpOf, hd]
  · unfold wpOp
    rw [hi]
    dsimp only
    rw [guard_ok hr (g := look σ.slot) (fun j want t y hj hdt hy => by rw [hag.rs t (mem_looks_guard hj hdt)]; exact hy) hg, if_neg (by simp), hd]
    have h1 := hr.put hdn (x := .v undef) (u := undef) rfl (fun k hk => by cases hk)
    exact ⟨γ, h1.congr (heq τ).1 (heq τ).2.1 (heq τ).2.2.1 (heq τ).2.2.2⟩
end
end Av
end Go.Proofs.Ytkdigdnacggknaa
/- Abstract states: a region that draws its order, with effects: the theorem. Generic. -/
namespace Go.Proofs.Ytkdigdnacggknaa
open Go.RowKit
namespace Av

section
variable {P : Program} {F : Fr} {ops : Array Oper}
def sOwn (d i : Nat) (e : TypeId) : Option Nat → List (Loc × Option (TypeId × Nat))
  | some t => [(.s d, some (e, i)), (.s t, none)]
  | none => [(.s d, some (e, i))]
theorem stepA {WB : List Nat} {X : List (Nat × List Nat)} {σ : St} {o : Oper} {d : Nat} {args : Array Operand} {ats : Array TypeId} (hop : o.op = .call { callee := .builtin .append, args, argTypes := ats }) (hd : o.dst = some d) (hg : guardB ops (look σ.slot) o = some true)
    {x y : Operand} {T e : TypeId} {i : Nat} {z : Value} {rows rows2 : List (List PV)} {s : Option Nat} (h1 : args.toList = [x, y]) (h2 : ats.toList = [T, T]) (h3 : P.underlying T = some (.slice e)) (h4 : (P.info? e).map (·.size) = some i) (h5 : 0 < i) (h6 : (P.info? e).map (·.zero) = some (some z)) (h7 : z.cells.size = i) (h8 : ((P.info? e).map fun j => decide (j.bytes ≤ 1000000)) = some true) (h9 : d < F.n)
    (h10 : (s = none ∧ rows = [] ∧ evo (look σ.slot) x = some (.v (.slice none 0 0))) ∨ (∃ t, x = .tmp t ∧ s = some t ∧ lookL σ.own (.s t) = some (e, i) ∧ look σ.slot t = some (.sl i rows)))
    (h11 : evo (look σ.slot) y = some (.sl i rows2) ∨ (rows2 = [] ∧ evo (look σ.slot) y = some (.v (.slice none 0 0)))) (h12 : rows.length + rows2.length ≤ 100000000) :
    StepX P F ops WB σ o (fpOf ops X o (.a s)) { slot := some (d, .sl i (rows ++ rows2)), own := sOwn d i e s } ({ σ with own := delS σ.own s }.putOwn d i (rows ++ rows2) e) := by
  have heq : ∀ τ : St, Eqv ({ τ with own := delS τ.own s }.putOwn d i (rows ++ rows2) e) (({ slot := some (d, .sl i (rows ++ rows2)), own := sOwn d i e s } : Eff).app τ) := fun τ => by
    refine ⟨fun _ => rfl, fun _ => rfl, fun L => ?_, rfl⟩
    rw [lookL_putOwn]
    show lookL (ovr (sOwn d i e s) τ.own) L = _
    cases s with
    | none => exact lookL_ovr _ _ _ _ _
    | some t =>
      unfold sOwn delS
      dsimp only
      rw [lookL_ovr, lookL_ovr, lookL_del]
      rfl
  have hmem : ∀ t, x = .tmp t ∨ y = .tmp t → Operand.tmp t ∈ o.op.operands.toList := fun t ht => by
    rw [hop]
    rcases ht with rfl | rfl <;> simp [Op.operands, Call.operands, h1]
  refine ⟨⟨fun w hw => ?_, fun w hw => (by cases hw), fun k off xs hw => (by cases hw), fun w hw => ?_, fun k hk => (by cases hk), fun w hw => (by cases hw)⟩, ⟨fun _ _ => rfl, fun _ _ => rfl, fun _ _ => rfl, fun k o n hk => (by cases hk), fun k hk => (by cases hk), rfl⟩, heq σ, fun τ γ a w hag hr Q j hj => ?_⟩
  · cases hw; simp [fpOf, hd]
  · cases s with
    | none => simp [sOwn] at hw; subst hw; simp [fpOf, hd]
    | some t =>
      simp [sOwn] at hw
      rcases hw with rfl | rfl <;> simp [fpOf, hd]
  · have hslot : ∀ t, t ∈ o.looksAt ops → look τ.slot t = look σ.slot t := fun t ht => hag.rs t ht
    have hops : ∀ t, x = .tmp t ∨ y = .tmp t → look τ.slot t = look σ.slot t := fun t ht => hslot t (mem_looks (hmem t ht))
    have ex : evo (look τ.slot) x = evo (look σ.slot) x := evo_congr fun t ht => hops t (.inl ht)
    have ey : evo (look τ.slot) y = evo (look σ.slot) y := evo_congr fun t ht => hops t (.inr ht)
    unfold wpOp
    rw [hj]
    dsimp only
    rw [guard_ok hr (g := look σ.slot) (fun j want t y hj hdt hy => by rw [hslot t (mem_looks_guard hj hdt)]; exact hy) hg, if_pos rfl]
    refine .inl (Oper.wp_mono (fun a' w' hst => ?_) (append_ok (K := fun σ' => σ' = ({ τ with own := delS τ.own s } : St).putOwn d i (rows ++ rows2) e) hr hop hd ⟨x, y, T, e, i, z, rows, rows2, s, h1, h2, h3, h4, h5, h6, h7, h8, h9, ?_, ?_, h12, rfl⟩ Q))
    · obtain ⟨σ', γ', rfl, hrel⟩ := hst
      exact ⟨γ', hrel.congr (heq τ).1 (heq τ).2.1 (heq τ).2.2.1 (heq τ).2.2.2⟩
    · rcases h10 with ⟨g1, g2, g3⟩ | ⟨t, g1, g2, g3, g4⟩
      · exact .inl ⟨g1, g2, ex.trans g3⟩
      · refine .inr ⟨t, g1, g2, (hag.ro (.s t) (by rw [g2]; simp [fpOf])).trans g3, (hops t (.inl g1)).trans g4⟩
    · rw [ey]; exact h11
def stOwn (σ : St) (k off n : Nat) : Operand → List (Loc × Option (TypeId × Nat))
  | .tmp t => match lookL σ.own (.s t) with
    | some e => (.b k off, some e) :: (.s t, none) :: clrs k off n
    | none => clrs k off n
  | _ => clrs k off n
theorem stOwn_wo {σ : St} {k off n : Nat} {v : Operand} {o : Oper} {T : TypeId} {x' : Operand} (hop : o.op = .store T x' v) {x : Loc × Option (TypeId × Nat)} (h : x ∈ stOwn σ k off n v) : x.1 ∈ stT o ++ (List.range n).map (fun i => Loc.b k (off + i)) ++ [Loc.b k off] := by
  have hc : ∀ x ∈ clrs k off n, x.1 ∈ (List.range n).map (fun i => Loc.b k (off + i)) := fun x hx => by
    obtain ⟨i, hi, rfl⟩ := List.mem_map.1 hx
    exact List.mem_map.2 ⟨i, hi, rfl⟩
  cases v with
  | tmp t =>
    have hs : stT o = [.s t] := by unfold stT; rw [hop]
    rw [hs]
    simp only [stOwn] at h
    split at h
    · rcases List.mem_cons.1 h with rfl | h
      · simp
      · rcases List.mem_cons.1 h with rfl | h
        · simp
        · have := hc x h
          simp only [List.mem_append]
          exact .inl (.inr this)
    · have := hc x h
      simp only [List.mem_append]
      exact .inl (.inr this)
  | _ =>
    have := hc x h
    simp only [List.mem_append]
    exact .inl (.inr this)
theorem stepS {WB : List Nat} {X : List (Nat × List Nat)} {σ : St} {o : Oper} {T : TypeId} {x v : Operand} (hop : o.op = .store T x v) (hd : o.dst = none) (hg : guardB ops (look σ.slot) o = some true)
    {k off : Nat} {u : AV} {cs xs : List PV} (h1 : evo (look σ.slot) x = some (.ref k off)) (h2 : evo (look σ.slot) v = some u) (h3 : look σ.box k = some cs) (h4 : avCells u = some xs) (h5 : (P.info? T).map (·.size) = some xs.length) (h6 : off + xs.length ≤ cs.length) (hW : WB.contains k = true) :
    StepX P F ops WB σ o (fpOf ops X o (.st k off xs.length)) { pat := some (k, off, xs), own := stOwn σ k off xs.length v } (storeSt σ k off cs xs v) := by
  have heq : ∀ (τ : St) (cs1 : List PV), look τ.box k = some cs1 → (∀ t, v = .tmp t → lookL τ.own (.s t) = lookL σ.own (.s t)) → Eqv (storeSt τ k off cs1 xs v) (({ pat := some (k, off, xs), own := stOwn σ k off xs.length v } : Eff).app τ) := fun τ cs1 hc hv => by
    have hbase : ∀ L, lookL (keepL τ.own k off xs.length) L = lookL (ovr (clrs k off xs.length) τ.own) L := fun L => by rw [lookL_keepZ, ovr_clrs]
    have hsl : (storeSt τ k off cs1 xs v).slot = τ.slot ∧ (storeSt τ k off cs1 xs v).box = (k, setAt cs1 off xs) :: τ.box ∧ (storeSt τ k off cs1 xs v).ext = τ.ext := by
      unfold storeSt
      split
      · refine ⟨(stealSt_slot _ _ _).1, (stealSt_slot _ _ _).2, ?_⟩
        unfold stealSt
        split <;> rfl
      · exact ⟨rfl, rfl, rfl⟩
    refine ⟨fun t => by rw [hsl.1]; rfl, fun j => ?_, fun L => ?_, hsl.2.2.symm⟩
    · rw [hsl.2.1]
      show look ((k, setAt ((look τ.box k).getD []) off xs) :: τ.box) j = _
      rw [hc]
      rfl
    · show lookL (ovr (stOwn σ k off xs.length v) τ.own) L = _
      unfold storeSt
      cases v with
      | tmp t =>
        dsimp only [stOwn]
        rw [lookL_steal]
        have hst : lookL (τ.setBox k (setAt cs1 off xs) (keepL τ.own k off xs.length)).own (.s t) = lookL σ.own (.s t) := by
          show lookL (keepL τ.own k off xs.length) (.s t) = _
          rw [lookL_keepZ, if_neg (by simp [hitB])]
          exact hv t rfl
        rw [hst]
        cases lookL σ.own (.s t) with
        | none => exact (hbase L).symm
        | some e =>
          dsimp only
          rw [lookL_ovr, lookL_ovr, ← hbase]
          rfl
      | const c => exact (hbase L).symm
      | func f => exact (hbase L).symm
      | global g => exact (hbase L).symm
  have hmem : ∀ t, x = .tmp t ∨ v = .tmp t → Operand.tmp t ∈ o.op.operands.toList := fun t ht => by
    rw [hop]
    rcases ht with rfl | rfl <;> simp [Op.operands]
  refine ⟨⟨fun w hw => (by cases hw), fun w hw => (by cases hw), fun k' off' xs' hw => ?_, fun w hw => stOwn_wo hop hw, fun k hk => (by cases hk), fun w hw => ?_⟩, ⟨fun _ _ => rfl, fun _ _ => rfl, fun _ _ => rfl, fun k' o' n' hk => ?_, fun k hk => (by cases hk), rfl⟩, heq σ cs h3 (fun _ _ => rfl), fun τ γ a w hag hr Q j hj => ?_⟩
  · cases hw; simp [fpOf]
  · simp [fpOf] at hw; subst hw; simpa using hW
  · simp [fpOf] at hk; obtain ⟨rfl, rfl, rfl⟩ := hk; exact ⟨cs, h3, h6⟩
  · have hslot : ∀ t, t ∈ o.looksAt ops → look τ.slot t = look σ.slot t := fun t ht => hag.rs t ht
    have hops : ∀ t, x = .tmp t ∨ v = .tmp t → look τ.slot t = look σ.slot t := fun t ht => hslot t (mem_looks (hmem t ht))
    obtain ⟨cs1, c1, c2⟩ := hag.wb k off xs.length (by simp [fpOf])
    unfold wpOp
    rw [hj]
    dsimp only
    rw [guard_ok hr (g := look σ.slot) (fun j want t y hj hdt hy => by rw [hslot t (mem_looks_guard hj hdt)]; exact hy) hg, if_pos rfl]
    refine .inl (Oper.wp_mono (fun a' w' hst => ?_) (store_ok (K := fun σ' => σ' = storeSt τ k off cs1 xs v) hr hop hd ((evo_congr fun t ht => hops t (.inl ht)).trans h1) ((evo_congr fun t ht => hops t (.inr ht)).trans h2) c1 h4 h5 c2 rfl Q))
    obtain ⟨σ', γ', rfl, hrel⟩ := hst
    have he := heq τ cs1 c1 (fun t ht => hag.ro (.s t) (by
      show Loc.s t ∈ stT o
      unfold stT; rw [hop, ht]; simp))
    exact ⟨γ', hrel.congr he.1 he.2.1 he.2.2.1 he.2.2.2⟩
theorem sopX_step {st WB : List Nat} {X : List (Nat × List Nat)} {σ : St} {o : Oper} {K : St → Dy → Prop} (hg : guardB ops (look σ.slot) o = some true) (h : sopX P F.n st WB X σ o K) : ∃ E σ' f, StepX P F ops WB σ o (fpOf ops X o f) E σ' ∧ K σ' f := by
  unfold sopX at h
  split at h
  · rename_i T x v hop hd
    obtain ⟨k, off, u, cs, xs, h1, h2, h3, h4, h5, h6, h7, hK⟩ := h
    exact ⟨_, _, _, stepS hop hd hg h1 h2 h3 h4 h5 h6 h7, hK⟩
  · rename_i args ats d hop hd
    obtain ⟨x, y, T, e, i, z, rows, rows2, s, h1, h2, h3, h4, h5, h6, h7, h8, h9, h10, h11, h12, hK⟩ := h
    exact ⟨_, _, _, stepA hop hd hg h1 h2 h3 h4 h5 h6 h7 h8 h9 h10 h11 h12, hK⟩
  · rename_i hd _
    obtain ⟨hdn, hx⟩ := h
    obtain ⟨r, hK, hs⟩ := stepQ (ops := ops) (X := X) hd hdn hg hx (fun r hr => hr.1)
    exact ⟨_, _, _, hs, hK.2⟩
  · cases h
theorem sopsX_run {st WB : List Nat} {X : List (Nat × List Nat)} {K : St → List Dy → Prop} : ∀ {l : List Oper} {σ : St} {fs : List Dy}, sopsX P F.n st WB X ops l σ fs K → ∃ T σ' gs, RunX P F ops WB l σ T σ' ∧ T.map (fun x => x.2.1) = fpsOf ops X l gs ∧ gs.length = l.length ∧ K σ' (gs.reverse ++ fs)
  | [], σ, fs, h => ⟨[], σ, [], .nil, rfl, rfl, h⟩
  | o :: l, σ, fs, h => by
    unfold sopsX at h
    split at h
    · rename_i hg
      obtain ⟨E, σ1, f, hs, hK⟩ := sopX_step (ops := ops) hg h
      obtain ⟨T, σ', gs, h1, h2, h3, h4⟩ := sopsX_run hK
      exact ⟨_, σ', f :: gs, .cons hs h1, by rw [List.map_cons, h2]; rfl, by rw [List.length_cons, List.length_cons, h3], by rw [List.reverse_cons, List.append_assoc]; exact h4⟩
    · rename_i hg
      obtain ⟨d, hd, hdn, hK⟩ := h
      obtain ⟨T, σ', gs, h1, h2, h3, h4⟩ := sopsX_run hK
      exact ⟨_, σ', .no :: gs, .cons (stepN (X := X) hd hdn hg) h1, by rw [List.map_cons, h2]; rfl, by rw [List.length_cons, List.length_cons, h3], by rw [List.reverse_cons, List.append_assoc]; exact h4⟩
    · cases h
theorem indAll_spec {X : List (Nat × List Nat)} {l : List Oper} {gs : List Dy} (h : indAll ops X l gs.reverse = true) {i j : Nat} {f g : FP} (hij : i < j) (hi : (fpsOf ops X l gs)[i]? = some f) (hj : (fpsOf ops X l gs)[j]? = some g) (hw : Region.waitsFor .any ops j i = false) : indep f g = true := by
  unfold indAll at h
  rw [List.reverse_reverse] at h
  have h1 := List.all_eq_true.1 (List.all_eq_true.1 h (g, j) (List.mem_zipIdx_iff_getElem?.2 hj)) (f, i) (List.mem_zipIdx_iff_getElem?.2 hi)
  simp only [hw, Bool.false_or, Bool.or_eq_true, Bool.not_eq_true'] at h1
  rcases h1 with h1 | h1
  · have h2 : Nat.blt i j = true := by
      unfold Nat.blt
      exact Nat.ble_eq_true_of_le hij
    rw [h2] at h1; cases h1
  · exact h1
theorem awp_any {id : Nat} {l : List Oper} {Q : AX → St → Prop} {σ : St} (st WB : List Nat) (X : List (Nat × List Nat)) (hm : P.follows .mixedOrders = true) (hb : backB l.toArray = true)
    (h : sopsX P F.n st WB X l.toArray l σ [] fun σ' fs => indAll l.toArray X l fs = true ∧ Q .normal σ') : AWp P F (Code.region id l.toArray true) Q σ := by
  intro γ a w hr
  obtain ⟨T, σ', gs, hrun, hT, hgl, hind, hQ⟩ := sopsX_run h
  rw [List.append_nil] at hind
  have hlen := hrun.length
  have hsw := hrun.swap hb (fun i j x y hij hx hy hw => indAll_spec hind hij (by rw [← hT, List.getElem?_map, hx]; rfl) (by rw [← hT, List.getElem?_map, hy]; rfl) hw)
  obtain ⟨hc1, hc2⟩ := hrun.chain (T0 := T) 0 σ rfl (Eqv.refl σ)
  refine wp_region_any hm ?_
  have hsz : l.toArray.size = l.length := by simp
  refine wpAny_swap (R := fun s a w => ∃ γ, Rel F s γ a w) (app := appX T) hsw (fun {s t a w} he hr => ?_) (fun i hi s a w hok hr => ?_) (sF := σ') (fun a w hr => ?_) l.toArray.size (List.range' 0 l.length) (Array.replicate l.toArray.size false) σ a w.drew (by simp) ?_ (by simp) (fun i hi => ?_) (fun i hi => ?_) ⟨γ, hr.grow (Below.refl _ _).drew⟩ hc1 hc2
  · obtain ⟨γ, hr⟩ := hr
    exact ⟨γ, hr.congr he.1 he.2.1 he.2.2.1 he.2.2.2⟩
  · obtain ⟨γ, hr⟩ := hr
    have hi' : i < T.length := by rw [hlen, ← hsz]; exact hi
    have hx : T[i]? = some T[i] := List.getElem?_eq_getElem hi'
    generalize T[i] = x at hx
    obtain ⟨o, σ1, ho, hs⟩ := hrun.at hx
    have ei : appX T i = x.2.2.app := by funext s; unfold appX; rw [hx]
    rw [ei]
    exact hs.run s γ a w (hok x hx) hr _ i (by simpa using ho)
  · obtain ⟨γ, hr⟩ := hr
    exact ⟨.normal, σ', γ, rfl, hQ, hr⟩
  · exact List.pairwise_lt_range'
  · simp at hi
    simp [hi]
  · rw [hsz]
    have := List.mem_range'_1.1 hi
    omega
end
theorem sopsX_go {P : Program} {n : Nat} {st WB : List Nat} {X : List (Nat × List Nat)} {ops : Array Oper} {o : Oper} {l : List Oper} {σ : St} {fs : List Dy} {K : St → List Dy → Prop} (h : match guardB ops (look σ.slot) o with
    | some true => sopX P n st WB X σ o fun σ' f => sopsX P n st WB X ops l σ' (f :: fs) K
    | some false => ∃ d, o.dst = some d ∧ d < n ∧ sopsX P n st WB X ops l (σ.put d (.v undef)) (.no :: fs) K
    | none => False) : sopsX P n st WB X ops (o :: l) σ fs K := h
theorem sopsX_end {P : Program} {n : Nat} {st WB : List Nat} {X : List (Nat × List Nat)} {ops : Array Oper} {σ : St} {fs : List Dy} {K : St → List Dy → Prop} (h : K σ fs) : sopsX P n st WB X ops [] σ fs K := h
end Av
end Go.Proofs.Ytkdigdnacggknaa
/- What an argument's reading says of its cells, for types made of integers, bools, strings, structs and slices. Generic: no program's numbers. -/
namespace Go.Proofs.Ytkdigdnacggknaa
open Go.RowKit Go.ChangeShapes Go.WideShapes Go.Deep

/-- Shapes of types; the fields of a struct by 'nil' and 'cons'. -/
inductive Ty where
  | int (k : IntKind)
  | bool
  | str
  | slice (e : Ty)
  | struct (l : Ty)
  | nil
  | cons (a l : Ty)

def Ty.cells : Ty → Nat
  | .int _ | .bool | .str | .slice _ => 1
  | .struct l => l.cells
  | .nil => 0
  | .cons a l => a.cells + l.cells

mutual
def Ty.fits (P : Program) : Ty → TypeId → Bool
  | .int k, t => match P.underlying t with
    | some (.int k') => decide (k = k')
    | _ => false
  | .bool, t => match P.underlying t with
    | some .bool => true
    | _ => false
  | .str, t => match P.underlying t with
    | some .string => true
    | _ => false
  | .slice e, t => match P.underlying t with
    | some (.slice u) => e.fits P u && P.cellsOf u == e.cells
    | _ => false
  | .struct l, t => match P.underlying t with
    | some (.struct fs) => l.fitsF P fs.toList 0
    | _ => false
  | .nil, _ => false
  | .cons _ _, _ => false
def Ty.fitsF (P : Program) : Ty → List Field → Nat → Bool
  | .nil, [], _ => true
  | .cons a l, f :: fs, off => f.offset == off && (P.cellsOf f.type == a.cells && (a.fits P f.type && l.fitsF P fs (off + a.cells)))
  | _, _, _ => false
end

/-- The cells cs hold a value of that shape. -/
def Ty.holds (w : World) : Ty → List Value → Prop
  | .int k, cs => ∃ n, cs = [.int k n] ∧ (Lit.int k n).wf = true
  | .bool, cs => ∃ b, cs = [.bool b]
  | .str, cs => ∃ s : ByteArray, cs = [.string s] ∧ s.size ≤ maxLen
  | .slice e, cs => ∃ A n c, cs = [.slice A n c] ∧ n ≤ c ∧ c ≤ maxLen ∧ (A = none → n = 0) ∧ ∀ a, A = some a → ∀ i, i < n → ∃ es, es.length = e.cells ∧ e.holds w es ∧ ∀ j u, es[j]? = some u → w.cell? (a.add (i * e.cells + j)) = some u
  | .struct l, cs => l.holds w cs
  | .nil, _ => True
  | .cons a l, cs => a.holds w (cs.take a.cells) ∧ l.holds w (cs.drop a.cells)

section
variable {H : Type} {enc : TypeId × Value → H} {P : Program} {w : World} {base : Nat} {spare : Nat → Bool} {held : Bool}

theorem add_add_ (a : Addr) (i j : Nat) : (a.add i).add j = a.add (i + j) := (Go.Deep.add_add a i j)

mutual
theorem Ty.holds_of : ∀ (τ : Ty) (t : TypeId) (fuel : Nat) (cs : List Value) (x : DataW H × List MemPlace), τ.fits P t = true → DataW.trod enc P w base spare held fuel t cs = some x → τ.holds w cs
  | .int k, t, fuel, cs, x, hf, h => by
    simp only [Ty.fits] at hf
    split at hf
    · rename_i k' hu
      obtain rfl : k = k' := by simpa using hf
      obtain ⟨n, e, _, hw⟩ := DataW.trod_int hu h
      exact ⟨n, e, hw⟩
    · cases hf
  | .bool, t, fuel, cs, x, hf, h => by
    simp only [Ty.fits] at hf
    split at hf
    · rename_i hu
      obtain ⟨n, e, _⟩ := DataW.trod_bool hu h
      exact ⟨n, e⟩
    · cases hf
  | .str, t, fuel, cs, x, hf, h => by
    simp only [Ty.fits] at hf
    split at hf
    · rename_i hu
      obtain ⟨n, e, _, hl⟩ := DataW.trod_string hu h
      exact ⟨n, e, hl⟩
    · cases hf
  | .slice e, t, fuel, cs, x, hf, h => by
    simp only [Ty.fits] at hf
    split at hf
    · rename_i u hu
      simp only [Bool.and_eq_true, beq_iff_eq] at hf
      obtain ⟨hfe, hce⟩ := hf
      rcases open_slice hu h with ⟨rfl, _⟩ | ⟨a, len, cap, m, n, D, Pl, rfl, hb, hl, hm, hmm, _, hel⟩
      · exact ⟨none, 0, 0, rfl, Nat.le_refl _, Nat.zero_le _, fun _ => rfl, fun a ha => by cases ha⟩
      · refine ⟨some a, len, cap, rfl, hl, hm, fun h0 => (by cases h0), fun a' ha i hi => ?_⟩
        cases ha
        have him : i < m := by rw [hmm]; split <;> omega
        obtain ⟨cs', hc, ht⟩ := hel i him
        rw [hce] at hc
        obtain ⟨_, hlen, hat⟩ := World.cells?_some hc
        refine ⟨cs', hlen, Ty.holds_of e u n cs' _ hfe ht, fun j v hv => ?_⟩
        have hj : j < e.cells := by rw [← hlen]; exact (List.getElem?_eq_some_iff.1 hv).1
        have := hat j hj
        rw [add_add_] at this
        rw [this, hv]
    · cases hf
  | .struct l, t, fuel, cs, x, hf, h => by
    simp only [Ty.fits] at hf
    split at hf
    · rename_i fs hu
      obtain ⟨xs, n, _, _, _, hlen, hff⟩ := DataW.trod_struct hu h
      have := Ty.holds_ofF l fs.toList 0 cs n hf (fun f hm => by
        obtain ⟨i, hi, e⟩ := List.getElem_of_mem hm
        have hi' : i < fs.size := by simpa using hi
        have h1 : fs[i]? = some f := by rw [Array.getElem?_eq_getElem hi']; simpa using e
        have h2 := hff i f h1
        rw [List.getElem?_eq_getElem (by omega)] at h2
        exact ⟨_, h2⟩)
      simpa [Ty.holds] using this
    · cases hf
  | .nil, _, _, _, _, hf, _ => by simp [Ty.fits] at hf
  | .cons _ _, _, _, _, _, hf, _ => by simp [Ty.fits] at hf
theorem Ty.holds_ofF : ∀ (l : Ty) (fs : List Field) (off : Nat) (cs : List Value) (n : Nat), l.fitsF P fs off = true → (∀ f ∈ fs, ∃ y, DataW.trod enc P w base spare held n f.type ((cs.drop f.offset).take (P.cellsOf f.type)) = some y) → l.holds w (cs.drop off)
  | .nil, _, _, _, _, _, _ => by simp [Ty.holds]
  | .cons a l, [], _, _, _, hf, _ => by simp [Ty.fitsF] at hf
  | .cons a l, f :: fs, off, cs, n, hf, h => by
    simp only [Ty.fitsF, Bool.and_eq_true, beq_iff_eq] at hf
    obtain ⟨h1, h2, h3, h4⟩ := hf
    obtain ⟨y, hy⟩ := h f List.mem_cons_self
    rw [h1, h2] at hy
    refine ⟨Ty.holds_of a f.type n _ _ h3 hy, ?_⟩
    rw [List.drop_drop]
    exact Ty.holds_ofF l fs (off + a.cells) cs n h4 fun g hg => h g (List.mem_cons_of_mem _ hg)
  | .int _, _, _, _, _, hf, _ => by simp [Ty.fitsF] at hf
  | .bool, _, _, _, _, hf, _ => by simp [Ty.fitsF] at hf
  | .str, _, _, _, _, hf, _ => by simp [Ty.fitsF] at hf
  | .slice _, _, _, _, _, hf, _ => by simp [Ty.fitsF] at hf
  | .struct _, _, _, _, _, hf, _ => by simp [Ty.fitsF] at hf
end

theorem Ty.holds_trod {τ : Ty} {t : TypeId} {v : Value} {d : DataW H} {p : List MemPlace} (hf : τ.fits P t = true) (h : DataW.Trod enc P w base spare held t v d p) : τ.holds w v.cells.toList := by
  obtain ⟨fuel, h⟩ := h
  exact Ty.holds_of τ t fuel _ _ hf h
end

theorem cell_lt {w : World} {a : Addr} {u : Value} (h : w.cell? a = some u) : a.block < w.heap.size ∧ a.spot = none := by
  unfold World.cell? at h
  split at h
  · rename_i c t fr hh
    refine ⟨?_, ?_⟩
    · rcases Nat.lt_or_ge a.block w.heap.size with h' | h'
      · exact h'
      · rw [Array.getElem?_eq_none h'] at hh; cases hh
    · split at h
      · cases h
      · rename_i hs
        cases hsp : a.spot with
        | none => rfl
        | some s => rw [hsp] at hs; simp at hs
  · cases h

/-- A list out of what is known of each index. -/
theorem list_of {α : Type} {Q : Nat → α → Prop} : ∀ (n : Nat), (∀ i, i < n → ∃ x, Q i x) → ∃ l : List α, l.length = n ∧ ∀ i x, l[i]? = some x → Q i x
  | 0, _ => ⟨[], rfl, fun i x h => by simp at h⟩
  | n + 1, h => by
    obtain ⟨l, hl, hq⟩ := list_of n fun i hi => h i (by omega)
    obtain ⟨x, hx⟩ := h n (by omega)
    refine ⟨l ++ [x], by simp [hl], fun i y hy => ?_⟩
    rcases Nat.lt_or_ge i n with hi | hi
    · rw [List.getElem?_append_left (by omega)] at hy
      exact hq i y hy
    · rw [List.getElem?_append_right (by omega)] at hy
      obtain rfl : i = n := by
        rcases Nat.lt_or_ge (i - l.length) 1 with h1 | h1
        · omega
        · rw [List.getElem?_eq_none (by simpa using h1)] at hy; cases hy
      rw [hl, Nat.sub_self] at hy
      simp at hy
      subst hy
      exact hx

end Go.Proofs.Ytkdigdnacggknaa
/- Arguments of the laws of the monitor, opened. -/
namespace Go.Proofs.Ytkdigdnacggknaa
open Go.RowKit
open Nd Rc Mo
open Av
set_option maxRecDepth 100000
set_option linter.unusedSimpArgs false
open Go.ChangeShapes Go.WideShapes Go.ChangeAt

def cellR (w : World) : Reader := fun p => w.cell? p
theorem RepL.get {R : Reader} {ps : List PV} {us : List Value} (h : RepL R ps us) : us.length = ps.length ∧ ∀ (j : Nat) (p : PV), ps[j]? = some p → ∃ u, us[j]? = some u ∧ RepP R p u := by
  induction h with
  | nil => exact ⟨rfl, fun j p h => by simp at h⟩
  | cons h t ih =>
    refine ⟨by simp [ih.1], fun j p hj => ?_⟩
    cases j with
    | zero =>
      simp only [List.getElem?_cons_zero, Option.some.injEq] at hj
      subst hj
      exact ⟨_, rfl, h⟩
    | succ j => exact ih.2 j p (by simpa using hj)
/-- A slice, read by f. -/
theorem rep_of_slice {α : Type} {f : α → List PV} {w : World} {e : Ty} {A : Option Addr} {n c : Nat} (hz : 0 < e.cells) (hnc : n ≤ c) (hnil : A = none → n = 0) (hr : ∀ es, es.length = e.cells → e.holds w es → ∃ x, RepL (cellR w) (f x) es)
    (h : ∀ a, A = some a → ∀ i, i < n → ∃ es, es.length = e.cells ∧ e.holds w es ∧ ∀ j u, es[j]? = some u → w.cell? (a.add (i * e.cells + j)) = some u) :
    ∃ l : List α, l.length = n ∧ RepP (cellR w) (.sl e.cells (l.map f)) (.slice A n c) := by
  cases A with
  | none =>
    obtain rfl := hnil rfl
    exact ⟨[], rfl, .sl e.cells [] none c (fun _ _ => undef) (fun k row hk => by simp at hk) (.inl rfl) (fun k row j p hk => by simp at hk) (Nat.zero_le _)⟩
  | some a =>
    obtain ⟨l, hl, hq⟩ := list_of (Q := fun i x => ∃ es, es.length = e.cells ∧ RepL (cellR w) (f x) es ∧ ∀ j u, es[j]? = some u → w.cell? (a.add (i * e.cells + j)) = some u) n fun i hi => by
      obtain ⟨es, h1, h2, h3⟩ := h a rfl i hi
      obtain ⟨x, hx⟩ := hr es h1 h2
      exact ⟨x, es, h1, hx, h3⟩
    refine ⟨l, hl, ?_⟩
    have hrow : ∀ (k : Nat) (row : List PV), (l.map f)[k]? = some row → row.length = e.cells ∧ ∀ (j : Nat) (p : PV), row[j]? = some p → ∃ u, w.cell? (a.add (k * e.cells + j)) = some u ∧ RepP (cellR w) p u := fun k row hk => by
      rw [List.getElem?_map] at hk
      cases hx : l[k]? with
      | none => rw [hx] at hk; cases hk
      | some x =>
        rw [hx] at hk
        obtain rfl := Option.some.inj hk
        obtain ⟨es, h1, h2, h3⟩ := hq k x hx
        obtain ⟨g1, g2⟩ := RepL.get h2
        refine ⟨by rw [← g1, h1], fun j p hj => ?_⟩
        obtain ⟨u, hu, hp⟩ := g2 j p hj
        exact ⟨u, h3 j u hu, hp⟩
    have hlen : n = (l.map f).length := by rw [List.length_map, hl]
    rw [hlen]
    refine .sl e.cells (l.map f) (some a) c (fun k j => (w.cell? (a.add (k * e.cells + j))).getD undef) (fun k row hk => (hrow k row hk).1) ?_ (fun k row j p hk hj => ?_) (by rw [← hlen]; exact hnc)
    · by_cases hn : l = []
      · exact .inl (by rw [hn]; rfl)
      · right
        have h0 : 0 < l.length := by
          rcases Nat.eq_zero_or_pos l.length with h0 | h0
          · exact absurd (List.eq_nil_of_length_eq_zero h0) hn
          · exact h0
        obtain ⟨x0, hx0⟩ := get_of_lt h0
        obtain ⟨q1, q2⟩ := hrow 0 (f x0) (by rw [List.getElem?_map, hx0]; rfl)
        obtain ⟨p0, hp0⟩ := get_of_lt (l := f x0) (k := 0) (by rw [q1]; exact hz)
        obtain ⟨u0, hu0, _⟩ := q2 0 p0 hp0
        have ha0 : a.add 0 = a := by simp [Addr.add]
        rw [show 0 * e.cells + 0 = 0 by omega, ha0] at hu0
        obtain ⟨_, hsp⟩ := cell_lt hu0
        obtain ⟨b, off, sp⟩ := a
        dsimp only at hsp
        subst hsp
        have hadd : ∀ i : Nat, (⟨b, off, none⟩ : Addr).add i = ⟨b, off + i, none⟩ := fun i => by
          unfold Addr.add
          split
          · rename_i h0; rw [h0]; rfl
          · rfl
        refine ⟨b, off, rfl, fun k row j p hk hj => ?_⟩
        obtain ⟨u, hu, _⟩ := (hrow k row hk).2 j p hj
        rw [hu]
        rw [hadd, ← Nat.add_assoc] at hu
        exact hu
    · obtain ⟨u, hu, hp⟩ := (hrow k row hk).2 j p hj
      rw [hu]; exact hp
def Ty.qi : Ty := .int .i64
def Ty.qatt : Ty := .struct (.cons .qi (.cons .qi (.cons (.struct (.cons .qi (.cons .qi (.cons .qi (.cons .qi (.cons .qi .nil)))))) (.cons .qi .nil))))
def Ty.qdlv : Ty := .struct (.cons .qi (.cons .qi (.cons .qi .nil)))
def Ty.qrec : Ty := .struct (.cons .qi (.cons (.struct (.cons (.slice .qatt) (.cons (.slice .qdlv) .nil))) .nil))
def Ty.qnet : Ty := .struct (.cons .qi (.cons (.slice (.slice .qi)) (.cons .qi (.cons .qi (.cons (.slice .qdlv) (.cons (.slice .qi) .nil))))))
theorem Try.fitsQrec : Ty.qrec.fits Try.prog 28 = true := by kernel_rfl
theorem Try.fitsQnet : Ty.qnet.fits Try.prog 44 = true := by kernel_rfl
theorem qatt_of {w : World} (es : List Value) (hl : es.length = Ty.qatt.cells) (h : Ty.qatt.holds w es) : ∃ a : Att, RepL (cellR w) a.pv es := by
  match es, hl with
  | [c0, c1, c2, c3, c4, c5, c6, c7], _ =>
    simp only [Ty.qatt, Ty.qi, Ty.holds, Ty.cells, List.take, List.drop] at h
    obtain ⟨⟨n0, h0, _⟩, ⟨n1, h1, _⟩, ⟨⟨n2, h2, _⟩, ⟨n3, h3, _⟩, ⟨n4, h4, _⟩, ⟨n5, h5, _⟩, ⟨n6, h6, _⟩, _⟩, ⟨n7, h7, _⟩, _⟩ := h
    simp only [List.cons.injEq, and_true] at h0 h1 h2 h3 h4 h5 h6 h7
    subst h0 h1 h2 h3 h4 h5 h6 h7
    exact ⟨⟨n0, n1, n2, n3, n4, n5, n6, n7⟩, .cons (.v _ rfl) (.cons (.v _ rfl) (.cons (.v _ rfl) (.cons (.v _ rfl) (.cons (.v _ rfl) (.cons (.v _ rfl) (.cons (.v _ rfl) (.cons (.v _ rfl) .nil)))))))⟩
theorem qdlv_of {w : World} (es : List Value) (hl : es.length = Ty.qdlv.cells) (h : Ty.qdlv.holds w es) : ∃ a : Dlv, RepL (cellR w) a.pv es := by
  match es, hl with
  | [c0, c1, c2], _ =>
    simp only [Ty.qdlv, Ty.qi, Ty.holds, Ty.cells, List.take, List.drop] at h
    obtain ⟨⟨n0, h0, _⟩, ⟨n1, h1, _⟩, ⟨n2, h2, _⟩, _⟩ := h
    simp only [List.cons.injEq, and_true] at h0 h1 h2
    subst h0 h1 h2
    exact ⟨⟨n0, n1, n2⟩, .cons (.v _ rfl) (.cons (.v _ rfl) (.cons (.v _ rfl) .nil))⟩
theorem qlk_of {w : World} (es : List Value) (hl : es.length = Ty.qdlv.cells) (h : Ty.qdlv.holds w es) : ∃ a : Lk, RepL (cellR w) a.pv es := by
  obtain ⟨⟨x, y, z⟩, h⟩ := qdlv_of es hl h
  exact ⟨⟨x, y, z⟩, h⟩
theorem qint_of {w : World} (es : List Value) (_hl : es.length = Ty.qi.cells) (h : Ty.qi.holds w es) : ∃ a : Int, RepL (cellR w) (irow_pv a) es := by
  obtain ⟨n, rfl, _⟩ := h
  exact ⟨n, .cons (.v _ rfl) .nil⟩
theorem qpow_of {w : World} (es : List Value) (_hl : es.length = (Ty.slice .qi).cells) (h : (Ty.slice .qi).holds w es) : ∃ a : List Int, RepL (cellR w) (prow_pv a) es := by
  obtain ⟨A, n, c, rfl, hc, hm, hn, he⟩ := h
  obtain ⟨l, _, hr⟩ := rep_of_slice (f := irow_pv) (e := Ty.qi) (by decide) hc hn qint_of he
  exact ⟨l, .cons hr .nil⟩
section
variable {H : Type} {enc : TypeId × Value → H} {W : World} {base : Nat} {spare : Nat → Bool} {held : Bool} {r : Reach} {b0 : Nat} {v : Value} {d : DataW H} {p : List MemPlace}
theorem open_recP (hv : Value.okWide Try.prog W r b0 28 v) (h : DataW.Trod enc Try.prog W base spare held 28 v d p) : ∃ q : Rec, RepA (cellR W) (fun _ => 0) (.agg q.pv) v := by
  obtain ⟨cs, rfl, hsz⟩ := okWide_struct Try.underlying28 hv
  have hh := Ty.holds_trod (τ := Ty.qrec) Try.fitsQrec h
  obtain ⟨l⟩ := cs
  match l, hsz with
  | [c0, c1, c2], _ =>
    simp only [Value.cells, Ty.qrec, Ty.qi, Ty.holds, Ty.cells, List.take, List.drop] at hh
    obtain ⟨⟨n0, h0, w0⟩, ⟨⟨A, n, ca, h1, hc1, hm1, hn1, he1⟩, ⟨D, m, cd, h2, hc2, hm2, hn2, he2⟩, _⟩, _⟩ := hh
    simp only [List.cons.injEq, and_true] at h0 h1 h2
    subst h0 h1 h2
    obtain ⟨la, _, lA⟩ := rep_of_slice (f := Att.pv) (e := Ty.qatt) (by decide) hc1 hn1 qatt_of he1
    obtain ⟨ld, _, lD⟩ := rep_of_slice (f := Dlv.pv) (e := Ty.qdlv) (by decide) hc2 hn2 qdlv_of he2
    exact ⟨⟨n0, la, ld⟩, _, rfl, .cons (.v _ rfl) (.cons lA (.cons lD .nil))⟩
theorem open_netP (hv : Value.okWide Try.prog W r b0 44 v) (h : DataW.Trod enc Try.prog W base spare held 44 v d p) : ∃ q : Net, q.pow.length ≤ 9223372036854775807 ∧ RepA (cellR W) (fun _ => 0) (.agg q.pv) v := by
  obtain ⟨cs, rfl, hsz⟩ := okWide_struct Try.underlying44 hv
  have hh := Ty.holds_trod (τ := Ty.qnet) Try.fitsQnet h
  obtain ⟨l⟩ := cs
  match l, hsz with
  | [c0, c1, c2, c3, c4, c5], _ =>
    have hh' : Ty.holds W .qi [c0] ∧ Ty.holds W (.slice (.slice .qi)) [c1] ∧ Ty.holds W .qi [c2] ∧ Ty.holds W .qi [c3] ∧ Ty.holds W (.slice .qdlv) [c4] ∧ Ty.holds W (.slice .qi) [c5] ∧ True := hh
    obtain ⟨⟨n0, h0, _⟩, ⟨P, n, cp, h1, hc1, hm1, hn1, he1⟩, ⟨n2, h2, _⟩, ⟨n3, h3, _⟩, ⟨L, m, cl, h4, hc4, hm4, hn4, he4⟩, ⟨G, k, cg, h5, hc5, hm5, hn5, he5⟩, _⟩ := hh'
    simp only [List.cons.injEq, and_true] at h0 h1 h2 h3 h4 h5
    subst h0 h1 h2 h3 h4 h5
    obtain ⟨lp, ep, lP⟩ := rep_of_slice (f := prow_pv) (e := Ty.slice .qi) (by decide) hc1 hn1 qpow_of he1
    obtain ⟨ll, _, lL⟩ := rep_of_slice (f := Lk.pv) (e := Ty.qdlv) (by decide) hc4 hn4 qlk_of he4
    obtain ⟨lg, _, lG⟩ := rep_of_slice (f := irow_pv) (e := Ty.qi) (by decide) hc5 hn5 qint_of he5
    have hmx : maxLen = 9223372036854775807 := by decide
    exact ⟨⟨n0, n2, n3, lp, ll, lg⟩, (by show lp.length ≤ _; rw [ep]; omega), _, rfl, .cons (.v _ rfl) (.cons lP (.cons (.v _ rfl) (.cons (.v _ rfl) (.cons lL (.cons lG .nil)))))⟩
end
/-- A law that returns true. -/
theorem calls_true {P : Program} {f : FuncId} {args : List AV} (h : FnOK P f args ⟨bv true, none⟩) (W : World) (us : List Value) (hus : RepAL (cellR W) args us) : Calls P f us.toArray W fun e W' => e = .returned (.bool true) ∧ Below W.heap.size W W' :=
  (h.2 W (cellR W) (fun _ _ h => h) us hus).mono fun e W' hq => by
    obtain ⟨u, rfl, hb, _, hr⟩ := hq
    exact ⟨by rw [show u = .bool true from hr], hb⟩
theorem Try.laidOut : laidOutB Try.prog = true := by kernel_rfl
theorem Try.own : ownKnob Try.prog.godebug = none := by kernel_rfl
section
variable {H : Type} {enc : TypeId × Value → H} {P : Program}
/-- What the row asks behind a call that only made new memory. (After the guide's small lemmas.) -/
theorem post_of_below {f : Func} {s : ChangeSpec} {apart fresh handsOn again : Bool} {W W' : World} {args : Array Value} {v : Value} {ds gs : List (DataW H)} {before pa pv : List MemPlace}
    (hW : DataW.Whole enc P f.params.toList s.vars apart W args.toList ds gs before)
    (hres : ∀ (b : Nat) (sp : Nat → Bool) (hd : Bool), DataW.TrodAll enc P W' b sp hd f.resultTypes.toList (v.resultList f.resultTypes.size) (s.fn H (ds ++ gs)).results [])
    (hargs : ∀ sp : Nat → Bool, (∀ p ∈ before, sp p.block = true) → DataW.TrodAll enc P W' 0 sp true f.params.toList args.toList (s.fn H (ds ++ gs)).args pa)
    (hvars : ∀ sp : Nat → Bool, (∀ p ∈ before, sp p.block = true) → DataW.TrodVars enc P W' sp s.vars (s.fn H (ds ++ gs)).vars pv)
    (hps : before = pa ++ pv) (hb : Below W.heap.size W W')
    (hok : ∀ (j : Nat) (t : TypeId) (r : Value), f.resultTypes[j]? = some t → (v.resultList f.resultTypes.size)[j]? = some r → Value.okWide P W' .any 0 t r) :
    s.post enc P f apart fresh handsOn again W args v W' := by
  have hlt : ∀ p ∈ before, p.block < W.heap.size := fun p hp => hW.lt p hp
  have hold : ∀ p ∈ before, (fun b => decide (b < W.heap.size)) p.block = true := fun p hp => by simpa using hlt p hp
  refine ⟨ds, gs, before, [], pa, pv, hW, hres _ _ _, hargs _ hold, hvars _ hold, World.keptBut_mono (fun p hp => ⟨hp, ?_⟩) (hb.frame (· ∈ before)), fun _ => ?_⟩
  · rw [hps, List.mem_append] at hp
    exact Or.inr hp
  · obtain ⟨_, _, _, _, _, hz, hn⟩ := hW
    refine ⟨hok, _, _, ([] ++ pa) ++ pv, ⟨[] ++ pa, pv, trodAll_append (hargs _ (fun _ _ => rfl)) (hres _ _ _), hvars _ (fun _ _ => rfl), rfl, ?_, ?_⟩, ?_⟩
    · intro b off hp
      have hin : MemPlace.cell b off ∈ before := by rw [hps]; simpa using hp
      rw [hb.frozen (hlt _ hin)]
      exact hz b off hin
    · intro ha
      have := hn ha
      rw [hps] at this
      simpa using this
    · intro p hp _
      rw [hps]
      simpa using hp
end
end Go.Proofs.Ytkdigdnacggknaa
/- By abstract states: slices.Clone. -/
namespace Go.Proofs.Ytkdigdnacggknaa
open Go.RowKit
open Nd Rc Mo
open Av
set_option maxRecDepth 100000
set_option linter.unusedSimpArgs false
attribute [local go_sem] Av.guardB Av.sop Av.hopx Av.hop Av.hopCall Av.hopF Av.hopB Av.evo Av.evos Av.avCells Av.loadK Av.bound Av.abin Av.aun Av.partsC Av.lfill Av.placesB Av.setAt Av.stl Av.takes Av.src Av.bxOf Av.ownOf Av.St.res Av.St.put Av.St.addBox Av.St.putOwn Av.delL Av.delS Av.look Av.lookL Av.storeSt Av.stealSt Av.St.setBox Av.keepL Av.hitB Av.snap Av.snaps Av.snapCaps Av.AV.lit Av.AV.refs Av.capRefs Av.PV.av Av.CV.av Av.startSt Av.steals Av.athen Av.ablock Av.appK Av.AllS Av.AllO Av.AllR Av.keepS Av.St.avAt Av.RetOK Av.retAll Av.retOne Av.intsOf Av.ptrB Av.appB Av.appSt TypeDesc.isRow List.range_zero Option.some.injEq exists_eq_left' exists_eq_left exists_eq' exists_and_left exists_and_right exists_const true_and and_true and_self false_and and_false or_false false_or or_true true_or if_true if_false Bool.false_eq_true List.zipIdx_cons List.zipIdx_nil List.map_cons List.map_nil List.filter_cons List.filter_nil List.contains_cons List.contains_nil List.drop_succ_cons List.drop_zero List.take_succ_cons List.take_zero List.take_nil List.drop_nil List.length_cons List.length_nil List.cons_append List.nil_append List.append_nil List.getElem?_cons_zero List.getElem?_cons_succ List.getElem?_nil Option.bind_some Option.bind_none Option.map_some Option.map_none Option.isNone_none Option.isNone_some Option.isSome_some Option.isSome_none Bool.and_true Bool.true_and Bool.and_false Bool.false_and Bool.or_false Bool.false_or Bool.not_true Bool.not_false beq_true beq_false Bool.true_beq Bool.false_beq Loc.s.injEq Loc.b.injEq decide_true decide_false beq_self_eq_true Nat.zero_add Nat.add_zero List.getElem?_toArray List.toList_toArray List.size_toArray Value.oneCell' List.all_cons List.all_nil Value.int.injEq AV.v.injEq AV.sl.injEq AV.agg.injEq AV.ref.injEq AV.ept.injEq AV.tup.injEq Value.bool.injEq PV.v.injEq PV.sl.injEq List.isEmpty_nil List.isEmpty_cons forall_const not_true_eq_false not_false_eq_true true_implies false_implies Value.string.injEq List.length_map List.getElem?_map Int.toNat_natCast Int.natCast_nonneg List.length_append Value.cells implies_true TypeDesc.struct.injEq TypeDesc.slice.injEq TypeDesc.array.injEq List.getElem?_toArray Prod.mk.injEq and_assoc exists_false List.cons.injEq Operand.tmp.injEq ite_self AV.fnv.injEq AV.clo.injEq Try.sz3 Try.zr3 Try.by3 Try.pl3 Try.is3 Try.underlying3 Try.sz4 Try.zr4 Try.by4 Try.pl4 Try.is4 Try.underlying4 Try.sz32 Try.zr32 Try.by32 Try.pl32 Try.is32 Try.underlying32 Try.sz28 Try.zr28 Try.by28 Try.pl28 Try.is28 Try.underlying28 Try.sz26 Try.zr26 Try.by26 Try.pl26 Try.is26 Try.underlying26 Try.sz37 Try.zr37 Try.by37 Try.pl37 Try.is37 Try.underlying37 Try.sz68 Try.zr68 Try.by68 Try.pl68 Try.is68 Try.underlying68 Try.sz57 Try.zr57 Try.by57 Try.pl57 Try.is57 Try.underlying57 Try.sz70 Try.zr70 Try.by70 Try.pl70 Try.is70 Try.underlying70 Try.sz54 Try.zr54 Try.by54 Try.pl54 Try.is54 Try.underlying54 Try.sz66 Try.zr66 Try.by66 Try.pl66 Try.is66 Try.underlying66 Try.sz64 Try.zr64 Try.by64 Try.pl64 Try.is64 Try.underlying64 Try.sz73 Try.zr73 Try.by73 Try.pl73 Try.is73 Try.underlying73 Try.sz102 Try.zr102 Try.by102 Try.pl102 Try.is102 Try.underlying102 Try.sz105 Try.zr105 Try.by105 Try.pl105 Try.is105 Try.underlying105 Try.sz44 Try.zr44 Try.by44 Try.pl44 Try.is44 Try.underlying44 Try.sz22 Try.zr22 Try.by22 Try.pl22 Try.is22 Try.underlying22 Try.sz31 Try.zr31 Try.by31 Try.pl31 Try.is31 Try.underlying31 Try.sz23 Try.zr23 Try.by23 Try.pl23 Try.is23 Try.underlying23 Try.sz24 Try.zr24 Try.by24 Try.pl24 Try.is24 Try.underlying24 Try.sz46 Try.zr46 Try.by46 Try.pl46 Try.is46 Try.underlying46 Try.sz41 Try.zr41 Try.by41 Try.pl41 Try.is41 Try.underlying41 Try.sz42 Try.zr42 Try.by42 Try.pl42 Try.is42 Try.underlying42 Try.sz40 Try.zr40 Try.by40 Try.pl40 Try.is40 Try.underlying40 Try.it68 Try.eg68 Try.it54 Try.eg54 Try.it66 Try.eg66 Try.it57 Try.eg57 Try.it37 Try.eg37 Try.it73 Try.eg73 all_arr loc_ss loc_sb loc_bs loc_bb arr_two arr_one rg1 rg2 rg3 rg4 rg5 rg6 rg7 rg8 ResultVar.tmp.injEq Bool.not_true Bool.not_false undef Rc.Rec.pv Nd.Fl.pv Rc.Dlv.pv Rc.Att.pv Mo.Lt.pv Mo.Sv.pv
namespace Av
/-- Is a slice nil? Then it has no rows. -/
theorem hand_sliceNil {P : Program} {n d : Nat} {σ : St} {o : Oper} {K : St → Prop} {T T' e : TypeId} {x : Operand} {sz : Nat} {rows : List (List PV)} (ho : o.op = .binOp .eql T x (.const (.slice none 0 0)) T') (hd : o.dst = some d) (hdn : d < n) (hT : P.underlying T = some (.slice e)) (hx : evo (look σ.slot) x = some (.sl sz rows))
    (h : ∀ b : Bool, (b = true → rows = []) → K (σ.put d (.v (.bool b)))) : Hand P n σ o K := by
  refine hand_value hd hdn fun F γ a w _ hr => ?_
  have e1 : RepP _ (.sl sz rows) (a.eval x) := (evo_ok hr (fun _ _ _ hy => hy) hx).1
  have e3 : a.eval (.const (.slice none 0 0)) = .slice none 0 0 := rfl
  generalize hv : a.eval x = v at e1
  cases e1 with
  | sl _ _ A cap f hsz hA hf hc =>
    refine ⟨.v (.bool A.isNone), .bool A.isNone, w, σ.ext, ?_, Turn.same hr.exth (fun _ h => h) (fun _ h => .inr h), rfl, (fun k hk => by cases hk), h _ (fun hn => ?_)⟩
    · simp [execOp, ho, hv, e3, eqGuard, binOp, run_equal_slice_nil w T e A rows.length cap hT]
    · rcases hA with h0 | ⟨b, off, rfl, _⟩
      · exact h0
      · cases hn
end Av

set_option maxHeartbeats 2000000 in
theorem cloneI_ok (rows : List (List PV)) (hl : rows.length ≤ 100000000) : FnOK Try.prog 52 [.sl 1 rows] ⟨.sl 1 rows, some 3⟩ := by
  refine fn_ok Try.func52 (by kernel_rfl) rfl (by rw [Try.ntmps52]; exact of_decide_eq_true rfl) (fun F hF => ?_)
  rw [Try.ntmps52] at hF
  rw [Try.results52]
  repeat (first
    | (with_reducible (first | refine sops_go ?_ | refine headW_end ?_ | refine sops_end ?_ | refine awp_if ?_ | refine awp_skip ?_ | refine awp_ret ?_ | refine awp_exit ?_); simp only [go_sem, ↓reduceIte, Nat.reduceEqDiff, Nat.reduceLT, Nat.reduceLeDiff, Nat.reduceAdd, Nat.reduceMul, Nat.reduceSub, Nat.reduceBEq, reduceCtorEq, Int.reduceBNe, Int.reduceBEq, Int.reduceLT, Int.reduceLE, Int.reduceGT, Int.reduceGE, ne_eq, eq_self, hF])
    | with_reducible (first | refine awp_seq_k fun _ _ => ?_ | refine awp_region [1000004] ?_ | refine awp_block ?_)
    | go_step)
  refine hand_sliceNil (e := 3) rfl rfl (by decide) Try.underlying42 rfl (fun b hb => ?_)
  simp only [go_sem, ↓reduceIte, Nat.reduceEqDiff, Nat.reduceLT, Nat.reduceLeDiff, Nat.reduceAdd, Nat.reduceMul, Nat.reduceSub, Nat.reduceBEq, reduceCtorEq, Int.reduceBNe, Int.reduceBEq, Int.reduceLT, Int.reduceLE, Int.reduceGT, Int.reduceGE, ne_eq, eq_self, hF]
  cases b with
  | true =>
    obtain rfl := hb rfl
    repeat (first
      | ((refine awp_nil (c := .ret) 2 1 3 (by rw [hF]; decide) (by first | rfl | simp only [Av.look]; rfl) ?_); simp only [go_sem, ↓reduceIte, Nat.reduceEqDiff, Nat.reduceLT, Nat.reduceLeDiff, Nat.reduceAdd, Nat.reduceMul, Nat.reduceSub, Nat.reduceBEq, reduceCtorEq, Int.reduceBNe, Int.reduceBEq, Int.reduceLT, Int.reduceLE, Int.reduceGT, Int.reduceGE, ne_eq, eq_self, hF])
      | (with_reducible (first | refine sops_go ?_ | refine headW_end ?_ | refine sops_end ?_ | refine awp_if ?_ | refine awp_skip ?_ | refine awp_ret ?_ | refine awp_exit ?_); simp only [go_sem, ↓reduceIte, Nat.reduceEqDiff, Nat.reduceLT, Nat.reduceLeDiff, Nat.reduceAdd, Nat.reduceMul, Nat.reduceSub, Nat.reduceBEq, reduceCtorEq, Int.reduceBNe, Int.reduceBEq, Int.reduceLT, Int.reduceLE, Int.reduceGT, Int.reduceGE, ne_eq, eq_self, hF])
      | with_reducible (first | refine awp_seq_k fun _ _ => ?_ | refine awp_region [1000004] ?_ | refine awp_block ?_)
      | go_step)
  | false =>
    repeat (first
      | (with_reducible (first | refine sops_go ?_ | refine headW_end ?_ | refine sops_end ?_ | refine awp_if ?_ | refine awp_skip ?_ | refine awp_ret ?_ | refine awp_exit ?_); simp only [go_sem, ↓reduceIte, Nat.reduceEqDiff, Nat.reduceLT, Nat.reduceLeDiff, Nat.reduceAdd, Nat.reduceMul, Nat.reduceSub, Nat.reduceBEq, reduceCtorEq, Int.reduceBNe, Int.reduceBEq, Int.reduceLT, Int.reduceLE, Int.reduceGT, Int.reduceGE, ne_eq, eq_self, hF, hl])
      | with_reducible (first | refine awp_seq_k fun _ _ => ?_ | refine awp_region [1000004] ?_ | refine awp_block ?_)
      | go_step)
    try rfl

set_option maxHeartbeats 2000000 in
theorem cloneAt_ok (rows : List (List PV)) (hl : rows.length ≤ 100000000) : FnOK Try.prog 44 [.sl 8 rows] ⟨.sl 8 rows, some 66⟩ := by
  refine fn_ok Try.func44 (by kernel_rfl) rfl (by rw [Try.ntmps44]; exact of_decide_eq_true rfl) (fun F hF => ?_)
  rw [Try.ntmps44] at hF
  rw [Try.results44]
  repeat (first
    | (with_reducible (first | refine sops_go ?_ | refine headW_end ?_ | refine sops_end ?_ | refine awp_if ?_ | refine awp_skip ?_ | refine awp_ret ?_ | refine awp_exit ?_); simp only [go_sem, ↓reduceIte, Nat.reduceEqDiff, Nat.reduceLT, Nat.reduceLeDiff, Nat.reduceAdd, Nat.reduceMul, Nat.reduceSub, Nat.reduceBEq, reduceCtorEq, Int.reduceBNe, Int.reduceBEq, Int.reduceLT, Int.reduceLE, Int.reduceGT, Int.reduceGE, ne_eq, eq_self, hF])
    | with_reducible (first | refine awp_seq_k fun _ _ => ?_ | refine awp_region [1000004] ?_ | refine awp_block ?_)
    | go_step)
  refine hand_sliceNil (e := 66) rfl rfl (by decide) Try.underlying23 rfl (fun b hb => ?_)
  simp only [go_sem, ↓reduceIte, Nat.reduceEqDiff, Nat.reduceLT, Nat.reduceLeDiff, Nat.reduceAdd, Nat.reduceMul, Nat.reduceSub, Nat.reduceBEq, reduceCtorEq, Int.reduceBNe, Int.reduceBEq, Int.reduceLT, Int.reduceLE, Int.reduceGT, Int.reduceGE, ne_eq, eq_self, hF]
  cases b with
  | true =>
    obtain rfl := hb rfl
    repeat (first
      | ((refine awp_nil (c := .ret) 2 8 66 (by rw [hF]; decide) (by first | rfl | simp only [Av.look]; rfl) ?_); simp only [go_sem, ↓reduceIte, Nat.reduceEqDiff, Nat.reduceLT, Nat.reduceLeDiff, Nat.reduceAdd, Nat.reduceMul, Nat.reduceSub, Nat.reduceBEq, reduceCtorEq, Int.reduceBNe, Int.reduceBEq, Int.reduceLT, Int.reduceLE, Int.reduceGT, Int.reduceGE, ne_eq, eq_self, hF])
      | (with_reducible (first | refine sops_go ?_ | refine headW_end ?_ | refine sops_end ?_ | refine awp_if ?_ | refine awp_skip ?_ | refine awp_ret ?_ | refine awp_exit ?_); simp only [go_sem, ↓reduceIte, Nat.reduceEqDiff, Nat.reduceLT, Nat.reduceLeDiff, Nat.reduceAdd, Nat.reduceMul, Nat.reduceSub, Nat.reduceBEq, reduceCtorEq, Int.reduceBNe, Int.reduceBEq, Int.reduceLT, Int.reduceLE, Int.reduceGT, Int.reduceGE, ne_eq, eq_self, hF])
      | with_reducible (first | refine awp_seq_k fun _ _ => ?_ | refine awp_region [1000004] ?_ | refine awp_block ?_)
      | go_step)
  | false =>
    repeat (first
      | (with_reducible (first | refine sops_go ?_ | refine headW_end ?_ | refine sops_end ?_ | refine awp_if ?_ | refine awp_skip ?_ | refine awp_ret ?_ | refine awp_exit ?_); simp only [go_sem, ↓reduceIte, Nat.reduceEqDiff, Nat.reduceLT, Nat.reduceLeDiff, Nat.reduceAdd, Nat.reduceMul, Nat.reduceSub, Nat.reduceBEq, reduceCtorEq, Int.reduceBNe, Int.reduceBEq, Int.reduceLT, Int.reduceLE, Int.reduceGT, Int.reduceGE, ne_eq, eq_self, hF, hl])
      | with_reducible (first | refine awp_seq_k fun _ _ => ?_ | refine awp_region [1000004] ?_ | refine awp_block ?_)
      | go_step)
    try rfl

set_option maxHeartbeats 2000000 in
theorem cloneDl_ok (rows : List (List PV)) (hl : rows.length ≤ 100000000) : FnOK Try.prog 45 [.sl 3 rows] ⟨.sl 3 rows, some 54⟩ := by
  refine fn_ok Try.func45 (by kernel_rfl) rfl (by rw [Try.ntmps45]; exact of_decide_eq_true rfl) (fun F hF => ?_)
  rw [Try.ntmps45] at hF
  rw [Try.results45]
  repeat (first
    | (with_reducible (first | refine sops_go ?_ | refine headW_end ?_ | refine sops_end ?_ | refine awp_if ?_ | refine awp_skip ?_ | refine awp_ret ?_ | refine awp_exit ?_); simp only [go_sem, ↓reduceIte, Nat.reduceEqDiff, Nat.reduceLT, Nat.reduceLeDiff, Nat.reduceAdd, Nat.reduceMul, Nat.reduceSub, Nat.reduceBEq, reduceCtorEq, Int.reduceBNe, Int.reduceBEq, Int.reduceLT, Int.reduceLE, Int.reduceGT, Int.reduceGE, ne_eq, eq_self, hF])
    | with_reducible (first | refine awp_seq_k fun _ _ => ?_ | refine awp_region [1000004] ?_ | refine awp_block ?_)
    | go_step)
  refine hand_sliceNil (e := 54) rfl rfl (by decide) Try.underlying24 rfl (fun b hb => ?_)
  simp only [go_sem, ↓reduceIte, Nat.reduceEqDiff, Nat.reduceLT, Nat.reduceLeDiff, Nat.reduceAdd, Nat.reduceMul, Nat.reduceSub, Nat.reduceBEq, reduceCtorEq, Int.reduceBNe, Int.reduceBEq, Int.reduceLT, Int.reduceLE, Int.reduceGT, Int.reduceGE, ne_eq, eq_self, hF]
  cases b with
  | true =>
    obtain rfl := hb rfl
    repeat (first
      | ((refine awp_nil (c := .ret) 2 3 54 (by rw [hF]; decide) (by first | rfl | simp only [Av.look]; rfl) ?_); simp only [go_sem, ↓reduceIte, Nat.reduceEqDiff, Nat.reduceLT, Nat.reduceLeDiff, Nat.reduceAdd, Nat.reduceMul, Nat.reduceSub, Nat.reduceBEq, reduceCtorEq, Int.reduceBNe, Int.reduceBEq, Int.reduceLT, Int.reduceLE, Int.reduceGT, Int.reduceGE, ne_eq, eq_self, hF])
      | (with_reducible (first | refine sops_go ?_ | refine headW_end ?_ | refine sops_end ?_ | refine awp_if ?_ | refine awp_skip ?_ | refine awp_ret ?_ | refine awp_exit ?_); simp only [go_sem, ↓reduceIte, Nat.reduceEqDiff, Nat.reduceLT, Nat.reduceLeDiff, Nat.reduceAdd, Nat.reduceMul, Nat.reduceSub, Nat.reduceBEq, reduceCtorEq, Int.reduceBNe, Int.reduceBEq, Int.reduceLT, Int.reduceLE, Int.reduceGT, Int.reduceGE, ne_eq, eq_self, hF])
      | with_reducible (first | refine awp_seq_k fun _ _ => ?_ | refine awp_region [1000004] ?_ | refine awp_block ?_)
      | go_step)
  | false =>
    repeat (first
      | (with_reducible (first | refine sops_go ?_ | refine headW_end ?_ | refine sops_end ?_ | refine awp_if ?_ | refine awp_skip ?_ | refine awp_ret ?_ | refine awp_exit ?_); simp only [go_sem, ↓reduceIte, Nat.reduceEqDiff, Nat.reduceLT, Nat.reduceLeDiff, Nat.reduceAdd, Nat.reduceMul, Nat.reduceSub, Nat.reduceBEq, reduceCtorEq, Int.reduceBNe, Int.reduceBEq, Int.reduceLT, Int.reduceLE, Int.reduceGT, Int.reduceGE, ne_eq, eq_self, hF, hl])
      | with_reducible (first | refine awp_seq_k fun _ _ => ?_ | refine awp_region [1000004] ?_ | refine awp_block ?_)
      | go_step)
    try rfl

/- Sorts of lists of one breach or none. -/
attribute [local go_sem] Try.underlying127 Try.underlying151 Try.underlying5
set_option maxHeartbeats 2000000 in
theorem len64_0  : FnOK Try.prog 110 [.v (.int .u64 0)] ⟨iv 0, none⟩ := by
  refine fn_ok Try.func110 (by kernel_rfl) rfl (by rw [Try.ntmps110]; exact of_decide_eq_true rfl) (fun F hF => ?_)
  rw [Try.ntmps110] at hF
  rw [Try.results110]
  repeat (first
    | (with_reducible (first | refine sops_go ?_ | refine headW_end ?_ | refine sops_end ?_ | refine awp_if ?_ | refine awp_skip ?_ | refine awp_ret ?_ | refine awp_exit ?_); simp only [go_sem, ↓reduceIte, Nat.reduceEqDiff, Nat.reduceLT, Nat.reduceLeDiff, Nat.reduceAdd, Nat.reduceMul, Nat.reduceSub, Nat.reduceBEq, reduceCtorEq, Int.reduceBNe, Int.reduceBEq, Int.reduceLT, Int.reduceLE, Int.reduceGT, Int.reduceGE, ne_eq, eq_self, hF])
    | with_reducible (first | refine awp_seq_k fun _ _ => ?_ | refine awp_region [] ?_ | refine awp_block ?_)
    | go_step)
  refine ⟨Try.underlying9, 0, rfl, ?_⟩
  repeat (first
    | (with_reducible (first | refine sops_go ?_ | refine headW_end ?_ | refine sops_end ?_ | refine awp_if ?_ | refine awp_skip ?_ | refine awp_ret ?_ | refine awp_exit ?_); simp only [go_sem, ↓reduceIte, Nat.reduceEqDiff, Nat.reduceLT, Nat.reduceLeDiff, Nat.reduceAdd, Nat.reduceMul, Nat.reduceSub, Nat.reduceBEq, reduceCtorEq, Int.reduceBNe, Int.reduceBEq, Int.reduceLT, Int.reduceLE, Int.reduceGT, Int.reduceGE, ne_eq, eq_self, hF])
    | with_reducible (first | refine awp_seq_k fun _ _ => ?_ | refine awp_region [] ?_ | refine awp_block ?_)
    | go_step)
  trace_state
  try rfl

set_option maxHeartbeats 2000000 in
theorem len_0  : FnOK Try.prog 78 [.v (.int .u64 0)] ⟨iv 0, none⟩ := by
  refine fn_ok Try.func78 (by kernel_rfl) rfl (by rw [Try.ntmps78]; exact of_decide_eq_true rfl) (fun F hF => ?_)
  rw [Try.ntmps78] at hF
  rw [Try.results78]
  repeat (first
    | (with_reducible (first | refine sops_go ?_ | refine headW_end ?_ | refine sops_end ?_ | refine awp_if ?_ | refine awp_skip ?_ | refine awp_ret ?_ | refine awp_exit ?_); simp only [go_sem, ↓reduceIte, Nat.reduceEqDiff, Nat.reduceLT, Nat.reduceLeDiff, Nat.reduceAdd, Nat.reduceMul, Nat.reduceSub, Nat.reduceBEq, reduceCtorEq, Int.reduceBNe, Int.reduceBEq, Int.reduceLT, Int.reduceLE, Int.reduceGT, Int.reduceGE, ne_eq, eq_self, hF])
    | with_reducible (first | refine awp_seq_k fun _ _ => ?_ | refine awp_region [] ?_ | refine awp_block ?_)
    | go_step)
  refine ⟨_, len64_0, ?_⟩
  simp only [go_sem, ↓reduceIte, Nat.reduceEqDiff, Nat.reduceLT, Nat.reduceLeDiff, Nat.reduceAdd, Nat.reduceMul, Nat.reduceSub, Nat.reduceBEq, reduceCtorEq, Int.reduceBNe, Int.reduceBEq, Int.reduceLT, Int.reduceLE, Int.reduceGT, Int.reduceGE, ne_eq, eq_self, hF]
  repeat (first
    | (with_reducible (first | refine sops_go ?_ | refine headW_end ?_ | refine sops_end ?_ | refine awp_if ?_ | refine awp_skip ?_ | refine awp_ret ?_ | refine awp_exit ?_); simp only [go_sem, ↓reduceIte, Nat.reduceEqDiff, Nat.reduceLT, Nat.reduceLeDiff, Nat.reduceAdd, Nat.reduceMul, Nat.reduceSub, Nat.reduceBEq, reduceCtorEq, Int.reduceBNe, Int.reduceBEq, Int.reduceLT, Int.reduceLE, Int.reduceGT, Int.reduceGE, ne_eq, eq_self, hF])
    | with_reducible (first | refine awp_seq_k fun _ _ => ?_ | refine awp_region [] ?_ | refine awp_block ?_)
    | go_step)

set_option maxHeartbeats 2000000 in
theorem isort_ok (rows : List (List PV)) (n : Int) (c : FuncId) (h0 : 0 ≤ n) (h1 : n ≤ 1) : FnOK Try.prog 101 [.sl 5 rows, iv 0, iv n, .fnv c []] ⟨.tup [], none⟩ := by
  have hd : decide ((1 : Int) < n) = false := decide_eq_false (by omega)
  have hw : IntKind.i64.wrap ((0 : Int) + 1) = 1 := rfl
  refine fn_ok Try.func101 (by kernel_rfl) rfl (by rw [Try.ntmps101]; exact of_decide_eq_true rfl) (fun F hF => ?_)
  rw [Try.ntmps101] at hF
  rw [Try.results101]
  repeat (first
    | (with_reducible (first | refine sops_go ?_ | refine headW_end ?_ | refine sops_end ?_ | refine awp_if ?_ | refine awp_skip ?_ | refine awp_ret ?_ | refine awp_exit ?_); simp only [go_sem, ↓reduceIte, Nat.reduceEqDiff, Nat.reduceLT, Nat.reduceLeDiff, Nat.reduceAdd, Nat.reduceMul, Nat.reduceSub, Nat.reduceBEq, reduceCtorEq, Int.reduceBNe, Int.reduceBEq, Int.reduceLT, Int.reduceLE, Int.reduceGT, Int.reduceGE, ne_eq, eq_self, hF, hw])
    | ((with_reducible refine headW_go ?_); simp only [go_sem, ↓reduceIte, Nat.reduceEqDiff, Nat.reduceLT, Nat.reduceLeDiff, Nat.reduceAdd, Nat.reduceMul, Nat.reduceSub, Nat.reduceBEq, reduceCtorEq, Int.reduceBNe, Int.reduceBEq, Int.reduceLT, Int.reduceLE, Int.reduceGT, Int.reduceGE, ne_eq, eq_self, hF, hw, hbx])
    | with_reducible refine awp_seq_k fun _ _ => ?_
    | (refine awp_draw' (id := 4) [] 17 (by kernel_rfl) (by kernel_rfl) rfl rfl (fun bx0 hbx => ?_); try dsimp only [List.take, List.drop])
    | (refine awp_draw' (id := 6) [] 15 (by kernel_rfl) (by kernel_rfl) rfl rfl (fun bx0 hbx => ?_); try dsimp only [List.take, List.drop])
    | with_reducible (first | refine awp_region [] ?_ | refine awp_block ?_)
    | go_step)
  refine awp_loop_by (ι := {k : Nat // k ≤ 0}) (fun _ σ => ⟨keepS [0, 1, 2, 3, 8] σ.slot, [], [], σ.ext⟩) (fun _ => 0) ⟨0, Nat.le_refl _⟩ (sub_mk ?_) (fun R hR k => ?_)
  · simp only [go_sem, ↓reduceIte, Nat.reduceEqDiff, Nat.reduceLT, Nat.reduceLeDiff, Nat.reduceAdd, Nat.reduceMul, Nat.reduceSub, Nat.reduceBEq, reduceCtorEq, Int.reduceBNe, Int.reduceBEq, Int.reduceLT, Int.reduceLE, Int.reduceGT, Int.reduceGE, ne_eq, eq_self, hF]
    try trivial
  repeat (first
    | (with_reducible (first | refine sops_go ?_ | refine headW_end ?_ | refine sops_end ?_ | refine awp_if ?_ | refine awp_skip ?_ | refine awp_ret ?_ | refine awp_exit ?_); simp only [go_sem, ↓reduceIte, Nat.reduceEqDiff, Nat.reduceLT, Nat.reduceLeDiff, Nat.reduceAdd, Nat.reduceMul, Nat.reduceSub, Nat.reduceBEq, reduceCtorEq, Int.reduceBNe, Int.reduceBEq, Int.reduceLT, Int.reduceLE, Int.reduceGT, Int.reduceGE, ne_eq, eq_self, hF, hd])
    | ((with_reducible refine headW_go ?_); simp only [go_sem, ↓reduceIte, Nat.reduceEqDiff, Nat.reduceLT, Nat.reduceLeDiff, Nat.reduceAdd, Nat.reduceMul, Nat.reduceSub, Nat.reduceBEq, reduceCtorEq, Int.reduceBNe, Int.reduceBEq, Int.reduceLT, Int.reduceLE, Int.reduceGT, Int.reduceGE, ne_eq, eq_self, hF, hd, hbx])
    | with_reducible refine awp_seq_k fun _ _ => ?_
    | (refine awp_draw' (id := 4) [] 17 (by kernel_rfl) (by kernel_rfl) rfl rfl (fun bx0 hbx => ?_); try dsimp only [List.take, List.drop])
    | (refine awp_draw' (id := 6) [] 15 (by kernel_rfl) (by kernel_rfl) rfl rfl (fun bx0 hbx => ?_); try dsimp only [List.take, List.drop])
    | with_reducible (first | refine awp_region [] ?_ | refine awp_block ?_)
    | go_step)

set_option maxHeartbeats 2000000 in
theorem pdq_ok (rows : List (List PV)) (n l : Int) (c : FuncId) (h0 : 0 ≤ n) (h1 : n ≤ 1) : FnOK Try.prog 77 [.sl 5 rows, iv 0, iv n, iv l, .fnv c []] ⟨.tup [], none⟩ := by
  have hd : decide (n ≤ (12 : Int)) = true := decide_eq_true (by omega)
  have hw : IntKind.i64.wrap (n - 0) = n := by rw [IntKind.wrap_i64]; omega
  refine fn_ok Try.func77 (by kernel_rfl) rfl (by rw [Try.ntmps77]; exact of_decide_eq_true rfl) (fun F hF => ?_)
  rw [Try.ntmps77] at hF
  rw [Try.results77]
  repeat (first
    | (with_reducible (first | refine sops_go ?_ | refine headW_end ?_ | refine sops_end ?_ | refine awp_if ?_ | refine awp_skip ?_ | refine awp_ret ?_ | refine awp_exit ?_); simp only [go_sem, ↓reduceIte, Nat.reduceEqDiff, Nat.reduceLT, Nat.reduceLeDiff, Nat.reduceAdd, Nat.reduceMul, Nat.reduceSub, Nat.reduceBEq, reduceCtorEq, Int.reduceBNe, Int.reduceBEq, Int.reduceLT, Int.reduceLE, Int.reduceGT, Int.reduceGE, ne_eq, eq_self, hF, hw])
    | ((with_reducible refine headW_go ?_); simp only [go_sem, ↓reduceIte, Nat.reduceEqDiff, Nat.reduceLT, Nat.reduceLeDiff, Nat.reduceAdd, Nat.reduceMul, Nat.reduceSub, Nat.reduceBEq, reduceCtorEq, Int.reduceBNe, Int.reduceBEq, Int.reduceLT, Int.reduceLE, Int.reduceGT, Int.reduceGE, ne_eq, eq_self, hF, hw, hbx])
    | with_reducible refine awp_seq_k fun _ _ => ?_
    | (refine awp_draw' (id := 17) [] 17 (by kernel_rfl) (by kernel_rfl) rfl rfl (fun bx0 hbx => ?_); try dsimp only [List.take, List.drop])
    | with_reducible (first | refine awp_region [] ?_ | refine awp_block ?_)
    | go_step)
  refine awp_loop_by (ι := {k : Nat // k ≤ 0}) (fun _ σ => ⟨keepS [0, 1, 2, 3, 4] σ.slot, [], [], σ.ext⟩) (fun _ => 0) ⟨0, Nat.le_refl _⟩ (sub_mk ?_) (fun R hR k => ?_)
  · simp only [go_sem, ↓reduceIte, Nat.reduceEqDiff, Nat.reduceLT, Nat.reduceLeDiff, Nat.reduceAdd, Nat.reduceMul, Nat.reduceSub, Nat.reduceBEq, reduceCtorEq, Int.reduceBNe, Int.reduceBEq, Int.reduceLT, Int.reduceLE, Int.reduceGT, Int.reduceGE, ne_eq, eq_self, hF]
    try trivial
  repeat (first
    | (with_reducible (first | refine sops_go ?_ | refine headW_end ?_ | refine sops_end ?_ | refine awp_if ?_ | refine awp_skip ?_ | refine awp_ret ?_ | refine awp_exit ?_); simp only [go_sem, ↓reduceIte, Nat.reduceEqDiff, Nat.reduceLT, Nat.reduceLeDiff, Nat.reduceAdd, Nat.reduceMul, Nat.reduceSub, Nat.reduceBEq, reduceCtorEq, Int.reduceBNe, Int.reduceBEq, Int.reduceLT, Int.reduceLE, Int.reduceGT, Int.reduceGE, ne_eq, eq_self, hF, hd, hw])
    | ((with_reducible refine headW_go ?_); simp only [go_sem, ↓reduceIte, Nat.reduceEqDiff, Nat.reduceLT, Nat.reduceLeDiff, Nat.reduceAdd, Nat.reduceMul, Nat.reduceSub, Nat.reduceBEq, reduceCtorEq, Int.reduceBNe, Int.reduceBEq, Int.reduceLT, Int.reduceLE, Int.reduceGT, Int.reduceGE, ne_eq, eq_self, hF, hd, hw, hbx])
    | with_reducible refine awp_seq_k fun _ _ => ?_
    | (refine awp_draw' (id := 17) [] 17 (by kernel_rfl) (by kernel_rfl) rfl rfl (fun bx0 hbx => ?_); try dsimp only [List.take, List.drop])
    | with_reducible (first | refine awp_region [] ?_ | refine awp_block ?_)
    | go_step)
  refine ⟨_, isort_ok rows n c h0 h1, ?_⟩
  simp only [go_sem, ↓reduceIte, Nat.reduceEqDiff, Nat.reduceLT, Nat.reduceLeDiff, Nat.reduceAdd, Nat.reduceMul, Nat.reduceSub, Nat.reduceBEq, reduceCtorEq, Int.reduceBNe, Int.reduceBEq, Int.reduceLT, Int.reduceLE, Int.reduceGT, Int.reduceGE, ne_eq, eq_self, hF]
  repeat (first
    | (with_reducible (first | refine sops_go ?_ | refine headW_end ?_ | refine sops_end ?_ | refine awp_if ?_ | refine awp_skip ?_ | refine awp_ret ?_ | refine awp_exit ?_); simp only [go_sem, ↓reduceIte, Nat.reduceEqDiff, Nat.reduceLT, Nat.reduceLeDiff, Nat.reduceAdd, Nat.reduceMul, Nat.reduceSub, Nat.reduceBEq, reduceCtorEq, Int.reduceBNe, Int.reduceBEq, Int.reduceLT, Int.reduceLE, Int.reduceGT, Int.reduceGE, ne_eq, eq_self, hF])
    | ((with_reducible refine headW_go ?_); simp only [go_sem, ↓reduceIte, Nat.reduceEqDiff, Nat.reduceLT, Nat.reduceLeDiff, Nat.reduceAdd, Nat.reduceMul, Nat.reduceSub, Nat.reduceBEq, reduceCtorEq, Int.reduceBNe, Int.reduceBEq, Int.reduceLT, Int.reduceLE, Int.reduceGT, Int.reduceGE, ne_eq, eq_self, hF, hbx])
    | with_reducible refine awp_seq_k fun _ _ => ?_
    | (refine awp_draw' (id := 17) [] 17 (by kernel_rfl) (by kernel_rfl) rfl rfl (fun bx0 hbx => ?_); try dsimp only [List.take, List.drop])
    | with_reducible (first | refine awp_region [] ?_ | refine awp_block ?_)
    | go_step)

set_option maxHeartbeats 2000000 in
theorem sort0 (c : FuncId) : FnOK Try.prog 53 [.sl 5 [], .fnv c []] ⟨.tup [], none⟩ := by
  refine fn_ok Try.func53 (by kernel_rfl) rfl (by rw [Try.ntmps53]; exact of_decide_eq_true rfl) (fun F hF => ?_)
  rw [Try.ntmps53] at hF
  rw [Try.results53]
  repeat (first
    | (with_reducible (first | refine sops_go ?_ | refine headW_end ?_ | refine sops_end ?_ | refine awp_if ?_ | refine awp_skip ?_ | refine awp_ret ?_ | refine awp_exit ?_); simp only [go_sem, ↓reduceIte, Nat.reduceEqDiff, Nat.reduceLT, Nat.reduceLeDiff, Nat.reduceAdd, Nat.reduceMul, Nat.reduceSub, Nat.reduceBEq, reduceCtorEq, Int.reduceBNe, Int.reduceBEq, Int.reduceLT, Int.reduceLE, Int.reduceGT, Int.reduceGE, ne_eq, eq_self, hF])
    | with_reducible (first | refine awp_seq_k fun _ _ => ?_ | refine awp_region [] ?_ | refine awp_block ?_)
    | go_step)
  refine ⟨_, len_0, ?_⟩
  simp only [go_sem, ↓reduceIte, Nat.reduceEqDiff, Nat.reduceLT, Nat.reduceLeDiff, Nat.reduceAdd, Nat.reduceMul, Nat.reduceSub, Nat.reduceBEq, reduceCtorEq, Int.reduceBNe, Int.reduceBEq, Int.reduceLT, Int.reduceLE, Int.reduceGT, Int.reduceGE, ne_eq, eq_self, hF]
  repeat (first
    | (with_reducible (first | refine sops_go ?_ | refine headW_end ?_ | refine sops_end ?_ | refine awp_if ?_ | refine awp_skip ?_ | refine awp_ret ?_ | refine awp_exit ?_); simp only [go_sem, ↓reduceIte, Nat.reduceEqDiff, Nat.reduceLT, Nat.reduceLeDiff, Nat.reduceAdd, Nat.reduceMul, Nat.reduceSub, Nat.reduceBEq, reduceCtorEq, Int.reduceBNe, Int.reduceBEq, Int.reduceLT, Int.reduceLE, Int.reduceGT, Int.reduceGE, ne_eq, eq_self, hF])
    | with_reducible (first | refine awp_seq_k fun _ _ => ?_ | refine awp_region [] ?_ | refine awp_block ?_)
    | go_step)
  refine ⟨_, pdq_ok [] 0 0 c (by decide) (by decide), ?_⟩
  simp only [go_sem, ↓reduceIte, Nat.reduceEqDiff, Nat.reduceLT, Nat.reduceLeDiff, Nat.reduceAdd, Nat.reduceMul, Nat.reduceSub, Nat.reduceBEq, reduceCtorEq, Int.reduceBNe, Int.reduceBEq, Int.reduceLT, Int.reduceLE, Int.reduceGT, Int.reduceGE, ne_eq, eq_self, hF]
  repeat (first
    | (with_reducible (first | refine sops_go ?_ | refine headW_end ?_ | refine sops_end ?_ | refine awp_if ?_ | refine awp_skip ?_ | refine awp_ret ?_ | refine awp_exit ?_); simp only [go_sem, ↓reduceIte, Nat.reduceEqDiff, Nat.reduceLT, Nat.reduceLeDiff, Nat.reduceAdd, Nat.reduceMul, Nat.reduceSub, Nat.reduceBEq, reduceCtorEq, Int.reduceBNe, Int.reduceBEq, Int.reduceLT, Int.reduceLE, Int.reduceGT, Int.reduceGE, ne_eq, eq_self, hF])
    | with_reducible (first | refine awp_seq_k fun _ _ => ?_ | refine awp_region [] ?_ | refine awp_block ?_)
    | go_step)

end Go.Proofs.Ytkdigdnacggknaa
/- The sort of breaches, of whatever number, by hand: the library's contract over a list that the frame holds alone. -/
namespace Go.Proofs.Ytkdigdnacggknaa
open Go.RowKit
open Nd Rc Mo
open Av
open Go.Sort
set_option maxRecDepth 100000
theorem cmpI_zero {x y : Int} : cmpI x y = 0 ↔ x = y := by
  unfold cmpI; split
  · constructor <;> intro h <;> omega
  · split <;> constructor <;> intro h <;> omega
theorem cmpI_neg {x y : Int} : cmpI x y < 0 ↔ x < y := by
  unfold cmpI; split
  · constructor <;> intro h <;> omega
  · split <;> constructor <;> intro h <;> omega
theorem or_lex : ∀ {l m : List Int}, l.length = m.length → decide (orI (List.zipWith cmpI l m) < 0) = lexB l m
  | [], [], _ => rfl
  | [], _ :: _, h => by cases h
  | _ :: _, [], h => by cases h
  | x :: l, y :: m, h => by
    rw [List.zipWith_cons_cons]
    unfold orI lexB
    by_cases e : x = y
    · rw [if_pos (cmpI_zero.2 e), if_pos e]; exact or_lex (by simpa using h)
    · rw [if_neg (fun h => e (cmpI_zero.1 h)), if_neg e]
      exact decide_eq_decide.2 cmpI_neg
theorem lexB_ntrans {l m k : List Int} (h0 : l.length = m.length) (h1 : lexB l m = false) (h2 : lexB m k = false) : lexB l k = false := by
  by_cases e : l = m
  · rw [e]; exact h2
  · rw [Bool.eq_false_iff]
    intro h
    rw [lexB_trans (lexB_total h0 h1 e) h] at h2
    cases h2
def brCf (a b : Br) : Int := orI [cmpI a.fl b.fl, cmpI a.fr b.fr, cmpI a.fm b.fm, cmpI a.tt b.tt, cmpI (a.sl.headD 0) (b.sl.headD 0)]
theorem brCf_lt (a b : Br) : decide (brCf a b < 0) = a.lt b := or_lex (l := a.key) (m := b.key) rfl
theorem swo_br {α : Type} (f : α → Br) : SWO (ltOf fun i j => brCf (f i) (f j)) where
  irrefl x := by unfold ltOf; rw [brCf_lt]; exact lexB_irrefl _
  trans x y z h1 h2 := by unfold ltOf at *; rw [brCf_lt] at *; exact lexB_trans h1 h2
  ntrans x y z h1 h2 := by unfold ltOf at *; rw [brCf_lt] at *; exact lexB_ntrans (l := (f x).key) (m := (f y).key) rfl h1 h2
section
variable {α : Type} [Inhabited α]
theorem heap_sortK {w : World} {g k m : Nat} {os : Array Obj} {cur : Array Value} {e : TypeId} {fr : Nat × Nat} (enc : α → List Value) (d : Array α) (hb : w.heap[g]? = some (.cells cur e fr)) :
    (sortWorldK enc k w g 0 m d os).heap[g]? = some (.cells (putCells id 0 (flatK enc k d) cur) e fr) := by
  have hg : g < w.heap.size := (Array.getElem?_eq_some_iff.1 hb).1
  unfold sortWorldK putRowK
  rw [heap_grow_old _ _ (by simpa using hg)]
  simp [putRow, mapBlock, Sort.ahead, Array.getElem?_modify, hb, onCells]
theorem grownBy_sortK {w : World} {g k m : Nat} {os : Array Obj} (enc : α → List Value) (d : Array α) : w.grownBy (sortWorldK enc k w g 0 m d os) (some g) := by
  unfold sortWorldK putRowK
  refine ⟨rfl, rfl, rfl, by simp, fun j hj hne => ?_⟩
  rw [heap_grow_old _ _ (by simpa using hj)]
  have : g ≠ j := fun e => hne (by rw [e])
  simp [putRow, mapBlock, Sort.ahead, Array.getElem?_modify, this]
theorem put_get {cur F : Array Value} {j : Nat} (hj : j < F.size) (hs : F.size ≤ cur.size) : (putCells id 0 F cur)[j]? = some F[j]! := by
  have : j < cur.size := by omega
  simp [putCells, hj, this]
end
/-- The cells of a row of five. -/
theorem five {b : Br} {us : List Value} {R : Reader} (h : RepL R b.pv us) (hne : b.sl ≠ []) : ∃ g o n c, us = [.int .i64 b.fl, .int .i64 b.fr, .int .i64 b.fm, .int .i64 b.tt, .slice (some ⟨g, o, none⟩) (n + 1) c] ∧ R ⟨g, o, none⟩ = some (.int .i64 (b.sl.headD 0)) := by
  unfold Br.pv at h
  cases h with | cons h0 h =>
  cases h with | cons h1 h =>
  cases h with | cons h2 h =>
  cases h with | cons h3 h =>
  cases h with | cons h4 h =>
  cases h
  cases h0; cases h1; cases h2; cases h3
  generalize hp : PV.sl 1 (b.sl.map fun x => [ip x]) = p at h4
  cases h4 with
  | v => cases hp
  | sl sz rows A cap f hsz hA hf hc =>
    injection hp with e1 e2
    subst e1
    subst e2
    cases hs : b.sl with
    | nil => exact absurd hs hne
    | cons s l =>
      rw [hs] at hA hf
      rcases hA with hA | ⟨g, o, rfl, hr⟩
      · cases hA
      · have q1 := hr 0 [ip s] 0 (ip s) rfl rfl
        have q2 := hf 0 [ip s] 0 (ip s) rfl rfl
        have q3 : f 0 0 = .int .i64 s := (fun (u : Value) (h : RepP R (.v (.int .i64 s)) u) => show u = .int .i64 s by cases h; rfl) _ q2
        rw [q3] at q1
        refine ⟨g, o, l.length, cap, ?_, by simpa using q1⟩
        simp

section
variable {w : World} {R : Reader} {g m : Nat} {xs : List Value} {L : List Br}
theorem extract_all {α : Type} (a : Array α) (n : Nat) (h : a.size = n) : a.extract 0 n = a := by subst h; exact Array.extract_size
/-- Row i's cells. -/
def encB (xs : List Value) (m : Nat) (i : Fin (m + 1)) : List Value := (xs.drop (i.val * 5)).take 5
theorem encB_len (hx : xs.length = (m + 1) * 5) (i : Fin (m + 1)) : (encB xs m i).length = 5 := by
  have := i.isLt
  unfold encB; rw [List.length_take, List.length_drop, hx]; omega
theorem encB_get (i : Fin (m + 1)) {j : Nat} (hj : j < 5) : (encB xs m i)[j]? = xs[i.val * 5 + j]? := by
  unfold encB; rw [List.getElem?_take, if_pos hj, List.getElem?_drop]
def brOf (L : List Br) (hL : L.length = m + 1) (i : Fin (m + 1)) : Br := L[i.val]'(by have := i.isLt; omega)
theorem brOf_mem (hL : L.length = m + 1) (i : Fin (m + 1)) : brOf L hL i ∈ L := List.getElem_mem _
theorem pv_len (b : Br) : b.pv.length = 5 := rfl
theorem encB_rep (hL : L.length = m + 1) (hrd : RowsRd R 5 xs (L.map Br.pv)) (hx : xs.length = (m + 1) * 5) (i : Fin (m + 1)) : RepL R (brOf L hL i).pv (encB xs m i) := by
  have hk : (L.map Br.pv)[i.val]? = some (brOf L hL i).pv := by rw [List.getElem?_map, List.getElem?_eq_getElem (by have := i.isLt; omega)]; rfl
  refine RepL.of (by rw [encB_len hx, pv_len]) fun j p u hj hu => ?_
  have hj5 : j < 5 := by have := (List.getElem?_eq_some_iff.1 hj).1; rw [pv_len] at this; exact this
  obtain ⟨x, h1, h2⟩ := hrd.rd _ _ _ _ hk hj
  rw [encB_get i hj5] at hu
  rw [h1] at hu
  cases hu
  exact h2
def idxA (m : Nat) : Array (Fin (m + 1)) := Array.ofFn fun i => i
theorem idxA_size : (idxA m).size = m + 1 := by simp [idxA]
theorem idxA_get {j : Nat} (h : j < m + 1) : (idxA m)[j]! = ⟨j, h⟩ := by
  rw [getElem!_pos _ _ (by rw [idxA_size]; exact h)]; simp [idxA]
theorem idxA_map (hL : L.length = m + 1) : (idxA m).toList.map (brOf L hL) = L := by
  apply List.ext_getElem
  · simp [idxA, hL]
  · intro i h1 h2
    have e : (idxA m).toList[i]'(by rw [Array.length_toList, idxA_size]; omega) = ⟨i, by omega⟩ := by unfold idxA; rw [Array.getElem_toList, Array.getElem_ofFn]
    rw [List.getElem_map, e]
    rfl
theorem getB_of_some {l : List Value} {j : Nat} {u : Value} (h : l[j]? = some u) : l[j]! = u := by
  rw [List.getElem!_eq_getElem?_getD, h]; rfl
theorem flat_idx (hx : xs.length = (m + 1) * 5) {j : Nat} (hj : j < (m + 1) * 5) : some (flatK (encB xs m) 5 (idxA m))[j]! = xs[j]? := by
  rw [get_flatK _ _ _ _ (by rw [idxA_size]; exact hj), idxA_get (j := j / 5) (by omega)]
  have h1 : j % 5 < 5 := Nat.mod_lt _ (by decide)
  have h2 := encB_get (xs := xs) (m := m) ⟨j / 5, by omega⟩ h1
  have h3 : (⟨j / 5, by omega⟩ : Fin (m + 1)).val * 5 + j % 5 = j := by show j / 5 * 5 + j % 5 = j; omega
  rw [h3, List.getElem?_eq_getElem (l := xs) (i := j) (by omega)] at h2
  rw [getB_of_some h2, List.getElem?_eq_getElem (l := xs) (i := j) (by omega)]
theorem flatB_get (hx : xs.length = (m + 1) * 5) (d : Array (Fin (m + 1))) {k j : Nat} (hk : k < d.size) (hj : j < 5) : (flatK (encB xs m) 5 d).toList[k * 5 + j]? = xs[(d[k]!).val * 5 + j]? := by
  have hlt : k * 5 + j < d.size * 5 := by omega
  have e1 : (k * 5 + j) / 5 = k := by omega
  have e2 : (k * 5 + j) % 5 = j := by omega
  have hd := (d[k]!).isLt
  have h0 : (flatK (encB xs m) 5 d)[k * 5 + j]! = (encB xs m d[k]!)[j]! := by rw [get_flatK _ _ _ _ hlt, e1, e2]
  have h2 := encB_get (xs := xs) (m := m) d[k]! hj
  rw [List.getElem?_eq_getElem (l := xs) (by omega)] at h2
  rw [getB_of_some h2, getElem!_pos _ _ (by rw [size_flatK]; exact hlt)] at h0
  rw [Array.getElem?_toList, Array.getElem?_eq_getElem (by rw [size_flatK]; exact hlt), h0, List.getElem?_eq_getElem (by omega)]
end

set_option maxHeartbeats 2000000 in
theorem sort_any (L : List Br) (w : World) (g cap : Nat) (xs : List Value) (R : Reader) (hR : ∀ p v, R p = some v → w.cell? p = some v ∧ p.block ≠ g) (hrow : RowsOK w 70 5 (some g) (.slice (some ⟨g, 0, none⟩) L.length cap) xs L.length) (hrd : RowsRd R 5 xs (L.map Br.pv)) (hne : ∀ b ∈ L, b.sl ≠ []) (hn : L ≠ []) (hsz : L.length < 4611686018427387904) :
    Calls Try.prog 53 #[.slice (some ⟨g, 0, none⟩) L.length cap, .func (.func 54) #[] #[]] w fun e w' => e = .returned (.tuple #[]) ∧ w.grownBy w' (some g) ∧
      ∃ (L' : List Br) (xs' : List Value), L'.Perm L ∧ (L'.Pairwise fun a b => b.lt a = false) ∧ RowsOK w' 70 5 (some g) (.slice (some ⟨g, 0, none⟩) L.length cap) xs' L'.length ∧ RowsRd R 5 xs' (L'.map Br.pv) := by
  obtain ⟨m, hL⟩ : ∃ m, L.length = m + 1 := ⟨L.length - 1, by cases L with | nil => exact absurd rfl hn | cons => simp⟩
  have hx : xs.length = (m + 1) * 5 := by rw [hrow.len, hL]
  obtain ⟨cap', cur, e0, hb0, hg, hc1, hc2, hc3⟩ := hrow.own
  injection e0 with _ _ e0
  subst e0
  have hgl : g < w.heap.size := (Array.getElem?_eq_some_iff.1 hg).1
  have hfz : ∀ k, w.frozen? ⟨g, k, none⟩ = false := fun k => by simp [World.frozen?, hg]
  have hH : HoldsK (encB xs m) 5 w g 0 (idxA m) := fun j hj => by
    rw [size_flatK, idxA_size] at hj
    have h1 := flat_idx (xs := xs) (m := m) hx hj
    refine ⟨?_, by rw [Nat.zero_add]; exact hfz j⟩
    rw [Nat.zero_add]
    exact hrow.at_ g rfl j _ h1.symm
  have hone : ∀ i, ∀ v ∈ encB xs m i, v.oneCell' = true := fun i => (encB_rep hL hrd hx i).one
  have hcmp : CmpLays Try.prog 54 #[] (encB xs m) 5 (fun i j => brCf (brOf L hL i) (brOf L hL j)) g 0 (idxA m).size w := fun q os dk _ x y => by
    obtain ⟨b1, o1, n1, c1, e1, r1⟩ := five (encB_rep hL hrd hx x) (hne _ (brOf_mem hL x))
    obtain ⟨b2, o2, n2, c2, e2, r2⟩ := five (encB_rep hL hrd hx y) (hne _ (brOf_mem hL y))
    obtain ⟨s1, t1⟩ := hR _ _ r1
    obtain ⟨s2, t2⟩ := hR _ _ r2
    have hc : ∀ (p : Addr) v, w.cell? p = some v → p.block ≠ g → (sortWorldK (encB xs m) 5 w g 0 q dk os).cell? p = some v := fun p v h1 h2 =>
      (World.cell?_of_block (w := w) (a := p) ((grownBy_sortK (encB xs m) dk).block _ (World.block_lt_of_cell? w p h1) (fun e => h2 (by cases e; rfl)))).trans h1
    rw [e1, e2]
    exact brcmp_any _ _ _ _ _ _ _ _ _ _ b1 o1 n1 c1 b2 o2 n2 c2 _ (hc _ _ s1 t1) (hc _ _ s2 t2)
  have eg : ∀ args w, (callFunc 54 args).run Try.prog w = .ok (.enter 54 args) w := enters_of Try.func54 (by kernel_rfl) rfl
  have hcon := AnyQ.slices_SortFunc Try.sortBr 5 Try.isAgg70 Try.sizeOf70 (encB xs m) (encB_len hx) hone (fun i j => brCf (brOf L hL i) (brOf L hL j)) (swo_br (brOf L hL)) 54 #[] g 0 cap (idxA m) w eg hcmp hH hgl (by rw [idxA_size]; omega)
  rw [idxA_size] at hcon
  rw [hL]
  refine hcon.mono ?_
  rintro e w' ⟨rfl, d', q, os, ⟨hp1, _, hp2⟩, hs, rfl⟩
  refine ⟨rfl, grownBy_sortK _ _, d'.toList.map (brOf L hL), (flatK (encB xs m) 5 d').toList, ?_, ?_, ?_, ?_⟩
  · have h1 : d'.size = m + 1 := by rw [hp1, idxA_size]
    have h2 : d'.extract 0 (m + 1) = d' := extract_all _ _ h1
    have h3 : (idxA m).extract 0 (m + 1) = idxA m := extract_all _ _ idxA_size
    rw [h2, h3] at hp2
    have h4 := hp2.map (brOf L hL)
    rw [idxA_map hL] at h4
    exact h4
  · have h1 : d'.size = m + 1 := by rw [hp1, idxA_size]
    rw [List.pairwise_map, List.pairwise_iff_getElem]
    intro i j hi hj hij
    rw [Array.length_toList] at hi hj
    have h2 := hs i j (Nat.zero_le _) hij (by omega)
    unfold ltOf at h2
    rw [brCf_lt, getElem!_pos d' i hi, getElem!_pos d' j hj] at h2
    simpa using h2
  · have h1 : d'.size = m + 1 := by rw [hp1, idxA_size]
    have hlen : (d'.toList.map (brOf L hL)).length = m + 1 := by rw [List.length_map, Array.length_toList, h1]
    rw [hlen]
    refine ⟨?_, by rw [Array.length_toList, size_flatK, h1], fun g' hg' j u hu => ?_⟩
    · rw [hL] at hc1
      exact ⟨cap, _, rfl, hb0, heap_sortK _ _ hg, hc1, hc2, by simp [putCells, hc3]⟩
    · cases hg'
      have hj : j < (flatK (encB xs m) 5 d').size := by have := (List.getElem?_eq_some_iff.1 hu).1; rwa [Array.length_toList] at this
      rw [Array.getElem?_toList] at hu
      have hcs : (flatK (encB xs m) 5 d').size ≤ cur.size := by rw [size_flatK, h1, hc3, ← hL]; exact Nat.mul_le_mul_right _ hc1
      rw [cell_of_row _ g j _ _ (0, 0) (heap_sortK _ _ hg), put_get hj hcs, ← hu, getElem!_pos (flatK (encB xs m) 5 d') j hj, Array.getElem?_eq_getElem hj]
  · refine ⟨fun k row hk => ?_, fun k row j p hk hj => ?_⟩
    · rw [List.getElem?_map] at hk
      obtain ⟨b, _, rfl⟩ := Option.map_eq_some_iff.1 hk
      rfl
    · rw [List.getElem?_map, List.getElem?_map] at hk
      obtain ⟨b, hb, rfl⟩ := Option.map_eq_some_iff.1 hk
      obtain ⟨i, hi, rfl⟩ := Option.map_eq_some_iff.1 hb
      rw [Array.getElem?_toList] at hi
      obtain ⟨hk1, hi2⟩ := Array.getElem?_eq_some_iff.1 hi
      have hj5 : j < 5 := by have := (List.getElem?_eq_some_iff.1 hj).1; rw [pv_len] at this; exact this
      have hk2 : (L.map Br.pv)[i.val]? = some (brOf L hL i).pv := by rw [List.getElem?_map, List.getElem?_eq_getElem (by have := i.isLt; omega)]; rfl
      obtain ⟨x, h2, h3⟩ := hrd.rd _ _ _ _ hk2 hj
      refine ⟨x, ?_, h3⟩
      rw [flatB_get hx d' hk1 hj5, getElem!_pos d' k hk1, hi2]
      exact h2

section
variable {n d : Nat} {σ : Av.St} {o : Oper} {K : Av.St → Prop}
/-- The sort, by hand. -/
theorem hand_sortBr {x : Operand} {ats : Array TypeId} {E0 : Ext} {q : Option Nat} {V : Value} {xs : List Value} {L : List Br} (ho : o.op = .call { callee := .value (.func 53), args := #[x, .func 54], argTypes := ats }) (hd : o.dst = some d) (hdn : d < n)
    (hE : σ.ext = E0.and (rowsE 70 5 q V xs (L.map Br.pv))) (hx : evo (Av.look σ.slot) x = some (.v V)) (hne : ∀ b ∈ L, b.sl ≠ []) (hsz : L.length ≤ 1000000000)
    (h : ∀ (L' : List Br) (xs' : List Value), L'.Perm L → (L'.Pairwise fun a b => b.lt a = false) → K (({ σ with ext := E0.and (rowsE 70 5 q V xs' (L'.map Br.pv)) } : Av.St).put d (.tup []))) : Hand Try.prog n σ o K := by
  refine hand_call hd fun F γ a w hF hr => ?_
  have hext := hr.exth
  rw [hE] at hext
  obtain ⟨h0, hrow, hdis⟩ := hext
  have hrd := hr.extr
  rw [hE] at hrd
  have hrow : RowsOK w 70 5 q V xs (L.map Br.pv).length := hrow
  rw [List.length_map] at hrow
  have eV : a.eval x = V := eval_raw hr hx
  have hfoot : ∀ b, q = some b → F.w0.heap.size ≤ b ∧ b < w.heap.size := fun b hb => ⟨(hr.extf b (.inl (by rw [hE]; exact .inr hb))).1, (hr.extf b (.inl (by rw [hE]; exact .inr hb))).2.1⟩
  refine ⟨53, #[a.eval x, .func (.func 54) #[] #[]], ?_, ?_⟩
  · have henter : Av.Enters Try.prog 53 := ⟨Try.f53, _, Try.func53, by kernel_rfl, rfl⟩
    have hf : ∀ k, a.eval (.func k) = .func (.func k) #[] #[] := fun _ => rfl
    simp [execOp, ho, resolve, hf, Deferred.ofValue, invoke, run_callFunc henter]
  rw [eV]
  by_cases hL : L = []
  · subst hL
    have hrep : ∀ R : Reader, RepAL R [.sl 5 [], .fnv 54 []] [V, .func (.func 54) #[] #[]] := fun R => by
      have hV : RepP R (.sl 5 []) V := by
        have mk : ∀ A c, RepP R (.sl 5 []) (.slice A 0 c) := fun A c => .sl 5 [] A c (fun _ _ => undef) (fun k row hk => by simp at hk) (.inl rfl) (fun k row _ _ hk => by simp at hk) (Nat.zero_le _)
        have ho := hrow.own
        cases q with
        | none => rw [ho.1]; exact mk _ _
        | some g => obtain ⟨cap, cur, h1, _⟩ := ho; rw [h1]; exact mk _ _
      exact .cons hV rfl (.cons ⟨[], rfl, .nil⟩ rfl .nil)
    refine ((sort0 54).2 w (fun p => w.cell? p) (fun _ _ h => h) _ (hrep _)).mono ?_
    rintro e w1 ⟨u, rfl, hb, hres⟩
    have hu : u = .tuple #[] := by
      obtain ⟨_, h1⟩ := hres
      obtain ⟨us, rfl, h2⟩ := h1
      cases h2; rfl
    have hg := hr.grow hb
    refine ⟨u, _, γ, rfl, h [] xs (List.Perm.refl _) List.Pairwise.nil, ?_⟩
    have : ({ σ with ext := E0.and (rowsE 70 5 q V xs (([] : List Br).map Br.pv)) } : Av.St) = σ := by rw [← hE]
    rw [this]
    exact hg.put (by rw [hF]; exact hdn) (x := .tup []) ⟨[], hu, .nil⟩ (fun k hk => by cases hk)
  · obtain ⟨g, hq⟩ : ∃ g, q = some g := by
      cases q with
      | some g => exact ⟨g, rfl⟩
      | none =>
        have := hrow.own.2
        exact absurd (List.eq_nil_of_length_eq_zero this) hL
    subst hq
    obtain ⟨cap, hV⟩ : ∃ cap, V = .slice (some ⟨g, 0, none⟩) L.length cap := by
      obtain ⟨cap, cur, h1, _⟩ := hrow.own
      exact ⟨cap, h1⟩
    subst hV
    obtain ⟨f1, f2⟩ := hfoot g rfl
    have hR : ∀ p v, rdr F.R0 F.w0.heap.size σ γ w p = some v → w.cell? p = some v ∧ p.block ≠ g := fun p v hp => by
      refine ⟨hr.cell hp, fun e => ?_⟩
      unfold rdr at hp
      rw [if_neg (by omega), if_pos (.inr (.inr (by rw [hE]; exact .inr (by rw [e]; rfl))))] at hp
      cases hp
    refine (sort_any L w g cap xs _ hR hrow hrd.2 hne hL (by omega)).mono ?_
    rintro e w1 ⟨rfl, hgr, L', xs', hp, hs, hrow', hrd'⟩
    have hl : L'.length = L.length := hp.length_eq
    refine ⟨_, _, γ, rfl, h L' xs' hp hs, Rel.put ?_ (by rw [hF]; exact hdn) (x := .tup []) ⟨[], rfl, .nil⟩ (fun k hk => by cases hk)⟩
    refine hr.turnR ?_ fun R hRR hrdR => ?_
    · rw [hE]
      refine Turn.mute_right (Turn.right (fun b hb => (hr.extf b (by rw [hE]; exact hb.elim (fun h => .inl (.inl h)) (fun h => .inr (.inl h)))).2.1) ⟨h0, (show RowsOK w _ 5 (some g) _ xs (L.map Br.pv).length by rw [List.length_map]; exact hrow), hdis⟩ ⟨hgr.os, hgr.tape, hgr.output, hgr.size, fun k hk hn => hgr.block k hk (fun e => hn (by cases e; rfl)), ?_, fun b hb => .inl hb, fun b hb => hb.elim, fun _ h => h, fun _ _ => trivial⟩)
      show RowsOK w1 _ 5 (some g) _ xs' (L'.map Br.pv).length
      rw [List.length_map]; exact hrow'
    · rw [hE] at hrdR
      refine ⟨hrdR.1, hrd'.len, fun k row j p hk hj => ?_⟩
      obtain ⟨x, h1, h2⟩ := hrd'.rd k row j p hk hj
      exact ⟨x, h1, h2.mono hRR⟩
end
end Go.Proofs.Ytkdigdnacggknaa

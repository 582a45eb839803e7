import Derived.Maps.OwnOps
import Derived.Maps.Views
import Derived.Maps.Range
import Derived.Maps.RangeRun
import Derived.WideMake
import Derived.Lib.LaidTab
import Derived.Shelf.LaysM
import Derived.Shelf.Strings.OnBuilder
import Derived.Shelf.Strconv.Itoa3
import Derived.Lib.SliceRun
import Derived.OwnWalk
import Derived.StillTailTactics
import Derived.Deep.RegionHeld3
import Derived.Deep.DeepCutAuto
import Derived.Shelf.Abstract
import Derived.WalkKit
import Derived.Laws.Entries
import Derived.Deep.RegionLaw
import Derived.Laws.CopyRow
import Derived.Laws.OwnMore
import Derived.Lib.AppendZeros
import Derived.Lib.Overlaps
import Derived.Lib.JoinLaws
import Derived.Maps.AppendAt
import Derived.Maps.OwnRows
import Derived.Maps.GroupsBeside
import Derived.DeepKeys4
import Derived.WideKeyEntry
import Derived.Test.YticnppnejafhdaaGreatDoorZ1
import Derived.Test.YticnppnejafhdaaGreatDoorProg
set_option linter.unusedVariables false
set_option linter.unusedSimpArgs false
/- Abstract states: a region that draws its order. Generic. -/
namespace Go.Proofs.YticnppnejafhdaaGreatDoor
open Go.RowKit
namespace Av

def ssaB (ops : Array Oper) (n : Nat) : Bool := (List.range n).all fun i => match ops[i]? with
  | none => false
  | some o => (o.looksAt ops).all (fun t => (List.range n).all fun j => !decide ((ops[j]?).bind (·.dst) = some t) || (decide (j < i) && Region.waitsFor .any ops i j)) &&
      (List.range n).all (fun j => decide (j = i) || !decide ((ops[j]?).bind (·.dst) = o.dst)) && o.after.all (fun e => !Region.binds .any e || decide (e.on < i))
def doneA (n m : Nat) : Array Bool := ((List.range m).map fun i => decide (i < n)).toArray
def tailB (ops : Array Oper) (n : Nat) : Bool := (decide (n = ops.size) || (Region.sinkB .any ops n && Region.chainB .any ops n && decide (n < ops.size))) && Region.seqB .any ops (ops.size - n) n (doneA n ops.size)
theorem ssa_spec {ops : Array Oper} {n : Nat} (h : ssaB ops n = true) {i : Nat} (hi : i < n) : ∃ o, ops[i]? = some o ∧
    (∀ t ∈ o.looksAt ops, ∀ j, j < n → (ops[j]?).bind (·.dst) = some t → j < i ∧ Region.waitsFor .any ops i j = true) ∧ (∀ j, j < n → (ops[j]?).bind (·.dst) = o.dst → j = i) ∧ (∀ e ∈ o.after, Region.binds .any e = true → e.on < i) := by
  have h1 := List.all_eq_true.1 h i (List.mem_range.2 hi)
  cases ho : ops[i]? with
  | none => rw [ho] at h1; cases h1
  | some o =>
    rw [ho] at h1
    simp only [Bool.and_eq_true] at h1
    obtain ⟨⟨h2, h3⟩, h4⟩ := h1
    refine ⟨o, rfl, fun t ht j hj hd => ?_, fun j hj hd => ?_, fun e he hb => ?_⟩
    · have h5 := List.all_eq_true.1 (List.all_eq_true.1 h2 t ht) j (List.mem_range.2 hj)
      rw [hd] at h5
      simpa using h5
    · have h5 := List.all_eq_true.1 h3 j (List.mem_range.2 hj)
      rw [hd] at h5
      simpa using h5
    · have h5 := Array.all_eq_true_iff_forall_mem.1 h4 e he
      rw [hb] at h5
      simpa using h5
section
variable {P : Program} {F : Fr} {ops : Array Oper} {bx0 : Nat → Option (List PV)}
theorem Run.length {l : List Oper} {σ σ' : St} {rs : List (Nat × HR × Option Loc)} (h : Run P F ops bx0 l σ rs σ') : rs.length = l.length := by
  induction h with
  | nil => rfl
  | cons _ _ ih => simp [ih]
theorem Run.dst {l : List Oper} {σ σ' : St} {rs : List (Nat × HR × Option Loc)} (h : Run P F ops bx0 l σ rs σ') : ∀ {i : Nat} {x : Nat × HR × Option Loc}, rs[i]? = some x → ∃ o, l[i]? = some o ∧ o.dst = some x.1 := by
  induction h with
  | nil => intro i x hx; simp at hx
  | cons h _ ih =>
    intro i x hx
    cases i with
    | zero => simp at hx; subst hx; exact ⟨_, rfl, h.dst⟩
    | succ i => simpa using ih (by simpa using hx)
theorem Run.lk {σ0 : St} {rs : List (Nat × HR)} (hnd : ∀ (i j d : Nat) (r r' : HR), rs[i]? = some (d, r) → rs[j]? = some (d, r') → i = j) {l : List Oper} {σ σ' : St} {rs3 : List (Nat × HR × Option Loc)} (h : Run P F ops bx0 l σ rs3 σ') :
    ∀ k, rs.drop k = (rs3.map fun x => (x.1, x.2.1)) → Lk σ0 rs (· < k) σ → (∀ i d r S, rs3[i]? = some (d, r, S) → ∃ o σi, l[i]? = some o ∧ StepOK P F ops bx0 σi o d r S ∧ Lk σ0 rs (· < k + i) σi) ∧ Lk σ0 rs (· < k + l.length) σ' := by
  induction h with
  | nil => intro k _ hl; exact ⟨fun i d r S hx => by simp at hx, by simpa using hl⟩
  | @cons o l σ σ' d r S rs3 h t ih =>
    intro k hk hl
    have hk0 : rs[k]? = some (d, r) := by
      have := congrArg (·[0]?) hk
      simpa using this
    have hk1 : rs.drop (k + 1) = rs3.map fun x => (x.1, x.2.1) := by
      have := congrArg List.tail hk
      simpa [List.tail_drop] using this
    obtain ⟨h1, h2⟩ := ih (k + 1) hk1 ((hl.step hnd hk0 (Nat.lt_irrefl k)).of_iff fun j => by omega)
    refine ⟨fun i d' r' S' hx => ?_, h2.of_iff fun j => by simp; omega⟩
    cases i with
    | zero => simp at hx; obtain ⟨rfl, rfl, rfl⟩ := hx; exact ⟨o, σ, rfl, h, hl⟩
    | succ i =>
      obtain ⟨o', σi, h3, h4, h5⟩ := h1 i d' r' S' (by simpa using hx)
      exact ⟨o', σi, by simpa using h3, h4, h5.of_iff fun j => by omega⟩
theorem awp_draw {id : Nat} {l : List Oper} {Q : AX → St → Prop} {σ : St} (st : List Nat) (n : Nat) (hm : P.follows .mixedOrders = true) (hn : n ≤ l.length) (hs : ssaB l.toArray n = true) (ht : tailB l.toArray n = true)
    (h : headW P F.n st l.toArray (look σ.box) (l.take n) σ [] fun σ1 sl => sops P F.n st l.toArray (l.drop n) (steals σ1 sl) (Q .normal)) : AWp P F (Code.region id l.toArray true) Q σ := by
  intro γ a w hr
  obtain ⟨rs3, σ', sl, hrun, hK, hsl⟩ := headW_run h
  have hsz : l.toArray.size = l.length := by simp
  have hlt : (l.take n).length = n := by simp; omega
  have hlen : rs3.length = n := by rw [hrun.length, hlt]
  have hdst : ∀ {i d r S}, rs3[i]? = some (d, r, S) → i < n ∧ (l.toArray[i]?).bind (·.dst) = some d := fun {i d r S} hx => by
    obtain ⟨o, h1, h2⟩ := hrun.dst hx
    have hi : i < n := by rw [← hlen]; exact (List.getElem?_eq_some_iff.1 hx).1
    refine ⟨hi, ?_⟩
    rw [List.getElem?_take, if_pos hi] at h1
    simp [h1, h2]
  have hrs : ∀ {i : Nat} {d : Nat} {r : HR}, (rs3.map fun x => (x.1, x.2.1))[i]? = some (d, r) → ∃ S, rs3[i]? = some (d, r, S) := fun {i d r} hx => by
    rw [List.getElem?_map] at hx
    cases hq : rs3[i]? with
    | none => rw [hq] at hx; cases hx
    | some x =>
      rw [hq] at hx
      cases hx
      exact ⟨x.2.2, rfl⟩
  have hnd : ∀ (i j d : Nat) (r r' : HR), (rs3.map fun x => (x.1, x.2.1))[i]? = some (d, r) → (rs3.map fun x => (x.1, x.2.1))[j]? = some (d, r') → i = j := fun i j d r r' hi hj => by
    obtain ⟨S, hi⟩ := hrs hi
    obtain ⟨S', hj⟩ := hrs hj
    obtain ⟨h1, h2⟩ := hdst hi
    obtain ⟨h3, h4⟩ := hdst hj
    obtain ⟨o, ho, _, h5, _⟩ := ssa_spec hs h3
    refine h5 i h1 ?_
    rw [h2]
    rw [ho] at h4
    exact h4.symm
  obtain ⟨hsteps, hfin⟩ := hrun.lk (σ0 := σ) hnd 0 (by simp) ((Lk.start σ _).of_iff fun j => by simp)
  have inv0 : HeadInv .any l.toArray n (Array.replicate l.toArray.size false) :=
    ⟨by simp, fun j oj _ hl => (by rw [getD_replicate_false] at hl; cases hl), fun t _ ht => getD_in (by simpa using ht) (getD_replicate_false _ _)⟩
  have hback : ∀ i o, i < n → l.toArray[i]? = some o → ∀ e ∈ o.after, Region.binds .any e = true → e.on < i := fun i o hi ho => by
    obtain ⟨o', ho', _, _, h1⟩ := ssa_spec hs hi
    rw [ho] at ho'
    cases ho'
    exact h1
  simp only [tailB, Bool.and_eq_true, Bool.or_eq_true, decide_eq_true_eq] at ht
  obtain ⟨htail, hseq⟩ := ht
  -- what holds while the head runs
  let Inv : Array Bool → Act → World → Prop := fun listed a w => ∃ σ1 γ, Rel F σ1 γ a w ∧ Lk σ (rs3.map fun x => (x.1, x.2.1)) (fun j => j < n ∧ listed.getD j false = true) σ1 ∧
    ∀ i d r L, rs3[i]? = some (d, r, some L) → listed.getD i false = true → valAt a w γ L = none ∨ valAt a w γ (.s d) = valAt a w γ L
  have hbxk : ∀ {L : Nat → Prop} {σ1 : St} {k : Nat} {cs : List PV}, Lk σ (rs3.map fun x => (x.1, x.2.1)) L σ1 → look σ.box k = some cs → look σ1.box k = some cs := fun {L σ1 k cs} hl hk => by
    rw [hl.box k (fun j d r _ hj hb e => by
      obtain ⟨S, hj⟩ := hrs hj
      obtain ⟨o, σi, _, h1, _⟩ := hsteps j d r S hj
      have := h1.newbox hb
      rw [e, hk] at this
      cases this)]
    exact hk
  refine wp_region_any hm ?_
  have hcnt : cntU n (Array.replicate l.toArray.size false) = n := by
    have : ∀ m, m ≤ l.length → cntU m (Array.replicate l.toArray.size false) = m := fun m => by
      induction m with
      | zero => intro _; rfl
      | succ m ih =>
        intro hm
        unfold cntU
        rw [ih (by omega)]
        simp [show m < l.length by omega]
    exact this n hn
  have goal := any_head (P := P) (Q := fun e a' w' => ∃ x σ' γ', e = AX.exit_ x ∧ Q x σ' ∧ Rel F σ' γ' a' w') (g := l.toArray.size - n) (Inv := Inv) (by rw [hsz]; exact hn) hback (by
      rcases htail with h1 | h1
      · exact .inl h1
      · exact .inr ⟨h1.1.1, h1.1.2, h1.2⟩) ?step ?fin n _ a w.drew hcnt inv0 ⟨σ, γ, hr.grow (Below.refl _ _).drew, (Lk.start σ _).of_iff fun j => ⟨fun hj => by rw [getD_replicate_false] at hj; exact absurd hj.2 (by simp), fun hj => hj.elim⟩, fun i d r L _ hl => by rw [getD_replicate_false] at hl; cases hl⟩
  · rw [show n + (l.toArray.size - n) = l.toArray.size by rw [hsz]; omega] at goal
    exact goal
  case step =>
    rintro i listed a w hi hready hinv ⟨σ1, γ1, h1, h2, h3⟩
    obtain ⟨hun, o, ho, hall⟩ := mem_ready.1 hready
    obtain ⟨o', ho', hssa, _, _⟩ := ssa_spec hs hi
    rw [ho] at ho'
    cases ho'
    have hx : ∃ x, rs3[i]? = some x := ⟨rs3[i]'(by rw [hlen]; exact hi), List.getElem?_eq_getElem _⟩
    obtain ⟨⟨d, r, S⟩, hx⟩ := hx
    obtain ⟨o', σi, h4, h5, h6⟩ := hsteps i d r S hx
    have : o' = o := by
      rw [List.getElem?_take, if_pos hi] at h4
      have h7 : l.toArray[i]? = l[i]? := by simp
      rw [h7, h4] at ho
      exact Option.some.inj ho
    subst this
    have hmap : (rs3.map fun x => (x.1, x.2.1))[i]? = some (d, r) := by rw [List.getElem?_map, hx]; rfl
    have hwait : ∀ j, Region.waitsFor .any l.toArray i j = true → listed.getD j false = true := fun j hj => by
      obtain ⟨oj, hoj, e, he, hb, hon⟩ := Region.waitsFor_spec hj
      rw [ho] at hoj
      cases hoj
      rw [← hon]
      exact hall e he hb
    have hops : ∀ t y, t ∈ o'.looksAt l.toArray → look σi.slot t = some y → look σ1.slot t = some y := fun t y htm hy => by
      by_cases hex : ∃ j d' r', j < n ∧ (rs3.map fun x => (x.1, x.2.1))[j]? = some (d', r') ∧ d' = t
      · obtain ⟨j, d', r', hj, hjx, rfl⟩ := hex
        obtain ⟨S', hjx'⟩ := hrs hjx
        obtain ⟨hji, hw⟩ := hssa d' htm j hj (hdst hjx').2
        have h7 := (h6.in_ j d' r' (by omega) hjx).1
        rw [h7] at hy
        cases hy
        exact (h2.in_ j d' r' ⟨hj, hwait j hw⟩ hjx).1
      · rw [(h6.out t fun j d' r' hj hjx e => hex ⟨j, d', r', by omega, hjx, e⟩).1] at hy
        rw [(h2.out t fun j d' r' hj hjx e => hex ⟨j, d', r', hj.1, hjx, e⟩).1]
        exact hy
    have hLi : ¬ (i < n ∧ listed.getD i false = true) := fun h => by rw [getD_both hun] at h; exact absurd h.2 (by simp)
    have hnone : look σ.box d = none → look σ1.box d = none := fun hd => by
      rw [h2.box d (fun j d' r' hj hjx _ e => by
        subst e
        have := hnd i j d' r r' hmap hjx
        subst this
        exact hLi hj)]
      exact hd
    refine wpOp_mono (fun a' w' hst => ?_) (h5.run σ1 γ1 a w h1 hops (fun k cs hk => hbxk h2 hk) hnone (h2.ext.trans h6.ext.symm) _ i ho)
    obtain ⟨γ', u, rfl, e2, e3, e4, e5⟩ := hst
    have hisz : i < listed.size := by rw [hinv.size, hsz]; omega
    have hset : ∀ j, (listed.setIfInBounds i true).getD j false = true ↔ listed.getD j false = true ∨ j = i := fun j => by
      by_cases hji : i = j
      · subst hji; simp [hisz]
      · rw [getD_set_ne false hji]; simp [show ¬ j = i from fun e => hji e.symm]
    have hd' : d < a.tmps.size := by rw [h1.size]; exact h5.lt
    refine ⟨_, γ', e4, (h2.step hnd hmap hLi).of_iff fun j => ?_, fun m dm rm L hmx hlm => ?_⟩
    · rw [hset]
      constructor
      · rintro ⟨h7, h8 | rfl⟩
        · exact .inl ⟨h7, h8⟩
        · exact .inr rfl
      · rintro (⟨h7, h8⟩ | rfl)
        · exact ⟨h7, .inl h8⟩
        · exact ⟨hi, .inr rfl⟩
    · obtain ⟨om, σm, hm1, hm2, hm3⟩ := hsteps m dm rm (some L) hmx
      obtain ⟨hav, hlooks⟩ := hm2.src_ L rfl
      -- the place's value is as it was
      have hkeep : (∀ t, L = .s t → d ≠ t) → valAt (a.put (some d) u) w' γ' L = valAt a w γ1 L := fun hne => by
        cases L with
        | s t => simp [valAt, getD_put hd', hne t rfl]
        | b k off =>
          have hk : ∃ cs, look σ.box k = some cs := by
            cases hq : look σ.box k with
            | none => simp [avOf, hq] at hav
            | some cs => exact ⟨cs, rfl⟩
          obtain ⟨cs, hk⟩ := hk
          have hk1 : (look σ1.box k).isSome := by rw [hbxk h2 hk]; rfl
          show w'.cell? ⟨γ'.bx k, off, none⟩ = w.cell? ⟨γ1.bx k, off, none⟩
          rw [e3 k hk1]
          exact e2.cell (p := ⟨γ1.bx k, off, none⟩) (h1.box_lt hk1).1
      have hmn : m < n := (hdst hmx).1
      rcases (hset m).1 hlm with hlm | rfl
      · -- m was done before
        have hdm : d ≠ dm := fun e => by
          subst e
          have := hnd i m d r rm hmap (by rw [List.getElem?_map, hmx]; rfl)
          subst this
          exact hLi ⟨hi, hlm⟩
        have hne : ∀ t, L = .s t → d ≠ t := fun t ht e => by
          subst e
          obtain ⟨om', hom', hss, _, _⟩ := ssa_spec hs hmn
          have : om' = om := by
            rw [List.getElem?_take, if_pos hmn] at hm1
            have h7 : l.toArray[m]? = l[m]? := by simp
            rw [h7, hm1] at hom'
            exact (Option.some.inj hom').symm
          subst this
          obtain ⟨_, hw⟩ := hss d (hlooks d ht) i hi (hdst hx).2
          obtain ⟨oj, hoj, e, he, hb, hon⟩ := Region.waitsFor_spec hw
          have := hinv.closed m oj hoj hlm e he hb
          rw [hon, getD_both hun] at this
          cases this
        rw [hkeep hne, show valAt (a.put (some d) u) w' γ' (.s dm) = valAt a w γ1 (.s dm) by simp [valAt, getD_put hd', hdm]]
        exact h3 m dm rm L hmx hlm
      · rw [hx] at hmx
        cases hmx
        have hne : ∀ t, L = .s t → d ≠ t := fun t ht e => by
          subst e
          obtain ⟨om', hom', hss, _, _⟩ := ssa_spec hs hmn
          have : om' = om := by
            rw [List.getElem?_take, if_pos hmn] at hm1
            have h7 : l.toArray[m]? = l[m]? := by simp
            rw [h7, hm1] at hom'
            exact (Option.some.inj hom').symm
          subst this
          exact absurd (hss d (hlooks d ht) m hmn (hdst hx).2).1 (Nat.lt_irrefl _)
        rw [hkeep hne]
        rcases e5 L rfl with h7 | h7
        · right
          rw [h7]
          simp [valAt, getD_put hd']
        · exact .inl h7
  case fin =>
    rintro listed a w hinv hdone ⟨σ1, γ1, h1, h2, h3⟩
    have hdone' : ∀ i, i < n → listed.getD i false = true := fun i hi => by
      have h4 := hdone i hi
      have hs : i < listed.size := by rw [hinv.size, hsz]; omega
      simp [hs] at h4 ⊢
      exact h4
    have hLk : Lk σ (rs3.map fun x => (x.1, x.2.1)) (· < 0 + (l.take n).length) σ1 := h2.of_iff fun j => by
      rw [hlt]
      constructor
      · intro h4; exact ⟨by omega, hdone' j (by omega)⟩
      · intro h4; omega
    obtain ⟨g1, g2, g3, g4⟩ := hLk.same hfin
    have hrel := h1.congr g1 g2 g3 g4
    have hlisted : listed = doneA n l.toArray.size := by
      apply Array.ext
      · rw [hinv.size]; simp [doneA]
      · intro i hi1 hi2
        have hil : i < l.toArray.size := by rw [← hinv.size]; exact hi1
        have : (doneA n l.toArray.size)[i] = decide (i < n) := by simp [doneA]
        rw [this]
        by_cases hin : i < n
        · have := hdone' i hin
          simp [hi1] at this
          rw [this]; simp [hin]
        · have := hinv.tail i (by omega) hil
          simp [hi1] at this
          rw [this]; simp [hin]
    obtain ⟨γ2, _, hrel2⟩ := hrel.steals sl (fun x hx => by
      rcases hsl x hx with h4 | ⟨r, h4⟩
      · cases h4
      · obtain ⟨i, hi⟩ := List.mem_iff_getElem?.1 h4
        obtain ⟨o, σi, h5, h6, h7⟩ := hsteps i _ _ _ hi
        have hin := (hdst hi).1
        refine ⟨?_, h3 i _ _ _ hi (hdone' i hin)⟩
        obtain ⟨hav, hlooks⟩ := h6.src_ x.2 rfl
        have hd1 : σ'.avAt (.s x.1) = some r.av := (hfin.in_ i x.1 r (by rw [hlt]; omega) (by rw [List.getElem?_map, hi]; rfl)).1
        rw [hd1, ← hav]
        cases hL : x.2 with
        | s t =>
          show look σi.slot t = look σ'.slot t
          obtain ⟨o', ho', hss, _, _⟩ := ssa_spec hs hin
          have : o' = o := by
            rw [List.getElem?_take, if_pos hin] at h5
            have h8 : l.toArray[i]? = l[i]? := by simp
            rw [h8, h5] at ho'
            exact (Option.some.inj ho').symm
          subst this
          by_cases hex : ∃ j d' r', j < n ∧ (rs3.map fun x => (x.1, x.2.1))[j]? = some (d', r') ∧ d' = t
          · obtain ⟨j, d', r', hj, hjx, rfl⟩ := hex
            obtain ⟨S', hjx'⟩ := hrs hjx
            obtain ⟨hji, _⟩ := hss d' (hlooks d' hL) j hj (hdst hjx').2
            rw [(h7.in_ j d' r' (by omega) hjx).1, (hfin.in_ j d' r' (by rw [hlt]; omega) hjx).1]
          · rw [(h7.out t fun j d' r' hj hjx e => hex ⟨j, d', r', by omega, hjx, e⟩).1, (hfin.out t fun j d' r' hj hjx e => hex ⟨j, d', r', by rw [hlt] at hj; omega, hjx, e⟩).1]
        | b k off =>
          show ((look σ.box k).bind (·[off]?)).map PV.av = ((look σ'.box k).bind (·[off]?)).map PV.av
          have hk : ∃ cs, look σ.box k = some cs := by
            rw [hL] at hav
            cases hq : look σ.box k with
            | none => simp [avOf, hq] at hav
            | some cs => exact ⟨cs, rfl⟩
          obtain ⟨cs, hk⟩ := hk
          rw [hbxk hfin hk, hk])
    have hwl := sops_ok (P := P) (F := F) (Q := fun e a' w' => ∃ x σ' γ', e = AX.exit_ x ∧ Q x σ' ∧ Rel F σ' γ' a' w') (fun σ'' γ'' a'' w'' hq hr'' => ⟨.normal, σ'', γ'', rfl, hq, hr''⟩) (l.drop n) _ γ2 a w hrel2 hK
    have hdl : (l.drop n).length = l.toArray.size - n := by simp
    have := wpAny_of_seq (md := .any) (Q' := fun e a' w' => ∃ x σ' γ', e = AX.exit_ x ∧ Q x σ' ∧ Rel F σ' γ' a' w') (ops := l.toArray) (l.drop n) n listed a w (fun j => by simp [List.getElem?_drop]) (by rw [hdl, hlisted]; exact hseq) hwl
    rwa [hdl] at this
end

end Av
end Go.Proofs.YticnppnejafhdaaGreatDoor
/- Abstract states: the walk's steps. Generic. -/
namespace Go.Proofs.YticnppnejafhdaaGreatDoor
open Go.RowKit
namespace Av
variable {P : Program} {F : Fr}
theorem sg0 {n : Nat} {st : List Nat} {ops : Array Oper} {o : Oper} {l : List Oper} {σ : St} {K : St → Prop} (h : match guardB ops (look σ.slot) o with
    | some true => sop P n st σ o fun σ' => sops P n st ops l σ' K
    | some false => ∃ d, o.dst = some d ∧ d < n ∧ sops P n st ops l (σ.put d (.v undef)) K
    | none => False) : sops P n st ops (o :: l) σ K := h
theorem se0 {n : Nat} {st : List Nat} {ops : Array Oper} {σ : St} {K : St → Prop} (h : K σ) : sops P n st ops [] σ K := h
theorem hg0 {N : Nat} {st : List Nat} {ops : Array Oper} {bx0 : Nat → Option (List PV)} {o : Oper} {l : List Oper} {σ : St} {sl : List (Nat × Loc)} {K : St → List (Nat × Loc) → Prop} (h : ∃ d, o.dst = some d ∧ d < N ∧ match guardB ops (look σ.slot) o with
    | some true => if st.contains (d + 1000000) = true then ∃ r, HandQ P N bx0 σ o d r ∧ r.box = none ∧ src P (look σ.slot) o = none ∧ headW P N st ops bx0 l (σ.res d r) sl K else hopx P (look σ.slot) bx0 o (fun r => ((bxOf r).isSome = true → bx0 d = none) ∧ headW P N st ops bx0 l (σ.res d r) (if o.guard.isNone && st.contains d then (match src P (look σ.slot) o with | some S => (d, S) :: sl | none => sl) else sl) K)
    | some false => headW P N st ops bx0 l (σ.put d (.v undef)) sl K
    | none => False) : headW P N st ops bx0 (o :: l) σ sl K := h
theorem hw0 {N : Nat} {st : List Nat} {ops : Array Oper} {bx0 : Nat → Option (List PV)} {σ : St} {sl : List (Nat × Loc)} {K : St → List (Nat × Loc) → Prop} (h : K σ sl) : headW P N st ops bx0 [] σ sl K := h
theorem aq0 {x y : Code} {Q : AX → St → Prop} {σ : St} (h : ∀ K : St → Prop, (∀ σ, AWp P F y Q σ → K σ) → AWp P F x (athen K Q) σ) : AWp P F (x.seq y) Q σ := awp_seq (h _ fun _ h => h)
theorem ai0 {c : Operand} {x y : Code} {Q : AX → St → Prop} {σ : St} (h : match evo (look σ.slot) c with
    | some (.v (.bool t)) => (t = true → AWp P F x Q σ) ∧ (t = false → AWp P F y Q σ)
    | _ => False) : AWp P F (.cond c x y) Q σ := by
  split at h
  · rename_i t ht
    exact awp_cond ht h.1 h.2
  · cases h
/-- A region that draws its order, cut behind its n-th operation. -/
theorem awp_draw' {id : Nat} {l l1 l2 : List Oper} {Q : AX → St → Prop} {σ : St} (st : List Nat) (n : Nat) (hm : P.follows .mixedOrders = true) (hc : (decide (n ≤ l.length) && ssaB l.toArray n && tailB l.toArray n) = true) (h1 : l.take n = l1) (h2 : l.drop n = l2)
    (h : ∀ bx0 : Nat → Option (List PV), bx0 = look σ.box → headW P F.n st l.toArray bx0 l1 σ [] fun σ1 sl => sops P F.n st l.toArray l2 (steals σ1 sl) (Q .normal)) : AWp P F (Code.region id l.toArray true) Q σ := by
  simp only [Bool.and_eq_true, decide_eq_true_eq] at hc
  refine awp_draw st n hm hc.1.1 hc.1.2 hc.2 ?_
  rw [h1, h2]
  exact h _ rfl
def AllS {α : Type} (f : Nat → Option α) : List (Nat × α) → Prop
  | [] => True
  | x :: l => f x.1 = some x.2 ∧ AllS f l
def AllO (σ σ' : St) : List (Loc × (TypeId × Nat)) → Prop
  | [] => True
  | x :: l => (lookL σ.own x.1 = some x.2 ∧ σ'.avAt x.1 = σ.avAt x.1) ∧ AllO σ σ' l
def AllR (b : List (Nat × List PV)) : List (Nat × AV) → Prop
  | [] => True
  | x :: l => (x.2.refs.all fun k => (look b k).isSome) = true ∧ AllR b l
theorem AllS.look {α : Type} {f : Nat → Option α} : ∀ {l : List (Nat × α)}, AllS f l → ∀ {t : Nat} {x : α}, look l t = some x → f t = some x
  | [], _, t, x, hx => by cases hx
  | (k, y) :: l, h, t, x, hx => by
    rw [look_cons] at hx
    by_cases hk : k = t
    · rw [if_pos hk] at hx
      cases hx
      rw [← hk]
      exact h.1
    · rw [if_neg hk] at hx
      exact AllS.look h.2 hx
theorem AllO.look {σ σ' : St} : ∀ {l : List (Loc × (TypeId × Nat))}, AllO σ σ' l → ∀ {L : Loc} {e : TypeId × Nat}, lookL l L = some e → lookL σ.own L = some e ∧ σ'.avAt L = σ.avAt L
  | [], _, t, x, hx => by cases hx
  | (k, y) :: l, h, t, x, hx => by
    rw [lookL_cons] at hx
    by_cases hk : k = t
    · rw [if_pos hk] at hx
      cases hx
      rw [← hk]
      exact h.1
    · rw [if_neg hk] at hx
      exact AllO.look h.2 hx
theorem AllR.look {b : List (Nat × List PV)} : ∀ {l : List (Nat × AV)}, AllR b l → ∀ {t : Nat} {x : AV}, look l t = some x → ∀ k ∈ x.refs, (look b k).isSome
  | [], _, t, x, hx => by cases hx
  | (k, y) :: l, h, t, x, hx => by
    rw [look_cons] at hx
    by_cases hk : k = t
    · rw [if_pos hk] at hx
      cases hx
      exact fun j hj => List.all_eq_true.1 h.1 j hj
    · rw [if_neg hk] at hx
      exact AllR.look h.2 hx
theorem sub_mk {σ σ' : St} (h : AllS (look σ.slot) σ'.slot ∧ AllS (look σ.box) σ'.box ∧ AllO σ σ' σ'.own ∧ AllR σ'.box σ'.slot ∧ σ'.ext = σ.ext) : σ.Sub σ' :=
  ⟨fun _ _ hx => h.1.look hx, fun _ _ hx => h.2.1.look hx, fun _ _ hx => h.2.2.1.look hx, fun _ _ hx => h.2.2.2.1.look hx, h.2.2.2.2⟩
/-- A loop, its states made out of the one in which it begins. -/
theorem awp_loop_by {ι : Type} {c : Code} {Q : AX → St → Prop} {σ : St} (U : ι → St → St) (m : ι → Nat) (i0 : ι) (h0 : σ.Sub (U i0 σ)) (round : ∀ (R : ι → St → Prop), (∀ j σ', σ'.Sub (U j σ) → R j σ') → ∀ i, AWp P F c (athen (fun σ' => ∃ j, m j < m i ∧ R j σ') Q) (U i σ)) : AWp P F (.loop c) Q σ :=
  awp_loop (fun i => U i σ) m i0 h0 (round _ fun _ _ h => h)
def keepS {α : Type} (ks : List Nat) (l : List (Nat × α)) : List (Nat × α) := l.filter fun x => ks.contains x.1
end Av
end Go.Proofs.YticnppnejafhdaaGreatDoor
/- Abstract states: what else a frame holds: how it changes; operations by hand. Generic. -/
namespace Go.Proofs.YticnppnejafhdaaGreatDoor
open Go.RowKit
namespace Av

/-- From w to w1 only blocks of E0 have changed, and new ones have come; E holds there, of E0's blocks and new ones. -/
structure Turn (E0 : Ext) (w w1 : World) (E : Ext) : Prop where
  os : w1.os = w.os
  tape : w1.tape = w.tape
  output : w1.output = w.output
  size : w.heap.size ≤ w1.heap.size
  block : ∀ k, k < w.heap.size → ¬ E0.foot k → w1.heap[k]? = w.heap[k]?
  holds : E.holds w1
  foot : ∀ b, E.foot b → E0.foot b ∨ (w.heap.size ≤ b ∧ b < w1.heap.size)
  froz : ∀ b, E.froz b → E0.foot b ∨ E0.froz b ∨ (w.heap.size ≤ b ∧ b < w1.heap.size)
  laid : ∀ w0, E0.laid w0 → E.laid w0 := by intros; repeat' (first | assumption | trivial | constructor)
theorem Turn.same {E0 E : Ext} {w : World} (h : E.holds w) (hf : ∀ b, E.foot b → E0.foot b) (hz : ∀ b, E.froz b → E0.foot b ∨ E0.froz b) (hl : ∀ w0, E0.laid w0 → E.laid w0 := by intros; repeat' (first | assumption | trivial | constructor)) : Turn E0 w w E := ⟨rfl, rfl, rfl, Nat.le_refl _, fun _ _ _ => rfl, h, fun b hb => .inl (hf b hb), fun b hb => (hz b hb).elim .inl (fun h => .inr (.inl h)), hl⟩
theorem Turn.below {E0 E : Ext} {w w1 : World} (hb : Below w.heap.size w w1) (h : E.holds w1) (hf : ∀ b, E.foot b → E0.foot b ∨ (w.heap.size ≤ b ∧ b < w1.heap.size)) (hz : ∀ b, E.froz b → E0.foot b ∨ E0.froz b ∨ (w.heap.size ≤ b ∧ b < w1.heap.size)) (hl : ∀ w0, E0.laid w0 → E.laid w0 := by intros; repeat' (first | assumption | trivial | constructor)) : Turn E0 w w1 E := ⟨hb.os, hb.tape, hb.output, hb.size, fun k hk _ => hb.block k hk, h, hf, hz, hl⟩
section
variable {P : Program} {F : Fr} {σ : St} {γ : Gh} {a : Act} {w w1 : World} {E : Ext}
theorem Rel.turn_le (h : Rel F σ γ a w) (ht : Turn σ.ext w w1 E) : ∀ p v, rdr F.R0 F.w0.heap.size σ γ w p = some v → rdr F.R0 F.w0.heap.size { σ with ext := E } γ w1 p = some v := by
  refine rdr_le fun p v hB hm hc => ?_
  have hlt := Rel.cell_lt hc
  have hne : ¬ σ.ext.foot p.block := fun hx => hm (.inr (.inr hx))
  refine ⟨fun hm' => ?_, (World.cell?_of_block (w := w) (ht.block p.block hlt hne)).trans hc⟩
  rcases hm' with hm' | ⟨L, e, sz, rows, h1, h2, h3, h4⟩ | hx
  · exact hm (.inl hm')
  · exact hm (.inr (.inl ⟨L, e, sz, rows, h1, by cases L <;> exact h2, h3, h4⟩))
  · rcases ht.foot _ hx with h1 | h1
    · exact hne h1
    · omega
/-- What else the frame holds has changed. -/
theorem Rel.turn (h : Rel F σ γ a w) (ht : Turn σ.ext w w1 E) : Rel F { σ with ext := E } γ a w1 := by
  have hle := h.turn_le ht
  have hboxb : ∀ k, (look σ.box k).isSome → w1.heap[γ.bx k]? = w.heap[γ.bx k]? := fun k hk => ht.block _ (h.box_lt hk).1 (fun hx => (h.extf _ (.inl hx)).2.2.1 k hk rfl)
  have hrowb : ∀ L g, (lookL σ.own L).isSome → γ.rw L = some g → w1.heap[g]? = w.heap[g]? := fun L g hL hg => ht.block _ (h.row_lt hL hg).1 (fun hx => (h.extf _ (.inl hx)).2.2.2 L hL hg)
  refine ⟨h.defers, h.size, h.below.trans ⟨ht.os, ht.tape, ht.output, ht.size, fun i hi => ht.block i (Nat.lt_of_lt_of_le hi h.base) (fun hx => by have := (h.extf _ (.inl hx)).1; omega)⟩, h.r0, fun t x hx => ?_, fun k cs hk => ?_, h.boxinj, fun L e sz hL => ?_, h.rowinj, h.rowbox, ht.holds, fun b hb => ?_, h.small, h.dyn, ht.laid _ h.laid⟩
  · obtain ⟨h1, h2⟩ := h.slots t x hx
    exact ⟨h1.mono hle (fun _ _ => rfl), h2⟩
  · obtain ⟨us, ty, h1, h2, h3⟩ := h.boxes k cs hk
    exact ⟨us, ty, (hboxb k (by rw [show look σ.box k = _ from hk]; rfl)).trans h1, h2, h3.mono hle⟩
  · obtain ⟨rows, v, h1, h2, h3⟩ := h.owns L e sz hL
    have hs : (lookL σ.own L).isSome := by rw [show lookL σ.own L = _ from hL]; rfl
    refine ⟨rows, v, by cases L <;> exact h1, ?_, h3.keep fun g hg => hrowb L g hs hg⟩
    cases L with
    | s t => exact h2
    | b k off =>
      have hk : (look σ.box k).isSome := by
        cases hq : look σ.box k with
        | none => simp [St.avAt, hq] at h1
        | some _ => rfl
      exact (World.cell?_of_block (w := w) (a := ⟨γ.bx k, off, none⟩) (hboxb k hk)).trans h2
  · have hb' : (σ.ext.foot b ∨ σ.ext.froz b) ∨ (w.heap.size ≤ b ∧ b < w1.heap.size) := by
      rcases hb with hb | hb
      · exact (ht.foot b hb).elim (fun h => .inl (.inl h)) .inr
      · exact (ht.froz b hb).elim (fun h => .inl (.inl h)) (fun h => h.elim (fun h => .inl (.inr h)) .inr)
    rcases hb' with h1 | ⟨h1, h2⟩
    · obtain ⟨h3, h4, h5, h6⟩ := h.extf b h1
      exact ⟨h3, Nat.lt_of_lt_of_le h4 ht.size, h5, h6⟩
    · have := h.base
      refine ⟨by omega, h2, fun k hk e => ?_, fun L hL e => ?_⟩
      · have := (h.box_lt hk).1; omega
      · have := (h.row_lt hL e).1; omega
/-- An operation by hand that yields a value. -/
theorem hand_value {n : Nat} {o : Oper} {d : Nat} {K : St → Prop} (hd : o.dst = some d) (hdn : d < n)
    (h : ∀ (F : Fr) (γ : Gh) (a : Act) (w : World), F.n = n → Rel F σ γ a w → ∃ x v w1 E, (execOp a.eval o).run P w = .ok (.value v) w1 ∧ Turn σ.ext w w1 E ∧ RepA (rdr F.R0 F.w0.heap.size { σ with ext := E } γ w1) γ.bx x v ∧ (∀ k ∈ x.refs, (look σ.box k).isSome) ∧ K (({ σ with ext := E } : St).put d x)) : Hand P n σ o K := by
  intro F γ a w hF hr Q
  obtain ⟨x, v, w1, E, hrun, ht, hx, href, hK⟩ := h F γ a w hF hr
  unfold Oper.wp
  rw [hrun]
  show ∃ σ' γ', K σ' ∧ Rel F σ' γ' (a.put o.dst v) w1
  rw [hd]
  exact ⟨_, γ, hK, (hr.turn ht).put (by rw [hF]; exact hdn) hx href⟩
/-- A slot's value. -/
theorem Rel.val (h : Rel F σ γ a w) {t : Nat} {v : Value} (ht : look σ.slot t = some (.v v)) : a.tmps.getD t undef = v := (h.slots t _ ht).1
theorem Rel.agg (h : Rel F σ γ a w) {t : Nat} {xs : List PV} (ht : look σ.slot t = some (.agg xs)) : ∃ us, a.tmps.getD t undef = .agg us.toArray ∧ RepL (rdr F.R0 F.w0.heap.size σ γ w) xs us := (h.slots t _ ht).1
end
end Av
end Go.Proofs.YticnppnejafhdaaGreatDoor
/- Maps that a call makes, by what they hold at each key. Generic. -/
namespace Go.Proofs.YticnppnejafhdaaGreatDoor
open Go.RowKit Go.Maps
open Go.Maps (Keyed)
namespace Av

abbrev MReader := Value → Option (DataW Unit × List MemPlace)
/-- Block b is a map of at most n entries; at a key it holds what reads as G says. -/
def MapIs (w : World) (P : Program) (k : TypeId) (R : MReader) (b n : Nat) (G : Value → Option (DataW Unit)) : Prop :=
  ∃ D, w.ownsMap P k R b n D ∧ IsMap D ∧ ∀ key kl, keyOf P k key = some kl → match G key with | some d => ∀ z, D.atKey kl z = d | none => ∀ z, D.atKey kl z = z
section
variable {P : Program} {k : TypeId} {R : MReader} {b n : Nat} {G : Value → Option (DataW Unit)} {w w' : World}
theorem MapIs.made (w : World) : MapIs (w.alloc (.map #[] 0)) P k R w.heap.size 0 (fun _ => none) :=
  ⟨.map [], World.ownsMap_made w _ _ _, isMap_empty, fun _ _ _ _ => by simp [DataW.atKey]⟩
theorem MapIs.stable (h : MapIs w P k R b n G) (hb : w'.heap[b]? = w.heap[b]?) : MapIs w' P k R b n G := by
  obtain ⟨D, ⟨es, clock, h1, h2⟩, h3⟩ := h
  exact ⟨D, ⟨es, clock, hb.trans h1, h2⟩, h3⟩
theorem MapIs.lt (h : MapIs w P k R b n G) : b < w.heap.size := by
  obtain ⟨D, h1, _⟩ := h
  exact h1.lt
theorem MapIs.mono (h : MapIs w P k R b n G) {n' : Nat} (hn : n ≤ n') : MapIs w P k R b n' G := by
  obtain ⟨D, h1, h2⟩ := h
  exact ⟨D, h1.mono hn, h2⟩
theorem MapIs.look (h : MapIs w P k R b n G) (c : Bool) (K : Keyed P k) {t e : TypeId} (ht : P.underlying t = some (.map k e)) {z : Value} (hz : (zeroValue e).run P w = .ok z w) {key : Value} {kl : Lit} (hkey : keyOf P k key = some kl) :
    (G key = none ∧ (Instr.lookup t (.map (some b)) key c).run P w = .ok (if c then .tuple #[z, .bool false] else z) w) ∨
    ∃ v d ps, G key = some d ∧ R v = some (d, ps) ∧ (Instr.lookup t (.map (some b)) key c).run P w = .ok (if c then .tuple #[v, .bool true] else v) w := by
  obtain ⟨D, ⟨es, clock, hb, F, _, rfl⟩, _, h3⟩ := h
  have h4 := h3 key kl hkey
  rcases fit_look c K ht hz hb F hkey with ⟨hrun, _, hat⟩ | ⟨e0, y, _, _, hrun, hRv, hat, _⟩
  · refine .inl ⟨?_, hrun⟩
    cases hG : G key with
    | none => rfl
    | some d =>
      rw [hG] at h4
      have h5 := (hat (.lit (.bool true))).symm.trans (h4 _)
      have h6 := (hat (.lit (.bool false))).symm.trans (h4 _)
      rw [← h6] at h5
      cases h5
  · refine .inr ?_
    cases hG : G key with
    | none =>
      rw [hG] at h4
      have h5 := (hat (.lit (.bool true))).symm.trans (h4 _)
      have h6 := (hat (.lit (.bool false))).symm.trans (h4 _)
      rw [h5] at h6
      cases h6
    | some d =>
      rw [hG] at h4
      have h5 : y.1 = d := (hat .nil).symm.trans (h4 _)
      exact ⟨e0.val, d, y.2, rfl, by rw [hRv, ← h5], hrun⟩
open Classical in
theorem MapIs.put (h : MapIs w P k R b n G) (K : Keyed P k) {t e : TypeId} (ht : P.underlying t = some (.map k e)) (hn : n < maxLen) {key val : Value} {kl : Lit} {d : DataW Unit} {ps : List MemPlace} (hkey : keyOf P k key = some kl) (hv : R val = some (d, ps)) :
    ∃ w', (Instr.mapUpdate t (.map (some b)) key val).run P w = .ok () w' ∧ MapIs w' P k R b (n + 1) (fun x => if x = key then some d else G x) ∧ w.grownBy w' (some b) := by
  obtain ⟨D, h1, h2, h3⟩ := h
  obtain ⟨w', hrun, r1, r2⟩ := h1.update K ht hn hkey hv
  refine ⟨w', hrun, ⟨_, r1, h2.put _ _, fun x xl hx => ?_⟩, r2⟩
  show match (if x = key then some d else G x) with | some d => ∀ z, _ = d | none => ∀ z, _ = z
  by_cases e : x = key
  · subst e
    have : xl = kl := by rw [hx] at hkey; exact Option.some.inj hkey
    subst this
    rw [if_pos rfl]
    exact fun z => atKey_put_same h2 (K.key hkey) _ _
  · rw [if_neg e]
    have hne : xl ≠ kl := fun e' => e (K.inj hx (by rw [e']; exact hkey))
    have h4 := h3 x xl hx
    cases hG : G x with
    | none =>
      rw [hG] at h4
      exact fun z => (atKey_put_other hne _ _).trans (h4 z)
    | some d' =>
      rw [hG] at h4
      exact fun z => (atKey_put_other hne _ _).trans (h4 z)
end
end Av
end Go.Proofs.YticnppnejafhdaaGreatDoor
/- Ranges over maps that a call makes. Generic. -/
namespace Go.Proofs.YticnppnejafhdaaGreatDoor
open Go.RowKit Go.Maps
open Go.Maps (Keyed)
namespace Av

/-- Block r is an iterator over the map b; at the keys of S there are entries to come. -/
def RangeIs (w : World) (P : Program) (k : TypeId) (R : MReader) (b r n : Nat) (G : Value → Option (DataW Unit)) (S : Value → Prop) (cnt : Nat) : Prop :=
  ∃ D left, w.ranges P k R b r n D left cnt ∧ IsMap D ∧ (∀ key kl, keyOf P k key = some kl → match G key with | some d => ∀ z, D.atKey kl z = d | none => ∀ z, D.atKey kl z = z) ∧ ∀ key kl, keyOf P k key = some kl → (left kl = true ↔ S key)
section
variable {P : Program} {k : TypeId} {R : MReader} {b r n cnt : Nat} {G : Value → Option (DataW Unit)} {S : Value → Prop} {w w' : World}
theorem RangeIs.stable (h : RangeIs w P k R b r n G S cnt) (hb : w'.heap[b]? = w.heap[b]?) (hr : w'.heap[r]? = w.heap[r]?) : RangeIs w' P k R b r n G S cnt := by
  obtain ⟨D, left, ⟨es, clock, since, seen, c0, h1, h2, h3, h4, h5, h6⟩, h7⟩ := h
  exact ⟨D, left, ⟨es, clock, since, seen, c0, hb.trans h1, h2, h3, h4, hr.trans h5, h6⟩, h7⟩
theorem RangeIs.lt (h : RangeIs w P k R b r n G S cnt) : b < w.heap.size ∧ r < w.heap.size ∧ r ≠ b := by
  obtain ⟨D, left, h1, _⟩ := h
  exact ⟨h1.owns.lt, h1.lt, h1.ne⟩
theorem has_of_atKey {D : DataW Unit} {kl : Lit} {o : Option (DataW Unit)} (h : match o with | some d => ∀ z, D.atKey kl z = d | none => ∀ z, D.atKey kl z = z) : has D kl = true ↔ o.isSome = true := by
  cases o with
  | none => rw [has_false_of_atKey h]; simp
  | some d => rw [has_true_of_atKey h]; simp
theorem MapIs.range (h : MapIs w P k R b n G) (K : Keyed P k) {t e : TypeId} (ht : P.underlying t = some (.map k e)) :
    ∃ w' cnt, (Instr.range t (.map (some b))).run P w = .ok (.pointer (some ⟨w.heap.size, 0, none⟩)) w' ∧ RangeIs w' P k R b w.heap.size n G (fun key => (G key).isSome = true) cnt ∧ w.grownBy w' none ∧ w'.heap.size = w.heap.size + 1 := by
  obtain ⟨D, h1, h2, h3⟩ := h
  obtain ⟨w', hrun, r1, r2, r3⟩ := h1.range K ht
  exact ⟨w', _, hrun, ⟨D, _, r1, h2, h3, fun key kl hkey => has_of_atKey (h3 key kl hkey)⟩, r2, r3⟩
theorem RangeIs.next (h : RangeIs w P k R b r n G S cnt) (K : Keyed P k) (ty : TypeId) :
    ((∀ key kl, keyOf P k key = some kl → ¬ S key) ∧ (Instr.next (.pointer (some ⟨r, 0, none⟩)) false ty).run P w = .ok (.tuple #[.bool false]) w) ∨
    ∃ key v kl d ps w' cnt', keyOf P k key = some kl ∧ S key ∧ R v = some (d, ps) ∧ G key = some d ∧ (Instr.next (.pointer (some ⟨r, 0, none⟩)) false ty).run P w = .ok (.tuple #[.bool true, key, v]) w' ∧
      RangeIs w' P k R b r n G (fun x => S x ∧ x ≠ key) cnt' ∧ cnt' < cnt ∧ w.grownBy w' (some r) ∧ w'.heap.size = w.heap.size ∧ (Instr.entry (.pointer (some ⟨r, 0, none⟩))).run P w' = .ok (.tuple #[key, v]) w' := by
  obtain ⟨D, left, h1, h2, h3, h4⟩ := h
  rcases h1.next K ty with ⟨_, hl, hrun⟩ | ⟨key, v, kl, y, w', cnt', hkey, hlk, hv, hat, hrun, hrg, hlt, hgr, hsz, hen⟩
  · refine .inl ⟨fun key kl hkey hS => ?_, hrun⟩
    have h5 := (h4 key kl hkey).2 hS
    rw [hl] at h5
    cases h5
  · refine .inr ⟨key, v, kl, y.1, y.2, w', cnt', hkey, (h4 key kl hkey).1 hlk, hv, ?_, hrun, ⟨D, _, hrg, h2, h3, fun x xl hx => ?_⟩, hlt, hgr, hsz, hen⟩
    · have h5 := h3 key kl hkey
      cases hG : G key with
      | none =>
        rw [hG] at h5
        have h6 := (hat (.lit (.bool true))).symm.trans (h5 _)
        have h7 := (hat (.lit (.bool false))).symm.trans (h5 _)
        rw [h6] at h7; cases h7
      | some d =>
        rw [hG] at h5
        rw [← hat .nil, h5]
    · rw [Bool.and_eq_true, h4 x xl hx]
      refine and_congr_right fun _ => ?_
      constructor
      · intro h5 e
        subst e
        have : xl = kl := by rw [hx] at hkey; exact Option.some.inj hkey
        subst this
        rw [WideAt.sameKey_self (K.key hx)] at h5
        cases h5
      · intro h5
        cases hs : xl.sameKey kl with
        | false => rfl
        | true =>
          have := WideAt.sameKey_eq hs
          subst this
          exact absurd (K.inj hx hkey) h5
theorem RangeIs.entry (h : RangeIs w P k R b r n G S cnt) {v : Value} (he : (Instr.entry (.pointer (some ⟨r, 0, none⟩))).run P w = .ok v w) (hb : w'.heap[b]? = w.heap[b]?) (hr : w'.heap[r]? = w.heap[r]?) : (Instr.entry (.pointer (some ⟨r, 0, none⟩))).run P w' = .ok v w' := by
  obtain ⟨D, left, ⟨es, clock, since, seen, c0, h1, h2, h3, h4, h5, h6⟩, h7⟩ := h
  have hb1 := hb.trans h1
  have hr1 := hr.trans h5
  simp only [Instr.entry, getObj, Sem.run_bind, Sem.run, h5, Result.andThen] at he
  simp only [Instr.entry, getObj, Sem.run_bind, Sem.run, hr1, Result.andThen]
  cases hs : seen.back? with
  | none => simp only [hs] at he; cases he
  | some stamp =>
    simp only [hs, Sem.run_bind, Sem.run, h1, Result.andThen] at he
    simp only [hs, Sem.run_bind, Sem.run, hb1, Result.andThen]
    split at he
    · cases he
    · rename_i hc
      rw [if_neg hc]
      cases hf : es.find? (fun x => x.born == stamp) with
      | none => rw [hf] at he; cases he
      | some e =>
        rw [hf] at he
        simp only [Sem.run_pure, Result.ok.injEq, and_true] at he ⊢
        exact he
end
end Av
end Go.Proofs.YticnppnejafhdaaGreatDoor
/- Abstract states: maps that the frame holds besides. Generic. -/
namespace Go.Proofs.YticnppnejafhdaaGreatDoor
open Go.RowKit Go.Maps
open Go.Maps (Keyed)
namespace Av

/-- All blocks of it. -/
def Ext.all (A : Ext) (b : Nat) : Prop := A.foot b ∨ A.froz b
def Ext.and (A B : Ext) : Ext where
  foot b := A.foot b ∨ B.foot b
  froz b := A.froz b ∨ B.froz b
  holds w := A.holds w ∧ B.holds w ∧ ∀ b, A.all b → ¬ B.all b
  stable h hw := ⟨A.stable (fun b hb => h b (hb.elim (fun h => .inl (.inl h)) (fun h => .inr (.inl h)))) hw.1, B.stable (fun b hb => h b (hb.elim (fun h => .inl (.inr h)) (fun h => .inr (.inr h)))) hw.2.1, hw.2.2⟩
  laid w := A.laid w ∧ B.laid w
theorem Turn.all {A A' : Ext} {w w1 : World} (ht : Turn A w w1 A') {b : Nat} (hb : A'.all b) : A.all b ∨ (w.heap.size ≤ b ∧ b < w1.heap.size) := by
  rcases hb with hb | hb
  · exact (ht.foot b hb).elim (fun h => .inl (.inl h)) .inr
  · exact (ht.froz b hb).elim (fun h => .inl (.inl h)) (fun h => h.elim (fun h => .inl (.inr h)) .inr)
theorem Turn.left {A A' B : Ext} {w w1 : World} (hl : ∀ b, B.all b → b < w.heap.size) (hh : (A.and B).holds w) (ht : Turn A w w1 A') : Turn (A.and B) w w1 (A'.and B) := by
  obtain ⟨_, h2, h3⟩ := hh
  have hk : ∀ b, B.all b → ¬ A.foot b := fun b hb ha => h3 b (.inl ha) hb
  refine ⟨ht.os, ht.tape, ht.output, ht.size, fun k hk' hn => ht.block k hk' (fun ha => hn (.inl ha)), ⟨ht.holds, B.stable (fun b hb => ht.block b (hl b hb) (hk b hb)) h2, fun b ha hb => ?_⟩, fun b hb => ?_, fun b hb => ?_, fun w0 h => ⟨ht.laid w0 h.1, h.2⟩⟩
  · rcases ht.all ha with h | h
    · exact h3 b h hb
    · have := hl b hb; omega
  · rcases hb with hb | hb
    · rcases ht.foot b hb with h | h
      · exact .inl (.inl h)
      · exact .inr h
    · exact .inl (.inr hb)
  · rcases hb with hb | hb
    · rcases ht.froz b hb with h | h | h
      · exact .inl (.inl h)
      · exact .inr (.inl (.inl h))
      · exact .inr (.inr h)
    · exact .inr (.inl (.inr hb))
theorem Turn.right {A B B' : Ext} {w w1 : World} (hl : ∀ b, A.all b → b < w.heap.size) (hh : (A.and B).holds w) (ht : Turn B w w1 B') : Turn (A.and B) w w1 (A.and B') := by
  obtain ⟨h1, _, h3⟩ := hh
  have hk : ∀ b, A.all b → ¬ B.foot b := fun b ha hb => h3 b ha (.inl hb)
  refine ⟨ht.os, ht.tape, ht.output, ht.size, fun k hk' hn => ht.block k hk' (fun ha => hn (.inr ha)), ⟨A.stable (fun b hb => ht.block b (hl b hb) (hk b hb)) h1, ht.holds, fun b ha hb => ?_⟩, fun b hb => ?_, fun b hb => ?_, fun w0 h => ⟨h.1, ht.laid w0 h.2⟩⟩
  · rcases ht.all hb with h | h
    · exact h3 b ha h
    · have := hl b ha; omega
  · rcases hb with hb | hb
    · exact .inl (.inl hb)
    · rcases ht.foot b hb with h | h
      · exact .inl (.inr h)
      · exact .inr h
  · rcases hb with hb | hb
    · exact .inr (.inl (.inl hb))
    · rcases ht.froz b hb with h | h | h
      · exact .inl (.inr h)
      · exact .inr (.inl (.inr h))
      · exact .inr (.inr h)
/-- Something new besides. -/
theorem Turn.more {A B : Ext} {w w1 : World} (hl : ∀ b, A.all b → b < w.heap.size) (hh : A.holds w) (ht : Turn Ext.nil w w1 B) : Turn A w w1 (A.and B) := by
  have hB : ∀ b, B.all b → w.heap.size ≤ b ∧ b < w1.heap.size := fun b hb => (ht.all hb).resolve_left (fun h => h.elim (fun h => h.elim) (fun h => h.elim))
  refine ⟨ht.os, ht.tape, ht.output, ht.size, fun k hk' _ => ht.block k hk' (fun h => h.elim), ⟨A.stable (fun b hb => ht.block b (hl b hb) (fun h => h.elim)) hh, ht.holds, fun b ha hb => ?_⟩, fun b hb => ?_, fun b hb => ?_, fun w0 h => ⟨h, ht.laid w0 trivial⟩⟩
  · have := hl b ha; have := hB b hb; omega
  · rcases hb with hb | hb
    · exact .inl hb
    · exact .inr (hB b (.inl hb))
  · rcases hb with hb | hb
    · exact .inr (.inl hb)
    · exact .inr (.inr (hB b (.inr hb)))
section
variable {P : Program} {k : TypeId} {R : MReader}
theorem rep_of_ints {R : Reader} : ∀ {xs : List Value}, (∀ x ∈ xs, x.oneCell' = true) → RepL R (xs.map PV.v) xs
  | [], _ => .nil
  | _ :: _, h => .cons (.v _ (h _ List.mem_cons_self)) (rep_of_ints fun x hx => h x (List.mem_cons_of_mem _ hx))
theorem Turn.grown {A B : Ext} {w w1 : World} {b : Nat} (hg : w.grownBy w1 (some b)) (hA : A.foot b) (hB : B.holds w1) (hf : ∀ x, B.foot x → A.foot x) (hz : ∀ x, B.froz x → A.foot x ∨ A.froz x) (hl : ∀ w0, A.laid w0 → B.laid w0 := by intros; repeat' (first | assumption | trivial | constructor)) : Turn A w w1 B :=
  ⟨hg.os, hg.tape, hg.output, hg.size, fun j hj hn => hg.block j hj (fun e => hn (by cases e; exact hA)), hB, fun x hx => .inl (hf x hx), fun x hx => (hz x hx).elim .inl (fun h => .inr (.inl h)), hl⟩
variable {n d : Nat} {σ : St} {o : Oper} {K : St → Prop}
end
end Av
end Go.Proofs.YticnppnejafhdaaGreatDoor
/- Abstract states: boxes whose names are their blocks' numbers (and a million): pointers that lie in maps. Generic. -/
namespace Go.Proofs.YticnppnejafhdaaGreatDoor
open Go.RowKit Go.Maps
open Go.Maps (Keyed)
namespace Av

def ren1 (kb g k : Nat) : Nat := if k = kb then g else k
def AV.ren (kb g : Nat) : AV → AV
  | .ref k off => .ref (ren1 kb g k) off
  | .clo f caps => .clo f (caps.map fun c => (ren1 kb g c.1, c.2))
  | x => x
/-- Box kb is called g. -/
def St.ren (σ : St) (kb g : Nat) : St := { slot := σ.slot.map fun x => (x.1, x.2.ren kb g), box := σ.box.map fun x => (ren1 kb g x.1, x.2), own := σ.own, ext := σ.ext }
def Gh.ren (γ : Gh) (kb g : Nat) : Gh := { γ with bx := fun j => if j = g then γ.bx kb else γ.bx j }
theorem look_map {α : Type} (f : α → α) : ∀ (l : List (Nat × α)) (t : Nat), look (l.map fun x => (x.1, f x.2)) t = (look l t).map f
  | [], _ => rfl
  | x :: l, t => by
    rw [List.map_cons, look_cons, look_map f l t]
    obtain ⟨k, y⟩ := x
    rw [look_cons]
    split <;> rfl
theorem look_ren {α : Type} {kb g : Nat} (hne : kb ≠ g) : ∀ {l : List (Nat × α)}, look l g = none → ∀ j, look (l.map fun x => (ren1 kb g x.1, x.2)) j = if j = g then look l kb else if j = kb then none else look l j
  | [], _, j => by simp [look]
  | (k, x) :: l, hg, j => by
    rw [look_cons] at hg
    by_cases hkg : k = g
    · rw [if_pos hkg] at hg; cases hg
    · rw [if_neg hkg] at hg
      rw [List.map_cons, look_cons, look_ren hne hg j, look_cons, look_cons]
      unfold ren1
      dsimp only
      by_cases hk : k = kb
      · subst hk
        rw [if_pos rfl, if_pos rfl]
        by_cases hj : j = g
        · subst hj; rw [if_pos rfl, if_pos rfl]
        · rw [if_neg (fun e => hj e.symm), if_neg hj, if_neg hj]
          by_cases hjk : j = k
          · rw [if_pos hjk, if_pos hjk]
          · rw [if_neg hjk, if_neg hjk, if_neg (fun e => hjk e.symm)]
      · rw [if_neg hk, if_neg hk]
        by_cases hj : j = g
        · subst hj; rw [if_neg hkg, if_pos rfl, if_pos rfl]
        · rw [if_neg hj, if_neg hj]
          by_cases hjk : j = kb
          · subst hjk; rw [if_neg hk, if_pos rfl, if_pos rfl]
          · rw [if_neg hjk, if_neg hjk]
section
variable {P : Program} {F : Fr} {σ : St} {γ : Gh} {a : Act} {w : World}
theorem ren_sl {kb g sz : Nat} {rows : List (List PV)} {x : AV} (h : x.ren kb g = .sl sz rows) : x = .sl sz rows := by
  cases x <;> first | exact h | cases h
theorem Rel.ren (h : Rel F σ γ a w) {kb g : Nat} (hk : (look σ.box kb).isSome) (hkb : kb < 1000000) (hg : γ.bx kb = g) (hno : ∀ off, lookL σ.own (.b kb off) = none) : look σ.box (g + 1000000) = none ∧ Rel F (σ.ren kb (g + 1000000)) (γ.ren kb (g + 1000000)) a w := by
  have hnone : look σ.box (g + 1000000) = none := by
    cases hq : look σ.box (g + 1000000) with
    | none => rfl
    | some cs =>
      have h1 := h.dyn (g + 1000000) (by rw [hq]; rfl) (by omega)
      have := h.boxinj kb (g + 1000000) hk (by rw [hq]; rfl) (by rw [h1, hg]; omega)
      omega
  have hne : kb ≠ g + 1000000 := by omega
  have hb := fun j => look_ren (l := σ.box) hne hnone j
  have hbx : ∀ j, look (σ.ren kb (g + 1000000)).box j = if j = g + 1000000 then look σ.box kb else if j = kb then none else look σ.box j := hb
  have hsl : ∀ t, look (σ.ren kb (g + 1000000)).slot t = (look σ.slot t).map (·.ren kb (g + 1000000)) := fun t => look_map _ _ t
  have hγ : ∀ j, (γ.ren kb (g + 1000000)).bx j = if j = g + 1000000 then γ.bx kb else γ.bx j := fun j => rfl
  have hown : ∀ L e, lookL σ.own L = some e → ∀ k off, L = .b k off → k ≠ kb ∧ k ≠ g + 1000000 := fun L e hL k off hLk => by
    subst hLk
    refine ⟨fun e' => (by subst e'; rw [hno] at hL; cases hL), fun e' => ?_⟩
    subst e'
    obtain ⟨rows, v, h1, _⟩ := h.owns _ e.1 e.2 hL
    simp [St.avAt, hnone] at h1
  have hav : ∀ L e, lookL σ.own L = some e → ∀ sz rows, (σ.ren kb (g + 1000000)).avAt L = some (.sl sz rows) ↔ σ.avAt L = some (.sl sz rows) := fun L e hL sz rows => by
    cases L with
    | s t =>
      show look (σ.ren kb (g + 1000000)).slot t = _ ↔ look σ.slot t = _
      rw [hsl]
      constructor
      · intro h1
        obtain ⟨x, h2, h3⟩ := Option.map_eq_some_iff.1 h1
        rw [h2, ren_sl h3]
      · intro h1; rw [h1]; rfl
    | b k off =>
      obtain ⟨h1, h2⟩ := hown _ e hL k off rfl
      simp only [St.avAt, hbx, if_neg h1, if_neg h2]
  have hle : ∀ p v, rdr F.R0 F.w0.heap.size σ γ w p = some v → rdr F.R0 F.w0.heap.size (σ.ren kb (g + 1000000)) (γ.ren kb (g + 1000000)) w p = some v := by
    refine rdr_le fun p v _ hm hc => ⟨fun hm' => hm ?_, hc⟩
    rcases hm' with ⟨j, cs, hj, hp⟩ | ⟨L, e, sz, rows, h1, h2, h3, h4⟩ | hx
    · rw [hbx] at hj
      rw [hγ] at hp
      by_cases hjg : j = g + 1000000
      · rw [if_pos hjg] at hj hp; exact .inl ⟨kb, cs, hj, hp⟩
      · rw [if_neg hjg] at hj hp
        by_cases hjk : j = kb
        · rw [if_pos hjk] at hj; cases hj
        · rw [if_neg hjk] at hj; exact .inl ⟨j, cs, hj, hp⟩
    · exact .inr (.inl ⟨L, e, sz, rows, h1, (hav L _ h1 sz rows).1 h2, h3, h4⟩)
    · exact .inr (.inr hx)
  have hbox : ∀ j, (look (σ.ren kb (g + 1000000)).box j).isSome → ∃ j0, (look σ.box j0).isSome ∧ look (σ.ren kb (g + 1000000)).box j = look σ.box j0 ∧ (γ.ren kb (g + 1000000)).bx j = γ.bx j0 ∧ j0 ≠ g + 1000000 ∧ j = ren1 kb (g + 1000000) j0 := fun j hj => by
    rw [hbx] at hj
    by_cases hjg : j = g + 1000000
    · exact ⟨kb, hk, by rw [hbx, if_pos hjg], by rw [hγ, if_pos hjg], hne, by rw [ren1, if_pos rfl]; exact hjg⟩
    · rw [if_neg hjg] at hj
      by_cases hjk : j = kb
      · rw [if_pos hjk] at hj; cases hj
      · rw [if_neg hjk] at hj
        exact ⟨j, hj, by rw [hbx, if_neg hjg, if_neg hjk], by rw [hγ, if_neg hjg], hjg, by rw [ren1, if_neg hjk]⟩
  have href : ∀ j, (look σ.box j).isSome → (look (σ.ren kb (g + 1000000)).box (ren1 kb (g + 1000000) j)).isSome ∧ (γ.ren kb (g + 1000000)).bx (ren1 kb (g + 1000000) j) = γ.bx j := fun j hj => by
    unfold ren1
    by_cases hjk : j = kb
    · subst hjk; rw [if_pos rfl, hbx, hγ, if_pos rfl, if_pos rfl]; exact ⟨hj, rfl⟩
    · have hjg : j ≠ g + 1000000 := fun e => by subst e; rw [hnone] at hj; cases hj
      rw [if_neg hjk, hbx, hγ, if_neg hjg, if_neg hjk, if_neg hjg]
      exact ⟨hj, rfl⟩
  refine ⟨hnone, h.defers, h.size, h.below, h.r0, fun t x hx => ?_, fun j cs hj => ?_, fun j j' hj hj' he => ?_, fun L e sz hL => ?_, h.rowinj, fun L j g' hL hj hg' => ?_, h.exth, fun b hb' => ?_, h.small, fun j hj hd => ?_, h.laid⟩
  · rw [hsl] at hx
    obtain ⟨y, hy, rfl⟩ := Option.map_eq_some_iff.1 hx
    obtain ⟨h1, h2⟩ := h.slots t y hy
    cases y with
    | ref j off =>
      obtain ⟨h3, h4⟩ := href j (h2 j (by simp [AV.refs]))
      refine ⟨?_, fun k hk' => by simp [AV.ren, AV.refs] at hk'; subst hk'; exact h3⟩
      show _ = Value.pointer _
      rw [h4]; exact h1
    | clo f caps =>
      refine ⟨?_, fun k hk' => ?_⟩
      · show _ = Value.func _ _ _
        rw [show a.tmps.getD t undef = _ from h1, List.map_map]
        congr 2
        refine List.map_congr_left fun c hc => ?_
        have := (href c.1 (h2 c.1 (List.mem_map_of_mem hc))).2
        simp only [Function.comp]
        rw [this]
      · simp only [AV.ren, AV.refs, List.map_map] at hk'
        obtain ⟨c, hc, rfl⟩ := List.mem_map.1 hk'
        exact (href c.1 (h2 c.1 (List.mem_map_of_mem hc))).1
    | v x => exact ⟨h1, fun k hk' => by cases hk'⟩
    | sl sz rows => exact ⟨RepP.mono hle h1, fun k hk' => by cases hk'⟩
    | agg xs => exact ⟨RepA.mono (x := .agg xs) (bx := γ.bx) hle (fun k hk' => by cases hk') h1, fun k hk' => by cases hk'⟩
    | tup vs => exact ⟨RepA.mono (x := .tup vs) (bx := γ.bx) hle (fun k hk' => by cases hk') h1, fun k hk' => by cases hk'⟩
    | ept row => exact ⟨RepA.mono (x := .ept row) (bx := γ.bx) hle (fun k hk' => by cases hk') h1, fun k hk' => by cases hk'⟩
    | fnv f caps => exact ⟨RepA.mono (x := .fnv f caps) (bx := γ.bx) hle (fun k hk' => by cases hk') h1, fun k hk' => by cases hk'⟩
  · obtain ⟨j0, h1, h2, h3, _⟩ := hbox j (by rw [hj]; rfl)
    rw [h2] at hj
    obtain ⟨us, ty, h4, h5, h6⟩ := h.boxes j0 cs hj
    rw [h3]
    exact ⟨us, ty, h4, h5, h6.mono hle⟩
  · obtain ⟨j0, h1, _, h3, _, h5⟩ := hbox j hj
    obtain ⟨j1, h1', _, h3', _, h5'⟩ := hbox j' hj'
    rw [h3, h3'] at he
    rw [h5, h5', h.boxinj j0 j1 h1 h1' he]
  · obtain ⟨rows, v, h1, h2, h3⟩ := h.owns L e sz hL
    refine ⟨rows, v, (hav L _ hL sz rows).2 h1, ?_, h3⟩
    cases L with
    | s t => exact h2
    | b k off =>
      obtain ⟨h4, h5⟩ := hown _ _ hL k off rfl
      show w.cell? ⟨(γ.ren kb (g + 1000000)).bx k, off, none⟩ = some v
      rw [hγ, if_neg h5]; exact h2
  · obtain ⟨j0, h1, _, h3, _⟩ := hbox j hj
    rw [h3]
    exact h.rowbox L j0 g' hL h1 hg'
  · obtain ⟨h1, h2, h3, h4⟩ := h.extf b hb'
    refine ⟨h1, h2, fun j hj => ?_, h4⟩
    obtain ⟨j0, h5, _, h6, _⟩ := hbox j hj
    rw [h6]; exact h3 j0 h5
  · obtain ⟨j0, h1, _, h3, h4, h5⟩ := hbox j hj
    rw [h3]
    unfold ren1 at h5
    by_cases hjk : j0 = kb
    · rw [if_pos hjk] at h5; rw [hjk, hg, h5]; omega
    · rw [if_neg hjk] at h5; rw [h5] at hd ⊢; exact h.dyn j0 h1 hd
/-- A slice that is nil is owned. -/
theorem Rel.ownNil (h : Rel F σ γ a w) {L0 : Loc} {e0 : TypeId} {sz0 : Nat} (hav0 : σ.avAt L0 = some (.sl sz0 [])) (hval : valAt a w γ L0 = some (.slice none 0 0)) : Rel F { σ with own := (L0, (e0, sz0)) :: delL σ.own L0 } (γ.setRow L0 none) a w := by
  have hlk : ∀ L, lookL ((L0, (e0, sz0)) :: delL σ.own L0) L = if L = L0 then some (e0, sz0) else lookL σ.own L := fun L => by
    rw [lookL_cons, lookL_del]
    by_cases h1 : L = L0
    · rw [if_pos h1.symm, if_pos h1]
    · rw [if_neg (fun e => h1 e.symm), if_neg h1, if_neg h1]
  have hrw : ∀ L, (γ.setRow L0 none).rw L = if L = L0 then none else γ.rw L := fun L => rfl
  have hold : ∀ L g, (lookL ((L0, (e0, sz0)) :: delL σ.own L0) L).isSome → (γ.setRow L0 none).rw L = some g → L ≠ L0 ∧ (lookL σ.own L).isSome ∧ γ.rw L = some g := fun L g hL hg => by
    rw [hrw] at hg
    by_cases h1 : L = L0
    · rw [if_pos h1] at hg; cases hg
    · rw [if_neg h1] at hg
      rw [hlk, if_neg h1] at hL
      exact ⟨h1, hL, hg⟩
  have hle : ∀ p v, rdr F.R0 F.w0.heap.size σ γ w p = some v → rdr F.R0 F.w0.heap.size { σ with own := (L0, (e0, sz0)) :: delL σ.own L0 } (γ.setRow L0 none) w p = some v :=
    rdr_le fun p v _ hm hc => ⟨fun hm' => hm (by
      rcases hm' with hm' | ⟨L, e', sz, rows, h1, h2, h3, h4⟩ | hx
      · exact .inl hm'
      · obtain ⟨h5, h6, h7⟩ := hold L _ (by rw [show lookL _ L = _ from h1]; rfl) h3
        have h8 := h1
        dsimp only at h8
        rw [hlk, if_neg h5] at h8
        exact .inr (.inl ⟨L, e', sz, rows, h8, by cases L <;> exact h2, h7, h4⟩)
      · exact .inr (.inr hx)), hc⟩
  refine ⟨h.defers, h.size, h.below, h.r0, fun t x hx => ?_, fun k cs hk => ?_, h.boxinj, fun L e' sz hL => ?_, fun L L' g hL hL' hg hg' => ?_, fun L k g hL hk hg => ?_, h.exth, fun b hb => ?_, h.small, h.dyn, h.laid⟩
  · obtain ⟨h1, h2⟩ := h.slots t x hx
    exact ⟨h1.mono hle (fun _ _ => rfl), h2⟩
  · obtain ⟨us, ty, h1, h2, h3⟩ := h.boxes k cs hk
    exact ⟨us, ty, h1, h2, h3.mono hle⟩
  · dsimp only at hL
    rw [hlk] at hL
    by_cases h1 : L = L0
    · rw [if_pos h1] at hL
      cases hL
      subst h1
      exact ⟨[], .slice none 0 0, by cases L <;> exact hav0, by cases L <;> exact hval, by rw [hrw, if_pos rfl]; exact ⟨rfl, rfl⟩⟩
    · rw [if_neg h1] at hL
      obtain ⟨rows, v, h3, h4, h5⟩ := h.owns L e' sz hL
      exact ⟨rows, v, by cases L <;> exact h3, by cases L <;> exact h4, by rw [hrw, if_neg h1]; exact h5⟩
  · obtain ⟨_, h1, h2⟩ := hold L g hL hg
    obtain ⟨_, h3, h4⟩ := hold L' g hL' hg'
    exact h.rowinj L L' g h1 h3 h2 h4
  · obtain ⟨_, h1, h2⟩ := hold L g hL hg
    exact h.rowbox L k g h1 hk h2
  · obtain ⟨h1, h2, h3, h4⟩ := h.extf b hb
    refine ⟨h1, h2, h3, fun L hL e => ?_⟩
    obtain ⟨_, h5, h6⟩ := hold L b hL e
    exact h4 L h5 h6
theorem repL_setNil {R : Reader} {sz : Nat} : ∀ {cs : List PV} {us : List Value} {off : Nat}, RepL R cs us → cs[off]? = some (.v (.slice none 0 0)) → RepL R (setAt cs off [.sl sz []]) us ∧ us[off]? = some (.slice none 0 0)
  | [], _, off, h, hx => by simp at hx
  | c :: cs, _, 0, .cons h1 h2, hx => by
    simp at hx
    subst hx
    cases h1
    refine ⟨?_, rfl⟩
    show RepL R (([] : List PV) ++ [PV.sl sz []] ++ cs) _
    exact .cons (.sl sz [] none 0 (fun _ _ => undef) (fun k row hk => by simp at hk) (.inl rfl) (fun k row _ _ hk => by simp at hk) (Nat.le_refl _)) h2
  | c :: cs, _, off + 1, .cons h1 h2, hx => by
    obtain ⟨h3, h4⟩ := repL_setNil (off := off) (sz := sz) h2 (by simpa using hx)
    refine ⟨?_, by simpa using h4⟩
    have : setAt (c :: cs) (off + 1) [PV.sl sz []] = c :: setAt cs off [PV.sl sz []] := by simp [setAt]
    rw [this]
    exact .cons h1 h3
/-- A nil slice in a box's cell is owned. -/
theorem awp_nilB {c : Code} {Q : AX → St → Prop} (k off sz : Nat) (e : TypeId) {cs : List PV} (hk : look σ.box k = some cs) (hc : cs[off]? = some (.v (.slice none 0 0)))
    (hw : AWp P F c Q { (σ.setBox k (setAt cs off [.sl sz []]) (keepL σ.own k off 1)) with own := (.b k off, (e, sz)) :: delL (keepL σ.own k off 1) (.b k off) }) : AWp P F c Q σ := fun γ a w hr => by
  obtain ⟨us, ty, h1, h2, h3⟩ := hr.boxes k cs hk
  obtain ⟨h4, h5⟩ := repL_setNil (sz := sz) h3 hc
  have hr1 := hr.rebox hk h1 h1 (fun _ _ => rfl) rfl rfl rfl rfl h4 (own' := keepL σ.own k off 1) (fun L x hL => by
    obtain ⟨g1, g2⟩ := lookL_keep hL
    refine ⟨g1, fun o ho => ⟨?_, rfl⟩⟩
    have hlt : off < cs.length := (List.getElem?_eq_some_iff.1 hc).1
    exact setAt_out (by simp; omega) (by simpa using g2 o ho))
  refine hw _ a w (hr1.ownNil (L0 := .b k off) (e0 := e) (sz0 := sz) ?_ ?_)
  · have hlt : off < cs.length := (List.getElem?_eq_some_iff.1 hc).1
    show ((look (σ.setBox k _ _).box k).bind (·[off]?)).map PV.av = _
    have : look (σ.setBox k (setAt cs off [PV.sl sz []]) (keepL σ.own k off 1)).box k = some (setAt cs off [PV.sl sz []]) := by simp [St.setBox, look_cons]
    rw [this]
    simp only [Option.bind_some]
    unfold setAt
    rw [List.append_assoc, List.getElem?_append_right (by simp; omega)]
    simp [Nat.min_eq_left (Nat.le_of_lt hlt)]
    rfl
  · show w.cell? ⟨γ.bx k, off, none⟩ = _
    rw [cell_of_row w _ off _ ty (0, 0) h1]
    simpa using h5
end
end Av
end Go.Proofs.YticnppnejafhdaaGreatDoor
/- Abstract states: a call that is walked by hand; a box that gets its block's number as its name. Generic. -/
namespace Go.Proofs.YticnppnejafhdaaGreatDoor
open Go.RowKit
namespace Av
section
variable {P : Program} {F : Fr} {σ : St} {γ : Gh} {a : Act} {w : World}
/-- A call by hand. -/
theorem hand_call {n : Nat} {o : Oper} {d : Nat} {K : St → Prop} (hd : o.dst = some d)
    (h : ∀ (F : Fr) (γ : Gh) (a : Act) (w : World), F.n = n → Rel F σ γ a w → ∃ fid us, (execOp a.eval o).run P w = .ok (.enter fid us) w ∧
      Calls P fid us w fun e w1 => ∃ u σ' γ', e = .returned u ∧ K σ' ∧ Rel F σ' γ' (a.put (some d) u) w1) : Hand P n σ o K := by
  intro F γ a w hF hr Q
  obtain ⟨fid, us, hrun, hc⟩ := h F γ a w hF hr
  unfold Oper.wp
  rw [hrun, Oper.upon_enter, hd]
  refine hc.mono ?_
  rintro e w1 ⟨u, σ', γ', rfl, hK, hrel⟩
  exact ⟨σ', γ', hK, hrel⟩
/-- A box gets its block's number (and a million) as its name. -/
theorem awp_ren {c : Code} {Q : AX → St → Prop} (kb : Nat) (hk : (look σ.box kb).isSome) (hkb : kb < 1000000) (hno : ∀ off, lookL σ.own (.b kb off) = none)
    (h : ∀ g, look σ.box (g + 1000000) = none → AWp P F c Q (σ.ren kb (g + 1000000))) : AWp P F c Q σ := fun γ a w hr => by
  obtain ⟨h1, h2⟩ := hr.ren hk hkb rfl hno
  exact h _ h1 _ a w h2
end
end Av
end Go.Proofs.YticnppnejafhdaaGreatDoor
/- Functions whose contract asks something of the world: package-level tables. Generic. -/
namespace Go.Proofs.YticnppnejafhdaaGreatDoor
open Go.RowKit
namespace Av
/-- What held of the first world. -/
def laidE (C : World → Prop) : Ext where
  foot _ := False
  froz _ := False
  holds _ := True
  stable _ _ := trivial
  laid := C
def startStC (C : World → Prop) (args : List AV) : St := { startSt args with ext := laidE C }
def FnOKC (P : Program) (C : World → Prop) (f : FuncId) (args : List AV) (res : FRes) : Prop :=
  Enters P f ∧ ∀ (w : World) (R : Reader), C w → (∀ p v, R p = some v → w.cell? p = some v) → ∀ us, RepAL R args us →
    Calls P f us.toArray w fun e w' => ∃ u, e = .returned u ∧ Below w.heap.size w w' ∧ ResRep R w w' res u
theorem FnOK.c {P : Program} {C : World → Prop} {f : FuncId} {args : List AV} {res : FRes} (h : FnOK P f args res) : FnOKC P C f args res := ⟨h.1, fun w R _ hR us hus => h.2 w R hR us hus⟩
theorem FnOKC.plain {P : Program} {f : FuncId} {args : List AV} {res : FRes} (h : FnOKC P (fun _ => True) f args res) : FnOK P f args res := ⟨h.1, fun w R hR us hus => h.2 w R trivial hR us hus⟩
section
variable {P : Program}
/-- A function, in worlds of which something holds. -/
theorem fn_okC {C : World → Prop} {f : FuncId} {fn : Func} {c : Code} {args : List AV} {res : FRes} (hf : P.funcs[f]? = some fn) (hname : (fn.name == "runtime.NumGoroutine") = false) (hb : fn.body = some c) (hn : args.length ≤ fn.ntmps ∧ fn.ntmps ≤ 1000000)
    (h : ∀ F : Fr, F.n = fn.ntmps → AWp P F c (fun x σ => (match x with | .exit _ => False | _ => True) ∧ RetOK P fn.results σ res) (startStC C args)) : FnOKC P C f args res := by
  refine ⟨⟨fn, c, hf, hname, hb⟩, fun w R hC hR us hus => calls_of_wp hf hb ?_⟩
  have hlen := hus.length
  let F : Fr := ⟨R, w, fn.ntmps⟩
  have hmut : ∀ γ p, ¬ (startStC C args).mut γ p := fun γ p => by
    rintro (⟨k, cs, h1, _⟩ | ⟨L, e, sz, rows, h1, _⟩ | h1) <;> cases h1
  let γ0 : Gh := ⟨fun _ => 0, fun _ => none⟩
  have hR0 : ∀ p v, R p = some v → rdr R w.heap.size (startStC C args) γ0 w p = some v := fun p v hp => by
    have := Rel.cell_lt (hR p v hp)
    unfold rdr
    rw [if_pos this]; exact hp
  have hrel : Rel F (startStC C args) γ0 { tmps := us.toArray ++ Array.replicate (fn.ntmps - us.toArray.size) undef, defers := [] } w := by
    refine ⟨rfl, ?_, Below.refl _ _, hR, fun t x hx => ?_, fun k cs hk => (by cases hk), fun k k' hk => (by cases hk), fun L e sz hL => (by cases hL), fun L L' g hL => (by cases hL), fun L k g hL => (by cases hL), trivial, fun b hb => hb.elim (fun (h : False) => h.elim) (fun (h : False) => h.elim), hn.2, fun k hk => (by cases hk), hC⟩
    · show _ = fn.ntmps
      simp; omega
    · have hx' : args[t]? = some x := by
        have := hx
        unfold startStC startSt at this
        rw [look_start] at this
        simpa using this
      obtain ⟨u, h1, h2, h3⟩ := hus.get hx'
      have ht : t < us.length := (List.getElem?_eq_some_iff.1 h1).1
      refine ⟨?_, fun k hk => by rw [h3] at hk; cases hk⟩
      have : (us.toArray ++ Array.replicate (fn.ntmps - us.toArray.size) undef).getD t undef = u := by
        rw [Array.getD_eq_getD_getElem?, Array.getElem?_append_left (by simpa using ht)]
        simp [h1]
      rw [this]
      exact h2.mono hR0 (fun k _ => rfl)
  refine wp_mono (h F rfl γ0 _ w hrel) ?_
  rintro e a' w' ⟨x, σ', γ', rfl, ⟨hx, hret⟩, hr'⟩
  have hbody : ∀ v, (results fn a'.tmps).run P w' = .ok v w' ∧ ResRep R w w' res v → bodyPost P fn (fun e w' => ∃ u, e = .returned u ∧ Below w.heap.size w w' ∧ ResRep R w w' res u) x.exit_ a' w' := fun v hv => by
    cases x with
    | normal => exact ⟨hr'.defers, v, hv.1, v, rfl, hr'.below, hv.2⟩
    | exit id => exact hx.elim
    | ret => exact ⟨hr'.defers, v, hv.1, v, rfl, hr'.below, hv.2⟩
  rcases hret with ⟨t, sz, rows, e, h1, h2, h3, rfl⟩ | hret
  · refine hbody (a'.tmps.getD t undef) ⟨by simp [results_eq, h1, resOne], ?_⟩
    obtain ⟨rows', v, h4, h5, h6⟩ := hr'.owns _ _ _ h3
    have h7 : look σ'.slot t = some (.sl sz rows') := h4
    rw [h2] at h7
    cases h7
    have h8 : v = a'.tmps.getD t undef := by simpa [valAt] using h5.symm
    subst h8
    refine ⟨γ'.rw (.s t), h6, RepP.mono (fun p v hp => ?_) (hr'.slots t _ h2).1⟩
    unfold fresh
    unfold rdr at hp
    by_cases hB : p.block < w.heap.size
    · rw [if_pos hB]; rw [if_pos hB] at hp; exact hp
    · rw [if_neg hB] at hp ⊢
      by_cases hm : σ'.mut γ' p
      · rw [if_pos hm] at hp; cases hp
      · rw [if_neg hm] at hp
        rw [if_neg]
        · exact hp
        · rintro ⟨h9, h10⟩
          exact hm (.inr (.inl ⟨.s t, e, sz, rows, h3, h2, h9, h10⟩))
  · obtain ⟨cs, vs, h1, h2, h3⟩ := retAll_ok hr' hret
    have hrun : (results fn a'.tmps).run P w' = .ok (if h : vs.toArray.size = 1 then vs.toArray[0] else .tuple vs.toArray) w' := by
      rw [results_eq, Array.mapM_eq_mapM_toList, Sem.run_bind, Sem.run_map, h3]
      rfl
    have hmono : ∀ {c : CV} {u : Value}, RepC (rdr R w.heap.size σ' γ' w') c u → RepA (fresh R w w' none 0) (fun _ => 0) c.av u := fun hc => (hc.mono rdr_fresh).av
    refine hbody _ ⟨hrun, ?_⟩
    subst h1
    cases h2 with
    | nil => exact ⟨rfl, [], by simp, .nil⟩
    | cons hc ht =>
      cases ht with
      | nil =>
        refine ⟨?_, by simpa using hmono hc⟩
        rename_i c _
        cases c with
        | c p => cases p <;> rfl
        | g xs => rfl
      | cons hc' ht' =>
        exact ⟨rfl, _, by simp, .cons (hc.mono rdr_fresh) (.cons (hc'.mono rdr_fresh) (ht'.mono rdr_fresh))⟩

/-- The call of such a function. -/
theorem hand_fnC {C : World → Prop} {n d fid : Nat} {σ : St} {o : Oper} {K : St → Prop} {args : Array Operand} {ats : Array TypeId} {avs avs' : List AV} {res : FRes} (hst : ∀ {w w' : World}, Below w.heap.size w w' → C w → C w') (ho : o.op = .call { callee := .value (.func fid), args := args, argTypes := ats }) (hd : o.dst = some d) (hdn : d < n) (he : σ.ext = laidE C)
    (h3 : evos (look σ.slot) args.toList = some avs) (h4 : snaps (look σ.box) avs = some avs') (h5 : FnOKC P C fid avs' res) (h6 : (avs.all fun x => x.refs.isEmpty) = true) (h : K (σ.res d ⟨res.av, none, res.own⟩)) : Hand P n σ o K := by
  refine hand_call hd fun F γ a w hF hr => ?_
  have hC0 : C F.w0 := by have := hr.laid; rw [he] at this; exact this
  have hC : C w := hst hr.below hC0
  obtain ⟨henter, hcall⟩ := h5
  have gA := evos_ok hr (fun t y _ hy => hy) h3
  obtain ⟨_, g7⟩ := snaps_ok hr (fun _ _ h => h) gA h4
  have hf : a.eval (.func fid) = .func (.func fid) #[] #[] := rfl
  refine ⟨fid, args.map a.eval, ?_, ?_⟩
  · simp [execOp, ho, resolve, hf, Deferred.ofValue, invoke, run_callFunc henter]
  · have hargs : args.map a.eval = (args.toList.map a.eval).toArray := by
      obtain ⟨l⟩ := args
      simp
    rw [hargs]
    refine (hcall w _ hC (fun p v hp => hr.cell hp) _ (g7 h6)).mono ?_
    rintro e w1 ⟨u, rfl, hb, hres⟩
    obtain ⟨γ', _, hrel⟩ := hr.call hb (by rw [hF]; exact hdn) hres
    exact ⟨u, _, γ', rfl, h, hrel⟩
end
end Av
theorem tab_below {P : Program} {w w' : World} {name : String} {k : IntKind} {zs : List Int} (hb : Below w.heap.size w w') (h : Lib.TabIs P w name k zs) : Lib.TabIs P w' name k zs := by
  unfold Lib.TabIs World.var? at h ⊢
  cases hg : P.globalNamed name with
  | none => rw [hg] at h; cases h
  | some g =>
    rw [hg] at h
    simp only [Option.bind_some] at h ⊢
    have hlt : g < w.heap.size := by
      refine Classical.byContradiction fun hn => ?_
      rw [Array.getElem?_eq_none (by omega)] at h
      cases h
    rw [hb.block g hlt]
    exact h
end Go.Proofs.YticnppnejafhdaaGreatDoor
/- The library's contracts that this claim uses, laid for its program: written by a tool of the kit. -/
namespace Go.Proofs.YticnppnejafhdaaGreatDoor
open Go.Shelf
def Tryz.lays156_ren : Go.Shelf.Ren := ⟨fun | 156 => 89 | 165 => 124 | 166 => 125 | 169 => 126 | 240 => 158 | 241 => 159 | 276 => 175 | 277 => 176 | n => n, fun | 31 => 132 | 9 => 9 | 3 => 3 | 4 => 4 | 0 => 0 | 20 => 20 | 72 => 162 | 76 => 166 | 70 => 160 | 37 => 134 | 75 => 165 | 127 => 193 | 164 => 208 | 5 => 5 | 80 => 168 | n => n, fun | n => n⟩
theorem Tryz.lays156 : Go.Proofs.Lays.n156 Tryz.prog Tryz.lays156_ren := {
  mixed := by kernel_rfl
  f156 := Tryz.func89.trans (congrArg some (by kernel_rfl))
  f165 := Tryz.func124.trans (congrArg some (by kernel_rfl))
  f166 := Tryz.func125.trans (congrArg some (by kernel_rfl))
  f169 := Tryz.func126.trans (congrArg some (by kernel_rfl))
  f240 := Tryz.func158.trans (congrArg some (by kernel_rfl))
  f241 := Tryz.func159.trans (congrArg some (by kernel_rfl))
  f276 := Tryz.func175.trans (congrArg some (by kernel_rfl))
  f277 := Tryz.func176.trans (congrArg some (by kernel_rfl))
  t0 := Tryz.underlying0
  a0 := Tryz.isAgg0
  z0 := Tryz.sizeOf0
  v0 := Tryz.zeroValue0
  t3 := Tryz.underlying3
  a3 := Tryz.isAgg3
  z3 := Tryz.sizeOf3
  v3 := Tryz.zeroValue3
  t4 := Tryz.underlying4
  a4 := Tryz.isAgg4
  z4 := Tryz.sizeOf4
  v4 := Tryz.zeroValue4
  t9 := Tryz.underlying9
  a9 := Tryz.isAgg9
  z9 := Tryz.sizeOf9
  v9 := Tryz.zeroValue9
  t20 := Tryz.underlying20
  a20 := Tryz.isAgg20
  z20 := Tryz.sizeOf20
  v20 := Tryz.zeroValue20
  t31 := Tryz.underlying132
  a31 := Tryz.isAgg132
  z31 := Tryz.sizeOf132
  v31 := Tryz.zeroValue132
  t37 := Tryz.underlying134
  a37 := Tryz.isAgg134
  z37 := Tryz.sizeOf134
  v37 := Tryz.zeroValue134
  t70 := Tryz.underlying160
  a70 := Tryz.isAgg160
  z70 := Tryz.sizeOf160
  v70 := Tryz.zeroValue160
  t72 := Tryz.underlying162
  a72 := Tryz.isAgg162
  z72 := Tryz.sizeOf162
  v72 := Tryz.zeroValue162
  t75 := Tryz.underlying165
  a75 := Tryz.isAgg165
  z75 := Tryz.sizeOf165
  v75 := Tryz.zeroValue165
  t76 := Tryz.underlying166
  a76 := Tryz.isAgg166
  z76 := Tryz.sizeOf166
  v76 := Tryz.zeroValue166
  t127 := Tryz.underlying193
  a127 := Tryz.isAgg193
  z127 := Tryz.sizeOf193
  v127 := Tryz.zeroValue193
  t164 := Tryz.underlying208
  a164 := Tryz.isAgg208
  z164 := Tryz.sizeOf208
  v164 := Tryz.zeroValue208 }
theorem Tryz.Builder_Extra_156 : Builder.Extra Tryz.prog Tryz.lays156_ren := {
  sizeBuilder := by kernel_rfl
  liesBuilder := by kernel_rfl
  t5 := Tryz.underlying5
  a5 := Tryz.isAgg5
  z5 := Tryz.sizeOf5
  v5 := Tryz.zeroValue5
  infoByte := by kernel_rfl
  cellsByte := by kernel_rfl
  sizeByte := by kernel_rfl
  neB5 := by decide }
def Tryz.laysM171_ren : Go.Shelf.Ren := ⟨fun | 171 => 88 | 243 => 123 | 246 => 157 | 283 => 171 | 284 => 172 | 285 => 173 | 286 => 174 | 129 => 147 | 317 => 179 | 318 => 180 | 319 => 181 | 320 => 182 | 337 => 183 | 338 => 184 | n => n, fun | 3 => 3 | 9 => 9 | 2 => 2 | 4 => 4 | 171 => 204 | 0 => 0 | 53 => 184 | 37 => 134 | 5 => 5 | 173 => 206 | 212 => 215 | 51 => 172 | 20 => 20 | 213 => 216 | 46 => 141 | 232 => 217 | 233 => 218 | n => n, fun | 17 => 1 | 18 => 2 | 19 => 3 | n => n⟩
theorem Tryz.laysM171 : Go.Proofs.LaysM.n171 Tryz.prog Tryz.laysM171_ren := {
  mixed := by kernel_rfl
  f129 := Tryz.func147.trans (congrArg some (by kernel_rfl))
  f171 := Tryz.func88.trans (congrArg some (by kernel_rfl))
  f243 := Tryz.func123.trans (congrArg some (by kernel_rfl))
  f246 := Tryz.func157.trans (congrArg some (by kernel_rfl))
  f283 := Tryz.func171.trans (congrArg some (by kernel_rfl))
  f284 := Tryz.func172.trans (congrArg some (by kernel_rfl))
  f285 := Tryz.func173.trans (congrArg some (by kernel_rfl))
  f286 := Tryz.func174.trans (congrArg some (by kernel_rfl))
  f317 := Tryz.func179.trans (congrArg some (by kernel_rfl))
  f318 := Tryz.func180.trans (congrArg some (by kernel_rfl))
  f319 := Tryz.func181.trans (congrArg some (by kernel_rfl))
  f320 := Tryz.func182.trans (congrArg some (by kernel_rfl))
  f337 := Tryz.func183.trans (congrArg some (by kernel_rfl))
  f338 := Tryz.func184.trans (congrArg some (by kernel_rfl))
  t0 := Tryz.underlying0
  a0 := Tryz.isAgg0
  z0 := Tryz.sizeOf0
  v0 := Tryz.zeroValue0
  t2 := Tryz.underlying2
  a2 := Tryz.isAgg2
  z2 := Tryz.sizeOf2
  v2 := Tryz.zeroValue2
  t3 := Tryz.underlying3
  a3 := Tryz.isAgg3
  z3 := Tryz.sizeOf3
  v3 := Tryz.zeroValue3
  t4 := Tryz.underlying4
  a4 := Tryz.isAgg4
  z4 := Tryz.sizeOf4
  v4 := Tryz.zeroValue4
  t5 := Tryz.underlying5
  a5 := Tryz.isAgg5
  z5 := Tryz.sizeOf5
  v5 := Tryz.zeroValue5
  t9 := Tryz.underlying9
  a9 := Tryz.isAgg9
  z9 := Tryz.sizeOf9
  v9 := Tryz.zeroValue9
  t20 := Tryz.underlying20
  a20 := Tryz.isAgg20
  z20 := Tryz.sizeOf20
  v20 := Tryz.zeroValue20
  t37 := Tryz.underlying134
  a37 := Tryz.isAgg134
  z37 := Tryz.sizeOf134
  v37 := Tryz.zeroValue134
  t46 := Tryz.underlying141
  a46 := Tryz.isAgg141
  z46 := Tryz.sizeOf141
  v46 := Tryz.zeroValue141
  t51 := Tryz.underlying172
  a51 := Tryz.isAgg172
  z51 := Tryz.sizeOf172
  v51 := Tryz.zeroValue172
  t53 := Tryz.underlying184
  a53 := Tryz.isAgg184
  z53 := Tryz.sizeOf184
  v53 := Tryz.zeroValue184
  t171 := Tryz.underlying204
  a171 := Tryz.isAgg204
  z171 := Tryz.sizeOf204
  v171 := Tryz.zeroValue204
  t173 := Tryz.underlying206
  a173 := Tryz.isAgg206
  z173 := Tryz.sizeOf206
  v173 := Tryz.zeroValue206
  t212 := Tryz.underlying215
  a212 := Tryz.isAgg215
  z212 := Tryz.sizeOf215
  v212 := Tryz.zeroValue215
  t213 := Tryz.underlying216
  a213 := Tryz.isAgg216
  z213 := Tryz.sizeOf216
  t232 := Tryz.underlying217
  a232 := Tryz.isAgg217
  z232 := Tryz.sizeOf217
  v232 := Tryz.zeroValue217
  t233 := Tryz.underlying218
  a233 := Tryz.isAgg218
  z233 := Tryz.sizeOf218
  v233 := Tryz.zeroValue218
  g17 := by kernel_rfl
  g18 := by kernel_rfl
  g19 := by kernel_rfl
  i0 := by kernel_rfl
  i2 := by kernel_rfl
  i3 := by kernel_rfl
  i4 := by kernel_rfl
  i5 := by kernel_rfl
  i9 := by kernel_rfl
  i20 := by kernel_rfl
  i37 := by kernel_rfl
  i46 := by kernel_rfl
  i51 := by kernel_rfl
  i53 := by kernel_rfl
  i171 := by kernel_rfl
  i173 := by kernel_rfl
  i212 := by kernel_rfl
  i232 := by kernel_rfl
  i233 := by kernel_rfl
  m17 := by kernel_rfl
  m18 := by kernel_rfl
  m19 := by kernel_rfl }
def Tryz.lays171_ren : Go.Shelf.Ren := ⟨fun | 171 => 88 | 243 => 123 | 246 => 157 | 283 => 171 | 284 => 172 | 285 => 173 | 286 => 174 | 129 => 147 | 317 => 179 | 318 => 180 | 319 => 181 | 320 => 182 | 337 => 183 | 338 => 184 | n => n, fun | 3 => 3 | 9 => 9 | 2 => 2 | 4 => 4 | 171 => 204 | 0 => 0 | 53 => 184 | 37 => 134 | 5 => 5 | 173 => 206 | 212 => 215 | 51 => 172 | 20 => 20 | 213 => 216 | 46 => 141 | 232 => 217 | 233 => 218 | n => n, fun | 17 => 1 | 18 => 2 | 19 => 3 | n => n⟩
theorem Tryz.lays171 : Go.Proofs.Lays.n171 Tryz.prog Tryz.lays171_ren := {
  mixed := by kernel_rfl
  f129 := Tryz.func147.trans (congrArg some (by kernel_rfl))
  f171 := Tryz.func88.trans (congrArg some (by kernel_rfl))
  f243 := Tryz.func123.trans (congrArg some (by kernel_rfl))
  f246 := Tryz.func157.trans (congrArg some (by kernel_rfl))
  f283 := Tryz.func171.trans (congrArg some (by kernel_rfl))
  f284 := Tryz.func172.trans (congrArg some (by kernel_rfl))
  f285 := Tryz.func173.trans (congrArg some (by kernel_rfl))
  f286 := Tryz.func174.trans (congrArg some (by kernel_rfl))
  f317 := Tryz.func179.trans (congrArg some (by kernel_rfl))
  f318 := Tryz.func180.trans (congrArg some (by kernel_rfl))
  f319 := Tryz.func181.trans (congrArg some (by kernel_rfl))
  f320 := Tryz.func182.trans (congrArg some (by kernel_rfl))
  f337 := Tryz.func183.trans (congrArg some (by kernel_rfl))
  f338 := Tryz.func184.trans (congrArg some (by kernel_rfl))
  t0 := Tryz.underlying0
  a0 := Tryz.isAgg0
  z0 := Tryz.sizeOf0
  v0 := Tryz.zeroValue0
  t2 := Tryz.underlying2
  a2 := Tryz.isAgg2
  z2 := Tryz.sizeOf2
  v2 := Tryz.zeroValue2
  t3 := Tryz.underlying3
  a3 := Tryz.isAgg3
  z3 := Tryz.sizeOf3
  v3 := Tryz.zeroValue3
  t4 := Tryz.underlying4
  a4 := Tryz.isAgg4
  z4 := Tryz.sizeOf4
  v4 := Tryz.zeroValue4
  t5 := Tryz.underlying5
  a5 := Tryz.isAgg5
  z5 := Tryz.sizeOf5
  v5 := Tryz.zeroValue5
  t9 := Tryz.underlying9
  a9 := Tryz.isAgg9
  z9 := Tryz.sizeOf9
  v9 := Tryz.zeroValue9
  t20 := Tryz.underlying20
  a20 := Tryz.isAgg20
  z20 := Tryz.sizeOf20
  v20 := Tryz.zeroValue20
  t37 := Tryz.underlying134
  a37 := Tryz.isAgg134
  z37 := Tryz.sizeOf134
  v37 := Tryz.zeroValue134
  t46 := Tryz.underlying141
  a46 := Tryz.isAgg141
  z46 := Tryz.sizeOf141
  v46 := Tryz.zeroValue141
  t51 := Tryz.underlying172
  a51 := Tryz.isAgg172
  z51 := Tryz.sizeOf172
  v51 := Tryz.zeroValue172
  t53 := Tryz.underlying184
  a53 := Tryz.isAgg184
  z53 := Tryz.sizeOf184
  v53 := Tryz.zeroValue184
  t171 := Tryz.underlying204
  a171 := Tryz.isAgg204
  z171 := Tryz.sizeOf204
  v171 := Tryz.zeroValue204
  t173 := Tryz.underlying206
  a173 := Tryz.isAgg206
  z173 := Tryz.sizeOf206
  v173 := Tryz.zeroValue206
  t212 := Tryz.underlying215
  a212 := Tryz.isAgg215
  z212 := Tryz.sizeOf215
  v212 := Tryz.zeroValue215
  t213 := Tryz.underlying216
  a213 := Tryz.isAgg216
  z213 := Tryz.sizeOf216
  t232 := Tryz.underlying217
  a232 := Tryz.isAgg217
  z232 := Tryz.sizeOf217
  v232 := Tryz.zeroValue217
  t233 := Tryz.underlying218
  a233 := Tryz.isAgg218
  z233 := Tryz.sizeOf218
  v233 := Tryz.zeroValue218
  g17 := by kernel_rfl
  g18 := by kernel_rfl
  g19 := by kernel_rfl }
end Go.Proofs.YticnppnejafhdaaGreatDoor
/- Abstract states: contracts that were proved over memory, lifted. Generic. -/
namespace Go.Proofs.YticnppnejafhdaaGreatDoor
open Go.RowKit
namespace Av

theorem lies_of_rep {w : World} {R : Reader} {sz : Nat} {xs : List (List Value)} {u : Value} (hR : ∀ p v, R p = some v → w.cell? p = some v) (hs : 0 < sz) (h : RepP R (.sl sz (xs.map fun row => row.map PV.v)) u) :
    ∃ A cap, u = .slice A xs.length cap ∧ Lies w w.heap.size sz A xs := by
  generalize hrows : (xs.map fun row => row.map PV.v) = rows at h
  cases h with
  | sl _ _ A cap f hsz hA hf hc =>
    have hlen : rows.length = xs.length := by rw [← hrows]; simp
    refine ⟨A, cap, by rw [hlen], fun hne => ?_⟩
    have hget : ∀ (k : Nat) (row : List Value), xs[k]? = some row → rows[k]? = some (row.map PV.v) := fun k row hk => by rw [← hrows, List.getElem?_map, hk]; rfl
    rcases hA with h0 | ⟨b, off, rfl, hA⟩
    · exfalso
      apply hne
      rw [h0] at hlen
      exact List.eq_nil_of_length_eq_zero hlen.symm
    · have hcell : ∀ (k : Nat) (row : List Value), xs[k]? = some row → ∀ (j : Nat) (x : Value), row[j]? = some x → w.cell? ⟨b, off + k * sz + j, none⟩ = some x := fun k row hk j x hj => by
        have h1 : (row.map PV.v)[j]? = some (.v x) := by rw [List.getElem?_map, hj]; rfl
        have h2 := hf k _ j _ (hget k row hk) h1
        have h3 := hA k _ j _ (hget k row hk) h1
        have h4 : f k j = x := by
          generalize f k j = y at h2
          cases h2
          rfl
        rw [← h4]
        exact hR _ _ h3
      refine ⟨b, off, rfl, ?_, hcell⟩
      cases xs with
      | nil => exact absurd rfl hne
      | cons row xs =>
        have h1 := hsz 0 _ (hget 0 row rfl)
        have h2 : 0 < row.length := by rw [List.length_map] at h1; omega
        exact Rel.cell_lt (hcell 0 row rfl 0 row[0] (List.getElem?_eq_getElem h2))
theorem owns_rep {R : Reader} {w w' : World} {e : TypeId} {sz : Nat} {v : Value} {xs : List (List Value)} (hs : 0 < sz) (h : w'.ownsRow w.heap.size e sz v xs.length xs.flatten) (hl : ∀ row ∈ xs, row.length = sz) (h1 : ∀ row ∈ xs, ∀ x ∈ row, x.oneCell' = true) :
    ∃ q, OwnV w' w.heap.size e sz xs.length v q ∧ ∀ m, m = none ∨ (m = q ∧ True) → RepP (fresh R w w' m (xs.length * sz)) (.sl sz (xs.map fun row => row.map PV.v)) v := by
  have hz : ∀ (k : Nat) (row : List PV) (j : Nat) (p : PV), (xs.map fun row => row.map PV.v)[k]? = some row → row[j]? = some p → ∃ x, xs.flatten[k * sz + j]? = some x ∧ ∀ R, RepP R p x := fun k row j p hk hj => by
    rw [List.getElem?_map] at hk
    cases hx : xs[k]? with
    | none => rw [hx] at hk; cases hk
    | some r =>
      rw [hx] at hk
      simp only [Option.map_some, Option.some.injEq] at hk
      subst hk
      rw [List.getElem?_map] at hj
      cases hy : r[j]? with
      | none => rw [hy] at hj; cases hj
      | some y =>
        rw [hy] at hj
        simp only [Option.map_some, Option.some.injEq] at hj
        subst hj
        exact ⟨y, flatten_get hl hx hy, fun R => .v y (h1 r (List.mem_of_getElem? hx) y (List.mem_of_getElem? hy))⟩
  have hsz : ∀ (k : Nat) (row : List PV), (xs.map fun row => row.map PV.v)[k]? = some row → row.length = sz := fun k row hk => by
    rw [List.getElem?_map] at hk
    cases hx : xs[k]? with
    | none => rw [hx] at hk; cases hk
    | some r =>
      rw [hx] at hk
      simp only [Option.map_some, Option.some.injEq] at hk
      subst hk
      rw [List.length_map]
      exact hl r (List.mem_of_getElem? hx)
  have hmk : ∀ {R : Reader} {A : Option Addr} {cap : Nat}, (xs = [] ∨ ∃ b off, A = some ⟨b, off, none⟩ ∧ ∀ (i : Nat) (x : Value), xs.flatten[i]? = some x → i < xs.length * sz → R ⟨b, off + i, none⟩ = some x) → xs.length ≤ cap → RepP R (.sl sz (xs.map fun row => row.map PV.v)) (.slice A xs.length cap) := fun {R A cap} hA hc => by
    have := rep_mk (R := R) (A := A) (cap := cap) (zs := xs.flatten) hsz (fun k row j p hk hj => by obtain ⟨x, h2, h3⟩ := hz k row j p hk hj; exact ⟨x, h2, h3 R⟩) (by
      rcases hA with h2 | ⟨b, off, h2, h3⟩
      · left; rw [h2]; rfl
      · exact .inr ⟨b, off, h2, fun i x hx hi => h3 i x hx (by simpa using hi)⟩) (by simpa using hc)
    simpa using this
  obtain ⟨_, h2⟩ := h
  rcases h2 with ⟨rfl, hn⟩ | ⟨g, cap, cur, rfl, hb, hg, hnc, hcm, hcs, htake⟩
  · have hx : xs = [] := List.eq_nil_of_length_eq_zero hn
    refine ⟨none, ⟨rfl, hn⟩, fun m _ => ?_⟩
    rw [hn]
    have := hmk (R := fresh R w w' m (0 * sz)) (A := none) (cap := 0) (.inl hx) (by omega)
    rw [hn] at this
    exact this
  · refine ⟨some g, ⟨cap, cur, rfl, hb, hg, hnc, hcm, hcs⟩, fun m hm => hmk (.inr ⟨g, 0, rfl, fun i x hx hi => ?_⟩) hnc⟩
    unfold fresh
    rw [if_neg (by dsimp only; omega), if_neg (by dsimp only; omega), Nat.zero_add, cell_of_row w' g i cur e (0, 0) hg]
    rw [← htake, List.getElem?_take, if_pos hi] at hx
    rw [← Array.getElem?_toList]
    exact hx
/-- A contract over memory, lifted. -/
theorem fn_of {P : Program} {f : FuncId} {args : List AV} {res : FRes} (hf : Enters P f) (h : ∀ (w : World) (R : Reader), (∀ p v, R p = some v → w.cell? p = some v) → ∀ us, RepAL R args us →
    Calls P f us.toArray w fun e w' => ∃ u, e = .returned u ∧ Below w.heap.size w w' ∧ ResRep R w w' res u) : FnOK P f args res := ⟨hf, h⟩
theorem rep_vs {R : Reader} {xs : List Value} {us : List Value} (h : RepL R (xs.map PV.v) us) : us = xs := by
  induction xs generalizing us with
  | nil => cases h; rfl
  | cons x xs ih =>
    cases h with
    | cons h t =>
      cases h
      rw [ih t]
end Av
end Go.Proofs.YticnppnejafhdaaGreatDoor
/- Plain: flows, holdings, and what the node layer computes. No program's numbers. -/
namespace Go.Proofs.YticnppnejafhdaaGreatDoor
namespace Nd

structure Fl where
  (id fr tn pe ph dl : Int)
def inB (n lo hi : Int) : Bool := decide (lo ≤ n) && decide (n ≤ hi)
def boundsB (f : Fl) : Bool := inB f.id 0 255 && inB f.fr 0 31 && inB f.tn 0 31 && inB f.pe 1 512 && inB f.ph 0 (f.pe - 1) && inB f.dl 1 f.pe
def fault (f : Fl) : Int := if boundsB f = true then (if f.fr = f.tn then 1 else 0) else 2
theorem fault_zero {f : Fl} (h : fault f = 0) : (0 ≤ f.id ∧ f.id ≤ 255) ∧ (0 ≤ f.fr ∧ f.fr ≤ 31) ∧ (0 ≤ f.tn ∧ f.tn ≤ 31) ∧ (1 ≤ f.pe ∧ f.pe ≤ 512) ∧ (0 ≤ f.ph ∧ f.ph ≤ f.pe - 1) ∧ (1 ≤ f.dl ∧ f.dl ≤ f.pe) ∧ f.fr ≠ f.tn := by
  unfold fault at h
  split at h
  · rename_i hb
    split at h
    · cases h
    · rename_i hne
      simp only [boundsB, inB, Bool.and_eq_true, decide_eq_true_eq] at hb
      obtain ⟨⟨⟨⟨⟨a, b⟩, c⟩, d⟩, e⟩, f'⟩ := hb
      exact ⟨a, b, c, d, e, f', hne⟩
  · cases h

/-- Is a flow's number not greater than that of the one ahead of it? -/
def notUp (p : Option Fl) (f : Fl) : Bool := match p with
  | none => false
  | some q => decide (f.id ≤ q.id)
def chkGo : Option Fl → Int → List Fl → Int × Int
  | _, _, [] => (-1, 0)
  | p, i, f :: l => if fault f = 0 then (if notUp p f = true then (i, 5) else chkGo (some f) (i + 1) l) else (i, fault f)
def chkF (l : List Fl) : Int × Int := if 16 < l.length then (-1, 8) else chkGo none 0 l

/-- The place of the first element of which p holds, or -1. -/
def idxP {α : Type} (p : α → Bool) : List α → Int → Int
  | [], _ => -1
  | a :: l, k => if p a = true then k else idxP p l (k + 1)
theorem idxP_spec {α : Type} (p : α → Bool) : ∀ (l : List α) (k : Int), (idxP p l k = -1 ∧ l.all (fun a => !p a) = true) ∨ ∃ (i : Nat) (a : α), l[i]? = some a ∧ p a = true ∧ idxP p l k = k + (i : Int) ∧ (l.take i).all (fun a => !p a) = true
  | [], k => .inl ⟨rfl, rfl⟩
  | a :: l, k => by
    unfold idxP
    by_cases h : p a = true
    · rw [if_pos h]; exact .inr ⟨0, a, rfl, h, by simp, rfl⟩
    · rw [if_neg h]
      rcases idxP_spec p l (k + 1) with ⟨h1, h2⟩ | ⟨i, b, h1, h2, h3, h4⟩
      · exact .inl ⟨h1, by simp [h, h2]⟩
      · exact .inr ⟨i + 1, b, by simpa using h1, h2, by rw [h3]; push_cast; omega, by simp [h, h4]⟩
def cur (f : Fl) (slot : Int) : Int × Bool := if fault f = 0 ∧ f.ph ≤ slot ∧ slot ≤ 1099511627776 then ((slot - f.ph) / f.pe, true) else (0, false)

end Nd
end Go.Proofs.YticnppnejafhdaaGreatDoor
/- Plain: what the monitor layer computes: late frames, the service of a flow, strays, deliveries twice. No program's numbers. -/
namespace Go.Proofs.YticnppnejafhdaaGreatDoor
open Rc Nd
namespace Mo

/-- A late frame. -/
structure Lt where
  (fl fr sl : Int)
deriving DecidableEq

def complete (f : Fl) (slots : Int) : Int := if 0 ≤ slots - f.ph - f.dl then (slots - f.ph - f.dl) / f.pe + 1 else 0
/-- The slots in which a frame was delivered, in order. -/
def slotsOf (dl : List Dlv) (fl fr : Int) : List Int := (dl.filter (fun d => d.fl == fl && d.fr == fr)).map Dlv.sl
def arrGo (first due last : Int) : List Int → Int → Int × Bool
  | [], late => (late, false)
  | s :: l, late => if first ≤ s ∧ s ≤ due then (s, true) else if due < s ∧ s ≤ last ∧ late < 0 then arrGo first due last l s else arrGo first due last l late
def rel (f : Fl) (n : Int) : Int := f.ph + n * f.pe
def arrival (f : Fl) (n : Int) (l : List Int) : Int × Bool := arrGo (rel f n) (rel f n + f.dl - 1) (rel f n + f.pe - 1) l (-1)
def lateN (f : Fl) (dl : List Dlv) (n : Nat) : List Lt := if (arrival f n (slotsOf dl f.id n)).2 = true then [] else [⟨f.id, n, (arrival f n (slotsOf dl f.id n)).1⟩]
def lateF (f : Fl) (r : Rec) : List Lt := (List.range (complete f r.slots).toNat).flatMap (lateN f r.dl)
def right (fs : List Fl) (r : Rec) : Bool := decide ((chkF fs).2 = 0) && good r
def late (fs : List Fl) (r : Rec) : List Lt × Int := if right fs r = true then (fs.flatMap (fun f => lateF f r), 0) else ([], 1)

/-- The first slot from one to another in which a frame was delivered, or -1. -/
def deliv (dl : List Dlv) (fl fr a b : Int) : Int := ((slotsOf dl fl fr).find? (fun s => decide (a ≤ s) && decide (s ≤ b))).getD (-1)
theorem arr_late (first due last : Int) : ∀ (l : List Int) (late : Int), 0 ≤ late → arrGo first due last l late = match l.find? (fun s => decide (first ≤ s) && decide (s ≤ due)) with | some s => (s, true) | none => (late, false)
  | [], late, _ => rfl
  | s :: l, late, h => by
    unfold arrGo
    by_cases h1 : first ≤ s ∧ s ≤ due
    · rw [if_pos h1, List.find?_cons_of_pos (by simpa using h1)]
    · rw [if_neg h1, List.find?_cons_of_neg (by simpa using h1), if_neg (by omega)]
      exact arr_late first due last l late h
theorem arr_first (first due last : Int) : ∀ (l : List Int), (∀ s ∈ l, 0 ≤ s) → arrGo first due last l (-1) = match l.find? (fun s => decide (first ≤ s) && decide (s ≤ due)) with | some s => (s, true) | none => ((l.find? (fun s => decide (due + 1 ≤ s) && decide (s ≤ last))).getD (-1), false)
  | [], _ => rfl
  | s :: l, h => by
    unfold arrGo
    by_cases h1 : first ≤ s ∧ s ≤ due
    · rw [if_pos h1, List.find?_cons_of_pos (by simpa using h1)]
    · rw [if_neg h1, List.find?_cons_of_neg (by simpa using h1)]
      by_cases h2 : due < s ∧ s ≤ last
      · rw [if_pos ⟨h2.1, h2.2, by omega⟩, arr_late first due last l s (h s List.mem_cons_self), List.find?_cons_of_pos (by simp; omega)]
        rfl
      · rw [if_neg (fun h => h2 ⟨h.1, h.2.1⟩), arr_first first due last l (fun x hx => h x (List.mem_cons_of_mem _ hx)), List.find?_cons_of_neg (by simp; omega)]
theorem mem_slotsOf {dl : List Dlv} {fl fr s : Int} (h : s ∈ slotsOf dl fl fr) : ∃ d ∈ dl, d.fl = fl ∧ d.fr = fr ∧ d.sl = s := by
  obtain ⟨d, hd, rfl⟩ := List.mem_map.1 h
  obtain ⟨h1, h2⟩ := List.mem_filter.1 hd
  rw [Bool.and_eq_true, beq_iff_eq, beq_iff_eq] at h2
  exact ⟨d, h1, h2.1, h2.2, rfl⟩
/-- What arrives is what the definition calls delivered. -/
theorem arrival_eq {f : Fl} {dl : List Dlv} (hd : ∀ d ∈ dl, 0 ≤ d.sl) (n : Int) : arrival f n (slotsOf dl f.id n) = if deliv dl f.id n (rel f n) (rel f n + f.dl - 1) < 0 then (deliv dl f.id n (rel f n + f.dl) (rel f n + f.pe - 1), false) else (deliv dl f.id n (rel f n) (rel f n + f.dl - 1), true) := by
  have hs : ∀ s ∈ slotsOf dl f.id n, 0 ≤ s := fun s hs => by
    obtain ⟨d, h1, _, _, h2⟩ := mem_slotsOf hs
    rw [← h2]; exact hd d h1
  unfold arrival
  rw [arr_first _ _ _ _ hs]
  unfold deliv
  cases hq : (slotsOf dl f.id n).find? (fun s => decide (rel f n ≤ s) && decide (s ≤ rel f n + f.dl - 1)) with
  | some s =>
    have := hs s (List.mem_of_find?_eq_some hq)
    rw [Option.getD_some, if_neg (by omega)]
  | none =>
    rw [Option.getD_none, if_pos (by decide)]
    simp only [Prod.mk.injEq, and_true]
    congr 2
    funext s
    rw [show rel f n + f.dl - 1 + 1 = rel f n + f.dl by omega]

/-- The service of a flow. -/
structure Sv where
  (fr late att lost least most : Int)
deriving DecidableEq
def Sv.zero : Sv := ⟨0, 0, 0, 0, 0, 0⟩
end Mo
end Go.Proofs.YticnppnejafhdaaGreatDoor
/- Plain laws of the monitor layer: how the reference counts frames; MonitorCounts. No program's numbers. -/
namespace Go.Proofs.YticnppnejafhdaaGreatDoor
open Rc Nd
namespace Mo
/-- Flows without a fault, their numbers ascending. -/
theorem chkGo_ok : ∀ (l : List Fl) (p : Option Fl) (i : Int), (chkGo p i l).2 = 0 → (∀ f ∈ l, fault f = 0) ∧ (∀ q, p = some q → ∀ f ∈ l, q.id < f.id) ∧ l.Pairwise (fun a b => a.id < b.id)
  | [], _, _, _ => ⟨fun _ h => (by cases h), fun _ _ _ h => (by cases h), List.Pairwise.nil⟩
  | f :: l, p, i, h => by
    unfold chkGo at h
    split at h
    · rename_i hf
      split at h
      · cases h
      · rename_i hn
        obtain ⟨i1, i2, i3⟩ := chkGo_ok l (some f) (i + 1) h
        have i2' := i2 f rfl
        refine ⟨fun g hg => ?_, fun q hq g hg => ?_, List.Pairwise.cons i2' i3⟩
        · rcases List.mem_cons.1 hg with rfl | hg
          · exact hf
          · exact i1 g hg
        · subst hq
          have h4 : q.id < f.id := by
            simp only [notUp, decide_eq_true_eq] at hn
            omega
          rcases List.mem_cons.1 hg with rfl | hg
          · exact h4
          · have := i2' g hg; omega
    · rename_i hf
      exact absurd h hf
theorem chkF_ok {l : List Fl} (h : (chkF l).2 = 0) : (∀ f ∈ l, fault f = 0) ∧ l.Pairwise (fun a b => a.id < b.id) ∧ l.length ≤ 16 := by
  unfold chkF at h
  split at h
  · cases h
  · rename_i hl
    have := chkGo_ok l none 0 h
    exact ⟨this.1, this.2.2, by omega⟩
theorem right_inv {fs : List Fl} {r : Rec} (h : right fs r = true) : (chkF fs).2 = 0 ∧ good r = true := by
  unfold right at h
  rw [Bool.and_eq_true, decide_eq_true_eq] at h
  exact h
theorem good_slots {r : Rec} (h : good r = true) : 0 ≤ r.slots ∧ r.slots ≤ 4096 := by
  simp only [good, Bool.and_eq_true, decide_eq_true_eq] at h
  exact ⟨h.1, h.2.1⟩
theorem dlvsGo_mem {slots : Int} : ∀ (l : List Dlv) (p : Option Dlv), dlvsGo slots p l = true → ∀ d ∈ l, dlvB d slots = true
  | [], _, _, d, hd => by cases hd
  | a :: l, p, h, d, hd => by
    rw [dlvsGo] at h
    split at h
    · cases h
    · rename_i hb
      split at h
      · cases h
      · rcases List.mem_cons.1 hd with rfl | hd
        · simpa using hb
        · exact dlvsGo_mem l _ h d hd
theorem good_dlv {r : Rec} (h : good r = true) {d : Dlv} (hd : d ∈ r.dl) : 0 ≤ d.sl ∧ d.sl < r.slots ∧ 0 ≤ d.fl ∧ d.fl < 256 ∧ 0 ≤ d.fr ∧ d.fr < 1048576 := by
  simp only [good, Bool.and_eq_true] at h
  have := dlvsGo_mem r.dl none h.2.2.2.2.2 d hd
  simp only [dlvB, belowB, Bool.and_eq_true, decide_eq_true_eq] at this
  obtain ⟨⟨a, b⟩, ⟨c, e⟩, f, g⟩ := this
  exact ⟨f, g, a, b, c, e⟩
/-- Which frames are complete. -/
theorem complete_iff {f : Fl} (h : fault f = 0) (slots : Int) (n : Nat) : rel f n + f.dl ≤ slots ↔ n < (complete f slots).toNat := by
  obtain ⟨_, _, _, ⟨hp, _⟩, ⟨hph, _⟩, _, _⟩ := fault_zero h
  unfold rel complete
  split
  · rename_i h0
    have hq : 0 ≤ (slots - f.ph - f.dl) / f.pe := Int.ediv_nonneg h0 (by omega)
    have h1 : ((n : Int) ≤ (slots - f.ph - f.dl) / f.pe) ↔ (n : Int) * f.pe ≤ slots - f.ph - f.dl := Int.le_ediv_iff_mul_le (by omega)
    omega
  · rename_i h0
    have : 0 ≤ (n : Int) * f.pe := Int.mul_nonneg (by omega) (by omega)
    omega
theorem complete_bounds {f : Fl} (h : fault f = 0) {slots : Int} (hs : slots ≤ 4096) : 0 ≤ complete f slots ∧ complete f slots ≤ 4096 := by
  obtain ⟨_, _, _, ⟨hp, _⟩, ⟨hph, _⟩, ⟨hd, _⟩, _⟩ := fault_zero h
  unfold complete
  split
  · rename_i h0
    have hq : 0 ≤ (slots - f.ph - f.dl) / f.pe := Int.ediv_nonneg h0 (by omega)
    have : (slots - f.ph - f.dl) / f.pe ≤ slots - f.ph - f.dl := Int.ediv_le_self _ h0
    omega
  · omega
end Mo
end Go.Proofs.YticnppnejafhdaaGreatDoor
/- A region that draws its order: quiet operations (calls among them), and allocations of variables that may come at any time among them ('floats'); then a tail in one forced order that waits for all of them. One walk: the quiet ones in the text's order, then the floats, then the tail. Generic. -/
namespace Go.Proofs.YticnppnejafhdaaGreatDoor
open Go.RowKit

/-- The worlds that are w below B and in which the blocks of G stand as they were made. -/
structure ExtG (B : Nat) (w : World) (G : List (Nat × Obj)) where
  val : World
  below : Below B w val
  holds : ∀ g o, (g, o) ∈ G → val.heap[g]? = some o

def InG (B : Nat) (w : World) (G : List (Nat × Obj)) (w' : World) : Prop := ∃ x : ExtG B w G, w' = x.val

theorem ExtG.cell {B : Nat} {w : World} {G : List (Nat × Obj)} (x : ExtG B w G) (p : Addr) (h : p.block < B) : x.val.cell? p = w.cell? p := x.below.cell h
theorem holds_later {w' w'' : World} {G : List (Nat × Obj)} (hh : ∀ g o, (g, o) ∈ G → w'.heap[g]? = some o) (hb : Below w'.heap.size w' w'') : ∀ g o, (g, o) ∈ G → w''.heap[g]? = some o := fun g o hg => by
  have h := hh g o hg
  have hlt : g < w'.heap.size := by
    rcases Nat.lt_or_ge g w'.heap.size with h' | h'
    · exact h'
    · rw [Array.getElem?_eq_none h'] at h; cases h
  rw [hb.block g hlt]; exact h

/-- Block g of w is just the cells cs, none frozen. -/
def Blk (w : World) (g : Nat) (t : TypeId) (cs : List Value) : Prop := w.heap[g]? = some (.cells cs.toArray t (0, 0))
section
variable {w w' : World} {g : Nat} {t : TypeId} {cs : List Value}
theorem Blk.lt (h : Blk w g t cs) : g < w.heap.size := by
  rcases Nat.lt_or_ge g w.heap.size with hlt | hge
  · exact hlt
  · unfold Blk at h; rw [Array.getElem?_eq_none hge] at h; cases h
theorem Blk.row (h : Blk w g t cs) : Row w g cs := fun i => by
  unfold World.cell?
  unfold Blk at h
  rw [show (⟨g, i, none⟩ : Addr).block = g from rfl, h]
  simp
theorem Blk.frozen (h : Blk w g t cs) (i : Nat) : w.frozen? ⟨g, i, none⟩ = false := by
  unfold World.frozen?
  unfold Blk at h
  rw [show (⟨g, i, none⟩ : Addr).block = g from rfl, h]
  simp
theorem Blk.new (w : World) (t : TypeId) (cs : List Value) : Blk (w.alloc (.cells cs.toArray t)) w.heap.size t cs := heap_alloc_new w _
theorem Blk.drew (h : Blk w g t cs) : Blk w.drew g t cs := h
theorem Blk.drewN (h : Blk w g t cs) (n : Nat) : Blk (w.drewN n) g t cs := h
theorem Blk.alloc (h : Blk w g t cs) (o : Obj) : Blk (w.alloc o) g t cs := (Below.heap_alloc w o g h.lt).trans h
theorem Blk.set_ (h : Blk w g t cs) (i : Nat) (u : Value) : Blk (w.setCell ⟨g, i, none⟩ u) g t (cs.set i u) := by
  unfold Blk at h ⊢
  simp [World.setCell, Array.getElem?_modify, h]
theorem Blk.far (h : Blk w g t cs) {p : Addr} (hp : g ≠ p.block) (u : Value) : Blk (w.setCell p u) g t cs := (Below.heap_setCell w p u g hp).trans h
theorem Blk.below {B : Nat} (h : Blk w g t cs) (hb : Below B w w') (hg : g < B) : Blk w' g t cs := (hb.block g hg).trans h
end

section
variable {P : Program} {ops : Array Oper}

/-- A callee's contract, met at such a world. -/
theorem Calls.extG_of {f : FuncId} {args : Array Value} {w : World} {B : Nat} {G : List (Nat × Obj)} {x : ExtG B w G} {v : Value}
    (h : Calls P f args x.val fun e w' => e = .returned v ∧ Below x.val.heap.size x.val w') (hB : B ≤ w.heap.size) : Calls P f args x.val fun e w'' => e = .returned v ∧ ∃ y : ExtG B w G, w'' = y.val :=
  h.mono fun _ w' ⟨he, hm⟩ => ⟨he, ⟨w', x.below.trans (hm.mono (Nat.le_trans hB x.below.size)), holds_later x.holds hm⟩, rfl⟩
/-- An allocation: what it makes. -/
def IsFloat (P : Program) (o : Oper) (d : Tmp) (ob : Obj) : Prop := o.dst = some d ∧ o.guard = none ∧ ∀ (a : Act) (w : World), (execOp a.eval o).run P w = .ok (.value (.pointer (some ⟨w.heap.size, 0, none⟩))) (w.alloc ob)

/-- The quiet operations and the floats in whatever order; then L. -/
def anyF (P : Program) (ops : Array Oper) (B n : Nat) (w : World) (fl : Nat → Option (Tmp × Obj)) (L : Array Bool → Act → List (Nat × Obj) → Prop) : Nat → Array Bool → Act → List (Nat × Obj) → Prop
  | 0, l, a, G => L l a G
  | f + 1, l, a, G => Region.ready .any ops l ≠ [] ∧ ∀ i ∈ Region.ready .any ops l, i < n ∧
      match fl i with
      | none => qOp P ops (InG B w G) i (fun a' => anyF P ops B n w fl L f (l.setIfInBounds i true) a' G) a
      | some (d, ob) => ∀ g, B ≤ g → (∀ g' o', (g', o') ∈ G → g ≠ g') → anyF P ops B n w fl L f (l.setIfInBounds i true) (a.put (some d) (.pointer (some ⟨g, 0, none⟩))) ((g, ob) :: G)

variable {B n : Nat} {w : World} {fl : Nat → Option (Tmp × Obj)} {L : Array Bool → Act → List (Nat × Obj) → Prop}

theorem anyF_wp {g : Nat} {Q : Exit → Act → World → Prop} (hB : B ≤ w.heap.size) (hfl : ∀ i d ob, fl i = some (d, ob) → ∃ o, ops[i]? = some o ∧ IsFloat P o d ob)
    (hL : ∀ l a G, L l a G → ∀ w', InG B w G w' → wpAny P .any ops Q g l a w') :
    ∀ (f : Nat) (l : Array Bool) (a : Act) (G : List (Nat × Obj)), anyF P ops B n w fl L f l a G → ∀ w', InG B w G w' → wpAny P .any ops Q (f + g) l a w'
  | 0, l, a, G, h, w', hw => by rw [Nat.zero_add]; exact hL _ _ _ h w' hw
  | f + 1, l, a, G, h, w', hw => by
    rw [show f + 1 + g = (f + g) + 1 by omega]
    refine ⟨fun h0 => absurd h0 h.1, fun i hi => ?_⟩
    have h1 := (h.2 i hi).2
    cases hf : fl i with
    | none =>
      simp only [hf] at h1
      exact wpOp_of_qOp hw (fun a' w'' hw' h' => anyF_wp hB hfl hL f _ a' G h' w'' hw') h1
    | some p =>
      obtain ⟨d, ob⟩ := p
      simp only [hf] at h1
      obtain ⟨o, ho, hd, hg, hrun⟩ := hfl i d ob hf
      obtain ⟨x, rfl⟩ := hw
      unfold wpOp
      simp only [ho]
      have hwt : Region.wanted o (yielded ops a.tmps) = true := by simp [Region.wanted, hg]
      simp only [hwt, if_true]
      refine .inl ?_
      unfold Oper.wp
      rw [hrun, Oper.upon_value, hd]
      have hsz := x.below.size
      refine anyF_wp hB hfl hL f _ _ _ (h1 x.val.heap.size (Nat.le_trans hB hsz) (fun g' o' hg' e => ?_)) _ ⟨⟨x.val.alloc ob, x.below.alloc (Nat.le_trans hB hsz) _, fun g' o' hg' => ?_⟩, rfl⟩
      · have := x.holds g' o' hg'
        rw [← e, Array.getElem?_eq_none (Nat.le_refl _)] at this
        cases this
      · rcases List.mem_cons.1 hg' with e | hg'
        · injection e with e1 e2
          rw [e1, e2]
          exact heap_alloc_new x.val ob
        · exact holds_later (w' := x.val) x.holds ((Below.refl _ _).alloc (Nat.le_refl _) _) g' o' hg'

/-- A quiet operation is taken first. -/
theorem anyF_first {i : Nat} {oi : Oper} {v : Value} (hi : ops[i]? = some oi) (hsel : ∀ (j : Nat) (o : Oper) cs b, ops[j]? = some o → o.op ≠ .select cs b)
    (hfl : ∀ i d ob, fl i = some (d, ob) → ∃ o, ops[i]? = some o ∧ IsFloat P o d ob) (hfi : fl i = none)
    (hs : Region.sinkB .any ops n = true) (hc : Region.chainB .any ops n = true) (hn : n < ops.size) (hin : i < n)
    (hdone : ∀ l a G, L l a G → ∀ j ∈ Region.ready .any ops l, n ≤ j) :
    ∀ (f : Nat) (l : Array Bool) (a : Act) (G : List (Nat × Obj)), HeadInv .any ops n l →
      (∀ j oj, ops[j]? = some oj → j ≠ i → l.getD j true = false → (∀ e ∈ oj.after, Region.binds .any e = true → e.on ≠ i) → oi.apart ops oj = true) →
      i ∈ Region.ready .any ops l → (∀ G, YieldsIn P ops (InG B w G) oi v a) →
      anyF P ops B n w fl L f (l.setIfInBounds i true) (a.put oi.dst v) G → anyF P ops B n w fl L (f + 1) l a G := by
  intro f
  induction f with
  | zero =>
    intro l a G inv _ hr hy H
    have hun := (mem_ready.1 hr).1
    refine ⟨fun h => (by rw [h] at hr; cases hr), fun j hj => ?_⟩
    have hjn : j < n := by
      rcases Nat.lt_or_ge j n with h | h
      · exact h
      · exact absurd hj (tail_waits hs hc hn inv _ i rfl hin hun j h)
    refine ⟨hjn, ?_⟩
    by_cases hji : j = i
    · subst hji; simp only [hfi]; exact (hy G).qOp hi H
    · have := hdone _ _ _ H j (ready_mono hj hji)
      omega
  | succ f ih =>
    intro l a G inv hfree hr hy H
    have hun := (mem_ready.1 hr).1
    refine ⟨fun h => (by rw [h] at hr; cases hr), fun j hj => ?_⟩
    have hjn : j < n := by
      rcases Nat.lt_or_ge j n with h | h
      · exact h
      · exact absurd hj (tail_waits hs hc hn inv _ i rfl hin hun j h)
    refine ⟨hjn, ?_⟩
    by_cases hji : j = i
    · subst hji; simp only [hfi]; exact (hy G).qOp hi H
    · have h1 := (H.2 j (ready_mono hj hji)).2
      obtain ⟨hjun, oj, hoj, hall⟩ := mem_ready.1 hj
      have hnot : ∀ e ∈ oj.after, Region.binds .any e = true → e.on ≠ i := fun e he hb heq => by
        have h1 := hall e he hb
        rw [heq, getD_both hun] at h1
        cases h1
      have hap := hfree j oj hoj hji hjun hnot
      have hfree' : ∀ k ok, ops[k]? = some ok → k ≠ i → (l.setIfInBounds j true).getD k true = false →
          (∀ e ∈ ok.after, Region.binds .any e = true → e.on ≠ i) → oi.apart ops ok = true := fun k ok hk hki hun hno => by
        refine hfree k ok hk hki ?_ hno
        by_cases hjk : j = k
        · subst hjk; exact hjun
        · rw [getD_set_ne true hjk] at hun; exact hun
      obtain ⟨p1, p2, p3⟩ := Oper.apart_spec hap
      cases hfj : fl j with
      | none =>
        simp only [hfj] at h1 ⊢
        have hyk : ∀ u, ∀ G, YieldsIn P ops (InG B w G) oi v (a.put oj.dst u) := fun u G => (hy G).of_same (execOp_put oi (fun cs b => hsel i oi cs b hi) a oj.dst u p3) (wanted_put oi a oj.dst u p3)
        unfold qOp at h1 ⊢
        simp only [hoj] at h1 ⊢
        rw [wanted_put oj a oi.dst v p1] at h1
        split
        · rename_i hw
          simp only [hw, if_true] at h1
          obtain ⟨u, hu, hnx⟩ := h1
          refine ⟨u, fun w' hw' => ?_, ih (l.setIfInBounds j true) _ G (inv.set hj hjn) hfree' (ready_mono hr (Ne.symm hji)) (hyk u) ?_⟩
          · have := hu w' hw'
            unfold Oper.quietAt at *
            rwa [execOp_put oj (fun cs b => hsel j oj cs b hoj) a oi.dst v p1] at this
          · rw [Array.setIfInBounds_comm _ _ hji, ← Act.put_comm a v u p2]; exact hnx
        · rename_i hw
          simp only [hw] at h1
          refine ih (l.setIfInBounds j true) _ G (inv.set hj hjn) hfree' (ready_mono hr (Ne.symm hji)) (hyk undef) ?_
          rw [Array.setIfInBounds_comm _ _ hji, ← Act.put_comm a v undef p2]; exact h1
      | some p =>
        obtain ⟨d, ob⟩ := p
        simp only [hfj] at h1 ⊢
        obtain ⟨o', ho', hd, hgd, hrun⟩ := hfl j d ob hfj
        obtain rfl : o' = oj := Option.some.inj (ho'.symm.trans hoj)
        intro g hg hfresh
        have h2 := h1 g hg hfresh
        rw [← hd] at h2 ⊢
        refine ih (l.setIfInBounds j true) _ _ (inv.set hj hjn) hfree' (ready_mono hr (Ne.symm hji)) (fun G => (hy G).of_same (execOp_put oi (fun cs b => hsel i oi cs b hi) a o'.dst _ p3) (wanted_put oi a o'.dst _ p3)) ?_
        rw [Array.setIfInBounds_comm _ _ hji, ← Act.put_comm a v _ p2]; exact h2

/-- A state of the walk. -/
def FS (P : Program) (ops : Array Oper) (B n : Nat) (w : World) (fl : Nat → Option (Tmp × Obj)) (L : Array Bool → Act → List (Nat × Obj) → Prop) (f : Nat) (l : Array Bool) (a : Act) (G : List (Nat × Obj)) : Prop :=
  HeadInv .any ops n l → anyF P ops B n w fl L f l a G

/-- What the tail's walk asks. -/
def TailL (P : Program) (ops : Array Oper) (B n m : Nat) (w : World) (Q : Exit → Act → World → Prop) (tl : List Oper) (l : Array Bool) (a : Act) (G : List (Nat × Obj)) : Prop :=
  Region.seqB .any ops m n l = true ∧ ∀ w', InG B w G w' → wpList P ops Q tl a w'

/-- The facts on the region that are the same at every step. -/
structure FloatOk (P : Program) (ops : Array Oper) (n : Nat) (fl : Nat → Option (Tmp × Obj)) : Prop where
  sel : Region.noSelect ops = true
  sink : Region.sinkB .any ops n = true
  chain : Region.chainB .any ops n = true
  size : n < ops.size
  floats : ∀ i d ob, fl i = some (d, ob) → ∃ o, ops[i]? = some o ∧ IsFloat P o d ob

variable {Q : Exit → Act → World → Prop} {m : Nat} {tl : List Oper}

theorem FS_plain {f : Nat} {l l' : Array Bool} {a : Act} {G : List (Nat × Obj)} (i : Nat) (o : Oper) (hi : ops[i]? = some o) (hp : plainOp o.op = true) (ok : FloatOk P ops n fl) (hf : Region.free .any ops l i = true)
    (hr : (Region.ready .any ops l).contains i = true) (hl : l.setIfInBounds i true = l') (hfi : fl i = none) (hin : i < n) (hw : Region.wanted o (yielded ops a.tmps) = true)
    (h : ∀ K : Act → Prop, (∀ a', FS P ops B n w fl (TailL P ops B n m w Q tl) f l' a' G → K a') → o.quiet P a (fun w' => ∃ x : ExtW B w, w' = x.val) K) : FS P ops B n w fl (TailL P ops B n m w Q tl) (f + 1) l a G := by
  obtain ⟨v, h1, h2⟩ := h _ (fun _ h => h)
  intro inv
  have hr' : i ∈ Region.ready .any ops l := by simpa using hr
  refine anyF_first hi (Region.noSelect_spec ok.sel) ok.floats hfi ok.sink ok.chain ok.size hin (fun _ _ _ hL => seqB_ready hL.1) f l a G inv (Region.free_spec hi hf) hr' (v := v) (fun G' => .inl ⟨hw, ?_⟩) (by rw [hl]; exact h2 (by rw [← hl]; exact inv.set hr' hin))
  rintro w' ⟨x, rfl⟩
  have h3 := h1 x.val ⟨⟨x.val, x.below⟩, rfl⟩
  unfold Oper.quietAt at h3 ⊢
  rcases run_plain (P := P) hp a.eval x.val with ⟨u, w2, e⟩ | ⟨y, w2, e⟩
  · rw [e] at h3 ⊢; exact h3
  · rw [e] at h3; exact h3.elim

/-- A call whose answer hangs on nothing but what lies below B. -/
theorem FS_call {f : Nat} {l l' : Array Bool} {a : Act} {G : List (Nat × Obj)} {fn : FuncId} {args : Array Value} {v : Value} (i : Nat) (o : Oper) (hi : ops[i]? = some o) (ok : FloatOk P ops n fl) (hB : B ≤ w.heap.size) (hf : Region.free .any ops l i = true)
    (hr : (Region.ready .any ops l).contains i = true) (hl : l.setIfInBounds i true = l') (hfi : fl i = none) (hin : i < n) (hw : Region.wanted o (yielded ops a.tmps) = true)
    (hex : ∀ w, (execOp a.eval o).run P w = .ok (.enter fn args) w)
    (con : ∀ x : ExtW B w, Calls P fn args x.val fun e w'' => e = .returned v ∧ Below x.val.heap.size x.val w'')
    (h : FS P ops B n w fl (TailL P ops B n m w Q tl) f l' (a.put o.dst v) G) : FS P ops B n w fl (TailL P ops B n m w Q tl) (f + 1) l a G := by
  intro inv
  have hr' : i ∈ Region.ready .any ops l := by simpa using hr
  refine anyF_first hi (Region.noSelect_spec ok.sel) ok.floats hfi ok.sink ok.chain ok.size hin (fun _ _ _ hL => seqB_ready hL.1) f l a G inv (Region.free_spec hi hf) hr' (v := v) (fun G' => .inl ⟨hw, ?_⟩) (by rw [hl]; exact h (by rw [← hl]; exact inv.set hr' hin))
  rintro w' ⟨x, rfl⟩
  unfold Oper.quietAt
  rw [hex]
  exact ⟨rfl, Calls.extG_of (x := x) (con ⟨x.val, x.below⟩) hB⟩

/-- The last float. -/
theorem FS_float {f : Nat} {l l' : Array Bool} {a : Act} {G : List (Nat × Obj)} (i : Nat) (d : Tmp) (ob : Obj) (hr : Region.ready .any ops l = [i]) (hl : l.setIfInBounds i true = l') (hfi : fl i = some (d, ob)) (hin : i < n)
    (h : ∀ g, B ≤ g → (∀ g' o', (g', o') ∈ G → g ≠ g') → FS P ops B n w fl L f l' (a.put (some d) (.pointer (some ⟨g, 0, none⟩))) ((g, ob) :: G)) : FS P ops B n w fl L (f + 1) l a G := by
  intro inv
  refine ⟨fun h0 => (by rw [hr] at h0; cases h0), fun j hj => ?_⟩
  have hj' := hj
  rw [hr] at hj
  obtain rfl : j = i := by simpa using hj
  refine ⟨hin, ?_⟩
  simp only [hfi]
  intro g hg hfr
  rw [hl]
  exact h g hg hfr (by rw [← hl]; exact inv.set hj' hin)

/-- Two floats are left. -/
theorem FS_float2 {f : Nat} {l l1 l2 : Array Bool} {a : Act} {G : List (Nat × Obj)} (i j : Nat) (d e : Tmp) (ob oc : Obj) (hr : Region.ready .any ops l = [i, j]) (hl1 : l.setIfInBounds i true = l1) (hl2 : l.setIfInBounds j true = l2) (hfi : fl i = some (d, ob)) (hfj : fl j = some (e, oc)) (hin : i < n) (hjn : j < n)
    (h1 : ∀ g, B ≤ g → (∀ g' o', (g', o') ∈ G → g ≠ g') → FS P ops B n w fl L f l1 (a.put (some d) (.pointer (some ⟨g, 0, none⟩))) ((g, ob) :: G))
    (h2 : ∀ g, B ≤ g → (∀ g' o', (g', o') ∈ G → g ≠ g') → FS P ops B n w fl L f l2 (a.put (some e) (.pointer (some ⟨g, 0, none⟩))) ((g, oc) :: G)) : FS P ops B n w fl L (f + 1) l a G := by
  intro inv
  refine ⟨fun h0 => (by rw [hr] at h0; cases h0), fun k hk => ?_⟩
  have hk' := hk
  rw [hr] at hk
  rcases List.mem_cons.1 hk with rfl | hk
  · refine ⟨hin, ?_⟩
    simp only [hfi]
    intro g hg hfr
    rw [hl1]
    exact h1 g hg hfr (by rw [← hl1]; exact inv.set hk' hin)
  · obtain rfl : k = j := by simpa using hk
    refine ⟨hjn, ?_⟩
    simp only [hfj]
    intro g hg hfr
    rw [hl2]
    exact h2 g hg hfr (by rw [← hl2]; exact inv.set hk' hjn)

theorem FS_end {l : Array Bool} {a : Act} {G : List (Nat × Obj)} (hs : Region.seqB .any ops m n l = true) (h : ∀ w', Below B w w' → (∀ g o, (g, o) ∈ G → w'.heap[g]? = some o) → wpList P ops Q tl a w') : FS P ops B n w fl (TailL P ops B n m w Q tl) 0 l a G :=
  fun _ => ⟨hs, by rintro w' ⟨x, rfl⟩; exact h x.val x.below x.holds⟩

/-- The region's door. -/
theorem wp_region_float {id : Nat} {a : Act} {w : World} {lo : List Oper} (B n : Nat) (l : Array Bool) (fl : Nat → Option (Tmp × Obj)) (hm : P.follows .mixedOrders = true) (hB : B ≤ w.heap.size) (ok : FloatOk P lo.toArray n fl) (hl : Array.replicate lo.toArray.size false = l)
    (h : FloatOk P lo.toArray n fl → FS P lo.toArray B n w.drew fl (TailL P lo.toArray B n (lo.toArray.size - n) w.drew Q (lo.drop n)) n l a []) : (Code.region id lo.toArray true).wp P Q a w := by
  have hn := ok.size
  have hdl : (lo.drop n).length = lo.toArray.size - n := by simp
  have inv0 : HeadInv .any lo.toArray n l :=
    ⟨by rw [← hl]; simp, fun j oj _ hl' => (by rw [← hl, getD_replicate_false] at hl'; cases hl'), fun t _ ht => by rw [← hl]; exact getD_in (by simpa using ht) (getD_replicate_false _ _)⟩
  refine wp_region_any hm ?_
  have := anyF_wp (Q := Q) (g := lo.toArray.size - n) (w := w.drew) hB ok.floats (fun l' a' G hL w' hw' => by
    have := wpAny_of_seq (md := .any) (Q' := Q) (lo.drop n) n l' a' w' (fun j => by simp [List.getElem?_drop]) (by rw [hdl]; exact hL.1) (hL.2 w' hw')
    rwa [hdl] at this) n l a [] (h ok inv0) w.drew ⟨⟨w.drew, Below.refl _ _, fun g o hg => by cases hg⟩, rfl⟩
  rw [show n + (lo.toArray.size - n) = lo.toArray.size by omega] at this
  rw [hl]
  exact this
end
end Go.Proofs.YticnppnejafhdaaGreatDoor
/- Owned rows of cells read as lists; slices of integers. Generic: no program's numbers. -/
namespace Go.Proofs.YticnppnejafhdaaGreatDoor
open Go.RowKit

theorem flat_get {α : Type} (f : α → List Value) (sz : Nat) (hf : ∀ a, (f a).length = sz) : ∀ (l : List α) (k j : Nat) (a : α), l[k]? = some a → j < sz → (l.flatMap f)[k * sz + j]? = (f a)[j]?
  | [], k, j, a, h, _ => by simp at h
  | x :: l, 0, j, a, h, hj => by
    simp at h
    subst h
    simp only [List.flatMap_cons, Nat.zero_mul, Nat.zero_add]
    rw [List.getElem?_append_left (by rw [hf]; exact hj)]
  | x :: l, k + 1, j, a, h, hj => by
    have h' : l[k]? = some a := by simpa using h
    simp only [List.flatMap_cons]
    rw [List.getElem?_append_right (by rw [hf, Nat.succ_mul]; omega), hf, show (k + 1) * sz + j - sz = k * sz + j by rw [Nat.succ_mul]; omega]
    exact flat_get f sz hf l k j a h' hj

theorem add_off (g j : Nat) : (⟨g, 0, none⟩ : Addr).add j = ⟨g, j, none⟩ := by
  unfold Addr.add
  split
  · rename_i h; subst h; rfl
  · simp

/-- An owned row of structs reads as a list. -/
theorem own_lies {α : Type} {f : α → List Value} {sz : Nat} (hf : ∀ a, (f a).length = sz) {w : World} {base : Nat} {e : TypeId} {v : Value} {l : List α} (h : w.ownsRow base e sz v l.length (l.flatMap f)) :
    ∃ A c, v = .slice A l.length c ∧ Lies w w.heap.size sz A (l.map f) ∧ l.length ≤ maxLen := by
  rcases h.2 with ⟨rfl, h0⟩ | ⟨g, cap, cur, rfl, hg, hh, hnc, hm, hs, ht⟩
  · refine ⟨none, 0, by rw [h0], ?_, by rw [h0]; unfold maxLen; omega⟩
    have : l = [] := List.eq_nil_of_length_eq_zero h0
    subst this
    exact Lies.nil _ _ _ _
  · refine ⟨_, cap, rfl, fun _ => ⟨g, 0, rfl, ?_, fun k row hr j u hu => ?_⟩, Nat.le_trans hnc hm⟩
    · rcases Nat.lt_or_ge g w.heap.size with h' | h'
      · exact h'
      · rw [Array.getElem?_eq_none h'] at hh; cases hh
    · rw [List.getElem?_map] at hr
      cases hk : l[k]? with
      | none => rw [hk] at hr; cases hr
      | some a =>
        rw [hk] at hr
        have hra : f a = row := by simpa using hr
        subst hra
        have hj : j < sz := by
          have := (List.getElem?_eq_some_iff.1 hu).1
          rw [hf] at this; exact this
        have := h.cells (g := g) rfl (k * sz + j) u (by rw [flat_get f sz hf l k j a hk hj]; exact hu)
        rw [add_off] at this
        rw [Nat.zero_add]; exact this
theorem add_any (b off j : Nat) : (⟨b, off, none⟩ : Addr).add j = ⟨b, off + j, none⟩ := by
  unfold Addr.add
  split
  · rename_i h; subst h; simp
  · simp

/-- The cells of a slice of structs, one after the other. -/
theorem Lies.news {α : Type} {f : α → List Value} {sz : Nat} (hf : ∀ a, (f a).length = sz) (hz : 0 < sz) {w : World} {B : Nat} {ad : Addr} {l : List α} (h : Lies w B sz (some ad) (l.map f)) : ∀ j u, (l.flatMap f)[j]? = some u → w.cell? (ad.add j) = some u := by
  intro j u hu
  have hne : l.map f ≠ [] := by
    intro h0
    have : l = [] := by simpa using h0
    subst this
    simp at hu
  obtain ⟨b, off, e, _, hc⟩ := h hne
  injection e with e
  subst e
  have hlen : (l.flatMap f).length = l.length * sz := by
    clear hu hc hne h
    induction l with
    | nil => simp
    | cons x l ih => rw [List.flatMap_cons, List.length_append, hf, ih, List.length_cons, Nat.succ_mul]; omega
  have hj : j < l.length * sz := by rw [← hlen]; exact (List.getElem?_eq_some_iff.1 hu).1
  have hk : j / sz < l.length := Nat.div_lt_of_lt_mul (by rw [Nat.mul_comm]; exact hj)
  have hr : j % sz < sz := Nat.mod_lt _ hz
  obtain ⟨a, ha⟩ := get_of_lt hk
  have hg := flat_get f sz hf l (j / sz) (j % sz) a ha hr
  have e : j / sz * sz + j % sz = j := by rw [Nat.mul_comm]; exact Nat.div_add_mod j sz
  rw [e] at hg
  have := hc (j / sz) (f a) (by simp [ha]) (j % sz) u (by rw [← hg]; exact hu)
  rw [Nat.add_assoc, e] at this
  rw [add_any]
  exact this
theorem flat_len {α : Type} {f : α → List Value} {sz : Nat} (hf : ∀ a, (f a).length = sz) : ∀ l : List α, (l.flatMap f).length = l.length * sz
  | [] => by simp
  | x :: l => by rw [List.flatMap_cons, List.length_append, hf, flat_len hf l, List.length_cons, Nat.succ_mul]; omega

theorem Blk.new2 {w : World} {g : Nat} (t : TypeId) (cs : List Value) (h : g = w.heap.size) : Blk (w.alloc (.cells cs.toArray t)) g t cs := by rw [h]; exact Blk.new w t cs
def irow (x : Int) : List Value := [.int .i64 x]
theorem irow_len (x : Int) : (irow x).length = 1 := rfl
/-- The slice with address A holds the integers l. -/
def LiesI (w : World) (B : Nat) (A : Option Addr) (l : List Int) : Prop := Lies w B 1 A (l.map irow)
theorem LiesI.below {w w' : World} {B : Nat} {A : Option Addr} {l : List Int} (h : LiesI w B A l) (hb : Below B w w') : LiesI w' B A l := Lies.below h hb
theorem LiesI.more {w : World} {B B' : Nat} {A : Option Addr} {l : List Int} (h : LiesI w B A l) (hB : B ≤ B') : LiesI w B' A l := Lies.more h hB
theorem LiesI.nil {w : World} {B : Nat} {A : Option Addr} : LiesI w B A [] := Lies.nil _ _ _ _
theorem LiesI.at_ {w : World} {B : Nat} {A : Option Addr} {l : List Int} (h : LiesI w B A l) {k : Nat} {x : Int} (ha : l[k]? = some x) :
    ∃ b off, A = some ⟨b, off, none⟩ ∧ b < B ∧ ∀ k x, l[k]? = some x → w.cell? ⟨b, off + k, none⟩ = some (.int .i64 x) := by
  have hne : l.map irow ≠ [] := by
    intro h0
    have : l = [] := by simpa using h0
    subst this
    simp at ha
  obtain ⟨b, off, e, hb, hc⟩ := h hne
  refine ⟨b, off, e, hb, fun k x ha => ?_⟩
  have hr : (l.map irow)[k]? = some (irow x) := by simp [ha]
  have := hc k _ hr 0 _ rfl
  simpa using this
def flatI (l : List Int) : List Value := l.flatMap irow
theorem own_I {w : World} {base n c : Nat} {t : TypeId} {A : Option Addr} {l : List Int} (h : w.ownsRow base t 1 (.slice A n c) l.length (flatI l)) : LiesI w w.heap.size A l := by
  obtain ⟨A', c', e, h1, _⟩ := own_lies (f := irow) irow_len h
  injection e with e _ _
  subst e
  exact h1
end Go.Proofs.YticnppnejafhdaaGreatDoor
/- As the text Mix: with operations ('rough') that may change what lies below B; each of them waits for all that were taken first. Generic. -/
namespace Go.Proofs.YticnppnejafhdaaGreatDoor
open Go.RowKit

section
variable {P : Program} {ops : Array Oper} {Q : Exit → Act → World → Prop}

/-- What an operation leaves: all below B; a rough one nothing. -/
def lowR (R : List Nat) (B i : Nat) : Nat := if R.contains i = true then 0 else B
/-- Whatever order is picked from here on. -/
def anyR (P : Program) (ops : Array Oper) (B : Nat) (R : List Nat) (Q : Exit → Act → World → Prop) : Nat → Array Bool → Act → World → Prop
  | 0, listed, a, w => Region.ready .any ops listed = [] ∧ Q .normal a w
  | f + 1, listed, a, w => (Region.ready .any ops listed = [] → Q .normal a w) ∧ ∀ i ∈ Region.ready .any ops listed, wpOp P ops Q i (fun a' w' => Below (lowR R B i) w w' ∧ anyR P ops B R Q f (listed.setIfInBounds i true) a' w') a w

/-- Each rough operation waits for operation i. -/
def waitsR (ops : Array Oper) (R : List Nat) (i : Nat) : Bool :=
  R.all fun j => match ops[j]? with
    | some o => o.after.any fun e => Region.binds .any e && e.on == i
    | none => true
theorem waitsR_spec {i j : Nat} {oj : Oper} {R : List Nat} (h : waitsR ops R i = true) (hj : ops[j]? = some oj) (hno : ∀ e ∈ oj.after, Region.binds .any e = true → e.on ≠ i) : R.contains j = false := by
  rw [Bool.eq_false_iff]
  intro hc
  have hm : j ∈ R := by simpa using hc
  have h1 := List.all_eq_true.1 h j hm
  rw [hj] at h1
  simp only [Array.any_eq_true] at h1
  obtain ⟨k, hk, he⟩ := h1
  simp only [Bool.and_eq_true, beq_iff_eq] at he
  exact hno _ (Array.getElem_mem hk) he.1 he.2

theorem anyR_any {B : Nat} {R : List Nat} : ∀ (f : Nat) (listed : Array Bool) (a : Act) (w : World), anyR P ops B R Q f listed a w → wpAny P .any ops Q f listed a w
  | 0, _, _, _, h => h
  | f + 1, _, _, _, h => ⟨h.1, fun i hi => wpOp_mono (fun a' w' h' => anyR_any f _ a' w' h'.2) (h.2 i hi)⟩

theorem anyR_first {B B0 i : Nat} {R : List Nat} {oi : Oper} {v : Value} (hi : ops[i]? = some oi) (hR : ∀ j oj, ops[j]? = some oj → (∀ e ∈ oj.after, Region.binds .any e = true → e.on ≠ i) → B0 ≤ lowR R B j) (hsel : ∀ (j : Nat) (o : Oper) cs b, ops[j]? = some o → o.op ≠ .select cs b)
    (hQ : ∀ c a w, Q (.panic c) (a.put oi.dst v) w → Q (.panic c) a w) :
    ∀ (f : Nat) (listed : Array Bool) (a : Act) (w : World),
      (∀ j oj, ops[j]? = some oj → j ≠ i → listed.getD j true = false → (∀ e ∈ oj.after, Region.binds .any e = true → e.on ≠ i) → oi.apart ops oj = true) →
      i ∈ Region.ready .any ops listed → YieldsB P ops B0 oi v a w →
      anyR P ops B R Q f (listed.setIfInBounds i true) (a.put oi.dst v) w → anyR P ops B R Q (f + 1) listed a w := by
  intro f
  induction f with
  | zero =>
    intro listed a w _ hr hy H
    refine ⟨fun h => (by rw [h] at hr; cases hr), fun j hj => ?_⟩
    by_cases hji : j = i
    · subst hji; exact hy.wpOp hi ⟨Below.refl _ _, H⟩
    · have := ready_mono hj hji
      rw [H.1] at this
      cases this
  | succ f ih =>
    intro listed a w hfree hr hy H
    refine ⟨fun h => (by rw [h] at hr; cases hr), fun j hj => ?_⟩
    by_cases hji : j = i
    · subst hji; exact hy.wpOp hi ⟨Below.refl _ _, H⟩
    · have h1 := H.2 j (ready_mono hj hji)
      obtain ⟨hjun, oj, hoj, hall⟩ := mem_ready.1 hj
      have hnot : ∀ e ∈ oj.after, Region.binds .any e = true → e.on ≠ i := fun e he hb heq => by
        have h1 := hall e he hb
        rw [heq, getD_both (mem_ready.1 hr).1] at h1
        cases h1
      have h1' := wpOp_mono (K' := fun a' w' => Below B0 w w' ∧ (Below (lowR R B j) w w' ∧ anyR P ops B R Q f (((listed.setIfInBounds i true)).setIfInBounds j true) a' w')) (fun a' w' h => ⟨h.1.mono (hR j oj hoj hnot), h⟩) h1
      have h2 := anyB_put hoj (hfree j oj hoj hji hjun hnot) (fun cs b => hsel i oi cs b hi) (fun cs b => hsel j oj cs b hoj) hQ hy h1'
      have hfree' : ∀ k ok, ops[k]? = some ok → k ≠ i → (listed.setIfInBounds j true).getD k true = false →
          (∀ e ∈ ok.after, Region.binds .any e = true → e.on ≠ i) → oi.apart ops ok = true := fun k ok hk hki hun hno => by
        refine hfree k ok hk hki ?_ hno
        by_cases hjk : j = k
        · subst hjk; exact hjun
        · rw [getD_set_ne true hjk] at hun; exact hun
      refine wpOp_mono (fun a' w' h3 => ⟨h3.2.2.1, ih (listed.setIfInBounds j true) a' w' hfree' (ready_mono hr (Ne.symm hji)) h3.2.1 ?_⟩) h2
      rw [Array.setIfInBounds_comm _ _ hji]
      exact h3.2.2.2

theorem lowR_waits {B i : Nat} {R : List Nat} (h : waitsR ops R i = true) : ∀ j oj, ops[j]? = some oj → (∀ e ∈ oj.after, Region.binds .any e = true → e.on ≠ i) → B ≤ lowR R B j := fun j oj hj hno => by
  unfold lowR
  rw [waitsR_spec h hj hno]
  simp

/-- A plain operation that is quiet below B is taken first. -/
theorem anyR_take {B f : Nat} {R : List Nat} {l l' : Array Bool} {a : Act} {w : World} (i : Nat) (o : Oper) (hi : ops[i]? = some o) (hp : plainOp o.op = true) (hs : Region.noSelect ops = true) (hR : waitsR ops R i = true) (hf : Region.free .any ops l i = true)
    (hr : (Region.ready .any ops l).contains i = true) (hl : l.setIfInBounds i true = l') (hw : Region.wanted o (yielded ops a.tmps) = true)
    (h : ∀ K : Act → Prop, (∀ a', anyR P ops B R (NoPanic Q) f l' a' w → K a') → o.quiet P a (fun w' => ∃ x : ExtW B w, w' = x.val) K) : anyR P ops B R (NoPanic Q) (f + 1) l a w := by
  obtain ⟨v, h1, h2⟩ := h _ (fun _ h => h)
  refine anyR_first (B0 := B) hi (lowR_waits hR) (Region.noSelect_spec hs) (v := v) (fun _ _ _ h => (h : False).elim) f l a w (Region.free_spec hi hf) (by simpa using hr) (.inl ⟨hw, fun w' hb => ?_⟩) (by rw [hl]; exact h2)
  have h3 := h1 w' ⟨⟨w', hb⟩, rfl⟩
  unfold Oper.quietAt at h3
  rcases run_plain (P := P) hp a.eval w' with ⟨u, w2, e⟩ | ⟨x, w2, e⟩
  · rw [e] at h3 ⊢
    obtain ⟨rfl, rfl⟩ := h3
    rfl
  · rw [e] at h3
    exact h3.elim

/-- A plain operation that looks at no memory is taken first. -/
theorem anyR_take0 {B f : Nat} {R : List Nat} {l l' : Array Bool} {a : Act} {w : World} (i : Nat) (o : Oper) (hi : ops[i]? = some o) (hp : plainOp o.op = true) (hs : Region.noSelect ops = true) (hf : Region.free .any ops l i = true)
    (hr : (Region.ready .any ops l).contains i = true) (hl : l.setIfInBounds i true = l') (hw : Region.wanted o (yielded ops a.tmps) = true)
    (h : ∀ K : Act → Prop, (∀ a', anyR P ops B R (NoPanic Q) f l' a' w → K a') → o.quiet P a (fun w' => ∃ x : ExtW 0 w, w' = x.val) K) : anyR P ops B R (NoPanic Q) (f + 1) l a w := by
  obtain ⟨v, h1, h2⟩ := h _ (fun _ h => h)
  refine anyR_first (B0 := 0) hi (fun _ _ _ _ => Nat.zero_le _) (Region.noSelect_spec hs) (v := v) (fun _ _ _ h => (h : False).elim) f l a w (Region.free_spec hi hf) (by simpa using hr) (.inl ⟨hw, fun w' hb => ?_⟩) (by rw [hl]; exact h2)
  have h3 := h1 w' ⟨⟨w', hb⟩, rfl⟩
  unfold Oper.quietAt at h3
  rcases run_plain (P := P) hp a.eval w' with ⟨u, w2, e⟩ | ⟨x, w2, e⟩
  · rw [e] at h3 ⊢
    obtain ⟨rfl, rfl⟩ := h3
    rfl
  · rw [e] at h3
    exact h3.elim

/-- What stands behind one operation: the world is as it was below B, and the rest. -/
def OneR (P : Program) (ops : Array Oper) (B : Nat) (R : List Nat) (f i : Nat) (Q : Exit → Act → World → Prop) (l : Array Bool) (w : World) : Exit → Act → World → Prop
  | .normal, a', w' => Below (lowR R B i) w w' ∧ anyR P ops B R Q f l a' w'
  | e, a', w' => Q e a' w'

theorem wpOp_oneR {B f i : Nat} {R : List Nat} {o : Oper} {l l' : Array Bool} {a : Act} {w : World} (hi : ops[i]? = some o) (hl : l.setIfInBounds i true = l')
    (h : wpList P ops (OneR P ops B R f i (NoPanic Q) l' w) [o] a w) : wpOp P ops (NoPanic Q) i (fun a' w' => Below (lowR R B i) w w' ∧ anyR P ops B R (NoPanic Q) f (l.setIfInBounds i true) a' w') a w := by
  rw [hl]
  unfold wpOp
  simp only [hi]
  simp only [wpList] at h
  split
  · rename_i hw
    simp only [hw, if_true] at h
    rcases h with h | ⟨h1, a0, w0, h2⟩
    · refine .inl ?_
      unfold Oper.wp at *
      generalize (execOp a.eval o).run P w = r at *
      cases r with
      | ok n w' =>
        cases n <;> simp only [Oper.upon] at h ⊢
        case value u => exact h
        case skip => exact h
        case defer d => exact h
        case enter f args =>
          refine Calls.mono h fun e w'' he => ?_
          cases e with
          | returned u => exact he
          | panicked c => exact he
          | outgrown => obtain ⟨a0, w0, h2⟩ := he; exact ⟨a0, w0, h2⟩
        case row row args => exact h
      | halt x w' =>
        cases x <;> simp only [Oper.upon] at h ⊢
        case panic u => exact h
    · exact .inr ⟨h1, a0, w0, h2⟩
  · rename_i hw
    simp only [hw] at h
    exact h

/-- One operation alone is ready. -/
theorem anyR_one {B f : Nat} {R : List Nat} {l l' : Array Bool} {a : Act} {w : World} (i : Nat) (o : Oper) (hi : ops[i]? = some o) (hr : Region.ready .any ops l = [i]) (hl : l.setIfInBounds i true = l')
    (h : wpList P ops (OneR P ops B R f i (NoPanic Q) l' w) [o] a w) : anyR P ops B R (NoPanic Q) (f + 1) l a w :=
  ⟨fun h0 => (by rw [hr] at h0; cases h0), fun j hj => by
    rw [hr] at hj
    obtain rfl : j = i := by simpa using hj
    exact wpOp_oneR hi hl h⟩

theorem OneR_mk {B f i : Nat} {R : List Nat} {l : Array Bool} {a' : Act} {w w' : World} (hb : Below B w w') (h : anyR P ops B R (NoPanic Q) f l a' w') : OneR P ops B R f i (NoPanic Q) l w .normal a' w' := ⟨hb.mono (by unfold lowR; split <;> omega), h⟩
theorem anyR_end {B : Nat} {R : List Nat} {l : Array Bool} {a : Act} {w : World} (hr : Region.ready .any ops l = []) (h : Q .normal a w) : anyR P ops B R (NoPanic Q) 0 l a w := ⟨hr, h⟩

/-- The region's door. -/
theorem wp_region_rough {id : Nat} {a : Act} {w : World} {lo : List Oper} (B n : Nat) (R : List Nat) (l : Array Bool) (hm : P.follows .mixedOrders = true) (hn : lo.toArray.size = n) (hl : Array.replicate n false = l)
    (h : anyR P lo.toArray B R (NoPanic Q) n l a w.drew) : (Code.region id lo.toArray true).wp P Q a w :=
  wp_region_noPanic (wp_region_any hm (by rw [hn, hl]; exact anyR_any _ _ _ _ h))

end
end Go.Proofs.YticnppnejafhdaaGreatDoor
/- Walks: the small functions of flow and of its reference. -/
namespace Go.Proofs.YticnppnejafhdaaGreatDoor
open Go.RowKit
open Nd

def Nd.Fl.row (f : Fl) : List Value := [.int .i64 f.id, .int .i64 f.fr, .int .i64 f.tn, .int .i64 f.pe, .int .i64 f.ph, .int .i64 f.dl]

theorem fault_eq (f : Fl) (R : Int) (h : R = if (0 ≤ f.id ∧ f.id ≤ 255) ∧ (0 ≤ f.fr ∧ f.fr ≤ 31) ∧ (0 ≤ f.tn ∧ f.tn ≤ 31) ∧ (1 ≤ f.pe ∧ f.pe ≤ 512) ∧ (0 ≤ f.ph ∧ f.ph ≤ f.pe - 1) ∧ (1 ≤ f.dl ∧ f.dl ≤ f.pe) then (if f.fr = f.tn then 1 else 0) else 2) : R = fault f := by
  rw [h]
  unfold fault
  congr 1
  simp [boundsB, inB, and_assoc]

theorem fcheck1_any (n : Int) (g : Nat) (w : World) (hc : w.cell? ⟨g, 0, none⟩ = some (.int .i64 32)) :
    Calls Tryz.prog 155 #[.int .i64 n, .pointer (some ⟨g, 0, none⟩)] w fun e w' => e = .returned (.bool (decide (0 ≤ n) && decide (n < 32))) ∧ w = w' := by
  go_enter Tryz.func155, Tryz.ntmps155
  go_wp2
  all_goals
    go_ret
    exact ⟨ret_bool (by first | (simp [*]; done) | (simp [*]; omega)), rfl⟩

set_option maxHeartbeats 1000000 in
theorem fcheck_any (f : Fl) (w : World) :
    Calls Tryz.prog 111 #[.int .i64 32, .agg #[.int .i64 f.id, .int .i64 f.fr, .int .i64 f.tn, .int .i64 f.pe, .int .i64 f.ph, .int .i64 f.dl]] w fun e w' => e = .returned (.int .i64 (fault f)) ∧ Below w.heap.size w w' := by
  obtain ⟨T, hT⟩ : ∃ T, T = fault f := ⟨_, rfl⟩
  rw [← hT]
  have HT := Lib.hid (fun R h => hT.trans (fault_eq f R h).symm)
  clear hT
  obtain ⟨id, fr, tn, pe, ph, dl⟩ := f
  dsimp only at HT
  go_enter Tryz.func111, Tryz.ntmps111
  go_wp2_with (go_at_call 155; (with_reducible refine (fcheck1_any _ _ _ (by simp)).mono ?_); rintro e w' ⟨rfl, rfl⟩)
  all_goals
    go_ret
    refine ⟨ret_int (HT.out _ ?_).symm, by repeat (first | exact Below.refl _ _ | refine Below.alloc ?_ (by simp) _ )⟩
    try simp only [decide_eq_true_eq, Bool.not_eq_true', Bool.not_eq_false', decide_eq_false_iff_not, beq_iff_eq, beq_eq_false_iff_ne, ne_eq] at *
    first
      | (rw [if_neg (by omega)]; done)
      | (rw [if_pos (by omega), if_pos (by omega)]; done)
      | (rw [if_pos (by omega), if_neg (by omega)]; done)

theorem alone_any (f : Fl) (w : World) :
    Calls Tryz.prog 152 #[.agg #[.int .i64 f.id, .int .i64 f.fr, .int .i64 f.tn, .int .i64 f.pe, .int .i64 f.ph, .int .i64 f.dl]] w fun e w' => e = .returned (.int .i64 (fault f)) ∧ Below w.heap.size w w' := by
  go_enter Tryz.func152, Tryz.ntmps152
  go_wp2_with (go_at_call 111; (with_reducible refine (fcheck_any _ _).mono ?_); rintro e w' ⟨rfl, hb⟩)
  go_ret
  exact ⟨rfl, ((Below.refl _ _).alloc (Nat.le_refl _) _).trans (hb.mono (by simp))⟩

theorem fin_any (n lo hi : Int) (w : World) :
    Calls Tryz.prog 120 #[.int .i64 n, .int .i64 lo, .int .i64 hi] w fun e w' => e = .returned (.bool (inB n lo hi)) ∧ w = w' := by
  go_enter Tryz.func120, Tryz.ntmps120
  go_wp2
  all_goals
    go_ret
    exact ⟨ret_bool (by first | (simp [inB, *]; done) | (simp [inB, *]; omega)), rfl⟩

end Go.Proofs.YticnppnejafhdaaGreatDoor
/- Walks: Current, Find, Check of package flow and of its reference. -/
namespace Go.Proofs.YticnppnejafhdaaGreatDoor
open Go.RowKit
open Nd

theorem Lies.at_ {α : Type} {f : α → List Value} {sz : Nat} {w : World} {B : Nat} {A : Option Addr} {l : List α} (h : Lies w B sz A (l.map f)) {k : Nat} {a : α} (ha : l[k]? = some a) :
    ∃ b off, A = some ⟨b, off, none⟩ ∧ b < B ∧ ∀ k a, l[k]? = some a → ∀ j u, (f a)[j]? = some u → w.cell? ⟨b, off + k * sz + j, none⟩ = some u := by
  have hne : l.map f ≠ [] := by
    intro h0
    have : l = [] := by simpa using h0
    subst this
    simp at ha
  obtain ⟨b, off, e, hb, hc⟩ := h hne
  exact ⟨b, off, e, hb, fun k a ha => hc k (f a) (by simp [ha])⟩

set_option maxHeartbeats 1000000 in
theorem rfault_any (f : Fl) (w : World) :
    Calls Tryz.prog 121 #[.int .i64 32, .agg #[.int .i64 f.id, .int .i64 f.fr, .int .i64 f.tn, .int .i64 f.pe, .int .i64 f.ph, .int .i64 f.dl]] w fun e w' => e = .returned (.int .i64 (fault f)) ∧ Below w.heap.size w w' := by
  obtain ⟨T, hT⟩ : ∃ T, T = fault f := ⟨_, rfl⟩
  rw [← hT]
  have HT := Lib.hid (fun R h => hT.trans (fault_eq f R h).symm)
  clear hT
  obtain ⟨id, fr, tn, pe, ph, dl⟩ := f
  dsimp only at HT
  have hbi : ∀ (x a b : Int), inB x a b = true ↔ a ≤ x ∧ x ≤ b := fun x a b => by simp [inB]
  have hbj : ∀ (x a b : Int), inB x a b = false ↔ ¬ (a ≤ x ∧ x ≤ b) := fun x a b => by rw [← hbi, Bool.not_eq_true]
  have HI := Lib.hid hbi
  have HJ := Lib.hid hbj
  clear hbi hbj
  by_cases hpe : 1 ≤ pe ∧ pe ≤ 512
  · have hw : IntKind.i64.wrap (pe - 1) = pe - 1 := by rw [IntKind.wrap_i64]; omega
    have hpi := (HI.out pe 1 512).2 hpe
    obtain ⟨hp1, hp2⟩ := hpe
    go_enter Tryz.func121, Tryz.ntmps121
    go_wp2_with (go_at_call 120; (with_reducible refine (fin_any _ _ _ _).mono ?_); rintro e w' ⟨rfl, rfl⟩)
    all_goals
      go_ret
      refine ⟨ret_int (HT.out _ ?_).symm, by repeat (first | exact Below.refl _ _ | refine Below.alloc ?_ (by simp) _ )⟩
      try simp only [decide_eq_true_eq, Bool.not_eq_true', Bool.not_eq_false', decide_eq_false_iff_not, beq_iff_eq, beq_eq_false_iff_ne, ne_eq, HI.out, HJ.out] at *
      first
        | (rw [if_neg (by omega)]; done)
        | (rw [if_pos (by omega), if_pos (by omega)]; done)
        | (rw [if_pos (by omega), if_neg (by omega)]; done)
  · have hpi := (HJ.out pe 1 512).2 hpe
    go_enter Tryz.func121, Tryz.ntmps121
    go_wp2_with (go_at_call 120; (with_reducible refine (fin_any _ _ _ _).mono ?_); rintro e w' ⟨rfl, rfl⟩)
    all_goals
      go_ret
      refine ⟨ret_int (HT.out _ ?_).symm, by repeat (first | exact Below.refl _ _ | refine Below.alloc ?_ (by simp) _ )⟩
      try simp only [decide_eq_true_eq, Bool.not_eq_true', Bool.not_eq_false', decide_eq_false_iff_not, beq_iff_eq, beq_eq_false_iff_ne, ne_eq, HI.out, HJ.out] at *
      first
        | (rw [if_neg (by omega)]; done)
        | (rw [if_pos (by omega), if_pos (by omega)]; done)
        | (rw [if_pos (by omega), if_neg (by omega)]; done)

end Go.Proofs.YticnppnejafhdaaGreatDoor
/- Walks: Check of package flow, and of its reference. -/
namespace Go.Proofs.YticnppnejafhdaaGreatDoor
open Go.RowKit
open Nd
theorem below_drewN {B : Nat} {a w : World} (h : Below B a w) (n : Nat) : Below B a (w.drewN n) := h.trans ⟨rfl, rfl, rfl, Nat.le_refl _, fun _ _ => rfl⟩

set_option maxRecDepth 100000 in
set_option maxHeartbeats 2000000 in
theorem fCheck_any (l : List Fl) (A : Option Addr) (c : Nat) (w : World) (hA : Lies w w.heap.size 6 A (l.map Fl.row)) (hl : l.length ≤ 1000000) :
    Calls Tryz.prog 81 #[.int .i64 32, .slice A l.length c] w fun e w' => e = .returned (.tuple #[.int .i64 (chkF l).1, .int .i64 (chkF l).2]) ∧ Below w.heap.size w w' := by
  obtain ⟨T, hT⟩ : ∃ T, T = chkF l := ⟨_, rfl⟩
  rw [← hT]
  obtain ⟨n, hn⟩ : ∃ n, n = l.length := ⟨_, rfl⟩
  rw [← hn] at hl ⊢
  by_cases h16 : 16 < n
  · have HE : Hid (T = (-1, 8)) := Lib.hid (by rw [hT]; unfold chkF; rw [if_pos (by omega)])
    clear hn hT hA
    go_enter Tryz.func81, Tryz.ntmps81
    go_wp2_with (fail)
    go_ret2
    exact ⟨by rw [HE.out]; rfl, Below.refl _ _⟩
  have HT : Hid (T = chkGo none 0 l) := Lib.hid (by rw [hT]; unfold chkF; rw [if_neg (by omega)])
  have HN := Lib.hid hn
  clear hn hT
  have h17 : decide ((16 : Int) < (n : Int)) = false := decide_eq_false (by omega)
  go_enter Tryz.func81, Tryz.ntmps81
  go_wp2_with (fail)
  go_loopw [20] (fun i wr => ∃ (k : Nat), k ≤ n ∧ i = .int .i64 k ∧ Below w.heap.size w wr ∧ Hid (T = chkGo (if k = 0 then none else l[k - 1]?) k (l.drop k))) (fun i _ => n - (intOf i).toNat)
  case atStart => exact ⟨0, Nat.zero_le _, rfl, Below.refl _ _, Lib.hid (by rw [HT.out]; rfl)⟩
  case round =>
    obtain ⟨k, hk, rfl, hb, hst⟩ := hrel
    by_cases hlt : k < n
    · obtain ⟨a, ha⟩ := get_of_lt (l := l) (k := k) (by rw [← HN.out]; exact hlt)
      obtain ⟨b, off, rfl, hbB, hcs⟩ := (Lies.below hA hb).at_ ha
      have Hcs := Lib.hid hcs
      have c0 := hcs k a ha 0 _ rfl
      have c1 := hcs k a ha 1 _ rfl
      have c2 := hcs k a ha 2 _ rfl
      have c3 := hcs k a ha 3 _ rfl
      have c4 := hcs k a ha 4 _ rfl
      have c5 := hcs k a ha 5 _ rfl
      simp only [Nat.add_zero] at c0 c1 c2 c3 c4 c5
      have hst' : Hid (T = if fault a = 0 then (if notUp (if k = 0 then none else l[k - 1]?) a = true then ((k : Int), 5) else chkGo (some a) ((k : Int) + 1) (l.drop (k + 1))) else ((k : Int), fault a)) := Lib.hid (by rw [hst.out, drop_of_get ha]; rfl)
      have hnext : Hid (some a = (if k + 1 = 0 then none else l[k + 1 - 1]?)) := Lib.hid (by rw [if_neg (by omega), Nat.add_sub_cancel, ha])
      have con := fun W => fcheck_any a W
      by_cases hf : fault a = 0
      case neg =>
        have HE : Hid (T = ((k : Int), fault a)) := Lib.hid (by rw [hst'.out, if_neg hf])
        generalize fault a = F at *
        have hf' : (F != 0) = true := by simpa using hf
        clear hcs ha hst hst' hnext hf
        go_wp2_with (go_at_call 111; (with_reducible refine (con _).mono ?_); rintro e w2 ⟨rfl, hb2⟩)
        go_ret2
        exact ⟨by rw [HE.out]; rfl, (hb.alloc hb.size _).trans (hb2.mono (by simp; have := hb.size; omega))⟩
      rw [hf] at con
      have HC := Lib.hid con
      have hst2 : Hid (T = if notUp (if k = 0 then none else l[k - 1]?) a = true then ((k : Int), 5) else chkGo (if k + 1 = 0 then none else l[k + 1 - 1]?) ((k + 1 : Nat) : Int) (l.drop (k + 1))) := Lib.hid (by rw [hst'.out, if_pos hf, ← hnext.out]; rfl)
      clear con hst' hnext hst hf
      have ROW := Lib.hid (fun W (hW : Below (wr.heap.size + 1) (wr.alloc (.cells #[.int .i64 a.id, .int .i64 a.fr, .int .i64 a.tn, .int .i64 a.pe, .int .i64 a.ph, .int .i64 a.dl] 28)) W) => (Row.new wr [.int .i64 a.id, .int .i64 a.fr, .int .i64 a.tn, .int .i64 a.pe, .int .i64 a.ph, .int .i64 a.dl] 28).below hW (by omega))
      have HB2 := Lib.hid (fun W (hW : Below (wr.heap.size + 1) (wr.alloc (.cells #[.int .i64 a.id, .int .i64 a.fr, .int .i64 a.tn, .int .i64 a.pe, .int .i64 a.ph, .int .i64 a.dl] 28)) W) => (show Below w.heap.size w W ∧ Below wr.heap.size wr W from ⟨((hb.alloc hb.size _).trans (hW.mono (by have := hb.size; omega))), ((Below.refl _ _).alloc (Nat.le_refl _) _).trans (hW.mono (by omega))⟩))
      by_cases hk0 : k = 0
      · subst hk0
        simp only [Nat.zero_mul, Nat.add_zero] at c0 c1 c2 c3 c4 c5
        have hst3 : Hid (T = chkGo (if 0 + 1 = 0 then none else l[0 + 1 - 1]?) ((0 + 1 : Nat) : Int) (l.drop (0 + 1))) := Lib.hid (by rw [hst2.out, if_neg (by simp [notUp])])
        have hd0 : decide ((0 : Int) < ((0 : Nat) : Int)) = false := rfl
        clear hst2 hcs ha
        go_wp2_with (go_at_call 111; (with_reducible refine (HC.out _).mono ?_); rintro e w2 ⟨rfl, hb2⟩)
        have hB := (HB2.out _ (by simpa using hb2)).1
        go_quiet (fail)
        go_wp2_with fail
        go_roundw
        case rel => exact ⟨0 + 1, by omega, by go_num, by first | exact hB | exact below_drewN hB _, hst3⟩
        case measure => simp [intOf]; omega
      · obtain ⟨j, rfl⟩ : ∃ j, k = j + 1 := ⟨k - 1, by omega⟩
        obtain ⟨p, hp⟩ := get_of_lt (l := l) (k := j) (by rw [← HN.out]; omega)
        have hp0 := Hcs.out j p hp 0 _ rfl
        simp only [Nat.add_zero] at hp0
        have hki : decide ((0 : Int) < ((j + 1 : Nat) : Int)) = true := by simp
        have hw1 : IntKind.i64.wrap (((j + 1 : Nat) : Int) - 1) = (j : Int) := by rw [IntWalk.i64_in _ (by omega)]; omega
        have hjn : j < n := by omega
        by_cases hup : a.id ≤ p.id
        · have HE : Hid (T = (((j + 1 : Nat) : Int), 5)) := Lib.hid (by rw [hst2.out, if_pos (by rw [if_neg (by omega), Nat.add_sub_cancel, hp]; simpa [notUp] using hup)])
          clear hst2 hcs ha hp
          go_wp2_with (go_at_call 111; (with_reducible refine (HC.out _).mono ?_); rintro e w2 ⟨rfl, hb2⟩)
          have hB := HB2.out _ (by simpa using hb2)
          have rw2 := ROW.out _ (by simpa using hb2)
          have q0 : w2.cell? ⟨b, off + j * 6, none⟩ = some (.int .i64 p.id) := (hB.2.cell (p := ⟨b, off + j * 6, none⟩) (Nat.lt_of_lt_of_le hbB hb.size)).trans hp0
          have q1 : w2.cell? ⟨b, off + (j + 1) * 6, none⟩ = some (.int .i64 a.id) := (hB.2.cell (p := ⟨b, off + (j + 1) * 6, none⟩) (Nat.lt_of_lt_of_le hbB hb.size)).trans c0
          unfold Row at rw2
          clear c0 c1 c2 c3 c4 c5 hp0
          go_quiet (fail)
          go_wp2_with fail
          go_ret2
          exact ⟨by rw [HE.out]; rfl, by first | exact hB.1 | exact below_drewN hB.1 _⟩
        · have hst3 := Lib.hid (hst2.out.trans (if_neg (by rw [if_neg (by omega), Nat.add_sub_cancel, hp]; simpa [notUp] using hup)))
          have hup' : p.id < a.id := by omega
          clear hst2 hcs ha hp hup
          go_wp2_with (go_at_call 111; (with_reducible refine (HC.out _).mono ?_); rintro e w2 ⟨rfl, hb2⟩)
          have hB := HB2.out _ (by simpa using hb2)
          have rw2 := ROW.out _ (by simpa using hb2)
          have q0 : w2.cell? ⟨b, off + j * 6, none⟩ = some (.int .i64 p.id) := (hB.2.cell (p := ⟨b, off + j * 6, none⟩) (Nat.lt_of_lt_of_le hbB hb.size)).trans hp0
          have q1 : w2.cell? ⟨b, off + (j + 1) * 6, none⟩ = some (.int .i64 a.id) := (hB.2.cell (p := ⟨b, off + (j + 1) * 6, none⟩) (Nat.lt_of_lt_of_le hbB hb.size)).trans c0
          unfold Row at rw2
          clear c0 c1 c2 c3 c4 c5 hp0
          go_quiet (fail)
          go_wp2_with fail
          go_roundw
          case rel => exact ⟨j + 1 + 1, by omega, by go_num, by first | exact hB.1 | exact below_drewN hB.1 _, hst3⟩
          case measure => simp [intOf]; omega
    · have HE : Hid (T = (-1, 0)) := Lib.hid (by rw [hst.out, List.drop_of_length_le (by rw [← HN.out]; omega)]; rfl)
      go_wp2_with fail
      go_ret2
      exact ⟨by rw [HE.out]; rfl, hb⟩

set_option maxRecDepth 100000 in
set_option maxHeartbeats 2000000 in
theorem rCheck_any (l : List Fl) (A : Option Addr) (c : Nat) (w : World) (hA : Lies w w.heap.size 6 A (l.map Fl.row)) (hl : l.length ≤ 1000000) :
    Calls Tryz.prog 85 #[.int .i64 32, .slice A l.length c] w fun e w' => e = .returned (.tuple #[.int .i64 (chkF l).1, .int .i64 (chkF l).2]) ∧ Below w.heap.size w w' := by
  obtain ⟨T, hT⟩ : ∃ T, T = chkF l := ⟨_, rfl⟩
  rw [← hT]
  obtain ⟨n, hn⟩ : ∃ n, n = l.length := ⟨_, rfl⟩
  rw [← hn] at hl ⊢
  have hin : inB 32 2 32 = true := by decide
  by_cases h16 : 16 < n
  · have HE : Hid (T = (-1, 8)) := Lib.hid (by rw [hT]; unfold chkF; rw [if_pos (by omega)])
    clear hn hT hA
    go_enter Tryz.func85, Tryz.ntmps85
    go_wp2_with (go_at_call 120; (with_reducible refine (fin_any _ _ _ _).mono ?_); rintro e w' ⟨rfl, rfl⟩)
    go_ret2
    exact ⟨by rw [HE.out]; rfl, Below.refl _ _⟩
  have HT : Hid (T = chkGo none 0 l) := Lib.hid (by rw [hT]; unfold chkF; rw [if_neg (by omega)])
  have HN := Lib.hid hn
  clear hn hT
  have h17 : decide ((16 : Int) < (n : Int)) = false := decide_eq_false (by omega)
  go_enter Tryz.func85, Tryz.ntmps85
  go_wp2_with (go_at_call 120; (with_reducible refine (fin_any _ _ _ _).mono ?_); rintro e w' ⟨rfl, rfl⟩)
  go_loopw [6] (fun i wr => ∃ (k : Nat), k ≤ n ∧ i = .int .i64 k ∧ Below w.heap.size w wr ∧ Hid (T = chkGo (if k = 0 then none else l[k - 1]?) k (l.drop k))) (fun i _ => n - (intOf i).toNat)
  case atStart => exact ⟨0, Nat.zero_le _, rfl, Below.refl _ _, Lib.hid (by rw [HT.out]; rfl)⟩
  case round =>
    obtain ⟨k, hk, rfl, hb, hst⟩ := hrel
    by_cases hlt : k < n
    · obtain ⟨a, ha⟩ := get_of_lt (l := l) (k := k) (by rw [← HN.out]; exact hlt)
      obtain ⟨b, off, rfl, hbB, hcs⟩ := (Lies.below hA hb).at_ ha
      have Hcs := Lib.hid hcs
      have c0 := hcs k a ha 0 _ rfl
      have c1 := hcs k a ha 1 _ rfl
      have c2 := hcs k a ha 2 _ rfl
      have c3 := hcs k a ha 3 _ rfl
      have c4 := hcs k a ha 4 _ rfl
      have c5 := hcs k a ha 5 _ rfl
      simp only [Nat.add_zero] at c0 c1 c2 c3 c4 c5
      have hst' : Hid (T = if fault a = 0 then (if notUp (if k = 0 then none else l[k - 1]?) a = true then ((k : Int), 5) else chkGo (some a) ((k : Int) + 1) (l.drop (k + 1))) else ((k : Int), fault a)) := Lib.hid (by rw [hst.out, drop_of_get ha]; rfl)
      have hnext : Hid (some a = (if k + 1 = 0 then none else l[k + 1 - 1]?)) := Lib.hid (by rw [if_neg (by omega), Nat.add_sub_cancel, ha])
      have con := fun W => rfault_any a W
      by_cases hf : fault a = 0
      case neg =>
        have HE : Hid (T = ((k : Int), fault a)) := Lib.hid (by rw [hst'.out, if_neg hf])
        generalize fault a = F at *
        have hf' : (F != 0) = true := by simpa using hf
        clear hcs ha hst hst' hnext hf
        go_wp2_with (go_at_call 121; (with_reducible refine (con _).mono ?_); rintro e w2 ⟨rfl, hb2⟩)
        go_ret2
        exact ⟨by rw [HE.out]; rfl, hb.trans (hb2.mono hb.size)⟩
      rw [hf] at con
      have HC := Lib.hid con
      have hst2 : Hid (T = if notUp (if k = 0 then none else l[k - 1]?) a = true then ((k : Int), 5) else chkGo (if k + 1 = 0 then none else l[k + 1 - 1]?) ((k + 1 : Nat) : Int) (l.drop (k + 1))) := Lib.hid (by rw [hst'.out, if_pos hf, ← hnext.out]; rfl)
      clear con hst' hnext hst hf
      have ROW := Lib.hid (fun W (hW : Below (wr.heap.size) wr W) => trivial)
      have HB2 := Lib.hid (fun W (hW : Below (wr.heap.size) wr W) => (show Below w.heap.size w W ∧ Below wr.heap.size wr W from ⟨hb.trans (hW.mono hb.size), hW⟩))
      by_cases hk0 : k = 0
      · subst hk0
        simp only [Nat.zero_mul, Nat.add_zero] at c0 c1 c2 c3 c4 c5
        have hst3 : Hid (T = chkGo (if 0 + 1 = 0 then none else l[0 + 1 - 1]?) ((0 + 1 : Nat) : Int) (l.drop (0 + 1))) := Lib.hid (by rw [hst2.out, if_neg (by simp [notUp])])
        have hd0 : decide ((0 : Int) < ((0 : Nat) : Int)) = false := rfl
        clear hst2 hcs ha
        go_wp2_with (go_at_call 121; (with_reducible refine (HC.out _).mono ?_); rintro e w2 ⟨rfl, hb2⟩)
        have hB := (HB2.out _ (by simpa using hb2)).1
        go_quiet (fail)
        go_wp2_with fail
        go_roundw
        case rel => exact ⟨0 + 1, by omega, by go_num, by first | exact hB | exact below_drewN hB _, hst3⟩
        case measure => simp [intOf]; omega
      · obtain ⟨j, rfl⟩ : ∃ j, k = j + 1 := ⟨k - 1, by omega⟩
        obtain ⟨p, hp⟩ := get_of_lt (l := l) (k := j) (by rw [← HN.out]; omega)
        have hp0 := Hcs.out j p hp 0 _ rfl
        simp only [Nat.add_zero] at hp0
        have hki : decide ((0 : Int) < ((j + 1 : Nat) : Int)) = true := by simp
        have hw1 : IntKind.i64.wrap (((j + 1 : Nat) : Int) - 1) = (j : Int) := by rw [IntWalk.i64_in _ (by omega)]; omega
        have hjn : j < n := by omega
        by_cases hup : a.id ≤ p.id
        · have HE : Hid (T = (((j + 1 : Nat) : Int), 5)) := Lib.hid (by rw [hst2.out, if_pos (by rw [if_neg (by omega), Nat.add_sub_cancel, hp]; simpa [notUp] using hup)])
          clear hst2 hcs ha hp
          go_wp2_with (go_at_call 121; (with_reducible refine (HC.out _).mono ?_); rintro e w2 ⟨rfl, hb2⟩)
          have hB := HB2.out _ (by simpa using hb2)
          have rw2 := ROW.out _ (by simpa using hb2)
          have q0 : w2.cell? ⟨b, off + j * 6, none⟩ = some (.int .i64 p.id) := (hB.2.cell (p := ⟨b, off + j * 6, none⟩) (Nat.lt_of_lt_of_le hbB hb.size)).trans hp0
          have q1 : w2.cell? ⟨b, off + (j + 1) * 6, none⟩ = some (.int .i64 a.id) := (hB.2.cell (p := ⟨b, off + (j + 1) * 6, none⟩) (Nat.lt_of_lt_of_le hbB hb.size)).trans c0
          clear rw2
          clear c0 c1 c2 c3 c4 c5 hp0
          go_quiet (fail)
          go_wp2_with fail
          go_ret2
          exact ⟨by rw [HE.out]; rfl, by first | exact hB.1 | exact below_drewN hB.1 _⟩
        · have hst3 := Lib.hid (hst2.out.trans (if_neg (by rw [if_neg (by omega), Nat.add_sub_cancel, hp]; simpa [notUp] using hup)))
          have hup' : p.id < a.id := by omega
          clear hst2 hcs ha hp hup
          go_wp2_with (go_at_call 121; (with_reducible refine (HC.out _).mono ?_); rintro e w2 ⟨rfl, hb2⟩)
          have hB := HB2.out _ (by simpa using hb2)
          have rw2 := ROW.out _ (by simpa using hb2)
          have q0 : w2.cell? ⟨b, off + j * 6, none⟩ = some (.int .i64 p.id) := (hB.2.cell (p := ⟨b, off + j * 6, none⟩) (Nat.lt_of_lt_of_le hbB hb.size)).trans hp0
          have q1 : w2.cell? ⟨b, off + (j + 1) * 6, none⟩ = some (.int .i64 a.id) := (hB.2.cell (p := ⟨b, off + (j + 1) * 6, none⟩) (Nat.lt_of_lt_of_le hbB hb.size)).trans c0
          clear rw2
          clear c0 c1 c2 c3 c4 c5 hp0
          go_quiet (fail)
          go_wp2_with fail
          go_roundw
          case rel => exact ⟨j + 1 + 1, by omega, by go_num, by first | exact hB.1 | exact below_drewN hB.1 _, hst3⟩
          case measure => simp [intOf]; omega
    · have HE : Hid (T = (-1, 0)) := Lib.hid (by rw [hst.out, List.drop_of_length_le (by rw [← HN.out]; omega)]; rfl)
      go_wp2_with fail
      go_ret2
      exact ⟨by rw [HE.out]; rfl, hb⟩
end Go.Proofs.YticnppnejafhdaaGreatDoor
/- Walks: below, attempt, Compare, Or, compare of package record. -/
namespace Go.Proofs.YticnppnejafhdaaGreatDoor
open Go.RowKit
open Rc

theorem below_any (n m : Int) (w : World) : Calls Tryz.prog 94 #[.int .i64 n, .int .i64 m] w fun e w' => e = .returned (.bool (belowB n m)) ∧ w = w' := by
  go_enter Tryz.func94, Tryz.ntmps94
  by_cases h : 0 ≤ n
  · go_wp2
    go_ret
    simp [h, belowB]
  · go_wp2
    go_ret
    simp [belowB]; omega

theorem attempt_any (a : Att) (slots : Int) (w : World) : Calls Tryz.prog 136 #[.agg #[.int .i64 a.s, .int .i64 a.f, .int .i64 a.cs, .int .i64 a.co, .int .i64 a.cf, .int .i64 a.ct, .int .i64 a.cl, .int .i64 a.o], .int .i64 slots] w fun e w' => e = .returned (.bool (attB a slots)) ∧ Below w.heap.size w w' := by
  obtain ⟨s, f, cs, co, cf, ct, cl, o⟩ := a
  go_enter Tryz.func136, Tryz.ntmps136
  go_wp2_with (go_at_call 94; refine (below_any _ _ _).mono ?_; rintro e w' ⟨rfl, rfl⟩)
  all_goals
    go_ret
    exact ⟨ret_bool (by first | (simp [attB, *]; done) | (simp [attB, *]; omega) | (simp [attB, bne, *]; done)), by repeat (first | exact Below.refl _ _ | refine Below.alloc ?_ (by simp) _ )⟩

theorem isNaN_any (n : Int) (w : World) : Calls Tryz.prog 98 #[.int .i64 n] w fun e w' => e = .returned (.bool false) ∧ w = w' := by
  go_enter Tryz.func98, Tryz.ntmps98
  go_wp2
  go_ret
  simp

theorem cmp_any (x y : Int) (w : World) : Calls Tryz.prog 62 #[.int .i64 x, .int .i64 y] w fun e w' => e = .returned (.int .i64 (cmpI x y)) ∧ w = w' := by
  go_enter Tryz.func62, Tryz.ntmps62
  go_wp2_with (go_at_call 98; refine (isNaN_any _ _).mono ?_; rintro e w' ⟨rfl, rfl⟩)
  all_goals
    go_ret
    exact ⟨ret_int (by unfold cmpI; repeat' split; all_goals first | rfl | omega), rfl⟩

theorem or_any (l : List Int) (b off c : Nat) (w : World) (hn : l.length ≤ 1000) (hc : ∀ k x, l[k]? = some x → w.cell? ⟨b, off + k, none⟩ = some (.int .i64 x)) :
    Calls Tryz.prog 61 #[.slice (some ⟨b, off, none⟩) l.length c] w fun e w' => e = .returned (.int .i64 (orI l)) ∧ w = w' := by
  obtain ⟨n, hl⟩ : ∃ n, n = l.length := ⟨_, rfl⟩
  rw [← hl] at hn ⊢
  have HL := Lib.hid hl
  clear hl
  go_enter Tryz.func61, Tryz.ntmps61
  go_wp2
  go_loop [2, 8] (fun r i => ∃ k : Nat, k ≤ n ∧ i = .int .i64 k ∧ r = .int .i64 0 ∧ Hid (orI l = orI (l.drop k))) (fun _ i => n - (intOf i).toNat)
  case atStart => exact ⟨0, Nat.zero_le _, rfl, rfl, Lib.hid rfl⟩
  case round =>
    obtain ⟨k, hk, rfl, rfl, hst⟩ := hrel
    by_cases hlt : k < n
    · obtain ⟨x, hx⟩ := get_of_lt (l := l) (k := k) (by rw [← HL.out]; exact hlt)
      have hcx := hc k x hx
      have hd := Lib.hid (drop_of_get hx)
      clear hx
      by_cases h0 : x = 0
      · subst h0
        go_wp2
        go_round
        case rel => exact ⟨k + 1, by omega, by go_num, rfl, Lib.hid (by rw [hst.out, hd.out]; simp [orI])⟩
        case measure => simp [intOf]; omega
      · go_wp2
        go_ret
        exact ⟨ret_int (by rw [hst.out, hd.out]; simp [orI, h0]), rfl⟩
    · go_wp2
      go_ret
      exact ⟨ret_int (by rw [hst.out, List.drop_of_length_le (by rw [← HL.out]; omega)]; rfl), rfl⟩

set_option maxRecDepth 100000 in
set_option maxHeartbeats 1000000 in
theorem compare_any (x y : Att) (w : World) : Calls Tryz.prog 137 #[.agg #[.int .i64 x.s, .int .i64 x.f, .int .i64 x.cs, .int .i64 x.co, .int .i64 x.cf, .int .i64 x.ct, .int .i64 x.cl, .int .i64 x.o], .agg #[.int .i64 y.s, .int .i64 y.f, .int .i64 y.cs, .int .i64 y.co, .int .i64 y.cf, .int .i64 y.ct, .int .i64 y.cl, .int .i64 y.o]] w
    fun e w' => e = .returned (.int .i64 (cmpA x y)) ∧ Below w.heap.size w w' := by
  obtain ⟨s, f, cs, co, cf, ct, cl, o⟩ := x
  obtain ⟨s', f', cs', co', cf', ct', cl', o'⟩ := y
  go_enter Tryz.func137, Tryz.ntmps137
  go_upto_region 1 with fail
  go_cut [5, 6] (fun s5 s6 W => ∃ g5 g6 : Nat, s5 = .pointer (some ⟨g5, 0, none⟩) ∧ s6 = .pointer (some ⟨g6, 0, none⟩) ∧ g5 < W.heap.size ∧ g6 < W.heap.size ∧ w.heap.size + 1 < W.heap.size ∧ Below w.heap.size w W ∧
      Row W w.heap.size [.int .i64 s, .int .i64 f, .int .i64 cs, .int .i64 co, .int .i64 cf, .int .i64 ct, .int .i64 cl, .int .i64 o] ∧
      Row W (w.heap.size + 1) [.int .i64 s', .int .i64 f', .int .i64 cs', .int .i64 co', .int .i64 cf', .int .i64 ct', .int .i64 cl', .int .i64 o'] ∧
      Row W g5 [.int .i64 cs, .int .i64 co, .int .i64 cf, .int .i64 ct, .int .i64 cl] ∧ Row W g6 [.int .i64 cs', .int .i64 co', .int .i64 cf', .int .i64 ct', .int .i64 cl'])
  case first =>
    go_region
    all_goals
      go_wp2_with fail
      go_meet
      refine ⟨_, _, rfl, rfl, ?_, ?_, ?_, ?_, ?_, ?_, ?_, ?_⟩
      all_goals first
        | (simp; done)
        | (simp; omega)
        | (refine Below.drew (Below.alloc (Below.alloc (Below.alloc (Below.alloc (Below.refl _ _) ?_ _) ?_ _) ?_ _) ?_ _) <;> (simp; try omega))
        | (refine Row.drew ?_; refine Row.new' _ _ ?_; simp; done)
        | (refine Row.drew ?_; refine Row.alloc (Row.new' _ _ ?_) ?_ _ <;> simp; done)
        | (refine Row.drew ?_; refine Row.alloc (Row.alloc (Row.new' _ _ ?_) ?_ _) ?_ _ <;> (simp; try omega); done)
        | (refine Row.drew ?_; refine Row.alloc (Row.alloc (Row.alloc (Row.new' _ _ ?_) ?_ _) ?_ _) ?_ _ <;> (simp; try omega); done)
  case rest =>
    obtain ⟨g5, g6, rfl, rfl, h5, h6, hz, hb, r2, r3, r5, r6⟩ := hcut
    have x2 := r2.ext (B := wc.heap.size) (by omega)
    have x3 := r3.ext (B := wc.heap.size) (by omega)
    have x5 := r5.ext (B := wc.heap.size) h5
    have x6 := r6.ext (B := wc.heap.size) h6
    go_wp2_with fail
    refine wp_region_ext_tail wc.heap.size 30 (by kernel_rfl) (by kernel_rfl) ?_
    simp only [List.take_succ_cons, List.take_zero, List.drop_succ_cons, List.drop_zero]
    repeat (go_big_quiet_step ((go_at_call 62; exact Calls.ext_same (cmp_any _ _ _))))
    refine wpQuiet_nil ?_
    rintro _ ⟨x, rfl⟩
    have hb' := hb.trans (x.below.mono hb.size)
    obtain ⟨W, hW⟩ := x
    go_wp2_with (go_at_call 61; refine (or_any [cmpI s s', cmpI cs cs', cmpI co co', cmpI cf cf', cmpI ct ct', cmpI cl cl'] _ 0 6 _ (by simp) ?_).mono ?_)
    · exact fun k x hx => ints_get hx
    go_ret
    exact ⟨rfl, hb'.alloc (hb'.size) _⟩

end Go.Proofs.YticnppnejafhdaaGreatDoor
/- Plain laws on bits: masks of 32 bits as lists of numbers. -/
namespace Go.Proofs.YticnppnejafhdaaGreatDoor
namespace Rc
open Go.RowKit

def maskN (S : List Int) : Nat := S.foldr (fun k m => m ||| 2 ^ k.toNat) 0
def In32 (S : List Int) : Prop := ∀ k ∈ S, 0 ≤ k ∧ k < 32

theorem maskN_lt (S : List Int) (h : In32 S) : maskN S < 2 ^ 32 := by
  induction S with
  | nil => simp [maskN]
  | cons k S ih =>
    have h1 : maskN S < 2 ^ 32 := ih fun x hx => h x (List.mem_cons_of_mem _ hx)
    have hk := h k List.mem_cons_self
    show maskN S ||| 2 ^ k.toNat < 2 ^ 32
    exact Nat.or_lt_two_pow h1 (Nat.pow_lt_pow_right (by omega) (by omega))

theorem maskN_test (S : List Int) (h : In32 S) (k : Int) (hk : 0 ≤ k) : (maskN S).testBit k.toNat = decide (k ∈ S) := by
  induction S with
  | nil => simp [maskN]
  | cons j S ih =>
    have h1 := ih fun x hx => h x (List.mem_cons_of_mem _ hx)
    have hj := h j List.mem_cons_self
    show (maskN S ||| 2 ^ j.toNat).testBit k.toNat = _
    rw [Nat.testBit_or, h1, Nat.testBit_two_pow]
    have e : (j.toNat = k.toNat) ↔ k = j := by omega
    by_cases hkj : k = j
    · simp [hkj]
    · have : ¬ j.toNat = k.toNat := by omega
      simp [hkj, this]

theorem bits_and_u32 (a b : Nat) (ha : a < 2 ^ 32) (hb : b < 2 ^ 32) : bits .and .u32 (a : Int) (b : Int) = ((a &&& b : Nat) : Int) := by
  have h : a &&& b < 2 ^ 32 := Nat.lt_of_le_of_lt Nat.and_le_left ha
  show IntKind.u32.wrap ((BitVec.ofInt 32 (a : Int) &&& BitVec.ofInt 32 (b : Int)).toNat : Int) = _
  rw [BitVec.toNat_and, BitVec.ofInt_natCast, BitVec.ofInt_natCast, BitVec.toNat_ofNat, BitVec.toNat_ofNat, Nat.mod_eq_of_lt (by omega), Nat.mod_eq_of_lt (by omega)]
  generalize a &&& b = c at h ⊢
  simp [IntKind.wrap, IntKind.bits, IntKind.signed]
  omega

theorem bits_or_u32 (a b : Nat) (ha : a < 2 ^ 32) (hb : b < 2 ^ 32) : bits .or .u32 (a : Int) (b : Int) = ((a ||| b : Nat) : Int) := by
  have h : a ||| b < 2 ^ 32 := Nat.or_lt_two_pow ha hb
  show IntKind.u32.wrap ((BitVec.ofInt 32 (a : Int) ||| BitVec.ofInt 32 (b : Int)).toNat : Int) = _
  rw [BitVec.toNat_or, BitVec.ofInt_natCast, BitVec.ofInt_natCast, BitVec.toNat_ofNat, BitVec.toNat_ofNat, Nat.mod_eq_of_lt (by omega), Nat.mod_eq_of_lt (by omega)]
  generalize a ||| b = c at h ⊢
  simp [IntKind.wrap, IntKind.bits, IntKind.signed]
  omega

/-- 'senders>>from&1 == 1' -/
theorem mask_asked (S : List Int) (h : In32 S) (k : Int) (hk : 0 ≤ k) (_hk' : k < 32) : (bits .and .u32 ((maskN S : Int) / 2 ^ k.toNat) 1 == 1) = decide (k ∈ S) := by
  have hlt := maskN_lt S h
  have e : ((maskN S : Int) / 2 ^ k.toNat) = ((maskN S / 2 ^ k.toNat : Nat) : Int) := by simp
  rw [e, show (1 : Int) = ((1 : Nat) : Int) from rfl, bits_and_u32 _ _ (Nat.lt_of_le_of_lt (Nat.div_le_self _ _) hlt) (by decide), ← maskN_test S h k hk, Nat.testBit, Nat.shiftRight_eq_div_pow]
  generalize maskN S / 2 ^ k.toNat = c
  rw [Nat.and_comm 1 c, Nat.and_one_is_mod]
  rcases Nat.mod_two_eq_zero_or_one c with h0 | h0 <;> rw [h0] <;> rfl

/-- 'senders |= 1 << from' -/
theorem mask_more (S : List Int) (h : In32 S) (k : Int) (hk : 0 ≤ k) (hk' : k < 32) : bits .or .u32 (maskN S : Int) (2 ^ k.toNat % 4294967296) = (maskN (k :: S) : Int) := by
  have hlt := maskN_lt S h
  have hp : 2 ^ k.toNat < 2 ^ 32 := Nat.pow_lt_pow_right (by omega) (by omega)
  have e : (2 ^ k.toNat % 4294967296 : Int) = ((2 ^ k.toNat : Nat) : Int) := by
    have : (2 ^ k.toNat : Int) = ((2 ^ k.toNat : Nat) : Int) := by simp
    rw [this]
    generalize 2 ^ k.toNat = c at hp ⊢
    omega
  rw [e, bits_or_u32 _ _ hlt hp]
  rfl
end Rc
end Go.Proofs.YticnppnejafhdaaGreatDoor
/- Walk: attempts of package record. -/
namespace Go.Proofs.YticnppnejafhdaaGreatDoor
open Go.RowKit
open Rc

theorem attB_from {a : Att} {slots : Int} (h : attB a slots = true) : 0 ≤ a.cf ∧ a.cf < 32 := by
  simp [attB, belowB] at h
  omega

set_option maxRecDepth 100000 in
set_option maxHeartbeats 2000000 in
theorem attempts_any (l : List Att) (A : Option Addr) (c : Nat) (slots : Int) (w : World) (hn : l.length ≤ 65536) (hl : LiesA w w.heap.size A l) :
    Calls Tryz.prog 93 #[.slice A l.length c, .int .i64 slots] w fun e w' => e = .returned (.bool (attsB l slots)) ∧ Below w.heap.size w w' := by
  obtain ⟨n, hln⟩ : ∃ n, n = l.length := ⟨_, rfl⟩
  rw [← hln] at hn ⊢
  have HL := Lib.hid hln
  clear hln
  go_enter Tryz.func93, Tryz.ntmps93
  go_wp2
  go_loopw [4, 5, 6, 11] (fun s4 s5 s6 i wr => ∃ (k : Nat) (S : List Int) (at_ : Int), k ≤ n ∧ i = .int .i64 k ∧ s4 = .bool false ∧ s5 = .int .u32 (maskN S) ∧ s6 = .int .i64 at_ ∧ In32 S ∧ Below w.heap.size w wr ∧
      Hid (attsB l slots = attsGo slots (if k = 0 then none else l[k - 1]?) S at_ (l.drop k))) (fun _ _ _ i _ => n - (intOf i).toNat)
  case atStart => exact ⟨0, [], -1, Nat.zero_le _, rfl, rfl, rfl, rfl, fun k hk => by simp at hk, Below.refl _ _, Lib.hid rfl⟩
  case round =>
    obtain ⟨k, S, at_, hk, rfl, rfl, rfl, rfl, hS, hb, hst⟩ := hrel
    by_cases hlt : k < n
    · obtain ⟨a, ha⟩ := get_of_lt (l := l) (k := k) (by rw [← HL.out]; exact hlt)
      obtain ⟨b, off, rfl, hbB, hcs⟩ := (hl.below hb).at_ ha
      obtain ⟨c0, c1, c2, c3, c4, c5, c6, c7⟩ := hcs k a ha
      have hd := Lib.hid (drop_of_get ha)
      have Hcs := Lib.hid hcs
      clear hcs
      have Ha := Lib.hid ha
      clear ha
      go_upto_region 5 with fail
      generalize hW1 : wr.alloc _ = W1
      have hb1 : Below w.heap.size w W1 := by rw [← hW1]; exact hb.alloc hb.size _
      have hz1 : wr.heap.size < W1.heap.size := by rw [← hW1]; simp
      have row8 : Row W1 wr.heap.size [.int .i64 a.s, .int .i64 a.f, .int .i64 a.cs, .int .i64 a.co, .int .i64 a.cf, .int .i64 a.ct, .int .i64 a.cl, .int .i64 a.o] := by rw [← hW1]; exact Row.new wr _ _
      have hkeep : ∀ p : Addr, p.block < w.heap.size → W1.cell? p = wr.cell? p := fun p hp => by rw [← hW1]; exact World.cell?_alloc_lt wr _ p (Nat.lt_of_lt_of_le hp hb.size)
      have HK := Lib.hid hkeep
      clear hkeep c0 c1 c2 c3 c4 c5 c6 c7 hW1
      go_cut [33] (fun s33 W => s33 = .bool (!attB a slots || prevBad (if k = 0 then none else l[k - 1]?) a) ∧ Below w.heap.size w W ∧ Below W1.heap.size W1 W)
      case first =>
        have x8 := row8.ext (B := W1.heap.size) hz1
        have con := fun W => attempt_any a slots W
        cases hat : attB a slots with
        | false =>
          rw [hat] at con
          have Con := Lib.hid con
          clear con
          refine wp_region_ext W1.heap.size (by kernel_rfl) (by kernel_rfl) ?_
          repeat (go_big_quiet_step ((go_at_call 136; exact Calls.ext_of (Con.out _) (Nat.le_refl _))))
          refine wpQuiet_nil ?_
          rintro _ ⟨x, rfl⟩
          go_wp2_with fail
          go_meet
          exact ⟨by rw [hat]; rfl, hb1.trans (x.below.mono hb1.size), x.below⟩
        | true =>
          rw [hat] at con
          have Con := Lib.hid con
          clear con
          by_cases hk0 : k = 0
          · subst hk0
            have hd0 : decide ((0 : Int) < ((0 : Nat) : Int)) = false := rfl
            refine wp_region_ext W1.heap.size (by kernel_rfl) (by kernel_rfl) ?_
            repeat (go_big_quiet_step ((go_at_call 136; exact Calls.ext_of (Con.out _) (Nat.le_refl _))))
            refine wpQuiet_nil ?_
            rintro _ ⟨x, rfl⟩
            go_wp2_with fail
            go_meet
            exact ⟨by rw [hat]; rfl, hb1.trans (x.below.mono hb1.size), x.below⟩
          · obtain ⟨j, rfl⟩ : ∃ j, k = j + 1 := ⟨k - 1, by omega⟩
            obtain ⟨p, hp⟩ := get_of_lt (l := l) (k := j) (by rw [← HL.out]; omega)
            have hcp := Hcs.out j p hp
            have hx : ∀ (x : ExtW W1.heap.size W1) (j : Nat), x.val.cell? ⟨b, j, none⟩ = wr.cell? ⟨b, j, none⟩ := fun x j => (x.cell _ (Nat.lt_of_lt_of_le hbB hb1.size)).trans (HK.out _ hbB)
            obtain ⟨p0, p1, p2, p3, p4, p5, p6, p7⟩ := hcp
            have hki : decide ((0 : Int) < ((j + 1 : Nat) : Int)) = true := by simp
            have hw1 : IntKind.i64.wrap (((j + 1 : Nat) : Int) - 1) = (j : Int) := by rw [IntWalk.i64_in _ (by omega)]; omega
            have hjn : (j : Int) < (n : Int) := by omega
            have con2 := fun W => compare_any p a W
            have Con2 := Lib.hid con2
            have HP := Lib.hid hp
            clear con2 hp
            refine wp_region_ext W1.heap.size (by kernel_rfl) (by kernel_rfl) ?_
            repeat (go_big_quiet_step ((first | (go_at_call 136; exact Calls.ext_of (Con.out _) (Nat.le_refl _)) | (go_at_call 137; exact Calls.ext_of (Con2.out _) (Nat.le_refl _)))))
            refine wpQuiet_nil ?_
            rintro _ ⟨x, rfl⟩
            go_wp2_with fail
            go_meet
            exact ⟨by simp [prevBad, HP.out, hat], hb1.trans (x.below.mono hb1.size), x.below⟩
      case rest =>
        obtain ⟨rfl, hb2, hb3⟩ := hcut
        have row8' := row8.below hb3 hz1
        have hst' := hst.out
        rw [hd.out] at hst'
        simp only [attsGo] at hst'
        have x8 : ∀ i, wc.cell? ⟨wr.heap.size, i, none⟩ = _ := row8'
        generalize hbad : (!attB a slots || prevBad (if k = 0 then none else l[k - 1]?) a) = bad at hst' ⊢
        cases bad with
        | true =>
          have hfin := Lib.hid hst'
          clear hst' hbad
          go_wp2
          go_ret
          exact ⟨ret_bool (by rw [hfin.out]; rfl), hb2⟩
        | false =>
          simp only [Bool.false_eq_true, if_false] at hst'
          obtain ⟨f0, f1⟩ := attB_from (a := a) (slots := slots) (by revert hbad; cases attB a slots <;> simp)
          clear hbad
          by_cases hsl : a.s = at_
          · rw [if_pos hsl] at hst'
            by_cases hin : a.cf ∈ S
            · rw [if_pos hin] at hst'
              have hfin := Lib.hid hst'
              have hm : (bits .and .u32 ((maskN S : Int) / 2 ^ a.cf.toNat) 1 == 1) = true := by rw [mask_asked S hS _ f0 f1]; simp [hin]
              clear hst'
              subst hsl
              go_wp2
              go_ret
              exact ⟨ret_bool (by rw [hfin.out]), hb2⟩
            · rw [if_neg hin] at hst'
              have hfin := Lib.hid hst'
              have hm : (bits .and .u32 ((maskN S : Int) / 2 ^ a.cf.toNat) 1 == 1) = false := by rw [mask_asked S hS _ f0 f1]; simp [hin]
              clear hst'
              subst hsl
              go_wp2
              go_roundw
              case rel => exact ⟨k + 1, a.cf :: S, a.s, by omega, by go_num, rfl, by rw [mask_more S hS _ f0 f1], rfl, fun j hj => by rcases List.mem_cons.1 hj with h | h; exact h ▸ ⟨f0, f1⟩; exact hS j h, hb2, Lib.hid (by rw [hfin.out, if_neg (by omega), show k + 1 - 1 = k from rfl, Ha.out])⟩
              case measure => simp [intOf]; omega
          · rw [if_neg hsl] at hst'
            have hfin := Lib.hid hst'
            have hm : (bits .and .u32 (0 / 2 ^ a.cf.toNat) 1 == 1) = false := by have := mask_asked [] (fun k hk => by simp at hk) _ f0 f1; simpa [maskN] using this
            have hm2 := mask_more [] (fun k hk => by simp at hk) _ f0 f1
            have hm0 : ((maskN [] : Nat) : Int) = 0 := rfl
            rw [hm0] at hm2
            have Hm2 := Lib.hid hm2
            have hne : (a.s == at_) = false := by simpa using hsl
            have hne2 : (a.s != at_) = true := by simpa using hsl
            clear hst' hm2 hm0
            go_wp2
            go_quiet (fail)
            go_wp2
            go_roundw
            case rel => exact ⟨k + 1, [a.cf], a.s, by omega, by go_num, rfl, by rw [Hm2.out], rfl, fun j hj => by simp at hj; exact hj ▸ ⟨f0, f1⟩, below_drewN hb2 _, Lib.hid (by rw [hfin.out, if_neg (by omega), show k + 1 - 1 = k from rfl, Ha.out])⟩
            case measure => simp [intOf]; omega
    · go_wp2
      go_ret
      exact ⟨ret_bool (by rw [hst.out, List.drop_of_length_le (by rw [← HL.out]; omega)]; simp [attsGo]), hb⟩

end Go.Proofs.YticnppnejafhdaaGreatDoor
/- Walk: Check of package record. -/
namespace Go.Proofs.YticnppnejafhdaaGreatDoor
open Go.RowKit
open Rc

theorem check_short {r : Rec} (h : ¬ (0 ≤ r.slots ∧ r.slots ≤ 4096 ∧ r.al.length ≤ 65536 ∧ r.dl.length ≤ 65536 ∧ attsB r.al r.slots = true)) : checkE r = 1 := by
  unfold checkE
  rw [if_neg]
  intro hg
  simp [good] at hg
  exact h ⟨hg.1, hg.2.1, hg.2.2.1, hg.2.2.2.1, hg.2.2.2.2.1⟩
theorem check_long {r : Rec} (h0 : 0 ≤ r.slots) (h1 : r.slots ≤ 4096) (h2 : r.al.length ≤ 65536) (h3 : r.dl.length ≤ 65536) (h4 : attsB r.al r.slots = true) : checkE r = if dlvsB r.dl r.slots then 0 else 1 := by
  unfold checkE
  congr 1
  simp [good, h0, h1, h2, h3, h4]

set_option maxRecDepth 100000 in
set_option maxHeartbeats 2000000 in
theorem check_any (r : Rec) (A D : Option Addr) (ca cd : Nat) (w : World) (hA : LiesA w w.heap.size A r.al) (hD : LiesD w w.heap.size D r.dl) (hla : r.al.length ≤ 9223372036854775807) (hld : r.dl.length ≤ 9223372036854775807) :
    Calls Tryz.prog 56 #[.agg #[.int .i64 r.slots, .slice A r.al.length ca, .slice D r.dl.length cd]] w fun e w' => e = .returned (.int .i64 (checkE r)) ∧ Below w.heap.size w w' := by
  obtain ⟨slots, al, dl⟩ := r
  dsimp only at *
  have hshort := @check_short ⟨slots, al, dl⟩
  have hlong := @check_long ⟨slots, al, dl⟩
  dsimp only at hshort hlong
  have hnA : ∃ n, n = al.length := ⟨_, rfl⟩
  obtain ⟨na, hna⟩ := hnA
  have hnD : ∃ n, n = dl.length := ⟨_, rfl⟩
  obtain ⟨nd, hnd⟩ := hnD
  rw [← hna, ← hnd] at hshort hlong ⊢
  rw [← hna] at hla
  rw [← hnd] at hld
  have HA := Lib.hid hna
  have HD := Lib.hid hnd
  clear hna hnd
  by_cases h0 : slots < 0
  · have hfin := Lib.hid (hshort (by omega))
    clear hshort hlong
    go_enter Tryz.func56, Tryz.ntmps56
    go_wp2
    go_ret
    exact ⟨ret_int (by rw [hfin.out]), ((Below.refl _ _).alloc (Nat.le_refl _) _).alloc (by simp) _⟩
  by_cases h1 : 4096 < slots
  · have hfin := Lib.hid (hshort (by omega))
    clear hshort hlong
    go_enter Tryz.func56, Tryz.ntmps56
    go_wp2
    go_ret
    exact ⟨ret_int (by rw [hfin.out]), ((Below.refl _ _).alloc (Nat.le_refl _) _).alloc (by simp) _⟩
  by_cases h2 : 65536 < na
  · have hfin := Lib.hid (hshort (by omega))
    clear hshort hlong
    go_enter Tryz.func56, Tryz.ntmps56
    go_wp2
    go_ret
    exact ⟨ret_int (by rw [hfin.out]), ((Below.refl _ _).alloc (Nat.le_refl _) _).alloc (by simp) _⟩
  by_cases h3 : 65536 < nd
  · have hfin := Lib.hid (hshort (by omega))
    clear hshort hlong
    go_enter Tryz.func56, Tryz.ntmps56
    go_wp2
    go_ret
    exact ⟨ret_int (by rw [hfin.out]), ((Below.refl _ _).alloc (Nat.le_refl _) _).alloc (by simp) _⟩
  have con : ∀ W, Below w.heap.size w W → Calls Tryz.prog 93 #[.slice A na ca, .int .i64 slots] W fun e w' => e = .returned (.bool (attsB al slots)) ∧ Below W.heap.size W w' := fun W hW => by
    have := attempts_any al A ca slots W (by rw [← HA.out]; omega) ((hA.below hW).more hW.size)
    rwa [← HA.out] at this
  cases hat : attsB al slots with
  | false =>
    rw [hat] at con
    have Con := Lib.hid con
    have hfin := Lib.hid (hshort (by simp [hat]))
    clear hshort hlong con
    go_enter Tryz.func56, Tryz.ntmps56
    go_wp2_with (go_at_call 93; refine (Con.out _ (((Below.refl _ _).alloc (Nat.le_refl _) _).alloc (by simp) _)).mono ?_; rintro e w1 ⟨rfl, hb1⟩)
    go_ret
    exact ⟨ret_int (by rw [hfin.out]), (((Below.refl _ _).alloc (Nat.le_refl _) _).alloc (by simp) _).trans (hb1.mono (by simp; omega))⟩
  | true =>
    rw [hat] at con
    have Con := Lib.hid con
    have hfin := Lib.hid (hlong (by omega) (by omega) (by omega) (by omega) hat)
    clear hshort hlong con hat
    go_enter Tryz.func56, Tryz.ntmps56
    go_wp2_with fail
    refine (Con.out _ (((Below.refl _ _).alloc (Nat.le_refl _) _).alloc (by simp) _)).mono ?_
    rintro e w1 ⟨rfl, hb1⟩
    have row1 : Row w1 w.heap.size [.int .i64 slots, .slice A na ca, .slice D nd cd] := (Row.alloc (Row.new w _ _) (by simp) _).below hb1 (by simp; omega)
    have row3 : Row w1 (w.heap.size + 1) [.slice A na ca, .slice D nd cd] := (Row.new' _ _ (by simp)).below hb1 (by simp)
    have hbw : Below w.heap.size w w1 := (((Below.refl _ _).alloc (Nat.le_refl _) _).alloc (by simp) _).trans (hb1.mono (by simp; omega))
    have hz : w.heap.size + 1 < w1.heap.size := by have := hb1.size; simp at this; omega
    clear hb1
    have R1 := Lib.hid row1
    have R3 := Lib.hid row3
    unfold Row at row1 row3
    go_wp2_with fail
    go_loopw [2, 39] (fun s2 i wr => ∃ (k : Nat), k ≤ nd ∧ i = .int .i64 k ∧ s2 = .int .i64 0 ∧ Below w1.heap.size w1 wr ∧
      Hid (dlvsB dl slots = dlvsGo slots (if k = 0 then none else dl[k - 1]?) (dl.drop k))) (fun _ i _ => nd - (intOf i).toNat)
    case atStart => exact ⟨0, Nat.zero_le _, rfl, rfl, Below.refl _ _, Lib.hid rfl⟩
    case round =>
      obtain ⟨k, hk, rfl, rfl, hb, hst⟩ := hrel
      clear row1 row3
      have row1 := R1.out.below hb (by omega)
      have row3 := R3.out.below hb (by omega)
      have hb0 : Below w.heap.size w wr := hbw.trans (hb.mono hbw.size)
      unfold Row at row1 row3
      by_cases hlt : k < nd
      · obtain ⟨a, ha⟩ := get_of_lt (l := dl) (k := k) (by rw [← HD.out]; exact hlt)
        obtain ⟨b, off, rfl, hbB, hcs⟩ := (hD.below hb0).at_ ha
        obtain ⟨c0, c1, c2⟩ := hcs k a ha
        have hd := Lib.hid (drop_of_get ha)
        have Hcs := Lib.hid hcs
        have Ha := Lib.hid ha
        clear hcs ha
        have hst' := hst.out
        rw [hd.out] at hst'
        simp only [dlvsGo] at hst'
        have Hst := Lib.hid hst'
        clear hst'
        go_upto_region 7 with fail
        generalize hW1 : wr.alloc _ = W1
        have hb1 : Below w1.heap.size w1 W1 := by rw [← hW1]; exact hb.alloc hb.size _
        have hz1 : wr.heap.size < W1.heap.size := by rw [← hW1]; simp
        have row5 : Row W1 wr.heap.size [.int .i64 a.fl, .int .i64 a.fr, .int .i64 a.sl] := by rw [← hW1]; exact Row.new wr _ _
        have hkeep : ∀ p : Addr, p.block < w1.heap.size → W1.cell? p = wr.cell? p := fun p hp => by rw [← hW1]; exact World.cell?_alloc_lt wr _ p (Nat.lt_of_lt_of_le hp hb.size)
        have HK := Lib.hid hkeep
        have hzr := hb.size
        clear hkeep c0 c1 c2 hW1 row1 row3
        have row1 := R1.out.below hb1 (by omega)
        have row3 := R3.out.below hb1 (by omega)
        have R5 := Lib.hid row5
        unfold Row at row1 row3 row5
        go_cut [61] (fun s61 W => s61 = .bool (!dlvB a slots) ∧ W = W1)
        case first =>
          go_wp2_with (go_at_call 94; refine (below_any _ _ _).mono ?_; rintro e w' ⟨rfl, rfl⟩)
          all_goals
            go_meet
            exact ⟨by simp [dlvB, *], rfl⟩
        case rest =>
          obtain ⟨rfl, hwc⟩ := hcut
          subst wc
          cases hdl : dlvB a slots with
          | false =>
            have hst' := Hst.out
            rw [hdl] at hst'
            have hf2 := Lib.hid hst'
            clear hst'
            go_wp2
            go_ret
            exact ⟨ret_int (by rw [hfin.out, hf2.out]; rfl), hbw.trans (hb1.mono hbw.size)⟩
          | true =>
            have hst' := Hst.out
            rw [hdl] at hst'
            simp only [Bool.true_eq_false, if_false] at hst'
            have hf2 := Lib.hid hst'
            clear hst'
            go_upto_region 9 with fail
            go_cut [88] (fun s88 W => s88 = .bool (prevBadD (if k = 0 then none else dl[k - 1]?) a) ∧ Below W1.heap.size W1 W)
            case first =>
              have x1 := R1.out.below hb1 (by omega)
              have x3 := R3.out.below hb1 (by omega)
              have x1' := x1.ext (B := W1.heap.size) (by have := hb1.size; omega)
              have x3' := x3.ext (B := W1.heap.size) (by have := hb1.size; omega)
              have x5' := R5.out.ext (B := W1.heap.size) hz1
              by_cases hk0 : k = 0
              · subst hk0
                have hd0 : decide ((0 : Int) < ((0 : Nat) : Int)) = false := rfl
                refine wp_region_ext W1.heap.size (by kernel_rfl) (by kernel_rfl) ?_
                repeat (go_big_quiet_step (fail))
                refine wpQuiet_nil ?_
                rintro _ ⟨x, rfl⟩
                go_wp2_with fail
                go_meet
                exact ⟨rfl, x.below⟩
              · obtain ⟨j, rfl⟩ : ∃ j, k = j + 1 := ⟨k - 1, by omega⟩
                obtain ⟨p, hp⟩ := get_of_lt (l := dl) (k := j) (by rw [← HD.out]; omega)
                have hcp := Hcs.out j p hp
                have hx : ∀ (x : ExtW W1.heap.size W1) (j : Nat), x.val.cell? ⟨b, j, none⟩ = wr.cell? ⟨b, j, none⟩ := fun x j => (x.cell _ (Nat.lt_of_lt_of_le (Nat.lt_of_lt_of_le hbB hbw.size) hb1.size)).trans (HK.out _ (Nat.lt_of_lt_of_le hbB hbw.size))
                obtain ⟨p0, p1, p2⟩ := hcp
                have hki : decide ((0 : Int) < ((j + 1 : Nat) : Int)) = true := by simp
                have hw1 : IntKind.i64.wrap (((j + 1 : Nat) : Int) - 1) = (j : Int) := by rw [IntWalk.i64_in _ (by omega)]; omega
                have hjn : (j : Int) < (nd : Int) := by omega
                have HP := Lib.hid hp
                clear hp
                refine wp_region_ext_tail W1.heap.size 23 (by kernel_rfl) (by kernel_rfl) ?_
                simp only [List.take_succ_cons, List.take_zero, List.drop_succ_cons, List.drop_zero]
                repeat (go_big_quiet_step ((go_at_call 62; exact Calls.ext_same (cmp_any _ _ _))))
                refine wpQuiet_nil ?_
                rintro _ ⟨x, rfl⟩
                go_wp2_with (go_at_call 61; refine (or_any [cmpI p.sl a.sl, cmpI p.fl a.fl] _ 0 2 _ (by simp) (Row.ints (l := [cmpI p.sl a.sl, cmpI p.fl a.fl]) (Row.new _ [.int .i64 (cmpI p.sl a.sl), .int .i64 (cmpI p.fl a.fl)] _))).mono ?_; rintro e w' ⟨rfl, rfl⟩)
                go_meet
                exact ⟨by congr 1; rw [Bool.eq_iff_iff]; simp [prevBadD, HP.out, cmpD]; exact Iff.intro (fun h => decide_eq_true h) of_decide_eq_true, x.below.alloc x.below.size _⟩
            case rest =>
              obtain ⟨rfl, hb2⟩ := hcut
              have hb3 : Below w1.heap.size w1 wc := hb1.trans (hb2.mono hb1.size)
              cases hpv : prevBadD (if k = 0 then none else dl[k - 1]?) a with
              | true =>
                have hst' := hf2.out
                rw [hpv] at hst'
                have hf3 := Lib.hid hst'
                clear hst'
                go_wp2
                go_ret
                exact ⟨ret_int (by rw [hfin.out, hf3.out]; rfl), hbw.trans (hb3.mono hbw.size)⟩
              | false =>
                have hst' := hf2.out
                rw [hpv] at hst'
                simp only [Bool.false_eq_true, if_false] at hst'
                have hf3 := Lib.hid hst'
                clear hst'
                go_wp2
                go_roundw
                case rel => exact ⟨k + 1, by omega, by go_num, rfl, hb3, Lib.hid (by rw [hf3.out, if_neg (by omega), show k + 1 - 1 = k from rfl, Ha.out])⟩
                case measure => simp [intOf]; omega
      · have hfin2 := Lib.hid hfin.out
        go_wp2
        go_ret
        exact ⟨ret_int (by rw [hfin2.out, hst.out, List.drop_of_length_le (by rw [← HD.out]; omega)]; simp [dlvsGo]), hb0⟩

end Go.Proofs.YticnppnejafhdaaGreatDoor
/- Laws: append where there is room, clear, in a row of one's own. Generic: no program's numbers. -/
namespace Go.Proofs.YticnppnejafhdaaGreatDoor
open Go.RowKit

theorem heap_lt {w : World} {g : Nat} {o : Obj} (h : w.heap[g]? = some o) : g < w.heap.size := by
  rcases Nat.lt_or_ge g w.heap.size with h' | h'
  · exact h'
  · rw [Array.getElem?_eq_none h'] at h; cases h
theorem own_base {w : World} {b b' : Nat} {e : TypeId} {s : Nat} {v : Value} {n : Nat} {x : List Value} (h : w.ownsRow b e s v n x) (hb : b' ≤ b) : w.ownsRow b' e s v n x := by
  obtain ⟨h1, h2⟩ := h
  refine ⟨h1, ?_⟩
  rcases h2 with h2 | ⟨g, cap, cur, e1, e2, e3⟩
  · exact Or.inl h2
  · exact Or.inr ⟨g, cap, cur, e1, Nat.le_trans hb e2, e3⟩
theorem own_below {w w' : World} {b B : Nat} {e : TypeId} {s : Nat} {v : Value} {n : Nat} {x : List Value} (h : w.ownsRow b e s v n x) (hb : Below B w w') (hB : w.heap.size ≤ B) : w'.ownsRow b e s v n x := by
  obtain ⟨h1, h2⟩ := h
  refine ⟨h1, ?_⟩
  rcases h2 with h2 | ⟨g, cap, cur, e1, e2, e3, e4⟩
  · exact Or.inl h2
  · exact Or.inr ⟨g, cap, cur, e1, e2, (hb.block g (Nat.lt_of_lt_of_le (heap_lt e3) hB)).trans e3, e4⟩
section
variable {P : Program} (w : World)
end

end Go.Proofs.YticnppnejafhdaaGreatDoor
/- Walks: when frames are under way. -/
namespace Go.Proofs.YticnppnejafhdaaGreatDoor
open Go.RowKit
open Nd Rc Mo

theorem Lies.later {w w' : World} {sz : Nat} {A : Option Addr} {xs : List (List Value)} (h : Lies w w.heap.size sz A xs) (hb : Below w.heap.size w w') : Lies w' w'.heap.size sz A xs := (h.below hb).more hb.size
theorem own_form2 {w : World} {b : Nat} {e : TypeId} {s : Nat} {v : Value} {n : Nat} {x : List Value} (h : w.ownsRow b e s v n x) : ∃ A c, v = .slice A n c := by
  rcases h.2 with ⟨rfl, rfl⟩ | ⟨g, cap, cur, rfl, _⟩
  · exact ⟨_, _, rfl⟩
  · exact ⟨_, _, rfl⟩
theorem own_type2 {w : World} {base : Nat} {e t : TypeId} {size : Nat} {v : Value} {n : Nat} {xs cs : List Value} {g : Nat} (h : w.ownsRow base e size v n xs) (hg : some g = v.ownBlock) (hb : Blk w g t cs) : t = e := by
  rcases h.2 with ⟨rfl, _⟩ | ⟨g', cap, cur, rfl, _, e3, _⟩
  · cases hg
  · simp only [Value.ownBlock, Option.some.injEq] at hg
    subst hg
    unfold Blk at hb
    rw [e3] at hb
    injection hb with hb
    injection hb with _ hb
    exact hb.symm
theorem Blk.news2 {w : World} {g : Nat} {t : TypeId} {cs : List Value} (h : Blk w g t cs) : ∀ j u, cs[j]? = some u → w.cell? ((⟨g, 0, none⟩ : Addr).add j) = some u := fun j u hu => by rw [add_off]; exact (h.row j).trans hu

set_option maxHeartbeats 1000000 in
theorem release_any (f : Fl) (n : Int) (hf : fault f = 0) (h0 : 0 ≤ n) (h1 : n ≤ 1000000) (w : World) :
    Calls Tryz.prog 106 #[.agg #[.int .i64 f.id, .int .i64 f.fr, .int .i64 f.tn, .int .i64 f.pe, .int .i64 f.ph, .int .i64 f.dl], .int .i64 n] w fun e w' => e = .returned (.tuple #[.int .i64 (rel f n), .int .i64 0]) ∧ Below w.heap.size w w' := by
  have con := fun W => alone_any f W
  rw [hf] at con
  obtain ⟨_, _, _, hp, hq, hdl, _⟩ := fault_zero hf
  have hm0 : 0 ≤ n * f.pe := Int.mul_nonneg h0 (by omega)
  have hm1 : n * f.pe ≤ 1000000 * f.pe := Int.mul_le_mul_of_nonneg_right h1 (by omega)
  unfold rel
  obtain ⟨m, hmm⟩ : ∃ m, m = n * f.pe := ⟨_, rfl⟩
  have hw1 : IntKind.i64.wrap (n * f.pe) = m := by rw [← hmm, IntKind.wrap_i64]; omega
  rw [← hmm] at hm0 hm1 ⊢
  have hw2 : IntKind.i64.wrap (f.ph + m) = f.ph + m := by rw [IntKind.wrap_i64]; omega
  have d0 : decide (n < 0) = false := decide_eq_false (by omega)
  have d1 : decide (1099511627776 < n) = false := decide_eq_false (by omega)
  have d2 : decide (1099511627776 < f.ph + m) = false := decide_eq_false (by omega)
  clear hf
  obtain ⟨id, fr, tn, pe, ph, dl⟩ := f
  dsimp only at *
  have HMM := Lib.hid hmm.symm
  have Con := Lib.hid con
  clear con hmm
  go_enter Tryz.func106, Tryz.ntmps106
  go_wp2_with (first | (go_at_call 152; (with_reducible refine (Con.out _).mono ?_); rintro e w2 ⟨rfl, hb2⟩; have r2 := (Row.new w [.int .i64 id, .int .i64 fr, .int .i64 tn, .int .i64 pe, .int .i64 ph, .int .i64 dl] 28).below hb2 (by simp); unfold Row at r2) | fail)
  go_ret2
  exact ⟨by first | rfl | (rw [HMM.out]; done) | simp [HMM.out], ((Below.refl _ _).alloc (Nat.le_refl _) _).trans (hb2.mono (by simp))⟩

set_option maxHeartbeats 1000000 in
theorem Window_any (f : Fl) (n : Int) (hf : fault f = 0) (h0 : 0 ≤ n) (h1 : n ≤ 1000000) (w : World) :
    Calls Tryz.prog 70 #[.agg #[.int .i64 f.id, .int .i64 f.fr, .int .i64 f.tn, .int .i64 f.pe, .int .i64 f.ph, .int .i64 f.dl], .int .i64 n] w fun e w' => e = .returned (.tuple #[.int .i64 (rel f n), .int .i64 (rel f n + f.pe - 1), .int .i64 0]) ∧ Below w.heap.size w w' := by
  have con := fun W => release_any f n hf h0 h1 W
  obtain ⟨_, _, _, hp, hq, hdl, _⟩ := fault_zero hf
  have hm0 : 0 ≤ n * f.pe := Int.mul_nonneg h0 (by omega)
  have hm1 : n * f.pe ≤ 1000000 * f.pe := Int.mul_le_mul_of_nonneg_right h1 (by omega)
  unfold rel at con ⊢
  generalize hmm : n * f.pe = m at *
  clear hmm
  clear hf
  obtain ⟨id, fr, tn, pe, ph, dl⟩ := f
  dsimp only at *
  have Con := Lib.hid con
  clear con
  have hw1 : IntKind.i64.wrap (ph + m + pe - 1) = ph + m + pe - 1 := by rw [IntKind.wrap_i64]; omega
  have hw2 : IntKind.i64.wrap (ph + m + pe) = ph + m + pe := by rw [IntKind.wrap_i64]; omega
  go_enter Tryz.func70, Tryz.ntmps70
  go_wp2_with (first | (go_at_call 106; (with_reducible refine (Con.out _).mono ?_); rintro e w2 ⟨rfl, hb2⟩; have r2 := (Row.new w [.int .i64 id, .int .i64 fr, .int .i64 tn, .int .i64 pe, .int .i64 ph, .int .i64 dl] 28).below hb2 (by simp); unfold Row at r2) | fail)
  go_quiet (fail)
  go_wp2_with fail
  go_ret3
  exact ⟨rfl, below_drewN (((Below.refl _ _).alloc (Nat.le_refl _) _).trans (hb2.mono (by simp))) _⟩

set_option maxHeartbeats 1000000 in
theorem Due_any (f : Fl) (n : Int) (hf : fault f = 0) (h0 : 0 ≤ n) (h1 : n ≤ 1000000) (w : World) :
    Calls Tryz.prog 71 #[.agg #[.int .i64 f.id, .int .i64 f.fr, .int .i64 f.tn, .int .i64 f.pe, .int .i64 f.ph, .int .i64 f.dl], .int .i64 n] w fun e w' => e = .returned (.tuple #[.int .i64 (rel f n + f.dl - 1), .int .i64 0]) ∧ Below w.heap.size w w' := by
  have con := fun W => release_any f n hf h0 h1 W
  obtain ⟨_, _, _, hp, hq, hdl, _⟩ := fault_zero hf
  have hm0 : 0 ≤ n * f.pe := Int.mul_nonneg h0 (by omega)
  have hm1 : n * f.pe ≤ 1000000 * f.pe := Int.mul_le_mul_of_nonneg_right h1 (by omega)
  unfold rel at con ⊢
  generalize hmm : n * f.pe = m at *
  clear hmm
  clear hf
  obtain ⟨id, fr, tn, pe, ph, dl⟩ := f
  dsimp only at *
  have Con := Lib.hid con
  clear con
  have hw1 : IntKind.i64.wrap (ph + m + dl - 1) = ph + m + dl - 1 := by rw [IntKind.wrap_i64]; omega
  have hw2 : IntKind.i64.wrap (ph + m + dl) = ph + m + dl := by rw [IntKind.wrap_i64]; omega
  go_enter Tryz.func71, Tryz.ntmps71
  go_wp2_with (first | (go_at_call 106; (with_reducible refine (Con.out _).mono ?_); rintro e w2 ⟨rfl, hb2⟩; have r2 := (Row.new w [.int .i64 id, .int .i64 fr, .int .i64 tn, .int .i64 pe, .int .i64 ph, .int .i64 dl] 28).below hb2 (by simp); unfold Row at r2) | fail)
  go_ret2
  exact ⟨rfl, ((Below.refl _ _).alloc (Nat.le_refl _) _).trans (hb2.mono (by simp))⟩

set_option maxHeartbeats 1000000 in
theorem rrel_any (f : Fl) (n : Int) (hf : fault f = 0) (h0 : 0 ≤ n) (h1 : n ≤ 1000000) (w : World) :
    Calls Tryz.prog 79 #[.agg #[.int .i64 f.id, .int .i64 f.fr, .int .i64 f.tn, .int .i64 f.pe, .int .i64 f.ph, .int .i64 f.dl], .int .i64 n] w fun e w' => e = .returned (.int .i64 (rel f n)) ∧ Below w.heap.size w w' := by
  obtain ⟨_, _, _, hp, hq, hdl, _⟩ := fault_zero hf
  have hm0 : 0 ≤ n * f.pe := Int.mul_nonneg h0 (by omega)
  have hm1 : n * f.pe ≤ 1000000 * f.pe := Int.mul_le_mul_of_nonneg_right h1 (by omega)
  unfold rel
  obtain ⟨m, hmm⟩ : ∃ m, m = n * f.pe := ⟨_, rfl⟩
  have hw1 : IntKind.i64.wrap (n * f.pe) = m := by rw [← hmm, IntKind.wrap_i64]; omega
  rw [← hmm] at hm0 hm1 ⊢
  have hw2 : IntKind.i64.wrap (f.ph + m) = f.ph + m := by rw [IntKind.wrap_i64]; omega
  clear hf
  obtain ⟨id, fr, tn, pe, ph, dl⟩ := f
  dsimp only at *
  have HMM := Lib.hid hmm.symm
  clear hmm
  go_enter Tryz.func79, Tryz.ntmps79
  go_wp2_with fail
  go_ret
  exact ⟨by first | rfl | (rw [HMM.out]; done) | simp [HMM.out], by first | exact (Below.refl _ _).alloc (Nat.le_refl _) _ | exact Below.refl _ _⟩

set_option maxHeartbeats 1000000 in
theorem complete_any (f : Fl) (slots : Int) (va vd : Value) (hf : fault f = 0) (h0 : 0 ≤ slots) (h1 : slots ≤ 4096) (_ha : va.oneCell' = true) (_hd : vd.oneCell' = true) (w : World) :
    Calls Tryz.prog 104 #[.agg #[.int .i64 f.id, .int .i64 f.fr, .int .i64 f.tn, .int .i64 f.pe, .int .i64 f.ph, .int .i64 f.dl], .agg #[.int .i64 slots, va, vd]] w fun e w' => e = .returned (.int .i64 (complete f slots)) ∧ Below w.heap.size w w' := by
  obtain ⟨_, _, _, hp, hq, hdl, _⟩ := fault_zero hf
  obtain ⟨T, hT⟩ : ∃ T, T = complete f slots := ⟨_, rfl⟩
  rw [← hT]
  unfold complete at hT
  clear hf
  obtain ⟨id, fr, tn, pe, ph, dl⟩ := f
  dsimp only at *
  have hw1 : IntKind.i64.wrap (slots - ph) = slots - ph := by rw [IntKind.wrap_i64]; omega
  have hw2 : IntKind.i64.wrap (slots - ph - dl) = slots - ph - dl := by rw [IntKind.wrap_i64]; omega
  have hpe : pe ≠ 0 := by omega
  by_cases hc : 0 ≤ slots - ph - dl
  · rw [if_pos hc] at hT
    have hdv : (slots - ph - dl).tdiv pe = (slots - ph - dl) / pe := Int.tdiv_eq_ediv_of_nonneg hc
    have hd0 : 0 ≤ (slots - ph - dl) / pe := Int.ediv_nonneg hc (by omega)
    have hd1 : (slots - ph - dl) / pe ≤ slots - ph - dl := Int.ediv_le_self _ hc
    have hw3 : IntKind.i64.wrap ((slots - ph - dl) / pe) = (slots - ph - dl) / pe := by rw [IntKind.wrap_i64]; omega
    have hw4 : IntKind.i64.wrap ((slots - ph - dl) / pe + 1) = (slots - ph - dl) / pe + 1 := by rw [IntKind.wrap_i64]; omega
    have dc : decide (0 ≤ slots - ph - dl) = true := decide_eq_true hc
    have HT := Lib.hid hT
    clear hT
    generalize (slots - ph - dl) / pe = Q at *
    go_enter Tryz.func104, Tryz.ntmps104
    go_wp2_with fail
    go_ret
    exact ⟨ret_int (by rw [HT.out]), by repeat (first | exact Below.refl _ _ | refine Below.alloc ?_ (by simp) _)⟩
  · rw [if_neg hc] at hT
    have dc : decide (0 ≤ slots - ph - dl) = false := decide_eq_false hc
    have HT := Lib.hid hT
    clear hT
    go_enter Tryz.func104, Tryz.ntmps104
    go_wp2_with fail
    go_ret
    exact ⟨ret_int (by rw [HT.out]), by repeat (first | exact Below.refl _ _ | refine Below.alloc ?_ (by simp) _)⟩
end Go.Proofs.YticnppnejafhdaaGreatDoor
/- Maps of frames: to each flow and frame the slots of its deliveries; a map that the call makes. -/
namespace Go.Proofs.YticnppnejafhdaaGreatDoor
open Go.RowKit Go.WideMaps Go.Maps Go.ChangeShapes
open Go.Maps (Keyed)

theorem Tryz.kLaid : laidOutB Tryz.prog = true := by kernel_rfl
theorem Tryz.kRow : (150 : TypeId) < Tryz.prog.types.size := of_decide_eq_true (by kernel_rfl)
theorem Tryz.kKeyed : Keyed Tryz.prog 150 := Keyed.of_law (deep_law_laid Tryz.kLaid (m := 2) (by omega) Tryz.kRow (by kernel_rfl) (by rw [Tryz.underlying150]))
theorem pos_succ {a n : Nat} (h : a < n) : ∃ m, n = m + 1 := ⟨n - 1, by omega⟩
theorem Tryz.kTypes : ∃ m, Tryz.prog.types.size = m + 1 := pos_succ Tryz.kRow
theorem Tryz.kType : Tryz.prog.keyType 150 = true := by kernel_rfl
theorem Tryz.kCells : Tryz.prog.cellsOf 150 = 2 := by kernel_rfl
theorem Tryz.kOne : Tryz.prog.cellsOf 3 = 1 := by kernel_rfl
theorem Tryz.sZero (w : World) : (zeroValue 24).run Tryz.prog w = .ok (.slice none 0 0) w := by kernel_rfl

/-- A number that an int holds. -/
def Num64 (a : Int) : Prop := (Lit.int .i64 a).wf = true
theorem num64_of {a : Int} (h : -9223372036854775808 ≤ a ∧ a ≤ 9223372036854775807) : Num64 a := by
  have h1 : IntKind.i64.min = -9223372036854775808 := by decide
  have h2 : IntKind.i64.max = 9223372036854775807 := by decide
  simp only [Num64, Lit.wf, Bool.and_eq_true, decide_eq_true_eq, h1, h2]
  exact h
def frKey (a b : Int) : Lit := .string (keyBytes [.int .i64 a, .int .i64 b])
theorem keyOf_fr {a b : Int} (ha : Num64 a) (hb : Num64 b) : keyOf Tryz.prog 150 (.agg #[.int .i64 a, .int .i64 b]) = some (frKey a b) := by
  obtain ⟨m, hm⟩ := Tryz.kTypes
  unfold keyOf
  simp only [Tryz.underlying150]
  rw [if_pos (by simp [Tryz.kType, Value.formed, Tryz.underlying150, Tryz.kCells]), hm]
  unfold Program.keyLits
  simp only [Tryz.underlying150, Value.cells, Tryz.kCells]
  have h64a : (Lit.int .i64 a).wf = true := ha
  have h64b : (Lit.int .i64 b).wf = true := hb
  cases m with
  | zero => exact absurd hm (by intro h; have := Tryz.kRow; rw [h] at this; revert this; decide)
  | succ m => simp [Program.keyLits, Tryz.underlying3, Tryz.kOne, h64a, h64b, frKey]
theorem frKey_inj {a b c d : Int} (ha : Num64 a) (hb : Num64 b) (hc : Num64 c) (hd : Num64 d) (h : frKey a b = frKey c d) : a = c ∧ b = d := by
  have h1 := keyOf_fr ha hb
  have h2 := keyOf_fr hc hd
  rw [← h] at h2
  have := Tryz.kKeyed.inj h1 h2
  simpa using this

/-- How a list of numbers reads. -/
def gd (zs : List Int) : DataW Unit := if zs = [] then .nil else .slice (lits .i64 zs) []
/-- Block b is a map that holds the list G a c at the frame c of flow a. -/
def OwnsGr (w : World) (base b n : Nat) (G : Int → Int → List Int) : Prop :=
  ∃ D : DataW Unit, w.ownsGroups Tryz.prog 150 base 3 .i64 b n D ∧ Go.Maps.IsMap D ∧ ∀ a c, Num64 a → Num64 c → D.atKey (frKey a c) .nil = gd (G a c)
theorem OwnsGr.made (w : World) : OwnsGr (w.alloc (.map #[] 0)) (w.heap.size + 1) w.heap.size 0 (fun _ _ => []) :=
  ⟨.map [], World.ownsGroups_made w _ _ _ _, Go.Maps.isMap_empty, fun a c _ _ => by simp [DataW.atKey, gd]⟩
theorem OwnsGr.below {w w' : World} {base b n : Nat} {G : Int → Int → List Int} (h : OwnsGr w base b n G) (hb : Below w.heap.size w w') : OwnsGr w' base b n G := by
  obtain ⟨D, h1, h2⟩ := h
  exact ⟨D, h1.kept (row := none) ⟨hb.os, hb.tape, hb.output, hb.size, fun i hi _ => hb.block i hi⟩ (by simp) (fun es clock _ x _ => by cases x.val.ownBlock <;> simp), h2⟩
theorem lits_inj {zs ys : List Int} (h : lits .i64 zs = (lits .i64 ys : List (DataW Unit))) : zs = ys := by
  unfold lits at h
  exact (List.map_inj_right (fun a b hab => by cases hab; rfl)).1 h
theorem gd_row {v : Value} {zs ys : List Int} {w : World} {base : Nat} {e : TypeId} (ho : w.ownsInts base e .i64 v zs) (h : rowDatum .i64 v zs = gd ys) : zs = ys := by
  rcases ho.1.2 with ⟨rfl, h0⟩ | ⟨g, cap, cur, rfl, _⟩
  · have hz : zs = [] := List.eq_nil_of_length_eq_zero h0
    unfold gd at h
    split at h
    · rw [hz]; exact Eq.symm ‹_›
    · simp [rowDatum] at h
  · unfold gd at h
    split at h
    · simp [rowDatum] at h
    · simp only [rowDatum, DataW.slice.injEq, and_true] at h
      exact lits_inj h
theorem OwnsGr.look {w : World} {base b n : Nat} {G : Int → Int → List Int} (h : OwnsGr w base b n G) (hn : n < maxLen) {a c : Int} (ha : Num64 a) (hc : Num64 c) :
    ∃ v, (Instr.lookup 145 (.map (some b)) (.agg #[.int .i64 a, .int .i64 c]) false).run Tryz.prog w = .ok v w ∧ w.ownsInts base 3 .i64 v (G a c) := by
  obtain ⟨D, h1, _, h3⟩ := h
  obtain ⟨v, zs, hrun, hat, ho, _, _⟩ := h1.at Tryz.kKeyed Tryz.underlying145 (Tryz.sZero w) hn (keyOf_fr ha hc)
  rw [h3 a c ha hc] at hat
  have := gd_row ho hat.symm
  subst this
  exact ⟨v, hrun, ho⟩
theorem flatI_map (l : List Int) : flatI l = l.map (Value.int .i64) := by
  unfold flatI
  induction l with
  | nil => rfl
  | cons x l ih => simp [irow, ih]
end Go.Proofs.YticnppnejafhdaaGreatDoor
/- 'm[k] = append(m[k], v)' on a map of frames: the entry, the append, the store. -/
namespace Go.Proofs.YticnppnejafhdaaGreatDoor
open Go.RowKit Go.WideMaps Go.Maps Go.WideElems Go.ChangeMaps
open Go.Maps (Keyed)

theorem Tryz.kLaw : KeyLaw Tryz.prog 150 := deep_law_laid Tryz.kLaid (m := 2) (by omega) Tryz.kRow (by kernel_rfl) (by rw [Tryz.underlying150])

section
variable {H : Type} {P : Program} {w w' : World} {t k e : TypeId} {R : Value → Option (DataW H × List MemPlace)} {b : Nat} {es : Array MapEntry} {clock : Nat}
theorem setBlock_inj {o o' : Obj} (hb : b < w.heap.size) (h : setBlock w b o = setBlock w b o') : o = o' := by
  have h1 := congrArg (fun w : World => w.heap[b]?) h
  simpa [setBlock, hb] using h1
/-- A store into a map hangs on the map's block alone. -/
theorem update_same (K : KeyLaw P k) (ht : P.underlying t = some (.map k e)) (hb : w.heap[b]? = some (.map es clock)) (hb' : w'.heap[b]? = some (.map es clock)) (F : Fit P k R es clock)
    {key val : Value} {kl : Lit} (hkey : keyOf P k key = some kl) {o : Obj} (h : (Instr.mapUpdate t (.map (some b)) key val).run P w = .ok () (setBlock w b o)) :
    (Instr.mapUpdate t (.map (some b)) key val).run P w' = .ok () (setBlock w' b o) := by
  obtain ⟨_, _, s3⟩ := F.stamped
  have hlt : b < w.heap.size := (Array.getElem?_eq_some_iff.1 hb).1
  have none_ : ∀ (u : World), u.heap[b]? = some (.map es clock) → (Instr.findKey k key es.toList).run P u = .ok none u → (Instr.mapUpdate t (.map (some b)) key val).run P u = .ok () (setBlock u b (.map (es.push ⟨key, val, clock⟩) (clock + 1))) := fun u hu h1 => by
    simp [Instr.mapUpdate, run_underlying ht, MapKept.run_getObj_map hu, K.check u false hkey, h1, MapKept.run_setObj_map _ hu, Result.andThen, setBlock]
  have some_ : ∀ (u : World) (j : Nat) (e0 : MapEntry), u.heap[b]? = some (.map es clock) → (Instr.findKey k key es.toList).run P u = .ok (some (j, e0.val)) u → es.toList[j]? = some e0 → e0.key = key → (Instr.mapUpdate t (.map (some b)) key val).run P u = .ok () (setBlock u b (.map (es.modify j (fun e' => { e' with key := key, val := val })) clock)) := fun u j e0 hu h1 h2 h3 => by
    have hj : es[j]? = some e0 := by simpa using h2
    simp [Instr.mapUpdate, run_underlying ht, MapKept.run_getObj_map hu, K.check u false hkey, h1, hj, h3, K.stays u hkey, MapKept.run_setObj_map _ hu, Result.andThen, setBlock]
  have out : ∀ {o' : Obj}, (Instr.mapUpdate t (.map (some b)) key val).run P w = .ok () (setBlock w b o') → o' = o := fun h' => by
    rw [h] at h'
    injection h' with _ h'
    exact (setBlock_inj hlt h').symm
  rcases K.find w hkey es.toList F.keys with ⟨h1, h2⟩ | ⟨j, e0, h1, h2, h3⟩
  · rcases K.find w' hkey es.toList F.keys with ⟨h1', _⟩ | ⟨j', e0', _, h2', h3'⟩
    · rw [none_ w' hb' h1', out (none_ w hb h1)]
    · exact absurd h3' (h2 e0' (List.mem_of_getElem? h2'))
  · rcases K.find w' hkey es.toList F.keys with ⟨_, h2'⟩ | ⟨j', e0', h1', h2', h3'⟩
    · exact absurd h3 (h2' e0 (List.mem_of_getElem? h2))
    · have hjj : j = j' := by
        obtain ⟨a1, a2⟩ := List.getElem?_eq_some_iff.1 h2
        obtain ⟨b1, b2⟩ := List.getElem?_eq_some_iff.1 h2'
        have hnd := List.pairwise_iff_getElem.1 (List.nodup_iff_pairwise_ne.1 s3)
        rcases Nat.lt_trichotomy j j' with hlt | heq | hgt
        · exact (hnd j j' (by simpa using a1) (by simpa using b1) hlt (by simp [a2, b2, h3, h3'])).elim
        · exact heq
        · exact (hnd j' j (by simpa using b1) (by simpa using a1) hgt (by simp [a2, b2, h3, h3'])).elim
      subst hjj
      rw [some_ w' j e0' hb' h1' h2' h3', out (some_ w j e0 hb h1 h2 h3)]
end

/-- The list at one frame is turned. -/
def updG (G : Int → Int → List Int) (a c : Int) (zs : List Int) : Int → Int → List Int := fun x y => if x = a ∧ y = c then zs else G x y
theorem OwnsGr.entry {w : World} {base b n : Nat} {G : Int → Int → List Int} (h : OwnsGr w base b n G) (hn : n < maxLen) {a c : Int} (ha : Num64 a) (hc : Num64 c) :
    ∃ v w1 st, (Instr.mapEntry 145 (.map (some b)) (.agg #[.int .i64 a, .int .i64 c])).run Tryz.prog w = .ok (.tuple #[v, goInt (st : Nat)]) w1 ∧ w.grownBy w1 (some b) ∧ w1.heap.size = w.heap.size ∧ w1.ownsInts base 3 .i64 v (G a c) ∧ (G a c).length ≤ n ∧
      ∀ (w2 : World) (v' : Value) (zs' : List Int), w1.grownBy w2 v.ownBlock → w2.ownsInts base 3 .i64 v' zs' → zs' ≠ [] → zs'.length ≤ n + 1 → (v'.ownBlock = v.ownBlock ∨ ∃ g, v'.ownBlock = some g ∧ w.heap.size ≤ g) →
        ∃ w3, (Instr.entryStore 145 (.map (some b)) (goInt (st : Nat)) v').run Tryz.prog w2 = .ok () w3 ∧ OwnsGr w3 base b (n + 1) (updG G a c zs') ∧ w2.grownBy w3 (some b) := by
  obtain ⟨D, h1, hm, h3⟩ := h
  have hkey := keyOf_fr ha hc
  obtain ⟨v, zs, hlook, hat, hoi, hzl, hback⟩ := h1.at Tryz.kKeyed Tryz.underlying145 (Tryz.sZero w) hn hkey
  rw [h3 a c ha hc] at hat
  have hzs := gd_row hoi hat.symm
  subst hzs
  obtain ⟨es, clock, hb, F, hs, hD, hbb, hlen, hap⟩ := h1
  have hlt : b < w.heap.size := (Array.getElem?_eq_some_iff.1 hb).1
  obtain ⟨v0, st, es1, clock1, hent, hv0, hst⟩ := entry_then_store Tryz.kLaw Tryz.underlying145 (fun u => Tryz.sZero u) hb F hkey
  have hbw : ∀ (u : World) (o : Obj), b < u.heap.size → u.grownBy (setBlock u b o) (some b) := fun u o hu => ⟨rfl, rfl, rfl, by simp [setBlock], fun i _ hi => by
    have : b ≠ i := fun e => hi (by rw [e])
    simp [setBlock, this]⟩
  -- the value that the entry hands over is the look-up's
  have hv : v0 = v := by
    rcases Maps.fit_look false Tryz.kKeyed Tryz.underlying145 (Tryz.sZero w) hb F hkey with ⟨hrun, hno, _⟩ | ⟨e0, y, hm0, hk0, hrun, _, _, _⟩
    · have e1 : v = .slice none 0 0 := by rw [hlook] at hrun; injection hrun
      rcases hv0 with ⟨x, hx, hxk, _⟩ | ⟨_, hz⟩
      · exact absurd hxk (hno x hx)
      · rw [hz, e1]
    · have e1 : v = e0.val := by rw [hlook] at hrun; injection hrun
      rcases hv0 with ⟨x, hx, hxk, hxv⟩ | ⟨hno, _⟩
      · obtain ⟨_, _, s3⟩ := F.stamped
        obtain ⟨i, hi, hxi⟩ := List.getElem_of_mem hx
        obtain ⟨j, hj, hej⟩ := List.getElem_of_mem hm0
        have hnd := List.pairwise_iff_getElem.1 (List.nodup_iff_pairwise_ne.1 s3)
        have : i = j := by
          rcases Nat.lt_trichotomy i j with hlt | heq | hgt
          · exact (hnd i j (by simpa using hi) (by simpa using hj) hlt (by simp [hxi, hej, hxk, hk0])).elim
          · exact heq
          · exact (hnd j i (by simpa using hj) (by simpa using hi) hgt (by simp [hxi, hej, hxk, hk0])).elim
        subst this
        rw [hxv, e1, ← hxi, hej]
      · exact absurd hk0 (hno e0 hm0)
  subst hv
  have hvb : v0.ownBlock ≠ some b := fun e => by
    have := (hoi.1.lt b e).1
    omega
  refine ⟨v0, _, st, hent, hbw w _ hlt, by simp [setBlock], hoi.kept (hbw w _ hlt) (.inr hvb), hzl, fun w2 v' zs' hg ho' hne hl' hloc => ?_⟩
  have hw2b : w2.heap[b]? = some (.map es1 clock1) := by
    rw [hg.block b (by simp [setBlock]; exact hlt) (fun e => hvb e.symm)]
    simp [setBlock, hlt]
  have hlt2 : b < w2.heap.size := (Array.getElem?_eq_some_iff.1 hw2b).1
  obtain ⟨es', clock', hstore, hupd⟩ := hst w2 v' hw2b
  -- the world w2 with the old map in it
  obtain ⟨u, hu⟩ : ∃ u, u = setBlock w2 b (.map es clock) := ⟨_, rfl⟩
  have hub : u.heap[b]? = some (.map es clock) := by rw [hu]; simp [setBlock, hlt2]
  have hwu : w.grownBy u v0.ownBlock := by
    refine ⟨by rw [hu]; exact hg.os, by rw [hu]; exact hg.tape, by rw [hu]; exact hg.output, by rw [hu]; have := hg.size; simpa [setBlock] using this, fun i hi hio => ?_⟩
    by_cases hib : i = b
    · subst hib; rw [hub, hb]
    · have h5 : u.heap[i]? = w2.heap[i]? := by rw [hu]; simp [setBlock, Ne.symm hib]
      rw [h5, hg.block i (by simpa [setBlock] using hi) hio]
      simp [setBlock, Ne.symm hib]
  have huo : u.ownsInts base 3 .i64 v' zs' := by
    rw [hu]
    refine ho'.kept (hbw w2 _ hlt2) ?_
    cases hvo : v'.ownBlock with
    | none => exact .inl rfl
    | some g =>
      refine .inr (fun e => ?_)
      injection e with e
      have := (ho'.1.lt g hvo).1
      omega
  obtain ⟨u2, hrun2, hown2, hgr2⟩ := hback u v' zs' hwu huo hl' hloc
  have hupd2 := update_same Tryz.kLaw Tryz.underlying145 hb hub F hkey hupd
  rw [hrun2] at hupd2
  injection hupd2 with _ hupd2
  have hfin : u2 = setBlock w2 b (.map es' clock') := by rw [hupd2, hu]; simp [setBlock]
  rw [hfin] at hown2
  refine ⟨_, hstore, ⟨_, hown2, hm.put _ _, fun x y hx hy => ?_⟩, hbw w2 _ hlt2⟩
  have hgd : rowDatum (H := Unit) .i64 v' zs' = gd zs' := by
    unfold gd
    rw [if_neg hne]
    rcases ho'.1.2 with ⟨_, h0⟩ | ⟨g, cap, cur, rfl, _⟩
    · exact absurd (List.eq_nil_of_length_eq_zero h0) hne
    · rfl
  by_cases e : frKey x y = frKey a c
  · obtain ⟨e1, e2⟩ := frKey_inj hx hy ha hc e
    subst e1 e2
    rw [Go.Maps.atKey_put_same hm (by trivial)]
    simp [updG, hgd]
  · rw [Go.Maps.atKey_put_other e, h3 x y hx hy]
    have hne : ¬ (x = a ∧ y = c) := fun ⟨e1, e2⟩ => e (by rw [e1, e2])
    simp [updG, hne]
end Go.Proofs.YticnppnejafhdaaGreatDoor
/- Walks: the flows and the record are right; where a frame arrived; the slots of deliveries by frame. -/
namespace Go.Proofs.YticnppnejafhdaaGreatDoor
open Go.RowKit
open Nd Rc Mo

theorem Tryz.infoInt : (Tryz.prog.info? 3).map (fun i => (i.zero, i.size, i.bytes)) = some (some (.int .i64 0), 1, 8) := by kernel_rfl

set_option maxHeartbeats 1000000 in
theorem right_any (fs : List Fl) (r : Rec) (F A D : Option Addr) (cf ca cd : Nat) (w : World) (hF : Lies w w.heap.size 6 F (fs.map Fl.row)) (hf : fs.length ≤ 1000000) (hA : LiesA w w.heap.size A r.al) (hD : LiesD w w.heap.size D r.dl) (hla : r.al.length ≤ 1000000) (hld : r.dl.length ≤ 1000000) :
    Calls Tryz.prog 102 #[.slice F fs.length cf, .agg #[.int .i64 r.slots, .slice A r.al.length ca, .slice D r.dl.length cd]] w fun e w' => e = .returned (.bool (right fs r)) ∧ Below w.heap.size w w' := by
  obtain ⟨slots, al, dl⟩ := r
  dsimp only at *
  obtain ⟨na, hna⟩ : ∃ n, n = al.length := ⟨_, rfl⟩
  obtain ⟨nd, hnd⟩ : ∃ n, n = dl.length := ⟨_, rfl⟩
  obtain ⟨W1, hW1⟩ : ∃ W1, W1 = w.alloc (.cells #[.int .i64 slots, .slice A na ca, .slice D nd cd] 35) := ⟨_, rfl⟩
  have hb1 : Below w.heap.size w W1 := by rw [hW1]; exact (Below.refl _ _).alloc (Nat.le_refl _) _
  have bR : Blk W1 w.heap.size 35 [.int .i64 slots, .slice A na ca, .slice D nd cd] := by rw [hW1]; exact Blk.new2 _ [.int .i64 slots, .slice A na ca, .slice D nd cd] rfl
  have Con := Lib.hid (fCheck_any fs F cf W1 (Lies.later hF hb1) hf)
  have Con2 := Lib.hid (fun W (h' : Below W1.heap.size W1 W) => check_any ⟨slots, al, dl⟩ A D ca cd W ((hA.below hb1).more hb1.size |>.below h' |>.more h'.size) ((hD.below hb1).more hb1.size |>.below h' |>.more h'.size) (by dsimp only; omega) (by dsimp only; omega))
  have hT : right fs ⟨slots, al, dl⟩ = (decide ((chkF fs).2 = 0) && (checkE ⟨slots, al, dl⟩ == 0)) := by
    unfold right checkE
    cases good ⟨slots, al, dl⟩ <;> rfl
  rw [hT]
  generalize chkF fs = T at *
  generalize hE : checkE ⟨slots, al, dl⟩ = E at *
  dsimp only at Con2
  rw [← hna, ← hnd] at Con2 ⊢
  generalize fs.length = m at *
  have HR := Lib.hid (fun W (h' : Below W1.heap.size W1 W) => (bR.below h' bR.lt).row)
  have HB1 := Lib.hid hb1
  have hlt : w.heap.size < W1.heap.size := bR.lt
  clear hF hA hD hna hnd hT hE hb1 bR
  subst hW1
  go_enter Tryz.func102, Tryz.ntmps102
  go_wp2_with fail
  refine Con.out.mono ?_
  rintro e w2 ⟨rfl, hb2⟩
  have r2 := HR.out _ hb2
  unfold Row at r2
  have hfin := HB1.out.trans (hb2.mono HB1.out.size)
  have Con3 := Lib.hid (Con2.out _ hb2)
  by_cases hc : T.2 = 0
  · have e1 : (T.2 == 0) = true := by simpa using hc
    have e2 : decide (T.2 = 0) = true := decide_eq_true hc
    have E2 := Lib.hid e2
    clear hc e2 Con Con2 HR
    go_wp2_with (go_at_call 56; (with_reducible refine Con3.out.mono ?_); rintro e w3 ⟨rfl, hb3⟩)
    go_ret
    exact ⟨ret_bool (by rw [E2.out]; first | rfl | simp), hfin.trans (hb3.mono hfin.size)⟩
  · have e1 : (T.2 == 0) = false := by simpa using hc
    have e2 : decide (T.2 = 0) = false := decide_eq_false hc
    have E2 := Lib.hid e2
    clear hc e2 Con Con2 HR Con3
    go_wp2_with fail
    go_ret
    exact ⟨ret_bool (by rw [E2.out]; first | rfl | simp), hfin⟩

set_option maxRecDepth 100000 in
set_option maxHeartbeats 2000000 in
theorem arrival_any (f : Fl) (n : Int) (l : List Int) (A : Option Addr) (c : Nat) (w : World) (hf : fault f = 0) (h0 : 0 ≤ n) (h1 : n ≤ 1000000) (hA : LiesI w w.heap.size A l) (hl : l.length ≤ 1000000) :
    Calls Tryz.prog 105 #[.agg #[.int .i64 f.id, .int .i64 f.fr, .int .i64 f.tn, .int .i64 f.pe, .int .i64 f.ph, .int .i64 f.dl], .int .i64 n, .slice A l.length c] w fun e w' => e = .returned (.tuple #[.int .i64 (arrival f n l).1, .bool (arrival f n l).2]) ∧ Below w.heap.size w w' := by
  obtain ⟨W1, hW1⟩ : ∃ W1, W1 = w.alloc (.cells #[.int .i64 f.id, .int .i64 f.fr, .int .i64 f.tn, .int .i64 f.pe, .int .i64 f.ph, .int .i64 f.dl] 28) := ⟨_, rfl⟩
  have hb1 : Below w.heap.size w W1 := by rw [hW1]; exact (Below.refl _ _).alloc (Nat.le_refl _) _
  have bF : Blk W1 w.heap.size 28 [.int .i64 f.id, .int .i64 f.fr, .int .i64 f.tn, .int .i64 f.pe, .int .i64 f.ph, .int .i64 f.dl] := by rw [hW1]; exact Blk.new2 _ [.int .i64 f.id, .int .i64 f.fr, .int .i64 f.tn, .int .i64 f.pe, .int .i64 f.ph, .int .i64 f.dl] rfl
  have Con := Lib.hid (fun W => Window_any f n hf h0 h1 W)
  have Con2 := Lib.hid (fun W => Due_any f n hf h0 h1 W)
  obtain ⟨q, hq⟩ : ∃ q, q = l.length := ⟨_, rfl⟩
  obtain ⟨T, hT⟩ : ∃ T, T = arrival f n l := ⟨_, rfl⟩
  rw [← hT, ← hq]
  unfold arrival at hT
  have HA := Lib.hid (fun W (h' : Below W1.heap.size W1 W) => (hA.below hb1).more hb1.size |>.below h' |>.more h'.size)
  have HR := Lib.hid (fun W (h' : Below W1.heap.size W1 W) => (bF.below h' bF.lt).row)
  have HB1 := Lib.hid hb1
  obtain ⟨id, fr, tn, pe, ph, dl⟩ := f
  dsimp only at *
  generalize rel ⟨id, fr, tn, pe, ph, dl⟩ n = a at *
  generalize a + dl - 1 = due at *
  generalize a + pe - 1 = last at *
  have HT := Lib.hid hT
  have HQ := Lib.hid hq
  have hlq : q ≤ 1000000 := by rw [hq]; exact hl
  clear hT hA hf hb1 bF hq h0 h1 hl
  subst hW1
  go_enter Tryz.func105, Tryz.ntmps105
  go_wp2_with fail
  refine (Con.out _).mono ?_
  rintro e w2 ⟨rfl, hb2⟩
  have r2 := HR.out _ hb2
  unfold Row at r2
  go_wp2_with fail
  refine (Con2.out _).mono ?_
  rintro e w3 ⟨rfl, hb3⟩
  have hb23 := hb2.trans (hb3.mono hb2.size)
  have HF3 := Lib.hid (HB1.out.trans (hb23.mono HB1.out.size))
  have HA3 := Lib.hid (HA.out _ hb23)
  clear r2 Con Con2 HR HA
  go_wp2_with fail
  go_loopw [13, 31] (fun s13 i wr => ∃ (k : Nat) (late : Int), k ≤ q ∧ s13 = .int .i64 late ∧ i = .int .i64 k ∧ wr = w3 ∧ Hid (T = arrGo a due last (l.drop k) late)) (fun _ i _ => q - (intOf i).toNat)
  case atStart => exact ⟨0, -1, Nat.zero_le _, rfl, rfl, rfl, Lib.hid (by rw [HT.out]; rfl)⟩
  case round =>
    obtain ⟨k, late, hk, rfl, rfl, rfl, hst⟩ := hrel
    by_cases hlt : k < q
    · obtain ⟨s, hs⟩ := get_of_lt (l := l) (k := k) (by rw [← HQ.out]; exact hlt)
      obtain ⟨b, off, rfl, _, hcs⟩ := HA3.out.at_ hs
      have c0 := hcs k s hs
      have hst' : Hid (T = if a ≤ s ∧ s ≤ due then (s, true) else if due < s ∧ s ≤ last ∧ late < 0 then arrGo a due last (l.drop (k + 1)) s else arrGo a due last (l.drop (k + 1)) late) := Lib.hid (by rw [hst.out, drop_of_get hs]; rfl)
      clear hcs hs hst
      by_cases g1 : a ≤ s
      · have d1 : decide (a ≤ s) = true := decide_eq_true g1
        by_cases g2 : s ≤ due
        · have d2 : decide (s ≤ due) = true := decide_eq_true g2
          have hf := Lib.hid (show T = (s, true) by rw [hst'.out, if_pos (by omega)])
          clear hst' g1 g2
          go_wp2_with fail
          go_ret2
          exact ⟨by rw [hf.out]; rfl, HF3.out⟩
        · have d2 : decide (s ≤ due) = false := decide_eq_false g2
          by_cases g3 : due < s
          · have d3 : decide (due < s) = true := decide_eq_true g3
            by_cases g4 : s ≤ last
            · have d4 : decide (s ≤ last) = true := decide_eq_true g4
              by_cases g5 : late < 0
              · have d5 : decide (late < 0) = true := decide_eq_true g5
                have hf := Lib.hid (show T = arrGo a due last (l.drop (k + 1)) s by rw [hst'.out, if_neg (by omega), if_pos (by omega)])
                clear hst' g1 g2 g3 g4 g5
                go_wp2_with fail
                go_roundw
                case rel => exact ⟨k + 1, s, by omega, rfl, by go_num, by trivial, hf⟩
                case measure => simp [intOf]; omega
              · have d5 : decide (late < 0) = false := decide_eq_false g5
                have hf := Lib.hid (show T = arrGo a due last (l.drop (k + 1)) late by rw [hst'.out, if_neg (by omega), if_neg (by omega)])
                clear hst' g1 g2 g3 g4 g5
                go_wp2_with fail
                go_roundw
                case rel => exact ⟨k + 1, late, by omega, rfl, by go_num, by trivial, hf⟩
                case measure => simp [intOf]; omega
            · have d4 : decide (s ≤ last) = false := decide_eq_false g4
              have hf := Lib.hid (show T = arrGo a due last (l.drop (k + 1)) late by rw [hst'.out, if_neg (by omega), if_neg (by omega)])
              clear hst' g1 g2 g3 g4
              go_wp2_with fail
              go_roundw
              case rel => exact ⟨k + 1, late, by omega, rfl, by go_num, by trivial, hf⟩
              case measure => simp [intOf]; omega
          · have d3 : decide (due < s) = false := decide_eq_false g3
            have hf := Lib.hid (show T = arrGo a due last (l.drop (k + 1)) late by rw [hst'.out, if_neg (by omega), if_neg (by omega)])
            clear hst' g1 g2 g3
            go_wp2_with fail
            go_roundw
            case rel => exact ⟨k + 1, late, by omega, rfl, by go_num, by trivial, hf⟩
            case measure => simp [intOf]; omega
      · have d1 : decide (a ≤ s) = false := decide_eq_false g1
        by_cases g3 : due < s
        · have d3 : decide (due < s) = true := decide_eq_true g3
          by_cases g4 : s ≤ last
          · have d4 : decide (s ≤ last) = true := decide_eq_true g4
            by_cases g5 : late < 0
            · have d5 : decide (late < 0) = true := decide_eq_true g5
              have hf := Lib.hid (show T = arrGo a due last (l.drop (k + 1)) s by rw [hst'.out, if_neg (by omega), if_pos (by omega)])
              clear hst' g1 g3 g4 g5
              go_wp2_with fail
              go_roundw
              case rel => exact ⟨k + 1, s, by omega, rfl, by go_num, by trivial, hf⟩
              case measure => simp [intOf]; omega
            · have d5 : decide (late < 0) = false := decide_eq_false g5
              have hf := Lib.hid (show T = arrGo a due last (l.drop (k + 1)) late by rw [hst'.out, if_neg (by omega), if_neg (by omega)])
              clear hst' g1 g3 g4 g5
              go_wp2_with fail
              go_roundw
              case rel => exact ⟨k + 1, late, by omega, rfl, by go_num, by trivial, hf⟩
              case measure => simp [intOf]; omega
          · have d4 : decide (s ≤ last) = false := decide_eq_false g4
            have hf := Lib.hid (show T = arrGo a due last (l.drop (k + 1)) late by rw [hst'.out, if_neg (by omega), if_neg (by omega)])
            clear hst' g1 g3 g4
            go_wp2_with fail
            go_roundw
            case rel => exact ⟨k + 1, late, by omega, rfl, by go_num, by trivial, hf⟩
            case measure => simp [intOf]; omega
        · have d3 : decide (due < s) = false := decide_eq_false g3
          have hf := Lib.hid (show T = arrGo a due last (l.drop (k + 1)) late by rw [hst'.out, if_neg (by omega), if_neg (by omega)])
          clear hst' g1 g3
          go_wp2_with fail
          go_roundw
          case rel => exact ⟨k + 1, late, by omega, rfl, by go_num, by trivial, hf⟩
          case measure => simp [intOf]; omega
    · have hf : Hid (T = (late, false)) := Lib.hid (by rw [hst.out, List.drop_of_length_le (by rw [← HQ.out]; omega)]; rfl)
      go_wp2_with fail
      go_ret2
      exact ⟨by rw [hf.out]; rfl, HF3.out⟩

theorem slots_succ {dl : List Dlv} {k : Nat} {d : Dlv} (h : dl[k]? = some d) (x y : Int) : slotsOf (dl.take (k + 1)) x y = updG (slotsOf (dl.take k)) d.fl d.fr (slotsOf (dl.take k) d.fl d.fr ++ [d.sl]) x y := by
  obtain ⟨hk, rfl⟩ := List.getElem?_eq_some_iff.1 h
  unfold updG slotsOf
  rw [List.take_succ_eq_append_getElem hk, List.filter_append, List.map_append]
  by_cases hq : x = dl[k].fl ∧ y = dl[k].fr
  · rw [if_pos hq, hq.1, hq.2]
    simp
  · rw [if_neg hq]
    have : ¬ ((dl[k].fl == x && dl[k].fr == y) = true) := by
      rw [Bool.and_eq_true, beq_iff_eq, beq_iff_eq]
      exact fun h => hq ⟨h.1.symm, h.2.symm⟩
    have h2 : List.filter (fun d : Dlv => d.fl == x && d.fr == y) [dl[k]] = [] := by
      rw [List.filter_eq_nil_iff]
      intro d hd
      rw [List.mem_singleton.1 hd]
      exact this
    rw [h2]
    simp

set_option maxRecDepth 100000 in
set_option maxHeartbeats 2000000 in
theorem arrivals_any (r : Rec) (A D : Option Addr) (ca cd : Nat) (w : World) (hD : LiesD w w.heap.size D r.dl) (hl : r.dl.length ≤ 1000000) (hn : ∀ d ∈ r.dl, Num64 d.fl ∧ Num64 d.fr ∧ Num64 d.sl) :
    Calls Tryz.prog 103 #[.agg #[.int .i64 r.slots, .slice A r.al.length ca, .slice D r.dl.length cd]] w fun e w' => Below w.heap.size w w' ∧ ∃ b, e = .returned (.map (some b)) ∧ w.heap.size ≤ b ∧ OwnsGr w' (b + 1) b r.dl.length (slotsOf r.dl) := by
  obtain ⟨slots, al, dl⟩ := r
  dsimp only at *
  obtain ⟨i0, hi, hz0, hz1, hz2⟩ := info_parts Tryz.infoInt
  obtain ⟨na, hna⟩ : ∃ n, n = al.length := ⟨_, rfl⟩
  obtain ⟨n, hnd⟩ : ∃ n, n = dl.length := ⟨_, rfl⟩
  rw [← hna, ← hnd]
  rw [← hnd] at hl
  have HN := Lib.hid hnd
  have HNum := Lib.hid hn
  have HD := Lib.hid (fun W (h' : Below w.heap.size w W) => (hD.below h').more h'.size)
  obtain ⟨B, hB⟩ : ∃ B, B = w.heap.size + 1 := ⟨_, rfl⟩
  have HB := Lib.hid hB
  have HS := Lib.hid (OwnsGr.made (w.alloc (.cells #[.int .i64 slots, .slice A na ca, .slice D n cd] 35)))
  have hs1 : (w.alloc (.cells #[.int .i64 slots, .slice A na ca, .slice D n cd] 35)).heap.size = B := by rw [hB]; simp
  rw [hs1] at HS
  clear hna hnd hn hD
  have hmm := @run_makeMap Tryz.prog
  go_enter Tryz.func103, Tryz.ntmps103
  go_wp2_with fail
  rw [← hB]
  clear hB hs1
  go_loopw [12] (fun i wr => ∃ (k : Nat), k ≤ n ∧ i = .int .i64 k ∧ Below w.heap.size w wr ∧ B + 1 ≤ wr.heap.size ∧ Hid (OwnsGr wr (B + 1) B k (slotsOf (dl.take k)))) (fun i _ => n - (intOf i).toNat)
  case atStart => exact ⟨0, Nat.zero_le _, rfl, by repeat (first | exact Below.refl _ _ | refine Below.alloc ?_ (by simp) _), by have := HB.out; simp; omega, HS⟩
  case round =>
    clear HS
    obtain ⟨k, hk, rfl, hb, hBw, HO⟩ := hrel
    by_cases hlt : k < n
    · obtain ⟨a, ha⟩ := get_of_lt (l := dl) (k := k) (by rw [← HN.out]; exact hlt)
      obtain ⟨b, off, rfl, hbB, hcs⟩ := (HD.out _ hb).at_ ha
      obtain ⟨c0, c1, c2⟩ := hcs k a ha
      obtain ⟨n1, n2, n3⟩ := HNum.out a (List.mem_of_getElem? ha)
      have HSt := Lib.hid (fun x y => slots_succ ha x y)
      clear hcs ha
      go_upto_region 6 with fail
      clear c0 c1 c2
      generalize hW1 : World.alloc _ _ = W1
      have b1 : Blk W1 wr.heap.size 137 [.int .i64 a.fl, .int .i64 a.fr, .int .i64 a.sl] := by rw [← hW1]; exact Blk.alloc (Blk.new2 _ [.int .i64 a.fl, .int .i64 a.fr, .int .i64 a.sl] rfl) _
      have b2 : Blk W1 (wr.heap.size + 1) 150 [.int .i64 a.fl, .int .i64 a.fr] := by rw [← hW1]; exact Blk.new2 _ [.int .i64 a.fl, .int .i64 a.fr] (by simp)
      have hbw : Below wr.heap.size wr W1 := by rw [← hW1]; exact ((Below.refl _ _).alloc (Nat.le_refl _) _).alloc (by simp) _
      have hb1 : Below w.heap.size w W1 := hb.trans (hbw.mono hb.size)
      have HO1 := Lib.hid (HO.out.below hbw)
      have hBw1 : B + 1 ≤ W1.heap.size := Nat.le_trans hBw hbw.size
      clear hW1 HO
      obtain ⟨W2, hW2⟩ : ∃ W2, W2 = W1.alloc (.cells #[.int .i64 a.sl] 3) := ⟨_, rfl⟩
      have hbw2 : Below W1.heap.size W1 W2 := by rw [hW2]; exact (Below.refl _ _).alloc (Nat.le_refl _) _
      have b3 : Blk W2 W1.heap.size 3 [.int .i64 a.sl] := by rw [hW2]; exact Blk.new2 _ [.int .i64 a.sl] rfl
      have hb2 : Below w.heap.size w W2 := hb1.trans (hbw2.mono hb1.size)
      have hBw2 : B + 1 ≤ W2.heap.size := Nat.le_trans hBw1 hbw2.size
      obtain ⟨v, w1, st, hent, hg1, hs1, hoi, hzl, hback⟩ := (HO1.out.below hbw2).entry (by unfold maxLen; omega) n1 n2
      have b4 : Blk w1 W1.heap.size 3 [.int .i64 a.sl] := (hg1.block _ b3.lt (fun e => by injection e; omega)).trans b3
      have hb4 : Below w.heap.size w w1 := hb2.grown hg1 hb2.size (fun j hj => by injection hj with hj; have := HB.out; omega)
      have HOI := Lib.hid hoi
      have HBack := Lib.hid hback
      have HB4 := Lib.hid hb4
      have HB4' := Lib.hid b4
      have HZ := Lib.hid hzl
      have hs1' : Hid (w1.heap.size = W2.heap.size) := Lib.hid hs1
      have c1 := b1.row
      have c2 := b2.row
      unfold Row at c1 c2
      clear hoi hback hb4 b4 b3 hzl hs1 hg1 hbw hbw2 HO1 hb2
      subst hW2
      go_wp2_with (at_builtin; refine wpList_append_own_at _ rfl (.tmp 23) (.tmp 26) 24 rfl (B + 1) 3 i0 (.int .i64 0) 1 8 Tryz.underlying24 hi hz0 hz1 hz2 rfl (by decide) v _ _ rfl HOI.out.1 ⟨W1.heap.size, 0, none⟩ 1 1 [.int .i64 a.sl] rfl rfl ?e0 ?e1 ?e2 ?e3 ?e4 ?_)
      case e0 => exact HB4'.out.news2
      case e1 => intro u hu; simp only [List.mem_cons, List.not_mem_nil, or_false] at hu; subst hu; rfl
      case e2 => have := HZ.out; unfold maxLen; omega
      case e3 => have := HZ.out; omega
      case e4 => have := hs1'.out; omega
      intro v' w2 hown' hgrow hnil hloc
      have hint : w2.ownsInts (B + 1) 3 .i64 v' (slotsOf (dl.take k) a.fl a.fr ++ [a.sl]) := ⟨by rw [List.length_append, List.map_append]; exact hown', fun z hz => by
        rcases List.mem_append.1 hz with h | h
        · exact HOI.out.2 z h
        · rw [List.mem_singleton.1 h]; exact n3⟩
      obtain ⟨w3, hsto, ho3, hg3⟩ := HBack.out w2 v' _ hgrow hint (by simp) (by rw [List.length_append]; have := HZ.out; simpa using this) (hloc.imp id (fun h => ⟨_, h, by rw [hs1'.out]; exact Nat.le_refl _⟩))
      have hb5 : Below w.heap.size w w2 := HB4.out.grown hgrow HB4.out.size (fun j hj => by have h1 := (HOI.out.1.lt j hj).1; have := HB.out; omega)
      have hb6 : Below w.heap.size w w3 := hb5.grown hg3 hb5.size (fun j hj => by injection hj with hj; have := HB.out; omega)
      have HB6 : Hid (B + 1 ≤ w3.heap.size) := Lib.hid (by have h1 := hgrow.size; have h2 := hg3.size; have := hs1'.out; omega)
      have HO3 : Hid (OwnsGr w3 (B + 1) B (k + 1) (slotsOf (dl.take (k + 1)))) := Lib.hid (by rw [show slotsOf (dl.take (k + 1)) = _ from funext fun x => funext fun y => HSt.out x y]; exact ho3)
      have hsto' : (Instr.entryStore 145 (.map (some B)) (.int .i64 (st : Int)) v').run Tryz.prog w2 = .ok () w3 := hsto
      clear hint hown' hgrow hnil hloc ho3 hg3 HBack HOI HB4 HB4' HZ HSt hb5 c1 c2 b1 b2 hsto
      go_wp2_with fail
      go_roundw
      case rel => exact ⟨k + 1, by omega, by go_num, hb6, HB6.out, HO3⟩
      case measure => simp [intOf]; omega
    · have hf : Hid (OwnsGr wr (B + 1) B n (slotsOf dl)) := Lib.hid (by
        have h1 : k = n := by omega
        subst h1
        have := HO.out
        rwa [List.take_of_length_le (by rw [← HN.out]; exact Nat.le_refl _)] at this)
      go_wp2_with fail
      go_ret
      exact ⟨hb, B, rfl, by have := HB.out; omega, hf.out⟩
end Go.Proofs.YticnppnejafhdaaGreatDoor
/- Walk: Late of package monitor. -/
namespace Go.Proofs.YticnppnejafhdaaGreatDoor
open Go.RowKit
open Nd Rc Mo

def Mo.Lt.row (x : Lt) : List Value := [.int .i64 x.fl, .int .i64 x.fr, .int .i64 x.sl]
theorem Tryz.infoL : (Tryz.prog.info? 39).map (fun i => (i.zero, i.size, i.bytes)) = some (some (.agg #[.int .i64 0, .int .i64 0, .int .i64 0]), 3, 24) := by kernel_rfl
theorem lateN_len (f : Fl) (dl : List Dlv) (n : Nat) : (lateN f dl n).length ≤ 1 := by unfold lateN; split <;> simp
theorem range_len (f : Fl) (dl : List Dlv) : ∀ n : Nat, ((List.range n).flatMap (lateN f dl)).length ≤ n
  | 0 => by simp
  | n + 1 => by
    rw [List.range_succ, List.flatMap_append, List.length_append]
    have := range_len f dl n
    have h := lateN_len f dl n
    simp only [List.flatMap_cons, List.flatMap_nil, List.append_nil]
    omega
theorem late_len {r : Rec} (hs : r.slots ≤ 4096) : ∀ (l : List Fl), (∀ f ∈ l, fault f = 0) → (l.flatMap (fun f => lateF f r)).length ≤ l.length * 4096
  | [], _ => by simp
  | f :: l, h => by
    rw [List.flatMap_cons, List.length_append, List.length_cons]
    have h1 := late_len hs l (fun g hg => h g (List.mem_cons_of_mem _ hg))
    have h2 := range_len f r.dl (complete f r.slots).toNat
    have h3 := complete_bounds (h f List.mem_cons_self) hs
    have : (lateF f r).length ≤ 4096 := by unfold lateF; omega
    omega
theorem take_snoc {α : Type} {l : List α} {k : Nat} {a : α} (h : l[k]? = some a) : l.take (k + 1) = l.take k ++ [a] := by
  obtain ⟨hk, rfl⟩ := List.getElem?_eq_some_iff.1 h
  rw [List.take_succ_eq_append_getElem hk]
/-- What has been found behind n frames of flow k. -/
def lateQ (fs : List Fl) (r : Rec) (k : Nat) (f : Fl) (n : Nat) : List Lt := (fs.take k).flatMap (fun f => lateF f r) ++ (List.range n).flatMap (lateN f r.dl)
theorem lateQ_succ (fs : List Fl) (r : Rec) (k : Nat) (f : Fl) (n : Nat) : lateQ fs r k f (n + 1) = lateQ fs r k f n ++ lateN f r.dl n := by
  unfold lateQ
  rw [List.range_succ, List.flatMap_append, ← List.append_assoc]
  simp
theorem lateQ_end {fs : List Fl} {r : Rec} {k : Nat} {f : Fl} (h : fs[k]? = some f) : lateQ fs r k f (complete f r.slots).toNat = (fs.take (k + 1)).flatMap (fun f => lateF f r) := by
  unfold lateQ
  rw [take_snoc h, List.flatMap_append]
  simp [lateF]
theorem num_small {a : Int} (h : 0 ≤ a ∧ a ≤ 1000000000) : Num64 a := num64_of (by omega)

set_option maxRecDepth 100000 in
set_option maxHeartbeats 4000000 in
theorem late_any (fs : List Fl) (r : Rec) (F A D : Option Addr) (cf ca cd : Nat) (w : World) (hF : Lies w w.heap.size 6 F (fs.map Fl.row)) (hf : fs.length ≤ 1000000) (hA : LiesA w w.heap.size A r.al) (hD : LiesD w w.heap.size D r.dl) (hla : r.al.length ≤ 1000000) (hld : r.dl.length ≤ 1000000) :
    Calls Tryz.prog 67 #[.slice F fs.length cf, .agg #[.int .i64 r.slots, .slice A r.al.length ca, .slice D r.dl.length cd]] w fun e w' => Below w.heap.size w w' ∧ ∃ v, e = .returned (.tuple #[v, .int .i64 (late fs r).2]) ∧ w'.ownsRow w.heap.size 39 3 v (late fs r).1.length ((late fs r).1.flatMap Lt.row) := by
  obtain ⟨i0, hi, hz0, hz1, hz2⟩ := info_parts Tryz.infoL
  obtain ⟨N, hN⟩ : ∃ N, N = w.heap.size := ⟨_, rfl⟩
  obtain ⟨na, hna⟩ : ∃ n, n = r.al.length := ⟨_, rfl⟩
  obtain ⟨nd, hnd⟩ : ∃ n, n = r.dl.length := ⟨_, rfl⟩
  obtain ⟨m, hm⟩ : ∃ m, m = fs.length := ⟨_, rfl⟩
  obtain ⟨slots, hsl⟩ : ∃ s, s = r.slots := ⟨_, rfl⟩
  obtain ⟨W1, hW1⟩ : ∃ W1, W1 = w.alloc (.cells #[.int .i64 slots, .slice A na ca, .slice D nd cd] 35) := ⟨_, rfl⟩
  have hb1 : Below N w W1 := by rw [hW1, hN]; exact (Below.refl _ _).alloc (Nat.le_refl _) _
  have bR : Blk W1 N 35 [.int .i64 slots, .slice A na ca, .slice D nd cd] := by rw [hW1]; exact Blk.new2 _ [.int .i64 slots, .slice A na ca, .slice D nd cd] hN
  have HW := Lib.hid (fun W (h' : Below W1.heap.size W1 W) => (show Below w.heap.size w W ∧ Row W N [.int .i64 slots, .slice A na ca, .slice D nd cd] from ⟨by rw [← hN]; exact hb1.trans (h'.mono (by have := bR.lt; omega)), (bR.below h' bR.lt).row⟩))
  have HF := Lib.hid (fun W (h' : Below W1.heap.size W1 W) => Lies.later hF (HW.out W h').1)
  have HRt := Lib.hid (right_any fs r F A D cf ca cd W1 (HF.out _ (Below.refl _ _)) hf ((hA.below (HW.out _ (Below.refl _ _)).1).more (HW.out _ (Below.refl _ _)).1.size) ((hD.below (HW.out _ (Below.refl _ _)).1).more (HW.out _ (Below.refl _ _)).1.size) hla hld)
  have HAr := Lib.hid (fun (hg : good r = true) W (h' : Below W1.heap.size W1 W) => arrivals_any r A D ca cd W ((hD.below (HW.out W h').1).more (HW.out W h').1.size) hld (fun d hd => by
    obtain ⟨a1, a2, a3, a4, a5, a6⟩ := good_dlv hg hd
    have := (good_slots hg).2
    exact ⟨num_small (by omega), num_small (by omega), num_small (by omega)⟩))
  rw [← hna, ← hnd, ← hsl] at HRt HAr ⊢
  rw [← hm] at HRt ⊢
  rw [← hnd] at hld
  have HM := Lib.hid hm
  have HSl := Lib.hid hsl
  have HNd := Lib.hid hnd
  have HW1 := Lib.hid hW1
  have HN := Lib.hid hN
  have hNlt : N < W1.heap.size := bR.lt
  clear hF hA hD hna hnd hm hsl hb1 bR hN hf hla
  have r1 := (HW.out _ (Below.refl _ _)).2
  unfold Row at r1
  subst hW1
  go_enter Tryz.func67, Tryz.ntmps67
  clear r1
  go_wp2_with fail
  rw [← HN.out]
  refine HRt.out.mono ?_
  rintro e w2 ⟨rfl, hb2⟩
  clear HRt
  cases hr : right fs r with
  | false =>
    have hl : Hid (late fs r = ([], 1)) := Lib.hid (by unfold late; rw [hr]; rfl)
    clear hr HAr
    go_wp2_with fail
    go_ret2
    exact ⟨(HW.out _ hb2).1, _, by rw [hl.out]; rfl, by rw [hl.out]; exact World.ownsRow_nil _ _ _ _⟩
  | true =>
    have hl : Hid (late fs r = (fs.flatMap (fun f => lateF f r), 0)) := Lib.hid (by unfold late; rw [if_pos hr])
    obtain ⟨hc, hg⟩ := right_inv hr
    obtain ⟨hfa, _, hm16⟩ := chkF_ok hc
    obtain ⟨hs0, hs1⟩ := good_slots hg
    have HFa := Lib.hid hfa
    have HAr := Lib.hid (HAr.out hg _ hb2)
    rw [← HSl.out] at hs0 hs1
    have hm16' : m ≤ 16 := by rw [HM.out]; exact hm16
    have r2 := (HW.out _ hb2).2
    unfold Row at r2
    clear hc hg hfa hr hm16
    go_wp2_with fail
    refine HAr.out.mono ?_
    rintro e w3 ⟨hb3, b, rfl, hbb, hO⟩
    clear HAr r2
    have hB3 : Below (World.heap (w.alloc (.cells #[.int .i64 slots, .slice A na ca, .slice D nd cd] 35))).size (w.alloc (.cells #[.int .i64 slots, .slice A na ca, .slice D nd cd] 35)) w3 := hb2.trans (hb3.mono hb2.size)
    have HG := Lib.hid (fun W (h' : Below w3.heap.size w3 W) => (show OwnsGr W (b + 1) b nd (slotsOf r.dl) from hO.below h'))
    have HX := Lib.hid (fun W (h' : Below w3.heap.size w3 W) => (show Below w.heap.size w W ∧ Row W N [.int .i64 slots, .slice A na ca, .slice D nd cd] ∧ Lies W W.heap.size 6 F (fs.map Fl.row) ∧ w3.heap.size ≤ W.heap.size from ⟨(HW.out _ (hB3.trans (h'.mono hB3.size))).1, (HW.out _ (hB3.trans (h'.mono hB3.size))).2, HF.out _ (hB3.trans (h'.mono hB3.size)), h'.size⟩))
    have hMN : N < w3.heap.size := Nat.lt_of_lt_of_le hNlt hB3.size
    have hbM : b < w3.heap.size := by
      obtain ⟨D0, h1, _⟩ := hO
      obtain ⟨es, clock, hb0, _⟩ := h1
      exact (Array.getElem?_eq_some_iff.1 hb0).1
    clear hO hb3 hb2 HW HF hbb
    go_wp2_with fail
    go_loopw [7, 21] (fun s7 i wr => ∃ (k : Nat) (v : Value), v = s7 ∧ k ≤ m ∧ i = .int .i64 k ∧ Below w3.heap.size w3 wr ∧ Hid (wr.ownsRow w3.heap.size 39 3 v ((fs.take k).flatMap (fun f => lateF f r)).length (((fs.take k).flatMap (fun f => lateF f r)).flatMap Lt.row))) (fun _ i _ => m - (intOf i).toNat)
    case atStart => exact ⟨0, _, rfl, by omega, rfl, Below.refl _ _, Lib.hid (World.ownsRow_nil _ _ _ _)⟩
    case round =>
      obtain ⟨k, v, rfl, hk, rfl, hb, HO⟩ := hrel
      by_cases hlt : k < m
      · obtain ⟨f, hfk⟩ := get_of_lt (l := fs) (k := k) (by rw [← HM.out]; exact hlt)
        have hff := HFa.out f (List.mem_of_getElem? hfk)
        obtain ⟨fb, foff, rfl, hfB, hcs⟩ := (HX.out _ hb).2.2.1.at_ hfk
        have c0 := hcs k f hfk 0 _ rfl
        have c1 := hcs k f hfk 1 _ rfl
        have c2 := hcs k f hfk 2 _ rfl
        have c3 := hcs k f hfk 3 _ rfl
        have c4 := hcs k f hfk 4 _ rfl
        have c5 := hcs k f hfk 5 _ rfl
        simp only [Nat.add_zero] at c0 c1 c2 c3 c4 c5
        have HFk := Lib.hid hfk
        clear hcs
        go_upto_region 8 with fail
        clear c0 c1 c2 c3 c4 c5 hfk
        obtain ⟨X, hX⟩ : ∃ X, X = wr.heap.size := ⟨_, rfl⟩
        generalize hWa : World.alloc _ _ = Wa
        have bX : Blk Wa X 28 [.int .i64 f.id, .int .i64 f.fr, .int .i64 f.tn, .int .i64 f.pe, .int .i64 f.ph, .int .i64 f.dl] := by rw [← hWa]; exact Blk.new2 _ [.int .i64 f.id, .int .i64 f.fr, .int .i64 f.tn, .int .i64 f.pe, .int .i64 f.ph, .int .i64 f.dl] hX
        have hba : Below w3.heap.size w3 Wa := by rw [← hWa]; exact hb.alloc hb.size _
        have HOa : Hid (Wa.ownsRow w3.heap.size 39 3 v ((fs.take k).flatMap (fun f => lateF f r)).length (((fs.take k).flatMap (fun f => lateF f r)).flatMap Lt.row)) := Lib.hid (by rw [← hWa]; exact HO.out.alloc _)
        rw [← hX]
        have hXM : w3.heap.size ≤ X := by rw [hX]; exact hb.size
        clear hWa hX HO hb
        have Con := Lib.hid (complete_any f slots (.slice A na ca) (.slice D nd cd) hff hs0 hs1 rfl rfl Wa)
        have hcb := complete_bounds hff hs1
        obtain ⟨cn, hcn⟩ : ∃ cn : Nat, complete f slots = (cn : Int) := ⟨(complete f slots).toNat, by omega⟩
        have HCN : Hid (cn = (complete f r.slots).toNat) := Lib.hid (by rw [← HSl.out, hcn]; rfl)
        have hcn4 : cn ≤ 4096 := by omega
        rw [hcn] at Con
        have rX := bX.row
        have r3 := (HX.out _ hba).2.1
        unfold Row at rX r3
        clear hcb hcn
        go_wp2_with fail
        refine Con.out.mono ?_
        rintro e w4 ⟨rfl, hb4⟩
        have hB4 : Below w3.heap.size w3 w4 := hba.trans (hb4.mono hba.size)
        have HX4 : Hid (Blk w4 X 28 [.int .i64 f.id, .int .i64 f.fr, .int .i64 f.tn, .int .i64 f.pe, .int .i64 f.ph, .int .i64 f.dl]) := Lib.hid (bX.below hb4 bX.lt)
        have HO4 : Hid (w4.ownsRow w3.heap.size 39 3 v (lateQ fs r k f 0).length ((lateQ fs r k f 0).flatMap Lt.row)) := Lib.hid (by have := own_below HOa.out hb4 (Nat.le_refl _); unfold lateQ; simpa using this)
        have HQl : Hid (∀ n, n ≤ 4096 → (lateQ fs r k f n).length ≤ 100000) := Lib.hid (fun n hn => by
          unfold lateQ
          rw [List.length_append]
          have h1 := late_len (r := r) (by rw [← HSl.out]; exact hs1) (fs.take k) (fun g hg => HFa.out g (List.mem_of_mem_take hg))
          have h2 := range_len f r.dl n
          have h3 := List.length_take_le k fs
          rw [List.length_take] at h1
          have h4 : min k fs.length ≤ 16 := by omega
          omega)
        clear Con rX r3 bX hba HOa hb4
        go_wp2_with fail
        go_loopw [7, 28] (fun s7 j wr => ∃ (n : Nat) (v : Value), v = s7 ∧ n ≤ cn ∧ j = .int .i64 n ∧ Below w3.heap.size w3 wr ∧ Hid (Blk wr X 28 [.int .i64 f.id, .int .i64 f.fr, .int .i64 f.tn, .int .i64 f.pe, .int .i64 f.ph, .int .i64 f.dl]) ∧ Hid (wr.ownsRow w3.heap.size 39 3 v (lateQ fs r k f n).length ((lateQ fs r k f n).flatMap Lt.row))) (fun _ j _ => cn - (intOf j).toNat)
        case atStart => exact ⟨0, _, rfl, by omega, rfl, hB4, HX4, HO4⟩
        case round =>
          clear HX4 HO4 hB4
          obtain ⟨n, v2, rfl, hn, rfl, hb, HXb, HO⟩ := hrel
          by_cases hlt2 : n < cn
          · obtain ⟨wd, hwd⟩ : ∃ wd, wd = wr.drew := ⟨_, rfl⟩
            have hbd : Below wr.heap.size wr wd := by rw [hwd]; exact (Below.refl _ _).drew
            obtain ⟨u5, hlook', hoi⟩ := (HG.out wd (hb.trans (hbd.mono hb.size))).look (by unfold maxLen; omega) (a := f.id) (c := (n : Int)) (num_small (by obtain ⟨h1, _⟩ := fault_zero hff; omega)) (num_small (by omega))
            obtain ⟨A5, c5, hu5⟩ := own_form2 hoi.1
            have hl5 : (slotsOf r.dl f.id (n : Int)).length ≤ 1000000 := by
              have h1 : (slotsOf r.dl f.id (n : Int)).length ≤ r.dl.length := by unfold slotsOf; rw [List.length_map]; exact List.length_filter_le _ _
              have := HNd.out
              omega
            have hI5 : LiesI wd wd.heap.size A5 (slotsOf r.dl f.id (n : Int)) := by
              have h1 := hoi.1
              rw [hu5] at h1
              exact own_I (by rw [flatI_map]; exact h1)
            have Con := Lib.hid (arrival_any f n (slotsOf r.dl f.id (n : Int)) A5 c5 wd hff (by omega) (by omega) hI5 hl5)
            rw [hu5] at hlook'
            obtain ⟨T5, hT5⟩ : ∃ T5, T5 = arrival f n (slotsOf r.dl f.id (n : Int)) := ⟨_, rfl⟩
            rw [← hT5] at Con
            have HT5 : Hid (lateN f r.dl n = if T5.2 = true then [] else [⟨f.id, n, T5.1⟩]) := Lib.hid (by unfold lateN; rw [← hT5])
            obtain ⟨q5, hq5⟩ : ∃ q, q = (slotsOf r.dl f.id (n : Int)).length := ⟨_, rfl⟩
            rw [← hq5] at Con hlook'
            have HXd : Hid (Blk wd X 28 [.int .i64 f.id, .int .i64 f.fr, .int .i64 f.tn, .int .i64 f.pe, .int .i64 f.ph, .int .i64 f.dl]) := Lib.hid (by rw [hwd]; exact HXb.out.drew)
            have hXl : X < wr.heap.size := HXb.out.lt
            have HDZ : Hid (wr.heap.size = wd.heap.size) := Lib.hid (by rw [hwd]; rfl)
            have hBd : Below w3.heap.size w3 wd := hb.trans (hbd.mono hb.size)
            have HOd : Hid (wd.ownsRow w3.heap.size 39 3 v2 (lateQ fs r k f n).length ((lateQ fs r k f n).flatMap Lt.row)) := Lib.hid (own_below HO.out hbd (Nat.le_refl _))
            have hn6 : (n : Int) ≤ 1000000 := by omega
            clear hoi hu5 hI5 hl5 hT5 hq5 hbd
            go_upto_region 11 with fail
            refine wp_region_rough (wr.heap.size) 14 [] #[false, false, false, false, false, false, false, false, false, false, false, false, false, false] (by kernel_rfl) rfl rfl ?_
            rw [← hwd]
            clear hwd
            have y0 : ∀ (x' : ExtW wr.heap.size wd), x'.val.cell? ⟨X, 0, none⟩ = some (.int .i64 f.id) := fun x' => (x'.cell _ hXl).trans (HXd.out.row 0)
            have y1 : ∀ (x' : ExtW wr.heap.size wd), x'.val.cell? ⟨X, 1, none⟩ = some (.int .i64 f.fr) := fun x' => (x'.cell _ hXl).trans (HXd.out.row 1)
            have y2 : ∀ (x' : ExtW wr.heap.size wd), x'.val.cell? ⟨X, 2, none⟩ = some (.int .i64 f.tn) := fun x' => (x'.cell _ hXl).trans (HXd.out.row 2)
            have y3 : ∀ (x' : ExtW wr.heap.size wd), x'.val.cell? ⟨X, 3, none⟩ = some (.int .i64 f.pe) := fun x' => (x'.cell _ hXl).trans (HXd.out.row 3)
            have y4 : ∀ (x' : ExtW wr.heap.size wd), x'.val.cell? ⟨X, 4, none⟩ = some (.int .i64 f.ph) := fun x' => (x'.cell _ hXl).trans (HXd.out.row 4)
            have y5 : ∀ (x' : ExtW wr.heap.size wd), x'.val.cell? ⟨X, 5, none⟩ = some (.int .i64 f.dl) := fun x' => (x'.cell _ hXl).trans (HXd.out.row 5)
            refine anyR_take 0 _ (nth0) rfl (by kernel_rfl) (by kernel_rfl) (by kernel_rfl) (by kernel_rfl) (l' := #[true, false, false, false, false, false, false, false, false, false, false, false, false, false]) rfl rfl ?_; intro K hK; go_big_quiet_op; go_big_quiet_on
            refine anyR_take0 1 _ (nthS (nth0)) rfl (by kernel_rfl) (by kernel_rfl) (by kernel_rfl) (l' := #[true, true, false, false, false, false, false, false, false, false, false, false, false, false]) rfl rfl ?_; intro K hK; go_big_quiet_op; go_big_quiet_on
            refine anyR_take0 2 _ (nthS (nthS (nth0))) rfl (by kernel_rfl) (by kernel_rfl) (by kernel_rfl) (l' := #[true, true, true, false, false, false, false, false, false, false, false, false, false, false]) rfl rfl ?_; intro K hK; go_big_quiet_op; go_big_quiet_on
            refine anyR_take0 3 _ (nthS (nthS (nthS (nth0)))) rfl (by kernel_rfl) (by kernel_rfl) (by kernel_rfl) (l' := #[true, true, true, true, false, false, false, false, false, false, false, false, false, false]) rfl rfl ?_; intro K hK; go_big_quiet_op; go_big_quiet_on
            refine anyR_take 4 _ (nthS (nthS (nthS (nthS (nth0))))) rfl (by kernel_rfl) (by kernel_rfl) (by kernel_rfl) (by kernel_rfl) (l' := #[true, true, true, true, true, false, false, false, false, false, false, false, false, false]) rfl rfl ?_; intro K hK; go_big_quiet_op; go_big_quiet_on
            refine anyR_take0 5 _ (nthS (nthS (nthS (nthS (nthS (nth0)))))) rfl (by kernel_rfl) (by kernel_rfl) (by kernel_rfl) (l' := #[true, true, true, true, true, true, false, false, false, false, false, false, false, false]) rfl rfl ?_; intro K hK; go_big_quiet_op; go_big_quiet_on
            refine anyR_take0 6 _ (nthS (nthS (nthS (nthS (nthS (nthS (nth0))))))) rfl (by kernel_rfl) (by kernel_rfl) (by kernel_rfl) (l' := #[true, true, true, true, true, true, true, false, false, false, false, false, false, false]) rfl rfl ?_; intro K hK; go_big_quiet_op; go_big_quiet_on
            refine anyR_one 7 _ (nthS (nthS (nthS (nthS (nthS (nthS (nthS (nth0)))))))) (by kernel_rfl) (l' := #[true, true, true, true, true, true, true, true, false, false, false, false, false, false]) rfl ?_
            clear y0 y1 y2 y3 y4 y5
            go_wp2_with fail
            clear hlook'
            refine OneR_mk (Below.refl _ _) ?_
            refine anyR_one 8 _ (nthS (nthS (nthS (nthS (nthS (nthS (nthS (nthS (nth0))))))))) (by kernel_rfl) (l' := #[true, true, true, true, true, true, true, true, true, false, false, false, false, false]) rfl ?_
            go_wp2_with fail
            refine Con.out.mono ?_
            rintro e w5 ⟨rfl, hb5⟩
            clear Con
            go_wp2_with fail
            refine OneR_mk (hb5.mono (Nat.le_of_eq HDZ.out)) ?_
            refine anyR_take0 9 _ (nthS (nthS (nthS (nthS (nthS (nthS (nthS (nthS (nthS (nth0)))))))))) rfl (by kernel_rfl) (by kernel_rfl) (by kernel_rfl) (l' := #[true, true, true, true, true, true, true, true, true, true, false, false, false, false]) rfl rfl ?_; intro K hK; go_big_quiet_op; go_big_quiet_on
            refine anyR_take0 10 _ (nthS (nthS (nthS (nthS (nthS (nthS (nthS (nthS (nthS (nthS (nth0))))))))))) rfl (by kernel_rfl) (by kernel_rfl) (by kernel_rfl) (l' := #[true, true, true, true, true, true, true, true, true, true, true, false, false, false]) rfl rfl ?_; intro K hK; go_big_quiet_op; go_big_quiet_on
            refine anyR_take0 11 _ (nthS (nthS (nthS (nthS (nthS (nthS (nthS (nthS (nthS (nthS (nthS (nth0)))))))))))) rfl (by kernel_rfl) (by kernel_rfl) (by kernel_rfl) (l' := #[true, true, true, true, true, true, true, true, true, true, true, true, false, false]) rfl rfl ?_; intro K hK; go_big_quiet_op; go_big_quiet_on
            refine anyR_take0 12 _ (nthS (nthS (nthS (nthS (nthS (nthS (nthS (nthS (nthS (nthS (nthS (nthS (nth0))))))))))))) rfl (by kernel_rfl) (by kernel_rfl) (by kernel_rfl) (l' := #[true, true, true, true, true, true, true, true, true, true, true, true, true, false]) rfl rfl ?_; intro K hK; go_big_quiet_op; go_big_quiet_on
            refine anyR_take0 13 _ (nthS (nthS (nthS (nthS (nthS (nthS (nthS (nthS (nthS (nthS (nthS (nthS (nthS (nth0)))))))))))))) rfl (by kernel_rfl) (by kernel_rfl) (by kernel_rfl) (l' := #[true, true, true, true, true, true, true, true, true, true, true, true, true, true]) rfl rfl ?_; intro K hK; go_big_quiet_op; go_big_quiet_on
            refine anyR_end (by kernel_rfl) ?_
            have hB5 : Below w3.heap.size w3 w5 := hBd.trans (hb5.mono hBd.size)
            have HX5 : Hid (Blk w5 X 28 [.int .i64 f.id, .int .i64 f.fr, .int .i64 f.tn, .int .i64 f.pe, .int .i64 f.ph, .int .i64 f.dl]) := Lib.hid (HXd.out.below hb5 HXd.out.lt)
            have HO5 : Hid (w5.ownsRow w3.heap.size 39 3 v2 (lateQ fs r k f n).length ((lateQ fs r k f n).flatMap Lt.row)) := Lib.hid (own_below HOd.out hb5 (Nat.le_refl _))
            clear HOd HXd hBd HDZ hb5 HO HXb hb hXl hn6
            cases hok : T5.2 with
            | true =>
              have hQ : Hid (lateQ fs r k f (n + 1) = lateQ fs r k f n) := Lib.hid (by rw [lateQ_succ, HT5.out, hok]; simp)
              clear hok
              go_wp2_with fail
              go_roundw
              case rel => exact ⟨n + 1, v2, rfl, by omega, by go_num, hB5, HX5, Lib.hid (by rw [hQ.out]; exact HO5.out)⟩
              case measure => simp [intOf]; omega
            | false =>
              have hQ : Hid (lateQ fs r k f (n + 1) = lateQ fs r k f n ++ [⟨f.id, n, T5.1⟩]) := Lib.hid (by rw [lateQ_succ, HT5.out, hok]; simp)
              clear hok
              have hl5 := HQl.out n (by omega)
              have rX := HX5.out.row
              unfold Row at rX
              go_wp2_with (at_builtin; refine wpList_append_own_at _ rfl (.tmp 45) (.tmp 51) 117 rfl w3.heap.size 39 i0 (.agg #[.int .i64 0, .int .i64 0, .int .i64 0]) 3 24 Tryz.underlying117 hi hz0 hz1 hz2 rfl (by decide) v2 _ _ rfl (HO5.out.alloc _) ⟨w5.heap.size, 0, none⟩ 1 1 [.int .i64 f.id, .int .i64 (n : Int), .int .i64 T5.1] rfl rfl ?e0 ?e1 ?e2 ?e3 ?e4 ?_)
              case e0 => exact (Blk.new2 39 [.int .i64 f.id, .int .i64 (n : Int), .int .i64 T5.1] rfl).news2
              case e1 => intro u hu; simp only [List.mem_cons, List.not_mem_nil, or_false] at hu; rcases hu with rfl | rfl | rfl <;> rfl
              case e2 => unfold maxLen; omega
              case e3 => omega
              case e4 => simp; have := hB5.size; omega
              intro v7 w7 ho7 hg7 hnil7 hat7
              clear hnil7 hat7
              have hB6 : Below w3.heap.size w3 (w5.alloc (.cells #[.int .i64 f.id, .int .i64 (n : Int), .int .i64 T5.1] 39)) := hB5.alloc hB5.size _
              have hB7 : Below w3.heap.size w3 w7 := hB6.grown hg7 hB6.size (fun j hj => (HO5.out.lt j hj).1)
              have HX7 : Hid (Blk w7 X 28 [.int .i64 f.id, .int .i64 f.fr, .int .i64 f.tn, .int .i64 f.pe, .int .i64 f.ph, .int .i64 f.dl]) := Lib.hid ((hg7.block X (by have := HX5.out.lt; simp; omega) (fun e => by have := own_type2 HO5.out e HX5.out; revert this; decide)).trans (HX5.out.alloc _))
              have HO7 : Hid (w7.ownsRow w3.heap.size 39 3 v7 (lateQ fs r k f (n + 1)).length ((lateQ fs r k f (n + 1)).flatMap Lt.row)) := Lib.hid (by rw [hQ.out]; simpa [Mo.Lt.row] using ho7)
              obtain ⟨A7, c7, hv7⟩ := own_form2 ho7
              clear ho7 hg7 hB6 rX hl5
              subst hv7
              go_wp2_with fail
              go_roundw
              case rel => exact ⟨n + 1, _, rfl, by omega, by go_num, hB7, HX7, HO7⟩
              case measure => simp [intOf]; omega
          · have h1 : n = cn := by omega
            subst h1
            have HOn : Hid (wr.ownsRow w3.heap.size 39 3 v2 ((fs.take (k + 1)).flatMap (fun f => lateF f r)).length (((fs.take (k + 1)).flatMap (fun f => lateF f r)).flatMap Lt.row)) := Lib.hid (by rw [← lateQ_end HFk.out, ← HCN.out]; exact HO.out)
            clear HO HXb
            go_wp2_with fail
            go_roundw
            case rel => exact ⟨k + 1, v2, rfl, by omega, by go_num, hb, HOn⟩
            case measure => simp [intOf]; omega
      · have h1 : k = m := by omega
        subst h1
        have hto : fs.take k = fs := List.take_of_length_le (by rw [← HM.out]; exact Nat.le_refl _)
        rw [hto] at HO
        obtain ⟨A7, c7, hv7⟩ := own_form2 HO.out
        subst hv7
        go_wp2_with fail
        go_ret2
        exact ⟨(HX.out _ hb).1, _, by rw [hl.out]; rfl, by rw [hl.out]; exact own_base HO.out (by have := HN.out; omega)⟩
end Go.Proofs.YticnppnejafhdaaGreatDoor
/- Walks: in, attempt, keys, less of the reference. -/
namespace Go.Proofs.YticnppnejafhdaaGreatDoor
open Go.RowKit
open Rc

theorem in_any (n lo hi : Int) (w : World) : Calls Tryz.prog 117 #[.int .i64 n, .int .i64 lo, .int .i64 hi] w fun e w' => e = .returned (.bool (inB n lo hi)) ∧ w = w' := by
  go_enter Tryz.func117, Tryz.ntmps117
  by_cases h : lo ≤ n
  · go_wp2
    go_ret
    simp [h, inB]
  · go_wp2
    go_ret
    simp [inB]; omega

set_option maxHeartbeats 1000000 in
theorem rattempt_any (slots : Int) (x1 x2 : Value) (a : Att) (w : World) (h0 : 0 ≤ slots) (h1 : slots ≤ 4096) : Calls Tryz.prog 118 #[.agg #[.int .i64 slots, x1, x2], .agg #[.int .i64 a.s, .int .i64 a.f, .int .i64 a.cs, .int .i64 a.co, .int .i64 a.cf, .int .i64 a.ct, .int .i64 a.cl, .int .i64 a.o]] w fun e w' => e = .returned (.bool (attR slots a)) ∧ Below w.heap.size w w' := by
  obtain ⟨s, f, cs, co, cf, ct, cl, o⟩ := a
  go_enter Tryz.func118, Tryz.ntmps118
  go_wp2_with (go_at_call 117; refine (in_any _ _ _ _).mono ?_; rintro e w' ⟨rfl, rfl⟩)
  all_goals
    go_ret
    exact ⟨ret_bool (by first | (simp [attR, *]; done) | (simp [attR, bne, *]; done)), by repeat (first | exact Below.refl _ _ | refine Below.alloc ?_ (by simp; try omega) _ )⟩

theorem keys_any (a : Att) (w : World) : Calls Tryz.prog 156 #[.agg #[.int .i64 a.s, .int .i64 a.f, .int .i64 a.cs, .int .i64 a.co, .int .i64 a.cf, .int .i64 a.ct, .int .i64 a.cl, .int .i64 a.o]] w fun e w' => e = .returned (.agg #[.int .i64 a.s, .int .i64 a.cs, .int .i64 a.co, .int .i64 a.cf, .int .i64 a.ct, .int .i64 a.cl]) ∧ Below w.heap.size w w' := by
  obtain ⟨s, f, cs, co, cf, ct, cl, o⟩ := a
  go_enter Tryz.func156, Tryz.ntmps156
  go_wp2
  exact bodyPost_ret (v := .agg #[.int .i64 s, .int .i64 cs, .int .i64 co, .int .i64 cf, .int .i64 ct, .int .i64 cl]) (by simp [results, Tryz.results156, go_sem]) rfl ⟨rfl, ((Below.refl _ _).alloc (Nat.le_refl _) _).alloc (by simp) _⟩

def fl50 : Nat → Option (Tmp × Obj)
  | 4 => some (5, .cells #[.int .i64 0, .int .i64 0, .int .i64 0, .int .i64 0, .int .i64 0, .int .i64 0] 190)
  | 5 => some (6, .cells #[.int .i64 0, .int .i64 0, .int .i64 0, .int .i64 0, .int .i64 0, .int .i64 0] 190)
  | _ => none
set_option maxRecDepth 100000 in
set_option maxHeartbeats 2000000 in
theorem less_any (x y : Att) (w : World) : Calls Tryz.prog 119 #[.agg #[.int .i64 x.s, .int .i64 x.f, .int .i64 x.cs, .int .i64 x.co, .int .i64 x.cf, .int .i64 x.ct, .int .i64 x.cl, .int .i64 x.o], .agg #[.int .i64 y.s, .int .i64 y.f, .int .i64 y.cs, .int .i64 y.co, .int .i64 y.cf, .int .i64 y.ct, .int .i64 y.cl, .int .i64 y.o]] w
    fun e w' => e = .returned (.bool (lessA x y)) ∧ Below w.heap.size w w' := by
  have kx := fun W => keys_any x W
  have ky := fun W => keys_any y W
  have Kx := Lib.hid kx
  have Ky := Lib.hid ky
  clear kx ky
  go_enter Tryz.func119, Tryz.ntmps119
  go_upto_region 1 with fail
  generalize hW1 : World.alloc _ _ = W1
  have hb1 : Below w.heap.size w W1 := by rw [← hW1]; exact ((Below.refl _ _).alloc (Nat.le_refl _) _).alloc (by simp) _
  have r2 : Row W1 w.heap.size [.int .i64 x.s, .int .i64 x.f, .int .i64 x.cs, .int .i64 x.co, .int .i64 x.cf, .int .i64 x.ct, .int .i64 x.cl, .int .i64 x.o] := by rw [← hW1]; exact (Row.new _ _ _).alloc (by simp) _
  have r3 : Row W1 (w.heap.size + 1) [.int .i64 y.s, .int .i64 y.f, .int .i64 y.cs, .int .i64 y.co, .int .i64 y.cf, .int .i64 y.ct, .int .i64 y.cl, .int .i64 y.o] := by rw [← hW1]; exact Row.new' _ _ (by simp)
  have hz1 : w.heap.size + 2 ≤ W1.heap.size := by rw [← hW1]; simp
  clear hW1
  go_cut [5, 6] (fun s5 s6 W => ∃ g5 g6 : Nat, s5 = .pointer (some ⟨g5, 0, none⟩) ∧ s6 = .pointer (some ⟨g6, 0, none⟩) ∧ Below W1.heap.size W1 W ∧ Row W g5 [.int .i64 x.s, .int .i64 x.cs, .int .i64 x.co, .int .i64 x.cf, .int .i64 x.ct, .int .i64 x.cl] ∧ Row W g6 [.int .i64 y.s, .int .i64 y.cs, .int .i64 y.co, .int .i64 y.cf, .int .i64 y.ct, .int .i64 y.cl])
  case first =>
    have c2 := r2
    have c3 := r3
    unfold Row at c2 c3
    --GEN
    have x2 : ∀ (x : ExtW W1.heap.size W1.drew) (i : Nat), x.val.cell? ⟨w.heap.size, i, none⟩ = _ := (r2.drew).ext (by omega)
    have x3 : ∀ (x : ExtW W1.heap.size W1.drew) (i : Nat), x.val.cell? ⟨w.heap.size + 1, i, none⟩ = _ := (r3.drew).ext (by omega)
    refine wp_region_float (W1.heap.size) 6 #[false, false, false, false, false, false, false, false] fl50 (by kernel_rfl) (Nat.le_refl _) ⟨by kernel_rfl, by kernel_rfl, by kernel_rfl, by decide, fun i d ob h => by unfold fl50 at h; split at h <;> first | (cases h; exact ⟨_, rfl, rfl, rfl, fun _ _ => by kernel_rfl⟩) | cases h⟩ rfl ?_; intro Hok
    refine FS_plain 0 _ (nth0) rfl Hok (by kernel_rfl) (by kernel_rfl) (l' := #[true, false, false, false, false, false, false, false]) rfl rfl (by decide) rfl ?_; intro K hK; go_big_quiet_op; go_big_quiet_on
    refine FS_call 1 _ (nthS (nth0)) Hok (Nat.le_refl _) (by kernel_rfl) (by kernel_rfl) (l' := #[true, true, false, false, false, false, false, false]) rfl rfl (by decide) rfl (fun _ => by kernel_rfl) (fun x => Kx.out x.val) ?_; simp only [Act.put, List.setIfInBounds_toArray, List.set_cons_succ, List.set_cons_zero]
    refine FS_plain 2 _ (nthS (nthS (nth0))) rfl Hok (by kernel_rfl) (by kernel_rfl) (l' := #[true, true, true, false, false, false, false, false]) rfl rfl (by decide) rfl ?_; intro K hK; go_big_quiet_op; go_big_quiet_on
    refine FS_call 3 _ (nthS (nthS (nthS (nth0)))) Hok (Nat.le_refl _) (by kernel_rfl) (by kernel_rfl) (l' := #[true, true, true, true, false, false, false, false]) rfl rfl (by decide) rfl (fun _ => by kernel_rfl) (fun x => Ky.out x.val) ?_; simp only [Act.put, List.setIfInBounds_toArray, List.set_cons_succ, List.set_cons_zero]
    refine FS_float2 4 5 5 6 _ _ (by kernel_rfl) (l1 := #[true, true, true, true, true, false, false, false]) (l2 := #[true, true, true, true, false, true, false, false]) rfl rfl rfl rfl (by decide) (by decide) ?_ ?_
    · intro g5 hg5 _
      refine FS_float 5 6 _ (by kernel_rfl) (l' := #[true, true, true, true, true, true, false, false]) rfl rfl (by decide) ?_
      intro g6 hg6 hne
      refine FS_end (by kernel_rfl) ?_
      intro W hW hG
      simp only [Act.put, List.setIfInBounds_toArray, List.set_cons_succ, List.set_cons_zero, List.drop_succ_cons, List.drop_zero]
      have b5 : Blk W g5 190 [.int .i64 0, .int .i64 0, .int .i64 0, .int .i64 0, .int .i64 0, .int .i64 0] := hG _ _ (by simp)
      have b6 : Blk W g6 190 [.int .i64 0, .int .i64 0, .int .i64 0, .int .i64 0, .int .i64 0, .int .i64 0] := hG _ _ (by simp)
      have hne' : g5 ≠ g6 := by exact fun h => hne g5 _ (List.mem_cons_self) h.symm
      clear hne hG Hok x2 x3 c2 c3
      have e5 := b5.row
      have e6 := b6.row
      have q5 := b5.frozen
      have q6 := b6.frozen
      unfold Row at e5 e6
      have hne2 : ¬ g6 = g5 := fun h => hne' h.symm
      go_wp2_with fail
      go_meet
      exact ⟨g5, g6, rfl, rfl, (((((((((((((((Below.refl _ _).drew).trans hW).setCell (p := ⟨_, 0, none⟩) hg5 _).setCell (p := ⟨_, 1, none⟩) hg5 _).setCell (p := ⟨_, 2, none⟩) hg5 _).setCell (p := ⟨_, 3, none⟩) hg5 _).setCell (p := ⟨_, 4, none⟩) hg5 _).setCell (p := ⟨_, 5, none⟩) hg5 _).setCell (p := ⟨_, 0, none⟩) hg6 _).setCell (p := ⟨_, 1, none⟩) hg6 _).setCell (p := ⟨_, 2, none⟩) hg6 _).setCell (p := ⟨_, 3, none⟩) hg6 _).setCell (p := ⟨_, 4, none⟩) hg6 _).setCell (p := ⟨_, 5, none⟩) hg6 _), ((((((((((((b5.set_ 0 _).set_ 1 _).set_ 2 _).set_ 3 _).set_ 4 _).set_ 5 _).far (p := ⟨_, 0, none⟩) hne' _).far (p := ⟨_, 1, none⟩) hne' _).far (p := ⟨_, 2, none⟩) hne' _).far (p := ⟨_, 3, none⟩) hne' _).far (p := ⟨_, 4, none⟩) hne' _).far (p := ⟨_, 5, none⟩) hne' _).row, ((((((((((((b6.far (p := ⟨_, 0, none⟩) hne2 _).far (p := ⟨_, 1, none⟩) hne2 _).far (p := ⟨_, 2, none⟩) hne2 _).far (p := ⟨_, 3, none⟩) hne2 _).far (p := ⟨_, 4, none⟩) hne2 _).far (p := ⟨_, 5, none⟩) hne2 _).set_ 0 _).set_ 1 _).set_ 2 _).set_ 3 _).set_ 4 _).set_ 5 _).row⟩
    · intro g6 hg6 _
      refine FS_float 4 5 _ (by kernel_rfl) (l' := #[true, true, true, true, true, true, false, false]) rfl rfl (by decide) ?_
      intro g5 hg5 hne
      refine FS_end (by kernel_rfl) ?_
      intro W hW hG
      simp only [Act.put, List.setIfInBounds_toArray, List.set_cons_succ, List.set_cons_zero, List.drop_succ_cons, List.drop_zero]
      have b5 : Blk W g5 190 [.int .i64 0, .int .i64 0, .int .i64 0, .int .i64 0, .int .i64 0, .int .i64 0] := hG _ _ (by simp)
      have b6 : Blk W g6 190 [.int .i64 0, .int .i64 0, .int .i64 0, .int .i64 0, .int .i64 0, .int .i64 0] := hG _ _ (by simp)
      have hne' : g5 ≠ g6 := by exact hne g6 _ (List.mem_cons_self)
      clear hne hG Hok x2 x3 c2 c3
      have e5 := b5.row
      have e6 := b6.row
      have q5 := b5.frozen
      have q6 := b6.frozen
      unfold Row at e5 e6
      have hne2 : ¬ g6 = g5 := fun h => hne' h.symm
      go_wp2_with fail
      go_meet
      exact ⟨g5, g6, rfl, rfl, (((((((((((((((Below.refl _ _).drew).trans hW).setCell (p := ⟨_, 0, none⟩) hg5 _).setCell (p := ⟨_, 1, none⟩) hg5 _).setCell (p := ⟨_, 2, none⟩) hg5 _).setCell (p := ⟨_, 3, none⟩) hg5 _).setCell (p := ⟨_, 4, none⟩) hg5 _).setCell (p := ⟨_, 5, none⟩) hg5 _).setCell (p := ⟨_, 0, none⟩) hg6 _).setCell (p := ⟨_, 1, none⟩) hg6 _).setCell (p := ⟨_, 2, none⟩) hg6 _).setCell (p := ⟨_, 3, none⟩) hg6 _).setCell (p := ⟨_, 4, none⟩) hg6 _).setCell (p := ⟨_, 5, none⟩) hg6 _), ((((((((((((b5.set_ 0 _).set_ 1 _).set_ 2 _).set_ 3 _).set_ 4 _).set_ 5 _).far (p := ⟨_, 0, none⟩) hne' _).far (p := ⟨_, 1, none⟩) hne' _).far (p := ⟨_, 2, none⟩) hne' _).far (p := ⟨_, 3, none⟩) hne' _).far (p := ⟨_, 4, none⟩) hne' _).far (p := ⟨_, 5, none⟩) hne' _).row, ((((((((((((b6.far (p := ⟨_, 0, none⟩) hne2 _).far (p := ⟨_, 1, none⟩) hne2 _).far (p := ⟨_, 2, none⟩) hne2 _).far (p := ⟨_, 3, none⟩) hne2 _).far (p := ⟨_, 4, none⟩) hne2 _).far (p := ⟨_, 5, none⟩) hne2 _).set_ 0 _).set_ 1 _).set_ 2 _).set_ 3 _).set_ 4 _).set_ 5 _).row⟩
  case rest =>
    obtain ⟨g5, g6, rfl, rfl, hb2, r5, r6⟩ := hcut
    have q5 : ∀ k v, (keysA x)[k]? = some v → wc.cell? ⟨g5, k, none⟩ = some (.int .i64 v) := fun k v hv => (r5 k).trans (ints_get hv)
    have q6 : ∀ k v, (keysA y)[k]? = some v → wc.cell? ⟨g6, k, none⟩ = some (.int .i64 v) := fun k v hv => (r6 k).trans (ints_get hv)
    have Q5 := Lib.hid q5
    have Q6 := Lib.hid q6
    have hbw : Below w.heap.size w wc := hb1.trans (hb2.mono (by omega))
    clear q5 q6 r5 r6 r2 r3
    go_wp2_with fail
    go_loopw [4, 7] (fun s4 i wr => ∃ (k m : Nat), k ≤ 6 ∧ i = .int .i64 k ∧ s4 = .bool false ∧ wr = wc.drewN m ∧ Hid (lessA x y = lessL ((keysA x).drop k) ((keysA y).drop k))) (fun _ i _ => 6 - (intOf i).toNat)
    case atStart => exact ⟨0, 0, by omega, rfl, rfl, rfl, Lib.hid rfl⟩
    case round =>
      obtain ⟨k, m, hk, rfl, rfl, rfl, hst⟩ := hrel
      by_cases hlt : k < 6
      · obtain ⟨vx, hx⟩ := get_of_lt (l := keysA x) (k := k) (by simpa [keysA] using hlt)
        obtain ⟨vy, hy⟩ := get_of_lt (l := keysA y) (k := k) (by simpa [keysA] using hlt)
        have cx := Q5.out k vx hx
        have cy := Q6.out k vy hy
        have hst' := hst.out
        rw [drop_of_get hx, drop_of_get hy] at hst'
        simp only [lessL] at hst'
        have hki : (k : Int) < 6 := by omega
        by_cases he : vx = vy
        · rw [if_pos he] at hst'
          have hf := Lib.hid hst'
          clear hst' hx hy
          subst he
          go_wp2_with fail
          go_quiet (fail)
          go_wp2_with fail
          go_roundw
          case rel => exact ⟨k + 1, m + nq, by omega, by go_num, rfl, by simp, hf⟩
          case measure => simp [intOf]; omega
        · rw [if_neg he] at hst'
          have hf := Lib.hid hst'
          have hne : (vx == vy) = false := by simpa using he
          have hne2 : (vx != vy) = true := by simpa using he
          clear hst' hx hy
          go_wp2_with fail
          go_quiet (fail)
          go_wp2_with fail
          go_quiet (fail)
          go_wp2_with fail
          go_ret
          exact ⟨ret_bool (by rw [hf.out]), below_drewN (below_drewN (below_drewN hbw _) _) _⟩
      · have hk6 : k = 6 := by omega
        subst hk6
        go_wp2_with fail
        go_ret
        exact ⟨ret_bool (by rw [hst.out]; simp [keysA, lessL]), below_drewN hbw _⟩

end Go.Proofs.YticnppnejafhdaaGreatDoor
/- The reference's Check, in plain Lean. -/
namespace Go.Proofs.YticnppnejafhdaaGreatDoor
namespace Rc

def notLess (rev : List Att) (a : Att) : Bool :=
  match rev with
  | p :: _ => !lessA p a
  | [] => false
def sameFrom : List Att → Att → Bool
  | [], _ => false
  | p :: r, a => if p.s = a.s then (if p.cf = a.cf then true else sameFrom r a) else false
def attsRGo (slots : Int) : List Att → List Att → Bool
  | _, [] => true
  | rev, a :: l => if (!attR slots a || notLess rev a) = true then false else if sameFrom rev a = true then false else attsRGo slots (a :: rev) l
def dlvR (slots : Int) (d : Dlv) : Bool := inB d.sl 0 (slots - 1) && (inB d.fl 0 255 && inB d.fr 0 1048575)
def backD (p d : Dlv) : Bool := decide (d.sl < p.sl) || ((d.sl == p.sl) && decide (d.fl ≤ p.fl))
def backO (p : Option Dlv) (d : Dlv) : Bool :=
  match p with
  | some q => backD q d
  | none => false
def dlvsRGo (slots : Int) : Option Dlv → List Dlv → Bool
  | _, [] => true
  | p, d :: l => if dlvR slots d = false then false else if backO p d = true then false else dlvsRGo slots (some d) l
def goodR (r : Rec) : Bool := inB r.slots 0 4096 && (decide (r.al.length ≤ 65536) && (decide (r.dl.length ≤ 65536) && (attsRGo r.slots [] r.al && dlvsRGo r.slots none r.dl)))
def rcheckE (r : Rec) : Int := if goodR r then 0 else 1

/-! ### the two agree -/
theorem belowB_inB (n m : Int) : belowB n m = inB n 0 (m - 1) := by
  unfold belowB inB
  congr 1
  rw [Bool.eq_iff_iff]; simp; omega

theorem attB_attR (a : Att) (slots : Int) : attB a slots = attR slots a := by
  unfold attB attR
  simp only [belowB_inB]
  simp [inB]

theorem lessL_orI : ∀ (xs ys : List Int), xs.length = ys.length → lessL xs ys = decide (orI (List.zipWith cmpI xs ys) < 0)
  | [], [], _ => by simp [lessL, orI]
  | x :: xs, y :: ys, h => by
    have ih := lessL_orI xs ys (by simpa using h)
    simp only [lessL, List.zipWith_cons_cons, orI]
    by_cases hxy : x = y
    · subst hxy
      simp [cmpI, ih]
    · rw [if_neg hxy]
      unfold cmpI
      by_cases h1 : x < y
      · simp [h1]
      · have h2 : y < x := by omega
        simp [h1, h2]

theorem lessA_cmpA (p a : Att) : lessA p a = decide (cmpA p a < 0) := lessL_orI _ _ rfl

theorem prevBad_notLess (rev : List Att) (a : Att) : prevBad rev.head? a = notLess rev a := by
  cases rev with
  | nil => rfl
  | cons p r =>
    simp only [prevBad, notLess, List.head?_cons, lessA_cmpA]
    rw [Bool.eq_iff_iff]; simp

/-- the senders of the slot of the last attempt -/
def sendersOf : List Att → Int → List Int
  | [], _ => []
  | p :: r, s => if p.s = s then p.cf :: sendersOf r s else []

theorem sameFrom_senders : ∀ (rev : List Att) (a : Att), sameFrom rev a = decide (a.cf ∈ sendersOf rev a.s)
  | [], a => by simp [sameFrom, sendersOf]
  | p :: r, a => by
    have ih := sameFrom_senders r a
    rw [Bool.eq_iff_iff] at ih ⊢
    rw [decide_eq_true_iff] at ih ⊢
    by_cases h : p.s = a.s
    · have hs : sendersOf (p :: r) a.s = p.cf :: sendersOf r a.s := by simp [sendersOf, h]
      rw [hs]
      simp only [sameFrom, h, if_true, List.mem_cons]
      by_cases h2 : p.cf = a.cf
      · simp [h2]
      · have : ¬ a.cf = p.cf := fun e => h2 e.symm
        simp [h2, this, ih]
    · have hs : sendersOf (p :: r) a.s = [] := by simp [sendersOf, h]
      rw [hs]
      simp [sameFrom, h]

theorem attsGo_attsRGo (slots : Int) : ∀ (l rev : List Att) (S : List Int) (at_ : Int), S = sendersOf rev at_ → (∀ p, rev.head? = some p → p.s = at_) → (rev = [] → ∀ a, attB a slots = true → a.s ≠ at_) →
    attsGo slots rev.head? S at_ l = attsRGo slots rev l
  | [], _, _, _, _, _, _ => by simp [attsGo, attsRGo]
  | a :: l, rev, S, at_, hS, hat, hno => by
    simp only [attsGo, attsRGo]
    rw [prevBad_notLess, attB_attR]
    by_cases hb : (!attR slots a || notLess rev a) = true
    · rw [if_pos hb, if_pos hb]
    · rw [if_neg hb, if_neg hb]
      have hga : attB a slots = true := by
        rw [attB_attR]
        revert hb
        cases attR slots a <;> simp
      by_cases hs : a.s = at_
      · subst hs
        rw [if_pos rfl, sameFrom_senders, hS]
        by_cases hin : a.cf ∈ sendersOf rev a.s
        · simp [hin]
        · simp only [hin, if_false, decide_false, Bool.false_eq_true]
          exact attsGo_attsRGo slots l (a :: rev) _ _ (by simp [sendersOf]) (by simp) (by simp)
      · rw [if_neg hs]
        have hsf : sameFrom rev a = false := by
          rw [sameFrom_senders]
          cases rev with
          | nil => simp [sendersOf]
          | cons p r =>
            have : ¬ p.s = a.s := by rw [hat p rfl]; exact fun e => hs e.symm
            simp [sendersOf, this]
        rw [hsf]
        simp only [Bool.false_eq_true, if_false]
        refine attsGo_attsRGo slots l (a :: rev) _ _ ?_ (by simp) (by simp)
        cases rev with
        | nil => simp [sendersOf]
        | cons p r =>
          have : ¬ p.s = a.s := by rw [hat p rfl]; exact fun e => hs e.symm
          simp [sendersOf, this]

theorem attB_slot {a : Att} {slots : Int} (h : attB a slots = true) : a.s ≠ -1 := by
  simp [attB, belowB] at h
  omega

theorem attsB_attsR (l : List Att) (slots : Int) : attsB l slots = attsRGo slots [] l :=
  attsGo_attsRGo slots l [] [] (-1) rfl (by simp) (fun _ _ h => attB_slot h)

theorem dlvB_dlvR (d : Dlv) (slots : Int) : dlvB d slots = dlvR slots d := by
  unfold dlvB dlvR
  simp only [belowB_inB]
  simp [inB, Bool.and_comm, Bool.and_left_comm]

theorem cmpD_backD (p d : Dlv) : decide (0 ≤ cmpD p d) = backD p d := by
  unfold cmpD backD orI orI orI cmpI
  rw [Bool.eq_iff_iff]
  simp
  by_cases h1 : p.sl < d.sl
  · simp [h1]; omega
  · by_cases h2 : d.sl < p.sl
    · simp [h1, h2]
    · have h3 : d.sl = p.sl := by omega
      simp [h3]
      by_cases h4 : p.fl < d.fl
      · simp [h4]
      · by_cases h5 : d.fl < p.fl
        · simp [h4, h5]; omega
        · simp [h4, h5]; omega

theorem dlvsGo_dlvsR (slots : Int) : ∀ (l : List Dlv) (p : Option Dlv), dlvsGo slots p l = dlvsRGo slots p l
  | [], _ => by simp [dlvsGo, dlvsRGo]
  | d :: l, p => by
    simp only [dlvsGo, dlvsRGo]
    rw [dlvB_dlvR, dlvsGo_dlvsR slots l (some d)]
    have : prevBadD p d = backO p d := by
      cases p with
      | none => rfl
      | some q => exact cmpD_backD q d
    rw [this]

theorem check_agree (r : Rec) : checkE r = rcheckE r := by
  unfold checkE rcheckE
  have : good r = goodR r := by
    unfold good goodR
    rw [attsB_attsR, dlvsB, dlvsGo_dlvsR]
    simp [inB, Bool.and_assoc]
  rw [this]
end Rc
end Go.Proofs.YticnppnejafhdaaGreatDoor

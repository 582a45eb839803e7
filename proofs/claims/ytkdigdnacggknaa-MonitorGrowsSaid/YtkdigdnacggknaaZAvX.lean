import Derived.Test.YtkdigdnacggknaaZAvP
/- Abstract states: a region that draws its order. Generic. -/
namespace Go.Proofs.Ytkdigdnacggknaa
open Go.RowKit
namespace Av

def ssaB (ops : Array Oper) (n : Nat) : Bool := (List.range n).all fun i => match ops[i]? with
  | none => false
  | some o => (o.looksAt ops).all (fun t => (List.range n).all fun j => !decide ((ops[j]?).bind (·.dst) = some t) || (decide (j < i) && Region.waitsFor .any ops i j)) &&
      (List.range n).all (fun j => decide (j = i) || !decide ((ops[j]?).bind (·.dst) = o.dst)) && o.after.all (fun e => !Region.binds .any e || decide (e.on < i))
def doneA (n m : Nat) : Array Bool := ((List.range m).map fun i => decide (i < n)).toArray
def tailB (ops : Array Oper) (n : Nat) : Bool := (decide (n = ops.size) || (Region.sinkB .any ops n && Region.chainB .any ops n && decide (n < ops.size))) && Region.seqB .any ops (ops.size - n) n (doneA n ops.size)
theorem ssa_spec {ops : Array Oper} {n : Nat} (h : ssaB ops n = true) {i : Nat} (hi : i < n) : ∃ o, ops[i]? = some o ∧
    (∀ t ∈ o.looksAt ops, ∀ j, j < n → (ops[j]?).bind (·.dst) = some t → j < i ∧ Region.waitsFor .any ops i j = true) ∧ (∀ j, j < n → (ops[j]?).bind (·.dst) = o.dst → j = i) ∧ (∀ e ∈ o.after, Region.binds .any e = true → e.on < i) := by
  have h1 := List.all_eq_true.1 h i (List.mem_range.2 hi)
  cases ho : ops[i]? with
  | none => rw [ho] at h1; cases h1
  | some o =>
    rw [ho] at h1
    simp only [Bool.and_eq_true] at h1
    obtain ⟨⟨h2, h3⟩, h4⟩ := h1
    refine ⟨o, rfl, fun t ht j hj hd => ?_, fun j hj hd => ?_, fun e he hb => ?_⟩
    · have h5 := List.all_eq_true.1 (List.all_eq_true.1 h2 t ht) j (List.mem_range.2 hj)
      rw [hd] at h5
      simpa using h5
    · have h5 := List.all_eq_true.1 h3 j (List.mem_range.2 hj)
      rw [hd] at h5
      simpa using h5
    · have h5 := Array.all_eq_true_iff_forall_mem.1 h4 e he
      rw [hb] at h5
      simpa using h5
section
variable {P : Program} {F : Fr} {ops : Array Oper} {bx0 : Nat → Option (List PV)}
theorem Run.length {l : List Oper} {σ σ' : St} {rs : List (Nat × HR × Option Loc)} (h : Run P F ops bx0 l σ rs σ') : rs.length = l.length := by
  induction h with
  | nil => rfl
  | cons _ _ ih => simp [ih]
theorem Run.dst {l : List Oper} {σ σ' : St} {rs : List (Nat × HR × Option Loc)} (h : Run P F ops bx0 l σ rs σ') : ∀ {i : Nat} {x : Nat × HR × Option Loc}, rs[i]? = some x → ∃ o, l[i]? = some o ∧ o.dst = some x.1 := by
  induction h with
  | nil => intro i x hx; simp at hx
  | cons h _ ih =>
    intro i x hx
    cases i with
    | zero => simp at hx; subst hx; exact ⟨_, rfl, h.dst⟩
    | succ i => simpa using ih (by simpa using hx)
theorem Run.lk {σ0 : St} {rs : List (Nat × HR)} (hnd : ∀ (i j d : Nat) (r r' : HR), rs[i]? = some (d, r) → rs[j]? = some (d, r') → i = j) {l : List Oper} {σ σ' : St} {rs3 : List (Nat × HR × Option Loc)} (h : Run P F ops bx0 l σ rs3 σ') :
    ∀ k, rs.drop k = (rs3.map fun x => (x.1, x.2.1)) → Lk σ0 rs (· < k) σ → (∀ i d r S, rs3[i]? = some (d, r, S) → ∃ o σi, l[i]? = some o ∧ StepOK P F ops bx0 σi o d r S ∧ Lk σ0 rs (· < k + i) σi) ∧ Lk σ0 rs (· < k + l.length) σ' := by
  induction h with
  | nil => intro k _ hl; exact ⟨fun i d r S hx => by simp at hx, by simpa using hl⟩
  | @cons o l σ σ' d r S rs3 h t ih =>
    intro k hk hl
    have hk0 : rs[k]? = some (d, r) := by
      have := congrArg (·[0]?) hk
      simpa using this
    have hk1 : rs.drop (k + 1) = rs3.map fun x => (x.1, x.2.1) := by
      have := congrArg List.tail hk
      simpa [List.tail_drop] using this
    obtain ⟨h1, h2⟩ := ih (k + 1) hk1 ((hl.step hnd hk0 (Nat.lt_irrefl k)).of_iff fun j => by omega)
    refine ⟨fun i d' r' S' hx => ?_, h2.of_iff fun j => by simp; omega⟩
    cases i with
    | zero => simp at hx; obtain ⟨rfl, rfl, rfl⟩ := hx; exact ⟨o, σ, rfl, h, hl⟩
    | succ i =>
      obtain ⟨o', σi, h3, h4, h5⟩ := h1 i d' r' S' (by simpa using hx)
      exact ⟨o', σi, by simpa using h3, h4, h5.of_iff fun j => by omega⟩
theorem awp_draw {id : Nat} {l : List Oper} {Q : AX → St → Prop} {σ : St} (st : List Nat) (n : Nat) (hm : P.follows .mixedOrders = true) (hn : n ≤ l.length) (hs : ssaB l.toArray n = true) (ht : tailB l.toArray n = true)
    (h : headW P F.n st l.toArray (look σ.box) (l.take n) σ [] fun σ1 sl => sops P F.n st l.toArray (l.drop n) (steals σ1 sl) (Q .normal)) : AWp P F (Code.region id l.toArray true) Q σ := by
  intro γ a w hr
  obtain ⟨rs3, σ', sl, hrun, hK, hsl⟩ := headW_run h
  have hsz : l.toArray.size = l.length := by simp
  have hlt : (l.take n).length = n := by simp; omega
  have hlen : rs3.length = n := by rw [hrun.length, hlt]
  have hdst : ∀ {i d r S}, rs3[i]? = some (d, r, S) → i < n ∧ (l.toArray[i]?).bind (·.dst) = some d := fun {i d r S} hx => by
    obtain ⟨o, h1, h2⟩ := hrun.dst hx
    have hi : i < n := by rw [← hlen]; exact (List.getElem?_eq_some_iff.1 hx).1
    refine ⟨hi, ?_⟩
    rw [List.getElem?_take, if_pos hi] at h1
    simp [h1, h2]
  have hrs : ∀ {i : Nat} {d : Nat} {r : HR}, (rs3.map fun x => (x.1, x.2.1))[i]? = some (d, r) → ∃ S, rs3[i]? = some (d, r, S) := fun {i d r} hx => by
    rw [List.getElem?_map] at hx
    cases hq : rs3[i]? with
    | none => rw [hq] at hx; cases hx
    | some x =>
      rw [hq] at hx
      cases hx
      exact ⟨x.2.2, rfl⟩
  have hnd : ∀ (i j d : Nat) (r r' : HR), (rs3.map fun x => (x.1, x.2.1))[i]? = some (d, r) → (rs3.map fun x => (x.1, x.2.1))[j]? = some (d, r') → i = j := fun i j d r r' hi hj => by
    obtain ⟨S, hi⟩ := hrs hi
    obtain ⟨S', hj⟩ := hrs hj
    obtain ⟨h1, h2⟩ := hdst hi
    obtain ⟨h3, h4⟩ := hdst hj
    obtain ⟨o, ho, _, h5, _⟩ := ssa_spec hs h3
    refine h5 i h1 ?_
    rw [h2]
    rw [ho] at h4
    exact h4.symm
  obtain ⟨hsteps, hfin⟩ := hrun.lk (σ0 := σ) hnd 0 (by simp) ((Lk.start σ _).of_iff fun j => by simp)
  have inv0 : HeadInv .any l.toArray n (Array.replicate l.toArray.size false) :=
    ⟨by simp, fun j oj _ hl => (by rw [getD_replicate_false] at hl; cases hl), fun t _ ht => getD_in (by simpa using ht) (getD_replicate_false _ _)⟩
  have hback : ∀ i o, i < n → l.toArray[i]? = some o → ∀ e ∈ o.after, Region.binds .any e = true → e.on < i := fun i o hi ho => by
    obtain ⟨o', ho', _, _, h1⟩ := ssa_spec hs hi
    rw [ho] at ho'
    cases ho'
    exact h1
  simp only [tailB, Bool.and_eq_true, Bool.or_eq_true, decide_eq_true_eq] at ht
  obtain ⟨htail, hseq⟩ := ht
  -- what holds while the head runs
  let Inv : Array Bool → Act → World → Prop := fun listed a w => ∃ σ1 γ, Rel F σ1 γ a w ∧ Lk σ (rs3.map fun x => (x.1, x.2.1)) (fun j => j < n ∧ listed.getD j false = true) σ1 ∧
    ∀ i d r L, rs3[i]? = some (d, r, some L) → listed.getD i false = true → valAt a w γ L = none ∨ valAt a w γ (.s d) = valAt a w γ L
  have hbxk : ∀ {L : Nat → Prop} {σ1 : St} {k : Nat} {cs : List PV}, Lk σ (rs3.map fun x => (x.1, x.2.1)) L σ1 → look σ.box k = some cs → look σ1.box k = some cs := fun {L σ1 k cs} hl hk => by
    rw [hl.box k (fun j d r _ hj hb e => by
      obtain ⟨S, hj⟩ := hrs hj
      obtain ⟨o, σi, _, h1, _⟩ := hsteps j d r S hj
      have := h1.newbox hb
      rw [e, hk] at this
      cases this)]
    exact hk
  refine wp_region_any hm ?_
  have hcnt : cntU n (Array.replicate l.toArray.size false) = n := by
    have : ∀ m, m ≤ l.length → cntU m (Array.replicate l.toArray.size false) = m := fun m => by
      induction m with
      | zero => intro _; rfl
      | succ m ih =>
        intro hm
        unfold cntU
        rw [ih (by omega)]
        simp [show m < l.length by omega]
    exact this n hn
  have goal := any_head (P := P) (Q := fun e a' w' => ∃ x σ' γ', e = AX.exit_ x ∧ Q x σ' ∧ Rel F σ' γ' a' w') (g := l.toArray.size - n) (Inv := Inv) (by rw [hsz]; exact hn) hback (by
      rcases htail with h1 | h1
      · exact .inl h1
      · exact .inr ⟨h1.1.1, h1.1.2, h1.2⟩) ?step ?fin n _ a w.drew hcnt inv0 ⟨σ, γ, hr.grow (Below.refl _ _).drew, (Lk.start σ _).of_iff fun j => ⟨fun hj => by rw [getD_replicate_false] at hj; exact absurd hj.2 (by simp), fun hj => hj.elim⟩, fun i d r L _ hl => by rw [getD_replicate_false] at hl; cases hl⟩
  · rw [show n + (l.toArray.size - n) = l.toArray.size by rw [hsz]; omega] at goal
    exact goal
  case step =>
    rintro i listed a w hi hready hinv ⟨σ1, γ1, h1, h2, h3⟩
    obtain ⟨hun, o, ho, hall⟩ := mem_ready.1 hready
    obtain ⟨o', ho', hssa, _, _⟩ := ssa_spec hs hi
    rw [ho] at ho'
    cases ho'
    have hx : ∃ x, rs3[i]? = some x := ⟨rs3[i]'(by rw [hlen]; exact hi), List.getElem?_eq_getElem _⟩
    obtain ⟨⟨d, r, S⟩, hx⟩ := hx
    obtain ⟨o', σi, h4, h5, h6⟩ := hsteps i d r S hx
    have : o' = o := by
      rw [List.getElem?_take, if_pos hi] at h4
      have h7 : l.toArray[i]? = l[i]? := by simp
      rw [h7, h4] at ho
      exact Option.some.inj ho
    subst this
    have hmap : (rs3.map fun x => (x.1, x.2.1))[i]? = some (d, r) := by rw [List.getElem?_map, hx]; rfl
    have hwait : ∀ j, Region.waitsFor .any l.toArray i j = true → listed.getD j false = true := fun j hj => by
      obtain ⟨oj, hoj, e, he, hb, hon⟩ := Region.waitsFor_spec hj
      rw [ho] at hoj
      cases hoj
      rw [← hon]
      exact hall e he hb
    have hops : ∀ t y, t ∈ o'.looksAt l.toArray → look σi.slot t = some y → look σ1.slot t = some y := fun t y htm hy => by
      by_cases hex : ∃ j d' r', j < n ∧ (rs3.map fun x => (x.1, x.2.1))[j]? = some (d', r') ∧ d' = t
      · obtain ⟨j, d', r', hj, hjx, rfl⟩ := hex
        obtain ⟨S', hjx'⟩ := hrs hjx
        obtain ⟨hji, hw⟩ := hssa d' htm j hj (hdst hjx').2
        have h7 := (h6.in_ j d' r' (by omega) hjx).1
        rw [h7] at hy
        cases hy
        exact (h2.in_ j d' r' ⟨hj, hwait j hw⟩ hjx).1
      · rw [(h6.out t fun j d' r' hj hjx e => hex ⟨j, d', r', by omega, hjx, e⟩).1] at hy
        rw [(h2.out t fun j d' r' hj hjx e => hex ⟨j, d', r', hj.1, hjx, e⟩).1]
        exact hy
    have hLi : ¬ (i < n ∧ listed.getD i false = true) := fun h => by rw [getD_both hun] at h; exact absurd h.2 (by simp)
    have hnone : look σ.box d = none → look σ1.box d = none := fun hd => by
      rw [h2.box d (fun j d' r' hj hjx _ e => by
        subst e
        have := hnd i j d' r r' hmap hjx
        subst this
        exact hLi hj)]
      exact hd
    refine wpOp_mono (fun a' w' hst => ?_) (h5.run σ1 γ1 a w h1 hops (fun k cs hk => hbxk h2 hk) hnone (h2.ext.trans h6.ext.symm) _ i ho)
    obtain ⟨γ', u, rfl, e2, e3, e4, e5⟩ := hst
    have hisz : i < listed.size := by rw [hinv.size, hsz]; omega
    have hset : ∀ j, (listed.setIfInBounds i true).getD j false = true ↔ listed.getD j false = true ∨ j = i := fun j => by
      by_cases hji : i = j
      · subst hji; simp [hisz]
      · rw [getD_set_ne false hji]; simp [show ¬ j = i from fun e => hji e.symm]
    have hd' : d < a.tmps.size := by rw [h1.size]; exact h5.lt
    refine ⟨_, γ', e4, (h2.step hnd hmap hLi).of_iff fun j => ?_, fun m dm rm L hmx hlm => ?_⟩
    · rw [hset]
      constructor
      · rintro ⟨h7, h8 | rfl⟩
        · exact .inl ⟨h7, h8⟩
        · exact .inr rfl
      · rintro (⟨h7, h8⟩ | rfl)
        · exact ⟨h7, .inl h8⟩
        · exact ⟨hi, .inr rfl⟩
    · obtain ⟨om, σm, hm1, hm2, hm3⟩ := hsteps m dm rm (some L) hmx
      obtain ⟨hav, hlooks⟩ := hm2.src_ L rfl
      -- the place's value is as it was
      have hkeep : (∀ t, L = .s t → d ≠ t) → valAt (a.put (some d) u) w' γ' L = valAt a w γ1 L := fun hne => by
        cases L with
        | s t => simp [valAt, getD_put hd', hne t rfl]
        | b k off =>
          have hk : ∃ cs, look σ.box k = some cs := by
            cases hq : look σ.box k with
            | none => simp [avOf, hq] at hav
            | some cs => exact ⟨cs, rfl⟩
          obtain ⟨cs, hk⟩ := hk
          have hk1 : (look σ1.box k).isSome := by rw [hbxk h2 hk]; rfl
          show w'.cell? ⟨γ'.bx k, off, none⟩ = w.cell? ⟨γ1.bx k, off, none⟩
          rw [e3 k hk1]
          exact e2.cell (p := ⟨γ1.bx k, off, none⟩) (h1.box_lt hk1).1
      have hmn : m < n := (hdst hmx).1
      rcases (hset m).1 hlm with hlm | rfl
      · -- m was done before
        have hdm : d ≠ dm := fun e => by
          subst e
          have := hnd i m d r rm hmap (by rw [List.getElem?_map, hmx]; rfl)
          subst this
          exact hLi ⟨hi, hlm⟩
        have hne : ∀ t, L = .s t → d ≠ t := fun t ht e => by
          subst e
          obtain ⟨om', hom', hss, _, _⟩ := ssa_spec hs hmn
          have : om' = om := by
            rw [List.getElem?_take, if_pos hmn] at hm1
            have h7 : l.toArray[m]? = l[m]? := by simp
            rw [h7, hm1] at hom'
            exact (Option.some.inj hom').symm
          subst this
          obtain ⟨_, hw⟩ := hss d (hlooks d ht) i hi (hdst hx).2
          obtain ⟨oj, hoj, e, he, hb, hon⟩ := Region.waitsFor_spec hw
          have := hinv.closed m oj hoj hlm e he hb
          rw [hon, getD_both hun] at this
          cases this
        rw [hkeep hne, show valAt (a.put (some d) u) w' γ' (.s dm) = valAt a w γ1 (.s dm) by simp [valAt, getD_put hd', hdm]]
        exact h3 m dm rm L hmx hlm
      · rw [hx] at hmx
        cases hmx
        have hne : ∀ t, L = .s t → d ≠ t := fun t ht e => by
          subst e
          obtain ⟨om', hom', hss, _, _⟩ := ssa_spec hs hmn
          have : om' = om := by
            rw [List.getElem?_take, if_pos hmn] at hm1
            have h7 : l.toArray[m]? = l[m]? := by simp
            rw [h7, hm1] at hom'
            exact (Option.some.inj hom').symm
          subst this
          exact absurd (hss d (hlooks d ht) m hmn (hdst hx).2).1 (Nat.lt_irrefl _)
        rw [hkeep hne]
        rcases e5 L rfl with h7 | h7
        · right
          rw [h7]
          simp [valAt, getD_put hd']
        · exact .inl h7
  case fin =>
    rintro listed a w hinv hdone ⟨σ1, γ1, h1, h2, h3⟩
    have hdone' : ∀ i, i < n → listed.getD i false = true := fun i hi => by
      have h4 := hdone i hi
      have hs : i < listed.size := by rw [hinv.size, hsz]; omega
      simp [hs] at h4 ⊢
      exact h4
    have hLk : Lk σ (rs3.map fun x => (x.1, x.2.1)) (· < 0 + (l.take n).length) σ1 := h2.of_iff fun j => by
      rw [hlt]
      constructor
      · intro h4; exact ⟨by omega, hdone' j (by omega)⟩
      · intro h4; omega
    obtain ⟨g1, g2, g3, g4⟩ := hLk.same hfin
    have hrel := h1.congr g1 g2 g3 g4
    have hlisted : listed = doneA n l.toArray.size := by
      apply Array.ext
      · rw [hinv.size]; simp [doneA]
      · intro i hi1 hi2
        have hil : i < l.toArray.size := by rw [← hinv.size]; exact hi1
        have : (doneA n l.toArray.size)[i] = decide (i < n) := by simp [doneA]
        rw [this]
        by_cases hin : i < n
        · have := hdone' i hin
          simp [hi1] at this
          rw [this]; simp [hin]
        · have := hinv.tail i (by omega) hil
          simp [hi1] at this
          rw [this]; simp [hin]
    obtain ⟨γ2, _, hrel2⟩ := hrel.steals sl (fun x hx => by
      rcases hsl x hx with h4 | ⟨r, h4⟩
      · cases h4
      · obtain ⟨i, hi⟩ := List.mem_iff_getElem?.1 h4
        obtain ⟨o, σi, h5, h6, h7⟩ := hsteps i _ _ _ hi
        have hin := (hdst hi).1
        refine ⟨?_, h3 i _ _ _ hi (hdone' i hin)⟩
        obtain ⟨hav, hlooks⟩ := h6.src_ x.2 rfl
        have hd1 : σ'.avAt (.s x.1) = some r.av := (hfin.in_ i x.1 r (by rw [hlt]; omega) (by rw [List.getElem?_map, hi]; rfl)).1
        rw [hd1, ← hav]
        cases hL : x.2 with
        | s t =>
          show look σi.slot t = look σ'.slot t
          obtain ⟨o', ho', hss, _, _⟩ := ssa_spec hs hin
          have : o' = o := by
            rw [List.getElem?_take, if_pos hin] at h5
            have h8 : l.toArray[i]? = l[i]? := by simp
            rw [h8, h5] at ho'
            exact (Option.some.inj ho').symm
          subst this
          by_cases hex : ∃ j d' r', j < n ∧ (rs3.map fun x => (x.1, x.2.1))[j]? = some (d', r') ∧ d' = t
          · obtain ⟨j, d', r', hj, hjx, rfl⟩ := hex
            obtain ⟨S', hjx'⟩ := hrs hjx
            obtain ⟨hji, _⟩ := hss d' (hlooks d' hL) j hj (hdst hjx').2
            rw [(h7.in_ j d' r' (by omega) hjx).1, (hfin.in_ j d' r' (by rw [hlt]; omega) hjx).1]
          · rw [(h7.out t fun j d' r' hj hjx e => hex ⟨j, d', r', by omega, hjx, e⟩).1, (hfin.out t fun j d' r' hj hjx e => hex ⟨j, d', r', by rw [hlt] at hj; omega, hjx, e⟩).1]
        | b k off =>
          show ((look σ.box k).bind (·[off]?)).map PV.av = ((look σ'.box k).bind (·[off]?)).map PV.av
          have hk : ∃ cs, look σ.box k = some cs := by
            rw [hL] at hav
            cases hq : look σ.box k with
            | none => simp [avOf, hq] at hav
            | some cs => exact ⟨cs, rfl⟩
          obtain ⟨cs, hk⟩ := hk
          rw [hbxk hfin hk, hk])
    have hwl := sops_ok (P := P) (F := F) (Q := fun e a' w' => ∃ x σ' γ', e = AX.exit_ x ∧ Q x σ' ∧ Rel F σ' γ' a' w') (fun σ'' γ'' a'' w'' hq hr'' => ⟨.normal, σ'', γ'', rfl, hq, hr''⟩) (l.drop n) _ γ2 a w hrel2 hK
    have hdl : (l.drop n).length = l.toArray.size - n := by simp
    have := wpAny_of_seq (md := .any) (Q' := fun e a' w' => ∃ x σ' γ', e = AX.exit_ x ∧ Q x σ' ∧ Rel F σ' γ' a' w') (ops := l.toArray) (l.drop n) n listed a w (fun j => by simp [List.getElem?_drop]) (by rw [hdl, hlisted]; exact hseq) hwl
    rwa [hdl] at this
end

end Av
end Go.Proofs.Ytkdigdnacggknaa
/- Abstract states: the walk's steps. Generic. -/
namespace Go.Proofs.Ytkdigdnacggknaa
open Go.RowKit
namespace Av
variable {P : Program} {F : Fr}
theorem sops_go {n : Nat} {st : List Nat} {ops : Array Oper} {o : Oper} {l : List Oper} {σ : St} {K : St → Prop} (h : match guardB ops (look σ.slot) o with
    | some true => sop P n st σ o fun σ' => sops P n st ops l σ' K
    | some false => ∃ d, o.dst = some d ∧ d < n ∧ sops P n st ops l (σ.put d (.v undef)) K
    | none => False) : sops P n st ops (o :: l) σ K := h
theorem sops_end {n : Nat} {st : List Nat} {ops : Array Oper} {σ : St} {K : St → Prop} (h : K σ) : sops P n st ops [] σ K := h
theorem headW_go {N : Nat} {st : List Nat} {ops : Array Oper} {bx0 : Nat → Option (List PV)} {o : Oper} {l : List Oper} {σ : St} {sl : List (Nat × Loc)} {K : St → List (Nat × Loc) → Prop} (h : ∃ d, o.dst = some d ∧ d < N ∧ match guardB ops (look σ.slot) o with
    | some true => if st.contains (d + 1000000) = true then ∃ r, HandQ P N bx0 σ o d r ∧ r.box = none ∧ src P (look σ.slot) o = none ∧ headW P N st ops bx0 l (σ.res d r) sl K else hopx P (look σ.slot) bx0 o (fun r => ((bxOf r).isSome = true → bx0 d = none) ∧ headW P N st ops bx0 l (σ.res d r) (if o.guard.isNone && st.contains d then (match src P (look σ.slot) o with | some S => (d, S) :: sl | none => sl) else sl) K)
    | some false => headW P N st ops bx0 l (σ.put d (.v undef)) sl K
    | none => False) : headW P N st ops bx0 (o :: l) σ sl K := h
theorem headW_end {N : Nat} {st : List Nat} {ops : Array Oper} {bx0 : Nat → Option (List PV)} {σ : St} {sl : List (Nat × Loc)} {K : St → List (Nat × Loc) → Prop} (h : K σ sl) : headW P N st ops bx0 [] σ sl K := h
theorem awp_seq_k {x y : Code} {Q : AX → St → Prop} {σ : St} (h : ∀ K : St → Prop, (∀ σ, AWp P F y Q σ → K σ) → AWp P F x (athen K Q) σ) : AWp P F (x.seq y) Q σ := awp_seq (h _ fun _ h => h)
theorem awp_if {c : Operand} {x y : Code} {Q : AX → St → Prop} {σ : St} (h : match evo (look σ.slot) c with
    | some (.v (.bool t)) => (t = true → AWp P F x Q σ) ∧ (t = false → AWp P F y Q σ)
    | _ => False) : AWp P F (.cond c x y) Q σ := by
  split at h
  · rename_i t ht
    exact awp_cond ht h.1 h.2
  · cases h
/-- A region that draws its order, cut behind its n-th operation. -/
theorem awp_draw' {id : Nat} {l l1 l2 : List Oper} {Q : AX → St → Prop} {σ : St} (st : List Nat) (n : Nat) (hm : P.follows .mixedOrders = true) (hc : (decide (n ≤ l.length) && ssaB l.toArray n && tailB l.toArray n) = true) (h1 : l.take n = l1) (h2 : l.drop n = l2)
    (h : ∀ bx0 : Nat → Option (List PV), bx0 = look σ.box → headW P F.n st l.toArray bx0 l1 σ [] fun σ1 sl => sops P F.n st l.toArray l2 (steals σ1 sl) (Q .normal)) : AWp P F (Code.region id l.toArray true) Q σ := by
  simp only [Bool.and_eq_true, decide_eq_true_eq] at hc
  refine awp_draw st n hm hc.1.1 hc.1.2 hc.2 ?_
  rw [h1, h2]
  exact h _ rfl
def AllS {α : Type} (f : Nat → Option α) : List (Nat × α) → Prop
  | [] => True
  | x :: l => f x.1 = some x.2 ∧ AllS f l
def AllO (σ σ' : St) : List (Loc × (TypeId × Nat)) → Prop
  | [] => True
  | x :: l => (lookL σ.own x.1 = some x.2 ∧ σ'.avAt x.1 = σ.avAt x.1) ∧ AllO σ σ' l
def AllR (b : List (Nat × List PV)) : List (Nat × AV) → Prop
  | [] => True
  | x :: l => (x.2.refs.all fun k => (look b k).isSome) = true ∧ AllR b l
theorem AllS.look {α : Type} {f : Nat → Option α} : ∀ {l : List (Nat × α)}, AllS f l → ∀ {t : Nat} {x : α}, look l t = some x → f t = some x
  | [], _, t, x, hx => by cases hx
  | (k, y) :: l, h, t, x, hx => by
    rw [look_cons] at hx
    by_cases hk : k = t
    · rw [if_pos hk] at hx
      cases hx
      rw [← hk]
      exact h.1
    · rw [if_neg hk] at hx
      exact AllS.look h.2 hx
theorem AllO.look {σ σ' : St} : ∀ {l : List (Loc × (TypeId × Nat))}, AllO σ σ' l → ∀ {L : Loc} {e : TypeId × Nat}, lookL l L = some e → lookL σ.own L = some e ∧ σ'.avAt L = σ.avAt L
  | [], _, t, x, hx => by cases hx
  | (k, y) :: l, h, t, x, hx => by
    rw [lookL_cons] at hx
    by_cases hk : k = t
    · rw [if_pos hk] at hx
      cases hx
      rw [← hk]
      exact h.1
    · rw [if_neg hk] at hx
      exact AllO.look h.2 hx
theorem AllR.look {b : List (Nat × List PV)} : ∀ {l : List (Nat × AV)}, AllR b l → ∀ {t : Nat} {x : AV}, look l t = some x → ∀ k ∈ x.refs, (look b k).isSome
  | [], _, t, x, hx => by cases hx
  | (k, y) :: l, h, t, x, hx => by
    rw [look_cons] at hx
    by_cases hk : k = t
    · rw [if_pos hk] at hx
      cases hx
      exact fun j hj => List.all_eq_true.1 h.1 j hj
    · rw [if_neg hk] at hx
      exact AllR.look h.2 hx
theorem sub_mk {σ σ' : St} (h : AllS (look σ.slot) σ'.slot ∧ AllS (look σ.box) σ'.box ∧ AllO σ σ' σ'.own ∧ AllR σ'.box σ'.slot ∧ σ'.ext = σ.ext) : σ.Sub σ' :=
  ⟨fun _ _ hx => h.1.look hx, fun _ _ hx => h.2.1.look hx, fun _ _ hx => h.2.2.1.look hx, fun _ _ hx => h.2.2.2.1.look hx, h.2.2.2.2⟩
/-- A loop, its states made out of the one in which it begins. -/
theorem awp_loop_by {ι : Type} {c : Code} {Q : AX → St → Prop} {σ : St} (U : ι → St → St) (m : ι → Nat) (i0 : ι) (h0 : σ.Sub (U i0 σ)) (round : ∀ (R : ι → St → Prop), (∀ j σ', σ'.Sub (U j σ) → R j σ') → ∀ i, AWp P F c (athen (fun σ' => ∃ j, m j < m i ∧ R j σ') Q) (U i σ)) : AWp P F (.loop c) Q σ :=
  awp_loop (fun i => U i σ) m i0 h0 (round _ fun _ _ h => h)
def keepS {α : Type} (ks : List Nat) (l : List (Nat × α)) : List (Nat × α) := l.filter fun x => ks.contains x.1
end Av
end Go.Proofs.Ytkdigdnacggknaa
/- Abstract states: contracts that were proved over memory, lifted. Generic. -/
namespace Go.Proofs.Ytkdigdnacggknaa
open Go.RowKit
namespace Av

theorem lies_of_rep {w : World} {R : Reader} {sz : Nat} {xs : List (List Value)} {u : Value} (hR : ∀ p v, R p = some v → w.cell? p = some v) (hs : 0 < sz) (h : RepP R (.sl sz (xs.map fun row => row.map PV.v)) u) :
    ∃ A cap, u = .slice A xs.length cap ∧ Lies w w.heap.size sz A xs := by
  generalize hrows : (xs.map fun row => row.map PV.v) = rows at h
  cases h with
  | sl _ _ A cap f hsz hA hf hc =>
    have hlen : rows.length = xs.length := by rw [← hrows]; simp
    refine ⟨A, cap, by rw [hlen], fun hne => ?_⟩
    have hget : ∀ (k : Nat) (row : List Value), xs[k]? = some row → rows[k]? = some (row.map PV.v) := fun k row hk => by rw [← hrows, List.getElem?_map, hk]; rfl
    rcases hA with h0 | ⟨b, off, rfl, hA⟩
    · exfalso
      apply hne
      rw [h0] at hlen
      exact List.eq_nil_of_length_eq_zero hlen.symm
    · have hcell : ∀ (k : Nat) (row : List Value), xs[k]? = some row → ∀ (j : Nat) (x : Value), row[j]? = some x → w.cell? ⟨b, off + k * sz + j, none⟩ = some x := fun k row hk j x hj => by
        have h1 : (row.map PV.v)[j]? = some (.v x) := by rw [List.getElem?_map, hj]; rfl
        have h2 := hf k _ j _ (hget k row hk) h1
        have h3 := hA k _ j _ (hget k row hk) h1
        have h4 : f k j = x := by
          generalize f k j = y at h2
          cases h2
          rfl
        rw [← h4]
        exact hR _ _ h3
      refine ⟨b, off, rfl, ?_, hcell⟩
      cases xs with
      | nil => exact absurd rfl hne
      | cons row xs =>
        have h1 := hsz 0 _ (hget 0 row rfl)
        have h2 : 0 < row.length := by rw [List.length_map] at h1; omega
        exact Rel.cell_lt (hcell 0 row rfl 0 row[0] (List.getElem?_eq_getElem h2))
theorem owns_rep {R : Reader} {w w' : World} {e : TypeId} {sz : Nat} {v : Value} {xs : List (List Value)} (hs : 0 < sz) (h : w'.ownsRow w.heap.size e sz v xs.length xs.flatten) (hl : ∀ row ∈ xs, row.length = sz) (h1 : ∀ row ∈ xs, ∀ x ∈ row, x.oneCell' = true) :
    ∃ q, OwnV w' w.heap.size e sz xs.length v q ∧ ∀ m, m = none ∨ (m = q ∧ True) → RepP (fresh R w w' m (xs.length * sz)) (.sl sz (xs.map fun row => row.map PV.v)) v := by
  have hz : ∀ (k : Nat) (row : List PV) (j : Nat) (p : PV), (xs.map fun row => row.map PV.v)[k]? = some row → row[j]? = some p → ∃ x, xs.flatten[k * sz + j]? = some x ∧ ∀ R, RepP R p x := fun k row j p hk hj => by
    rw [List.getElem?_map] at hk
    cases hx : xs[k]? with
    | none => rw [hx] at hk; cases hk
    | some r =>
      rw [hx] at hk
      simp only [Option.map_some, Option.some.injEq] at hk
      subst hk
      rw [List.getElem?_map] at hj
      cases hy : r[j]? with
      | none => rw [hy] at hj; cases hj
      | some y =>
        rw [hy] at hj
        simp only [Option.map_some, Option.some.injEq] at hj
        subst hj
        exact ⟨y, flatten_get hl hx hy, fun R => .v y (h1 r (List.mem_of_getElem? hx) y (List.mem_of_getElem? hy))⟩
  have hsz : ∀ (k : Nat) (row : List PV), (xs.map fun row => row.map PV.v)[k]? = some row → row.length = sz := fun k row hk => by
    rw [List.getElem?_map] at hk
    cases hx : xs[k]? with
    | none => rw [hx] at hk; cases hk
    | some r =>
      rw [hx] at hk
      simp only [Option.map_some, Option.some.injEq] at hk
      subst hk
      rw [List.length_map]
      exact hl r (List.mem_of_getElem? hx)
  have hmk : ∀ {R : Reader} {A : Option Addr} {cap : Nat}, (xs = [] ∨ ∃ b off, A = some ⟨b, off, none⟩ ∧ ∀ (i : Nat) (x : Value), xs.flatten[i]? = some x → i < xs.length * sz → R ⟨b, off + i, none⟩ = some x) → xs.length ≤ cap → RepP R (.sl sz (xs.map fun row => row.map PV.v)) (.slice A xs.length cap) := fun {R A cap} hA hc => by
    have := rep_mk (R := R) (A := A) (cap := cap) (zs := xs.flatten) hsz (fun k row j p hk hj => by obtain ⟨x, h2, h3⟩ := hz k row j p hk hj; exact ⟨x, h2, h3 R⟩) (by
      rcases hA with h2 | ⟨b, off, h2, h3⟩
      · left; rw [h2]; rfl
      · exact .inr ⟨b, off, h2, fun i x hx hi => h3 i x hx (by simpa using hi)⟩) (by simpa using hc)
    simpa using this
  obtain ⟨_, h2⟩ := h
  rcases h2 with ⟨rfl, hn⟩ | ⟨g, cap, cur, rfl, hb, hg, hnc, hcm, hcs, htake⟩
  · have hx : xs = [] := List.eq_nil_of_length_eq_zero hn
    refine ⟨none, ⟨rfl, hn⟩, fun m _ => ?_⟩
    rw [hn]
    have := hmk (R := fresh R w w' m (0 * sz)) (A := none) (cap := 0) (.inl hx) (by omega)
    rw [hn] at this
    exact this
  · refine ⟨some g, ⟨cap, cur, rfl, hb, hg, hnc, hcm, hcs⟩, fun m hm => hmk (.inr ⟨g, 0, rfl, fun i x hx hi => ?_⟩) hnc⟩
    unfold fresh
    rw [if_neg (by dsimp only; omega), if_neg (by dsimp only; omega), Nat.zero_add, cell_of_row w' g i cur e (0, 0) hg]
    rw [← htake, List.getElem?_take, if_pos hi] at hx
    rw [← Array.getElem?_toList]
    exact hx
/-- A contract over memory, lifted. -/
theorem fn_of {P : Program} {f : FuncId} {args : List AV} {res : FRes} (hf : Enters P f) (h : ∀ (w : World) (R : Reader), (∀ p v, R p = some v → w.cell? p = some v) → ∀ us, RepAL R args us →
    Calls P f us.toArray w fun e w' => ∃ u, e = .returned u ∧ Below w.heap.size w w' ∧ ResRep R w w' res u) : FnOK P f args res := ⟨hf, h⟩
theorem rep_vs {R : Reader} {xs : List Value} {us : List Value} (h : RepL R (xs.map PV.v) us) : us = xs := by
  induction xs generalizing us with
  | nil => cases h; rfl
  | cons x xs ih =>
    cases h with
    | cons h t =>
      cases h
      rw [ih t]
end Av
end Go.Proofs.Ytkdigdnacggknaa

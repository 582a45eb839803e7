import Derived.Test.YtkdigdnacggknaaZAvX
import Derived.Test.YtkdigdnacggknaaZAvJ
/- Abstract states: regions that draw their order and store one result late. Generic. -/
namespace Go.Proofs.Ytkdigdnacggknaa
open Go.RowKit
namespace Av
section
variable {P : Program} {ops : Array Oper} {Q : Exit → Act → World → Prop}
def lateB (ops : Array Oper) (n i0 x t : Nat) : Bool := decide (i0 < n) && decide (n < ops.size) && (List.range n).all (fun i => decide (i = i0) || Region.waitsFor .any ops n i) &&
  (List.range ops.size).all (fun j => decide (j ≤ n) || (Region.waitsFor .any ops j n && Region.waitsFor .any ops j i0)) && Region.seqB .any ops (ops.size - n) n (doneA n ops.size) && Region.seqB .any ops (ops.size - (n + 1)) (n + 1) (doneA (n + 1) ops.size) &&
  !decide ((ops[i0]?).bind (·.dst) = some x) && !decide ((ops[i0]?).bind (·.dst) = some t)
theorem any_headL {n g i0 : Nat} {Inv : Array Bool → Act → World → Prop} (hi0 : i0 < n) (hn : n < ops.size) (hback : ∀ i o, i < n → ops[i]? = some o → ∀ e ∈ o.after, Region.binds .any e = true → e.on < i)
    (hsink : ∀ i, i < n → i ≠ i0 → Region.waitsFor .any ops n i = true) (hchain : ∀ j, n < j → j < ops.size → Region.waitsFor .any ops j n = true)
    (step : ∀ i listed a w, i < n → i ∈ Region.ready .any ops listed → HeadInv .any ops n listed → Inv listed a w → wpOp P ops Q i (fun a' w' => Inv (listed.setIfInBounds i true) a' w') a w)
    (fin : ∀ listed a w, HeadInv .any ops n listed → (∀ i, i < n → listed.getD i true = true) → Inv listed a w → wpAny P .any ops Q g listed a w)
    (late : ∀ listed a w, HeadInv .any ops n listed → (∀ i, i < n → i ≠ i0 → listed.getD i false = true) → listed.getD i0 true = false → Inv listed a w → wpOp P ops Q n (fun a' w' => wpAny P .any ops Q g (listed.setIfInBounds n true) a' w') a w) :
    ∀ (f : Nat) (listed : Array Bool) (a : Act) (w : World), cntU n listed = f → HeadInv .any ops n listed → Inv listed a w → wpAny P .any ops Q (f + g) listed a w
  | 0, listed, a, w, hc, inv, hI => by
    rw [Nat.zero_add]
    exact fin listed a w inv (cntU_zero hc) hI
  | f + 1, listed, a, w, hc, inv, hI => by
    rw [show f + 1 + g = (f + g) + 1 by omega]
    have hwait : ∀ {j i : Nat}, j ∈ Region.ready .any ops listed → Region.waitsFor .any ops j i = true → listed.getD i false = true := fun {j i} hj hw => by
      obtain ⟨_, o, ho, hall⟩ := mem_ready.1 hj
      obtain ⟨oj, hoj, e, he, hb, hon⟩ := Region.waitsFor_spec hw
      rw [ho] at hoj
      cases hoj
      rw [← hon]
      exact hall e he hb
    refine ⟨fun h0 => ?_, fun j hj => ?_⟩
    · obtain ⟨i, h1, h2, h3⟩ := cntU_pos (n := n) (listed := listed) (by omega)
      have hmem : i ∈ Region.ready .any ops listed := by
        have hi : i < ops.size := by omega
        refine mem_ready.2 ⟨h2, ops[i], by simp [hi], fun e he hb => ?_⟩
        have h4 := hback i ops[i] h1 (by simp [hi]) e he hb
        have h5 := h3 e.on h4
        have hs : e.on < listed.size := by rw [inv.size]; omega
        simp [hs] at h5 ⊢
        exact h5
      rw [h0] at hmem
      cases hmem
    · rcases Nat.lt_or_ge j n with hjn | hjn
      · refine wpOp_mono (fun a' w' h' => any_headL hi0 hn hback hsink hchain step fin late f _ a' w' ?_ (inv.set hj hjn) h') (step j listed a w hjn hj inv hI)
        have := (cntU_set (n := n) (mem_ready.1 hj).1).1 hjn
        omega
      · have hjs : j < ops.size := by
          obtain ⟨_, o, ho, _⟩ := mem_ready.1 hj
          exact (Array.getElem?_eq_some_iff.1 ho).1
        have hjn : j = n := by
          rcases Nat.lt_or_ge n j with h | h
          · have h1 := hwait hj (hchain j h hjs)
            have h2 := inv.tail n (Nat.le_refl _) hn
            have hs : n < listed.size := by rw [inv.size]; exact hn
            simp [hs] at h1 h2
            rw [h1] at h2
            cases h2
          · omega
        subst hjn
        have hall : ∀ i, i < j → i ≠ i0 → listed.getD i false = true := fun i hi hne => hwait hj (hsink i hi hne)
        have hun : listed.getD i0 true = false := by
          obtain ⟨i, h1, h2, _⟩ := cntU_pos (n := j) (listed := listed) (by omega)
          by_cases hi : i = i0
          · rw [← hi]; exact h2
          · have h3 := hall i h1 hi
            have hs : i < listed.size := by rw [inv.size]; omega
            simp [hs] at h2 h3
            rw [h2] at h3; cases h3
        have hf : f = 0 := by
          have h1 := (cntU_set (n := j) hun).1 hi0
          have h2 : cntU j (listed.setIfInBounds i0 true) = 0 := by
            rcases Nat.eq_zero_or_pos (cntU j (listed.setIfInBounds i0 true)) with h | h
            · exact h
            · obtain ⟨i, g1, g2, _⟩ := cntU_pos h
              exfalso
              have hs : i < listed.size := by rw [inv.size]; omega
              by_cases hi : i = i0
              · subst hi; simp [hs] at g2
              · have h3 := hall i g1 hi
                rw [getD_set_ne true (fun e => hi e.symm)] at g2
                simp [hs] at g2 h3
                rw [g2] at h3; cases h3
          omega
        subst hf
        rw [Nat.zero_add]
        exact late listed a w inv hall hun hI
end
section
variable {P : Program} {F : Fr}
theorem lookL_keep_eq {l : List (Loc × (TypeId × Nat))} {k o n : Nat} (L : Loc) : lookL (keepL l k o n) L = if hitB k o n L = true then none else lookL l L := by
  induction l with
  | nil => unfold keepL; simp [lookL]
  | cons y l ih =>
    obtain ⟨M, y⟩ := y
    unfold keepL at ih ⊢
    by_cases hM : hitB k o n M = true
    · rw [List.filter_cons_of_neg (by rw [hM]; decide), ih]
      by_cases hL : hitB k o n L = true
      · rw [if_pos hL, if_pos hL]
      · rw [if_neg hL, if_neg hL, lookL_cons, if_neg (fun e => hL (by rw [← e]; exact hM))]
    · rw [List.filter_cons_of_pos (by rw [Bool.not_eq_true] at hM; rw [hM]; rfl), lookL_cons, ih]
      by_cases e : M = L
      · subst e; rw [if_pos rfl, if_neg hM, lookL_cons, if_pos rfl]
      · rw [if_neg e]
        split
        · rfl
        · rw [lookL_cons, if_neg e]
def stored (σ : St) (k : Nat) (cs xs : List PV) : St := { slot := σ.slot, box := (k, setAt cs 0 xs) :: σ.box, own := keepL σ.own k 0 xs.length, ext := σ.ext }
theorem storeSt_stored {σ : St} {k t : Nat} {cs xs : List PV} (ht : lookL σ.own (.s t) = none) : storeSt σ k 0 cs xs (.tmp t) = stored σ k cs xs := by
  unfold storeSt stealSt St.setBox stored
  dsimp only
  rw [lookL_keep_eq, ht]
  split
  · rename_i h; split at h <;> cases h
  · rfl
/-- A region that draws its order; its n-th operation, a store of slot t where slot x points, may come ahead of operation i0. -/
theorem awp_drawL {id : Nat} {l l1 : List Oper} {Q : AX → St → Prop} {σ : St} (n i0 x t : Nat) (T : TypeId) (hm : P.follows .mixedOrders = true) (hc : (ssaB l.toArray n && lateB l.toArray n i0 x t) = true) {o0 : Oper} (ho0 : l[n]? = some o0) (hop0 : o0.op = .store T (.tmp x) (.tmp t)) (hdst0 : o0.dst = none) (hgd0 : o0.guard = none) (hl1 : l.take n = l1)
    (h : ∀ bx0 : Nat → Option (List PV), bx0 = look σ.box → headW P F.n [] l.toArray bx0 l1 σ [] fun σ1 _ => ∃ k u cs xs, look σ1.slot x = some (.ref k 0) ∧ look σ1.slot t = some u ∧ look σ1.box k = some cs ∧ bx0 k = none ∧ avCells u = some xs ∧ (P.info? T).map (·.size) = some xs.length ∧ xs.length ≤ cs.length ∧ lookL σ1.own (.s t) = none ∧ sops P F.n [] l.toArray (l.drop (n + 1)) (stored σ1 k cs xs) (Q .normal)) : AWp P F (Code.region id l.toArray true) Q σ := by
  intro γ a w hr
  have h := h (look σ.box) rfl
  rw [← hl1] at h
  have hc1 : ssaB l.toArray n = true := by rw [Bool.and_eq_true] at hc; exact hc.1
  have hc2 : lateB l.toArray n i0 x t = true := by rw [Bool.and_eq_true] at hc; exact hc.2
  have hs := hc1
  simp only [lateB, Bool.and_eq_true, decide_eq_true_eq, List.all_eq_true, List.mem_range, Bool.or_eq_true, Bool.not_eq_true', decide_eq_false_iff_not] at hc2
  obtain ⟨⟨⟨⟨⟨⟨⟨hi0, hnlt⟩, hsink⟩, hchain⟩, hseq⟩, hseq1⟩, hnx⟩, hnt⟩ := hc2
  obtain ⟨rs3, σ', sl, hrun, hK, hsl⟩ := headW_run h
  have hsz : l.toArray.size = l.length := by simp
  have hn : n ≤ l.length := by have := hnlt; simp at this; omega
  have hlt : (l.take n).length = n := by simp; omega
  have hlen : rs3.length = n := by rw [hrun.length, hlt]
  have hdst : ∀ {i d r S}, rs3[i]? = some (d, r, S) → i < n ∧ (l.toArray[i]?).bind (·.dst) = some d := fun {i d r S} hx => by
    obtain ⟨o, h1, h2⟩ := hrun.dst hx
    have hi : i < n := by rw [← hlen]; exact (List.getElem?_eq_some_iff.1 hx).1
    refine ⟨hi, ?_⟩
    rw [List.getElem?_take, if_pos hi] at h1
    simp [h1, h2]
  have hrs : ∀ {i : Nat} {d : Nat} {r : HR}, (rs3.map fun x => (x.1, x.2.1))[i]? = some (d, r) → ∃ S, rs3[i]? = some (d, r, S) := fun {i d r} hx => by
    rw [List.getElem?_map] at hx
    cases hq : rs3[i]? with
    | none => rw [hq] at hx; cases hx
    | some x =>
      rw [hq] at hx
      cases hx
      exact ⟨x.2.2, rfl⟩
  have hnd : ∀ (i j d : Nat) (r r' : HR), (rs3.map fun x => (x.1, x.2.1))[i]? = some (d, r) → (rs3.map fun x => (x.1, x.2.1))[j]? = some (d, r') → i = j := fun i j d r r' hi hj => by
    obtain ⟨S, hi⟩ := hrs hi
    obtain ⟨S', hj⟩ := hrs hj
    obtain ⟨h1, h2⟩ := hdst hi
    obtain ⟨h3, h4⟩ := hdst hj
    obtain ⟨o, ho, _, h5, _⟩ := ssa_spec hs h3
    refine h5 i h1 ?_
    rw [h2]
    rw [ho] at h4
    exact h4.symm
  obtain ⟨hsteps, hfin⟩ := hrun.lk (σ0 := σ) hnd 0 (by simp) ((Lk.start σ _).of_iff fun j => by simp)
  have inv0 : HeadInv .any l.toArray n (Array.replicate l.toArray.size false) :=
    ⟨by simp, fun j oj _ hl => (by rw [getD_replicate_false] at hl; cases hl), fun t _ ht => getD_in (by simpa using ht) (getD_replicate_false _ _)⟩
  have hback : ∀ i o, i < n → l.toArray[i]? = some o → ∀ e ∈ o.after, Region.binds .any e = true → e.on < i := fun i o hi ho => by
    obtain ⟨o', ho', _, _, h1⟩ := ssa_spec hs hi
    rw [ho] at ho'
    cases ho'
    exact h1
  let Inv : Array Bool → Act → World → Prop := fun listed a w => ∃ σ1 γ, Rel F σ1 γ a w ∧ Lk σ (rs3.map fun x => (x.1, x.2.1)) (fun j => j < n ∧ listed.getD j false = true) σ1
  have hbxk : ∀ {L : Nat → Prop} {σ1 : St} {k : Nat} {cs : List PV}, Lk σ (rs3.map fun x => (x.1, x.2.1)) L σ1 → look σ.box k = some cs → look σ1.box k = some cs := fun {L σ1 k cs} hl hk => by
    rw [hl.box k (fun j d r _ hj hb e => by
      obtain ⟨S, hj⟩ := hrs hj
      obtain ⟨o, σi, _, h1, _⟩ := hsteps j d r S hj
      have := h1.newbox hb
      rw [e, hk] at this
      cases this)]
    exact hk
  refine wp_region_any hm ?_
  have hcnt : cntU n (Array.replicate l.toArray.size false) = n := by
    have : ∀ m, m ≤ l.length → cntU m (Array.replicate l.toArray.size false) = m := fun m => by
      induction m with
      | zero => intro _; rfl
      | succ m ih =>
        intro hm
        unfold cntU
        rw [ih (by omega)]
        simp [show m < l.length by omega]
    exact this n hn
  obtain ⟨k, u, cs, xs, k1, k2, k3, k4, k5, k6, k7, k8, hrest⟩ := hK
  have ho0' : l.toArray[n]? = some o0 := by simpa using ho0
  have hdrop : l.drop n = o0 :: l.drop (n + 1) := by
    obtain ⟨g1, g2⟩ := List.getElem?_eq_some_iff.1 ho0
    rw [List.drop_eq_getElem_cons g1, g2]
  have hsops : sops P F.n [] l.toArray (l.drop n) σ' (Q .normal) := by
    rw [hdrop]
    unfold sops guardB
    rw [hgd0]
    dsimp only
    unfold sop
    rw [hop0, hdst0]
    exact ⟨k, 0, u, cs, xs, k1, k2, k3, k5, k6, by omega, by rw [storeSt_stored k8]; exact hrest⟩
  have goal := any_headL (P := P) (Q := fun e a' w' => ∃ x σ' γ', e = AX.exit_ x ∧ Q x σ' ∧ Rel F σ' γ' a' w') (g := l.toArray.size - n) (i0 := i0) (Inv := Inv) hi0 hnlt hback (fun i hi hne => (hsink i hi).resolve_left hne) (fun j hj hjs => ((hchain j hjs).resolve_left (by omega)).1) ?step ?fin ?late n _ a w.drew hcnt inv0 ⟨σ, γ, hr.grow (Below.refl _ _).drew, (Lk.start σ _).of_iff fun j => ⟨fun hj => by rw [getD_replicate_false] at hj; exact absurd hj.2 (by simp), fun hj => hj.elim⟩⟩
  · rw [show n + (l.toArray.size - n) = l.toArray.size by omega] at goal
    exact goal
  case step =>
    rintro i listed a w hi hready hinv ⟨σ1, γ1, h1, h2⟩
    obtain ⟨hun, o, ho, hall⟩ := mem_ready.1 hready
    obtain ⟨o', ho', hssa, _, _⟩ := ssa_spec hs hi
    rw [ho] at ho'
    cases ho'
    have hx : ∃ x, rs3[i]? = some x := ⟨rs3[i]'(by rw [hlen]; exact hi), List.getElem?_eq_getElem _⟩
    obtain ⟨⟨d, r, S⟩, hx⟩ := hx
    obtain ⟨o', σi, h4, h5, h6⟩ := hsteps i d r S hx
    have : o' = o := by
      rw [List.getElem?_take, if_pos hi] at h4
      have h7 : l.toArray[i]? = l[i]? := by simp
      rw [h7, h4] at ho
      exact Option.some.inj ho
    subst this
    have hmap : (rs3.map fun x => (x.1, x.2.1))[i]? = some (d, r) := by rw [List.getElem?_map, hx]; rfl
    have hwait : ∀ j, Region.waitsFor .any l.toArray i j = true → listed.getD j false = true := fun j hj => by
      obtain ⟨oj, hoj, e, he, hb, hon⟩ := Region.waitsFor_spec hj
      rw [ho] at hoj
      cases hoj
      rw [← hon]
      exact hall e he hb
    have hops : ∀ t y, t ∈ o'.looksAt l.toArray → look σi.slot t = some y → look σ1.slot t = some y := fun t y htm hy => by
      by_cases hex : ∃ j d' r', j < n ∧ (rs3.map fun x => (x.1, x.2.1))[j]? = some (d', r') ∧ d' = t
      · obtain ⟨j, d', r', hj, hjx, rfl⟩ := hex
        obtain ⟨S', hjx'⟩ := hrs hjx
        obtain ⟨hji, hw⟩ := hssa d' htm j hj (hdst hjx').2
        have h7 := (h6.in_ j d' r' (by omega) hjx).1
        rw [h7] at hy
        cases hy
        exact (h2.in_ j d' r' ⟨hj, hwait j hw⟩ hjx).1
      · rw [(h6.out t fun j d' r' hj hjx e => hex ⟨j, d', r', by omega, hjx, e⟩).1] at hy
        rw [(h2.out t fun j d' r' hj hjx e => hex ⟨j, d', r', hj.1, hjx, e⟩).1]
        exact hy
    have hLi : ¬ (i < n ∧ listed.getD i false = true) := fun h => by rw [getD_both hun] at h; exact absurd h.2 (by simp)
    have hnone : look σ.box d = none → look σ1.box d = none := fun hd => by
      rw [h2.box d (fun j d' r' hj hjx _ e => by
        subst e
        have := hnd i j d' r r' hmap hjx
        subst this
        exact hLi hj)]
      exact hd
    refine wpOp_mono (fun a' w' hst => ?_) (h5.run σ1 γ1 a w h1 hops (fun k cs hk => hbxk h2 hk) hnone (h2.ext.trans h6.ext.symm) _ i ho)
    obtain ⟨γ', u, rfl, e2, e3, e4, e5⟩ := hst
    have hisz : i < listed.size := by rw [hinv.size, hsz]; omega
    have hset : ∀ j, (listed.setIfInBounds i true).getD j false = true ↔ listed.getD j false = true ∨ j = i := fun j => by
      by_cases hji : i = j
      · subst hji; simp [hisz]
      · rw [getD_set_ne false hji]; simp [show ¬ j = i from fun e => hji e.symm]
    have hd' : d < a.tmps.size := by rw [h1.size]; exact h5.lt
    refine ⟨_, γ', e4, (h2.step hnd hmap hLi).of_iff fun j => ?_⟩
    rw [hset]
    constructor
    · rintro ⟨h7, h8 | rfl⟩
      · exact .inl ⟨h7, h8⟩
      · exact .inr rfl
    · rintro (⟨h7, h8⟩ | rfl)
      · exact ⟨h7, .inl h8⟩
      · exact ⟨hi, .inr rfl⟩
  case fin =>
    rintro listed a w hinv hdone ⟨σ1, γ1, h1, h2⟩
    have hdone' : ∀ i, i < n → listed.getD i false = true := fun i hi => by
      have h4 := hdone i hi
      have hs : i < listed.size := by rw [hinv.size, hsz]; omega
      simp [hs] at h4 ⊢
      exact h4
    have hLk : Lk σ (rs3.map fun x => (x.1, x.2.1)) (· < 0 + (l.take n).length) σ1 := h2.of_iff fun j => by
      rw [hlt]
      constructor
      · intro h4; exact ⟨by omega, hdone' j (by omega)⟩
      · intro h4; omega
    obtain ⟨g1, g2, g3, g4⟩ := hLk.same hfin
    have hrel := h1.congr g1 g2 g3 g4
    have hlisted : listed = doneA n l.toArray.size := by
      apply Array.ext
      · rw [hinv.size]; simp [doneA]
      · intro i hi1 hi2
        have hil : i < l.toArray.size := by rw [← hinv.size]; exact hi1
        have : (doneA n l.toArray.size)[i] = decide (i < n) := by simp [doneA]
        rw [this]
        by_cases hin : i < n
        · have := hdone' i hin
          simp [hi1] at this
          rw [this]; simp [hin]
        · have := hinv.tail i (by omega) hil
          simp [hi1] at this
          rw [this]; simp [hin]
    have hwl := sops_ok (P := P) (F := F) (Q := fun e a' w' => ∃ x σ' γ', e = AX.exit_ x ∧ Q x σ' ∧ Rel F σ' γ' a' w') (fun σ'' γ'' a'' w'' hq hr'' => ⟨.normal, σ'', γ'', rfl, hq, hr''⟩) (l.drop n) _ γ1 a w hrel hsops
    have hdl : (l.drop n).length = l.toArray.size - n := by simp
    have := wpAny_of_seq (md := .any) (Q' := fun e a' w' => ∃ x σ' γ', e = AX.exit_ x ∧ Q x σ' ∧ Rel F σ' γ' a' w') (ops := l.toArray) (l.drop n) n listed a w (fun j => by simp [List.getElem?_drop]) (by rw [hdl, hlisted]; exact hseq) hwl
    rwa [hdl] at this
  case late =>
    rintro listed a w hinv hall hun ⟨σ1, γ1, h1, h2⟩
    -- the operation that comes late
    have hx8 : ∃ x, rs3[i0]? = some x := ⟨rs3[i0]'(by rw [hlen]; exact hi0), List.getElem?_eq_getElem _⟩
    obtain ⟨⟨d8, r8, S8⟩, hx8⟩ := hx8
    obtain ⟨o8, σ8, h84, h85, h86⟩ := hsteps i0 d8 r8 S8 hx8
    have ho8 : l.toArray[i0]? = some o8 := by
      rw [List.getElem?_take, if_pos hi0] at h84
      simpa using h84
    obtain ⟨o8', ho8', hssa8, _, hedge8⟩ := ssa_spec hs hi0
    rw [ho8] at ho8'
    cases ho8'
    have hd8 : (l.toArray[i0]?).bind (·.dst) = some d8 := (hdst hx8).2
    have hd8x : d8 ≠ x := fun e => hnx (by rw [hd8, e])
    have hd8t : d8 ≠ t := fun e => hnt (by rw [hd8, e])
    have hmap8 : (rs3.map fun x => (x.1, x.2.1))[i0]? = some (d8, r8) := by rw [List.getElem?_map, hx8]; rfl
    have hun' : listed.getD i0 false = false := getD_both hun
    have hL8 : ¬ (i0 < n ∧ listed.getD i0 false = true) := fun h => by rw [hun'] at h; exact absurd h.2 (by simp)
    have hLk1 : Lk σ (rs3.map fun x => (x.1, x.2.1)) (· < 0 + (l.take n).length) (σ1.res d8 r8) := (h2.step hnd hmap8 hL8).of_iff fun j => by
      rw [hlt]
      constructor
      · intro h4
        by_cases hj : j = i0
        · exact .inr hj
        · exact .inl ⟨by omega, hall j (by omega) hj⟩
      · rintro (h4 | rfl)
        · omega
        · omega
    obtain ⟨g1, g2, g3, g4⟩ := hLk1.same hfin
    have e1 : look σ1.slot x = some (.ref k 0) := by rw [← k1, g1 x, res_slot, if_neg hd8x]
    have e2 : look σ1.slot t = some u := by rw [← k2, g1 t, res_slot, if_neg hd8t]
    have hd8k : (bxOf r8).isSome = true → d8 ≠ k := fun hb e => by
      subst e
      have q1 := hLk1.in_ i0 d8 r8 (by rw [hlt]; omega) hmap8
      -- slot x points to box k: it was made by another operation
      have q2 := h1.slots x _ e1
      have q3 := q2.2 d8 (by simp [AV.refs])
      have q4 : look σ1.box d8 = look σ.box d8 := h2.box d8 (fun j d' r' hj hjx _ e => by
        subst e
        have := hnd i0 j d' r8 r' hmap8 hjx
        subst this
        exact hL8 hj)
      rw [q4, k4] at q3
      cases q3
    have e3 : look σ1.box k = some cs := by
      have := g2 k
      rw [k3, res_box] at this
      cases hb : bxOf r8 with
      | none => rw [hb] at this; exact this.symm
      | some c8 =>
        rw [hb] at this
        dsimp only at this
        rw [if_neg (hd8k (by rw [hb]; rfl))] at this
        exact this.symm
    have e8 : lookL σ1.own (.s t) = none := by
      have := g3 (.s t)
      rw [k8, res_own, if_neg (by simpa using fun e => hd8t e.symm)] at this
      exact this.symm
    have hst := store_ok (P := P) (K := fun s => s = stored σ1 k cs xs) h1 hop0 hdst0 e1 e2 e3 k5 k6 (by omega) (storeSt_stored e8)
    show wpOp P l.toArray _ n _ a w
    unfold wpOp
    rw [ho0']
    dsimp only
    rw [if_pos (by unfold Region.wanted; rw [hgd0])]
    refine .inl (Oper.wp_mono (fun a' w' hq => ?_) (hst _))
    obtain ⟨σ2, γ2, rfl, hr2⟩ := hq
    have hisz : n < listed.size := by rw [hinv.size]; exact hnlt
    have hset : ∀ j, j ≠ n → (listed.setIfInBounds n true).getD j false = listed.getD j false := fun j hj => getD_set_ne false (fun e => hj e.symm)
    rw [show l.toArray.size - n = (l.toArray.size - (n + 1)) + 1 by omega]
    have hi0s : i0 < listed.size := by rw [hinv.size]; omega
    have hready : ∀ j ∈ Region.ready .any l.toArray (listed.setIfInBounds n true), j = i0 := fun j hj => by
      obtain ⟨q1, oj, hoj, hallj⟩ := mem_ready.1 hj
      have hjs : j < l.toArray.size := (Array.getElem?_eq_some_iff.1 hoj).1
      rcases Nat.lt_trichotomy j n with hjn | rfl | hjn
      · refine Classical.byContradiction fun hne => ?_
        have q2 := hall j hjn hne
        rw [getD_set_ne true (by omega)] at q1
        have hs : j < listed.size := by rw [hinv.size]; omega
        simp [hs] at q1 q2
        rw [q1] at q2; cases q2
      · simp [hisz] at q1
      · exfalso
        obtain ⟨oj', hoj', e, he, hb, hon⟩ := Region.waitsFor_spec ((hchain j hjs).resolve_left (by omega)).2
        rw [hoj] at hoj'
        cases hoj'
        have q2 := hallj e he hb
        rw [hon, hset i0 (by omega), hun'] at q2
        cases q2
    have hmem : i0 ∈ Region.ready .any l.toArray (listed.setIfInBounds n true) := by
      refine mem_ready.2 ⟨by rw [getD_set_ne true (by omega)]; exact hun, o8, ho8, fun e he hb => ?_⟩
      have q1 := hedge8 e he hb
      rw [hset _ (by omega)]
      exact hall e.on (by omega) (by omega)
    refine ⟨fun h0 => (by rw [h0] at hmem; cases hmem), fun j hj => ?_⟩
    rw [hready j hj]
    have hops : ∀ t y, t ∈ o8.looksAt l.toArray → look σ8.slot t = some y → look σ1.slot t = some y := fun t y htm hy => by
      by_cases hex : ∃ j d' r', j < n ∧ (rs3.map fun x => (x.1, x.2.1))[j]? = some (d', r') ∧ d' = t
      · obtain ⟨j, d', r', hj, hjx, rfl⟩ := hex
        obtain ⟨S', hjx'⟩ := hrs hjx
        obtain ⟨hji, _⟩ := hssa8 d' htm j hj (hdst hjx').2
        have h7 := (h86.in_ j d' r' (by omega) hjx).1
        rw [h7] at hy
        cases hy
        exact (h2.in_ j d' r' ⟨hj, hall j hj (by omega)⟩ hjx).1
      · rw [(h86.out t fun j d' r' hj hjx e => hex ⟨j, d', r', by omega, hjx, e⟩).1] at hy
        rw [(h2.out t fun j d' r' hj hjx e => hex ⟨j, d', r', hj.1, hjx, e⟩).1]
        exact hy
    have hnone : look σ.box d8 = none → look (stored σ1 k cs xs).box d8 = none := fun hd => by
      have q1 : look σ1.box d8 = none := by
        rw [h2.box d8 (fun j d' r' hj hjx _ e => by
          subst e
          have := hnd i0 j d' r8 r' hmap8 hjx
          subst this
          exact hL8 hj)]
        exact hd
      unfold stored
      dsimp only
      rw [look_cons, if_neg (fun e => by rw [← e, e3] at q1; cases q1)]
      exact q1
    refine wpOp_mono (fun a'' w'' hst => ?_) (h85.run (stored σ1 k cs xs) γ2 a' w' hr2 hops (fun k' cs' hk' => by
      unfold stored
      dsimp only
      rw [look_cons, if_neg (fun e => by rw [← e, k4] at hk'; cases hk')]
      exact hbxk h2 hk') hnone (h2.ext.trans h86.ext.symm) _ i0 ho8)
    obtain ⟨γ3, u3, rfl, _, _, hr3, _⟩ := hst
    have hrel : Rel F (stored σ' k cs xs) γ3 (a'.put (some d8) u3) w'' := by
      refine hr3.congr (fun t' => ?_) (fun k' => ?_) (fun L => ?_) ?_
      · rw [res_slot]
        have := g1 t'
        rw [res_slot] at this
        exact this
      · rw [res_box]
        show look ((k, _) :: σ'.box) k' = _
        have := g2 k'
        rw [res_box] at this
        rw [look_cons, this]
        cases hb : bxOf r8 with
        | none => unfold stored; dsimp only; rw [look_cons]
        | some c8 =>
          unfold stored
          dsimp only
          rw [look_cons]
          by_cases hk' : k = k'
          · rw [if_pos hk', if_pos hk', if_neg (fun e => hd8k (by rw [hb]; rfl) (e.trans hk'.symm))]
          · rw [if_neg hk', if_neg hk']
      · rw [res_own]
        have := g3 L
        rw [res_own] at this
        show lookL (keepL σ'.own k 0 xs.length) L = if L = .s d8 then ownOf r8 else lookL (keepL σ1.own k 0 xs.length) L
        rw [lookL_keep_eq, lookL_keep_eq, this]
        by_cases hL : L = .s d8
        · subst hL
          rw [if_pos rfl, if_pos rfl, if_neg (by simp [hitB])]
        · rw [if_neg hL, if_neg hL]
      · rw [res_ext]
        show σ'.ext = σ1.ext
        rw [g4, res_ext]
    have hwl := sops_ok (P := P) (F := F) (Q := fun e a' w' => ∃ x σ' γ', e = AX.exit_ x ∧ Q x σ' ∧ Rel F σ' γ' a' w') (fun σ'' γ'' a'' w'' hq hr'' => ⟨.normal, σ'', γ'', rfl, hq, hr''⟩) (l.drop (n + 1)) _ γ3 _ _ hrel hrest
    have hdl : (l.drop (n + 1)).length = l.toArray.size - (n + 1) := by simp
    have hlisted : (listed.setIfInBounds n true).setIfInBounds i0 true = doneA (n + 1) l.toArray.size := by
      apply Array.ext
      · simp [doneA, hinv.size]
      · intro i hi1 hi2
        have hil : i < l.toArray.size := by simp [doneA] at hi2; simpa using hi2
        have hisz : i < listed.size := by rw [hinv.size]; exact hil
        have : (doneA (n + 1) l.toArray.size)[i] = decide (i < n + 1) := by simp [doneA]
        rw [this]
        by_cases hi8 : i = i0
        · subst hi8; simp; omega
        · by_cases hin : i = n
          · subst hin; simp [Array.getElem_setIfInBounds, hisz]
          · by_cases hlt' : i < n
            · have := hall i hlt' hi8
              simp [hisz] at this
              simp [Array.getElem_setIfInBounds, hisz, this, Ne.symm hi8, Ne.symm hin]; omega
            · have := hinv.tail i (by omega) hil
              simp [hisz] at this
              simp [Array.getElem_setIfInBounds, hisz, this, Ne.symm hi8, Ne.symm hin]; omega
    have := wpAny_of_seq (md := .any) (Q' := fun e a' w' => ∃ x σ' γ', e = AX.exit_ x ∧ Q x σ' ∧ Rel F σ' γ' a' w') (ops := l.toArray) (l.drop (n + 1)) (n + 1) ((listed.setIfInBounds n true).setIfInBounds i0 true) (a'.put (some d8) u3) w'' (fun j => by simp [List.getElem?_drop]) (by rw [hdl, hlisted]; exact hseq1) hwl
    rwa [hdl] at this
end
end Av
end Go.Proofs.Ytkdigdnacggknaa
/- Abstract states: are two booleans unlike? Generic. -/
namespace Go.Proofs.Ytkdigdnacggknaa
open Go.RowKit
namespace Av
section
variable {P : Program} {n d : Nat} {σ : St} {o : Oper} {K : St → Prop}
theorem hand_neqB {T T' : TypeId} {x y : Operand} {p q : Bool} (ho : o.op = .binOp .neq T x y T') (hd : o.dst = some d) (hdn : d < n) (hT : P.underlying T = some .bool) (hx : evo (look σ.slot) x = some (.v (.bool p))) (hy : evo (look σ.slot) y = some (.v (.bool q)))
    (h : K (σ.put d (.v (.bool (p != q))))) : Hand P n σ o K := by
  refine hand_value hd hdn fun F γ a w _ hr => ?_
  have e1 : a.eval x = .bool p := (evo_ok hr (fun _ _ _ hy => hy) hx).1
  have e2 : a.eval y = .bool q := (evo_ok hr (fun _ _ _ hy => hy) hy).1
  refine ⟨.v (.bool (p != q)), .bool (p != q), w, σ.ext, ?_, Turn.same hr.exth (fun _ h => h) (fun _ h => .inr h), rfl, (fun k hk => by cases hk), h⟩
  simp [execOp, ho, e1, e2, eqGuard, binOp, run_equal_bool w T p q hT, bne]

end
end Av
end Go.Proofs.Ytkdigdnacggknaa

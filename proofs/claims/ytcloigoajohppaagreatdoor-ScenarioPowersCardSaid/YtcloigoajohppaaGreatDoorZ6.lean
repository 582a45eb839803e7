import Derived.Test.YtcloigoajohppaaGreatDoorZ5
set_option linter.unusedVariables false
set_option linter.unusedSimpArgs false
/- Iterators: the lines that count. -/
namespace Go.Proofs.YtcloigoajohppaaGreatDoor
open Go.RowKit
open Av
open Sc
set_option maxRecDepth 100000
set_option linter.unusedSimpArgs false

attribute [local go_sem] Oper.semAt_some
theorem splitSeqI_any (s p : ByteArray) (w : World) : Calls Tryz.prog 115 #[.string s, .string p, .int .i64 0] w fun e w' => e = .returned (.func (.func 130) #[] #[.pointer (some ⟨w.heap.size + 1, 0, none⟩), .pointer (some ⟨w.heap.size, 0, none⟩), .pointer (some ⟨w.heap.size + 2, 0, none⟩)]) ∧
    w' = ((w.alloc (.cells #[.string s] 9)).alloc (.cells #[.string p] 9)).alloc (.cells #[.int .i64 0] 3) := by
  go_enter Tryz.func115, Tryz.ntmps115
  go_wp2
  go_ret
  exact ⟨rfl, rfl⟩
theorem splitSeq_any (s p : ByteArray) (w : World) : Calls Tryz.prog 78 #[.string s, .string p] w fun e w' => e = .returned (.func (.func 130) #[] #[.pointer (some ⟨w.heap.size + 1, 0, none⟩), .pointer (some ⟨w.heap.size, 0, none⟩), .pointer (some ⟨w.heap.size + 2, 0, none⟩)]) ∧
    w' = ((w.alloc (.cells #[.string s] 9)).alloc (.cells #[.string p] 9)).alloc (.cells #[.int .i64 0] 3) := by
  go_enter Tryz.func78, Tryz.ntmps78
  go_wp2_with (go_at_call 115; refine (splitSeqI_any s p _).mono ?_; rintro e w' ⟨rfl, rfl⟩)
  go_ret
  exact ⟨rfl, rfl⟩
theorem lines_any (s : ByteArray) (w : World) : Calls Tryz.prog 36 #[.string s] w fun e w' => e = .returned (.func (.func 77) #[] #[.pointer (some ⟨w.heap.size, 0, none⟩)]) ∧ w' = w.alloc (.cells #[.string s] 9) := by
  go_enter Tryz.func36, Tryz.ntmps36
  go_wp2
  go_ret
  exact ⟨rfl, rfl⟩
/-- Whether a line does not count. -/
def skipB (s : ByteArray) : Bool := match s.data.toList with
  | [] => true
  | c :: _ => c == 35
theorem linesB_len : ∀ (m : Nat) (s : ByteArray), (linesB m s).length ≤ m + 1
  | 0, s => by simp [linesB]
  | m + 1, s => by
    unfold linesB
    split
    · simp
    · have := linesB_len m (s.extract ((Lib.indexByte s.data.toList 10).toNat + 1) s.size)
      simp
      omega
theorem cell_one1 {w : World} {b : Nat} {v : Value} {T : TypeId} (h : w.heap[b]? = some (.cells #[v] T (0, 0))) : w.cell? ⟨b, 0, none⟩ = some v := by rw [cell_of_row w _ _ _ T (0, 0) h]; rfl
theorem frozen_one {w : World} {b : Nat} {v : Value} {T : TypeId} (h : w.heap[b]? = some (.cells #[v] T (0, 0))) : w.frozen? ⟨b, 0, none⟩ = false := by unfold World.frozen?; rw [h]; simp
theorem alloc_at (w : World) (o : Obj) (b : Nat) (h : b = w.heap.size) : (w.alloc o).heap[b]? = some o := by subst h; exact World.alloc_heap_new w o
theorem heap_set {w : World} {b : Nat} {v u : Value} {T : TypeId} (h : w.heap[b]? = some (.cells #[v] T (0, 0))) : (w.setCell ⟨b, 0, none⟩ u).heap[b]? = some (.cells #[u] T (0, 0)) := by
  simp [World.setCell, Array.getElem?_modify, h]
set_option maxRecDepth 100000 in
set_option maxHeartbeats 4000000 in
/-- The iterator of scenario.lines. -/
theorem lines_in (n l tb : Nat) (text : ByteArray) (htx : text.size ≤ 1000000) (B0 : Nat) (J : Nat → Nat → World → Prop) (Jx : Nat → World → Prop)
    (hE : ∀ B1 k W W', J B1 k W → B1 = W.heap.size → Below W.heap.size W W' → J W'.heap.size k W')
    (hT : ∀ B1 k W W', J B1 k W → touch (fun b => B0 ≤ b ∧ b < B1) W W' → J B1 k W')
    (hTx : ∀ B1 W W', Jx B1 W → touch (fun b => B0 ≤ b ∧ b < B1) W W' → Jx B1 W')
    (hS : ∀ B1 k s W, (linesB text.size text)[k]? = some s → skipB s = true → J B1 k W → J B1 (k + 1) W)
    (hY : ∀ m B1 k s W, (linesB text.size text)[k]? = some s → skipB s = false → J B1 k W → YieldAt Fence.wide m Tryz.prog l #[.int .i64 ((k + 1 : Nat) : Int), .string s] W fun e W' =>
      (∀ b, B0 ≤ b → b < B1 → W'.heap[b]? = W.heap[b]?) ∧ ((e = .returned (.bool true) ∧ J B1 (k + 1) W') ∨ (e = .returned (.bool false) ∧ Jx B1 W')))
    (W : World) (hB : B0 ≤ W.heap.size) (htb : W.cell? ⟨tb, 0, none⟩ = some (.string text)) (h0 : J W.heap.size 0 W) :
    CallsIn Fence.wide n Tryz.prog 77 #[.func (.yield l) #[] #[], .pointer (some ⟨tb, 0, none⟩)] W fun e W' => (∃ v, e = .returned v) ∧ ∃ B1, J B1 (linesB text.size text).length W' ∨ Jx B1 W' := by
  refine callsIn_of_wp_marks Tryz.func77 rfl trivial ?_ rfl
  simp only [Tryz.ntmps77, List.size_toArray, List.length_cons, List.length_nil, Nat.reduceAdd, Nat.reduceSub, Array.replicate_succ, Array.replicate_zero, List.push_toArray, List.append_toArray, List.nil_append, List.cons_append]
  have htb2 : ((W.alloc (.cells #[.func (.yield l) #[] #[]] 138)).alloc (.cells #[.int .i64 0] 3)).cell? ⟨tb, 0, none⟩ = some (.string text) := by
    have hlt : tb < W.heap.size := World.block_lt_of_cell? _ _ htb
    exact (World.cell?_of_block (w := W) (a := ⟨tb, 0, none⟩) ((Below.heap_alloc _ _ tb (by rw [World.size_alloc]; omega)).trans (Below.heap_alloc _ _ tb hlt))).trans htb
  gi_wp2_with (refine ⟨trivial, (fun h => (by cases h)), ?_⟩; refine (callsIn_wide.2 (splitSeq_any text _ _)).mono ?_; rintro e w' ⟨rfl, rfl⟩)
  obtain ⟨N, hN⟩ : ∃ N, W.heap.size = N := ⟨_, rfl⟩
  obtain ⟨W5, hW5⟩ : ∃ W5, (((((W.alloc (.cells #[.func (.yield l) #[] #[]] 138)).alloc (.cells #[.int .i64 0] 3)).alloc (.cells #[.string text] 9)).alloc (.cells #[.string ⟨#[10]⟩] 9)).alloc (.cells #[.int .i64 0] 3)) = W5 := ⟨_, rfl⟩
  rw [hW5, hN]
  have hsz : W5.heap.size = N + 5 := by rw [← hW5]; simp only [World.size_alloc]; omega
  have hb5 : Below N W W5 := by
    rw [← hW5, ← hN]; exact (((((Below.refl _ W).alloc (Nat.le_refl _) _).alloc (by simp) _).alloc (by simp; omega) _).alloc (by simp; omega) _).alloc (by simp; omega) _
  have c0 : W5.heap[N]? = some (.cells #[.func (.yield l) #[] #[]] 138 (0, 0)) := by rw [← hW5, ← hN]; repeat (first | (refine alloc_at _ _ _ ?_; (try simp only [World.size_alloc]) <;> omega) | refine (Below.heap_alloc _ _ _ (by simp only [World.size_alloc]; omega)).trans ?_)
  have c1 : W5.heap[N + 1]? = some (.cells #[.int .i64 0] 3 (0, 0)) := by rw [← hW5, ← hN]; repeat (first | (refine alloc_at _ _ _ ?_; (try simp only [World.size_alloc]) <;> omega) | refine (Below.heap_alloc _ _ _ (by simp only [World.size_alloc]; omega)).trans ?_)
  have c2 : W5.heap[N + 2]? = some (.cells #[.string text] 9 (0, 0)) := by rw [← hW5, ← hN]; repeat (first | (refine alloc_at _ _ _ ?_; (try simp only [World.size_alloc]) <;> omega) | refine (Below.heap_alloc _ _ _ (by simp only [World.size_alloc]; omega)).trans ?_)
  have c3 : W5.heap[N + 3]? = some (.cells #[.string ⟨#[10]⟩] 9 (0, 0)) := by rw [← hW5, ← hN]; repeat (first | (refine alloc_at _ _ _ ?_; (try simp only [World.size_alloc]) <;> omega) | refine (Below.heap_alloc _ _ _ (by simp only [World.size_alloc]; omega)).trans ?_)
  have c4 : W5.heap[N + 4]? = some (.cells #[.int .i64 0] 3 (0, 0)) := by rw [← hW5, ← hN]; repeat (first | (refine alloc_at _ _ _ ?_; (try simp only [World.size_alloc]) <;> omega) | refine (Below.heap_alloc _ _ _ (by simp only [World.size_alloc]; omega)).trans ?_)
  rw [hN] at hB h0
  clear hW5 htb htb2
  refine range_law (gf := 130) (lb := #[.pointer (some ⟨N + 1 + 1 + 1, 0, none⟩), .pointer (some ⟨N + 1 + 1, 0, none⟩), .pointer (some ⟨N + 1 + 1 + 2, 0, none⟩)]) rfl (enters_of Tryz.func130 (by kernel_rfl) rfl) ?_
  intro fn W1 rec hrec hb hs1 hD1 hl1
  rw [hsz] at hs1 hD1 hl1 hb ⊢
  have hb1 : Below N W W1 := hb5.trans (hb.mono (by omega))
  obtain ⟨rs, hrs⟩ : ∃ rs, rec = rs := ⟨_, rfl⟩
  have hst : ∀ st pe, (rec st pe).state = st := fun st pe => by rw [hrec]
  have hpe : ∀ st pe, (rec st pe).pending = pe := fun st pe => by rw [hrec]
  have hps : ∀ st pe, (rec st pe).params = #[7] := fun st pe => by rw [hrec]
  have hasn := fun st pe => congrArg (fun r => Loop.assign (r st pe)) hrec
  have hbod := fun st pe => congrArg (fun r => Loop.body (r st pe)) hrec
  have htm := fun st pe => congrArg (fun r => Loop.tmps (r st pe)) hrec
  dsimp only at hasn hbod htm
  have hset : ∀ st pe st' pe', { rec st pe with state := st', pending := pe' } = rec st' pe' := fun st pe st' pe' => by rw [hrec]
  have hset1 : ∀ st pe st', { rec st pe with state := st' } = rec st' pe := fun st pe st' => by rw [hrec]
  have lift : ∀ b o, b < N + 5 → W5.heap[b]? = some o → W1.heap[b]? = some o := fun b o hb' h => (hb.block b hb').trans h
  have hlt : ∀ {w : World} {b : Nat} {o : Obj}, w.heap[b]? = some o → b < w.heap.size := fun h => (Array.getElem?_eq_some_iff.1 h).1
  have hbe : ∀ {w : World} {b b' : Nat} {o : Obj} (o' : Obj), w.heap[b]? = some o → b ≠ b' → (w.putObj b' o').heap[b]? = some o := fun o' h hn => (World.putObj_heap_other hn).trans h
  refine (split_in (n - 1) (N + 6) (N + 3) (N + 2) (N + 4) text htx
    (fun k w => J (N + 7) k w ∧ w.heap[N + 6]? = some (.loop (rec .ready none)) ∧ w.heap[N + 5]? = some (.deferred (some [])) ∧ w.heap[N]? = some (.cells #[.func (.yield l) #[] #[]] 138 (0, 0)) ∧ w.heap[N + 1]? = some (.cells #[.int .i64 ((k : Nat) : Int)] 3 (0, 0)))
    (fun w => Jx (N + 7) w ∧ w.heap[N + 6]? = some (.loop (rec .done (some .ret))) ∧ w.heap[N + 5]? = some (.deferred (some [])))
    ⟨by omega, by omega⟩ ?hT ?hY W1 (cell_one1 (lift _ _ (by omega) c3)) (cell_one1 (lift _ _ (by omega) c2)) (cell_one1 (lift _ _ (by omega) c4)) (frozen_one (lift _ _ (by omega) c2))
    ⟨by have := hE _ 0 W W1 h0 hN.symm (by rw [hN]; exact hb1); rwa [hs1] at this, hl1, hD1, lift _ _ (by omega) c0, lift _ _ (by omega) c1⟩).mono ?_
  case hT =>
    rintro k w w' ⟨hj, h1, h2, h3, h4⟩ ht
    exact ⟨hT _ _ _ _ hj (ht.mono fun b _ e => by omega), ht.keep h1 (by omega), ht.keep h2 (by omega), ht.keep h3 (by omega), ht.keep h4 (by omega)⟩
  case hY =>
    rintro k s w hk ⟨hj, hl, hd, hy, hat⟩
    refine yield_law (A1 := ?A) hl (hst _ _) (by rw [hps]; rfl) ?asg ?bdy
    case asg =>
      rw [hasn, htm, hps]
      simp only [List.zip_toArray, List.zip_cons_cons, List.zip_nil_right, List.foldl_toArray, List.foldl_cons, List.foldl_nil, List.setIfInBounds_toArray, List.set_cons_succ, List.set_cons_zero]
      gi_wp2
      first | exact rfl | exact ⟨rfl, rfl⟩
    obtain ⟨W2, hW2⟩ : ∃ W2, w.putObj (N + 6) (.loop { rec .ready none with state := .busy }) = W2 := ⟨_, rfl⟩
    have ht2 : touch (fun b => N ≤ b ∧ b < N + 7) w W2 := by rw [← hW2]; exact touch.putObj _ _ _ ⟨by omega, by omega⟩
    have hl2 : W2.heap[N + 6]? = some (.loop (rec .busy none)) := by rw [← hW2, hset1]; exact World.putObj_heap_same (hlt hl)
    have hd2 : W2.heap[N + 5]? = some (.deferred (some [])) := by rw [← hW2]; exact hbe _ hd (by omega)
    have hy2 : W2.heap[N]? = some (.cells #[.func (.yield l) #[] #[]] 138 (0, 0)) := by rw [← hW2]; exact hbe _ hy (by omega)
    have hat2 : W2.heap[N + 1]? = some (.cells #[.int .i64 ((k : Nat) : Int)] 3 (0, 0)) := by rw [← hW2]; exact hbe _ hat (by omega)
    have hj2 : J (N + 7) k W2 := hT _ _ _ _ hj (ht2.mono fun b _ e => ⟨by omega, e.2⟩)
    rw [hW2, hbod]
    clear hrs hrec hasn hbod htm
    have hc2 := cell_one1 hat2
    have hf2 := frozen_one hat2
    have hyc2 := cell_one1 hy2
    have hkl : k ≤ text.size := by
      have h1 := (List.getElem?_eq_some_iff.1 hk).1
      have h2 := linesB_len text.size text
      omega
    have hw1 : wrap64 ((k : Int) + 1) = ((k + 1 : Nat) : Int) := by unfold wrap64; omega
    obtain ⟨W3, hW3⟩ : ∃ W3, W2.setCell ⟨N + 1, 0, none⟩ (.int .i64 ((k + 1 : Nat) : Int)) = W3 := ⟨_, rfl⟩
    have ht3 : touch (fun b => N ≤ b ∧ b < N + 7) W2 W3 := by rw [← hW3]; exact touch.setCell _ _ _ ⟨by simp, by simp⟩
    have hat3 : W3.heap[N + 1]? = some (.cells #[.int .i64 ((k + 1 : Nat) : Int)] 3 (0, 0)) := by rw [← hW3]; exact heap_set hat2
    have same3 : ∀ {b : Nat} {o : Obj}, W2.heap[b]? = some o → b ≠ N + 1 → W3.heap[b]? = some o := fun h hn => by rw [← hW3]; exact (Below.heap_setCell W2 ⟨N + 1, 0, none⟩ _ _ hn).trans h
    have hl3 := same3 hl2 (by omega)
    have hd3 := same3 hd2 (by omega)
    have hy3 := same3 hy2 (by omega)
    have hyc3 := cell_one1 hy3
    have hac3 := cell_one1 hat3
    have hj3 : J (N + 7) k W3 := hT _ _ _ _ hj2 (ht3.mono fun b _ e => ⟨by omega, e.2⟩)
    have hback : ∀ b, b = N + 3 ∨ b = N + 2 ∨ b = N + 4 → W3.heap[b]? = w.heap[b]? := by
      intro b hb'
      rw [← hW3, ← hW2]
      exact (Below.heap_setCell _ ⟨N + 1, 0, none⟩ _ _ (show b ≠ N + 1 by omega)).trans (World.putObj_heap_other (by omega))
    clear ht2 hW2 hj hl hd hy hat hj2 hl2 hd2 hy2 hat2
    have hW3' : W2.setCell ⟨N + 1, 0, none⟩ (.int .i64 ((k : Int) + 1)) = W3 := hW3
    obtain ⟨Rp, hRp⟩ : ∃ Rp, (fun (e : Ending) (W' : World) => (e = .returned (.bool true) ∧ (J (N + 7) (k + 1) W' ∧ W'.heap[N + 6]? = some (.loop (rec .ready none)) ∧ W'.heap[N + 5]? = some (.deferred (some [])) ∧ W'.heap[N]? = some (.cells #[.func (.yield l) #[] #[]] 138 (0, 0)) ∧ W'.heap[N + 1]? = some (.cells #[.int .i64 ((k + 1 : Nat) : Int)] 3 (0, 0))) ∧ ∀ b, b = N + 3 ∨ b = N + 2 ∨ b = N + 4 → W'.heap[b]? = w.heap[b]?) ∨ (e = .returned (.bool false) ∧ Jx (N + 7) W' ∧ W'.heap[N + 6]? = some (.loop (rec .done (some .ret))) ∧ W'.heap[N + 5]? = some (.deferred (some [])))) = Rp := ⟨_, rfl⟩
    rw [hRp]
    have go : ∀ W4, J (N + 7) (k + 1) W4 → (∀ b, N ≤ b → b < N + 7 → W4.heap[b]? = W3.heap[b]?) → ∃ v w', (Instr.endRound (N + 6) none).run Tryz.prog W4 = .ok v w' ∧ Rp (.returned v) w' := by
      intro W4 hj4 hk4
      have g6 := (hk4 (N + 6) (by omega) (by omega)).trans hl3
      refine ⟨_, _, run_endRound none g6, ?_⟩
      rw [← hRp]
      rw [hset]
      refine .inl ⟨rfl, ⟨hT _ _ _ _ hj4 (touch.putObj _ _ _ ⟨by omega, by omega⟩), World.putObj_heap_same (hlt g6), hbe _ ((hk4 (N + 5) (by omega) (by omega)).trans hd3) (by omega), hbe _ ((hk4 N (by omega) (by omega)).trans hy3) (by omega), hbe _ ((hk4 (N + 1) (by omega) (by omega)).trans hat3) (by omega)⟩, ?_⟩
      intro b hb'
      exact (World.putObj_heap_other (by omega)).trans ((hk4 b (by omega) (by omega)).trans (hback b hb'))
    have halt : ∀ W4, Jx (N + 7) W4 → (∀ b, N ≤ b → b < N + 7 → W4.heap[b]? = W3.heap[b]?) → ∃ v w', (Instr.endRound (N + 6) (some .ret)).run Tryz.prog W4 = .ok v w' ∧ Rp (.returned v) w' := by
      intro W4 hj4 hk4
      have g6 := (hk4 (N + 6) (by omega) (by omega)).trans hl3
      refine ⟨_, _, run_endRound (some .ret) g6, ?_⟩
      rw [← hRp]
      rw [hset]
      exact .inr ⟨rfl, hTx _ _ _ hj4 (touch.putObj _ _ _ ⟨by omega, by omega⟩), World.putObj_heap_same (hlt g6), hbe _ ((hk4 (N + 5) (by omega) (by omega)).trans hd3) (by omega)⟩
    clear hRp
    rcases hd0 : s.data.toList with _ | ⟨c, r⟩
    · obtain rfl : s = ⟨#[]⟩ := by cases s with | mk d => cases d with | mk l => simp at hd0; subst hd0; rfl
      clear hd0
      have hdone := go W3 (hS _ _ _ _ hk rfl hj3) fun _ _ _ => rfl
      clear go halt
      gi_wp2
      refine ⟨fun _ _ => trivial, ?_⟩
      gi_wp2
      exact hdone
    · have hne : s.toList.isEmpty = false := by rw [ByteArray.toList_eq, hd0]; rfl
      have hsz0 : 0 < s.size := by rw [Sc.ba_size, hd0]; simp
      have hsz1 : (0 : Int) < (s.size : Int) := by omega
      have hi0 : ∀ h, s[0]'h = c := by
        intro h
        show s.data[0]'h = c
        rw [← Array.getElem_toList]
        simp [hd0]
      by_cases hc : c = 35
      · have hcc : ((c.toNat : Int) == 35) = true := by subst hc; rfl
        have hdone := go W3 (hS _ _ _ _ hk (by unfold skipB; rw [hd0]; subst hc; rfl) hj3) fun _ _ _ => rfl
        clear go halt hd0
        gi_wp2
        refine ⟨fun _ _ => trivial, ?_⟩
        gi_wp2
        exact hdone
      · have hcc : ((c.toNat : Int) == 35) = false := by
          have : c.toNat ≠ 35 := fun e => hc (UInt8.toNat_inj.1 e)
          simpa using (by omega : (c.toNat : Int) ≠ 35)
        have hcp : ¬ ((c.toNat : Int) = 35) := by
          have : c.toNat ≠ 35 := fun e => hc (UInt8.toNat_inj.1 e)
          omega
        obtain ⟨fn', tmps', assign', body', hyy, hR⟩ := hY (n - 1 - 1 - 1) (N + 7) k s W3 hk (by unfold skipB; rw [hd0]; simpa using hc) hj3
        have hyy' : (Instr.yield l #[.int .i64 ((k : Int) + 1), .string s]).run Tryz.prog W3 = .ok (.round l fn' tmps' assign' body') W3 := hyy
        have hac3' : W3.cell? ⟨N + 1, 0, none⟩ = some (.int .i64 ((k : Int) + 1)) := hac3
        clear hd0 hyy
        gi_wp2
        first | refine ⟨fun _ _ => trivial, ?_⟩ | refine ⟨(fun h => (by cases h)), ?_⟩
        refine RoundIn.mono (F := Fence.wide.inRound (N + 6)) hR ?_
        rintro e W4 ⟨hkeep, (⟨rfl, hj4⟩ | ⟨rfl, hx4⟩)⟩
        · have hdone := go W4 hj4 fun b h1 h2 => hkeep b (by omega) h2
          clear go halt
          gi_wp2
          exact hdone
        · have hdone := halt W4 hx4 fun b h1 h2 => hkeep b (by omega) h2
          clear go halt
          gi_wp2
          exact hdone
  rintro e W' ⟨⟨v, rfl⟩, (⟨hj, hl, hd, hy, hat⟩ | ⟨hx, hl, hd⟩)⟩
  · refine ⟨_, _, run_endLoop hl (by rw [hst]; simp), ?_⟩
    rw [hpe]
    refine ⟨by simp, .inl ⟨_, _, rfl, run_takeDeferred (hbe _ hd (by omega)), ?_⟩⟩
    refine ⟨_, results_none rfl _ _ _, ⟨_, rfl⟩, N + 7, .inl ?_⟩
    exact hT _ _ _ _ hj ((touch.putObj _ _ _ ⟨by omega, by omega⟩).trans (touch.putObj _ _ _ ⟨by omega, by omega⟩))
  · refine ⟨_, _, run_endLoop hl (by rw [hst]; simp), ?_⟩
    rw [hpe]
    refine wpIn_ret ?_
    refine ⟨by simp, .inl ⟨_, _, rfl, run_takeDeferred (hbe _ hd (by omega)), ?_⟩⟩
    refine ⟨_, results_none rfl _ _ _, ⟨_, rfl⟩, N + 7, .inr ?_⟩
    exact hTx _ _ _ hx ((touch.putObj _ _ _ ⟨by omega, by omega⟩).trans (touch.putObj _ _ _ ⟨by omega, by omega⟩))
end Go.Proofs.YtcloigoajohppaaGreatDoor
/- Parse: what it answers; what has been read is data. -/
namespace Go.Proofs.YtcloigoajohppaaGreatDoor
open Go.RowKit
open Av
open Sc
set_option maxRecDepth 100000
set_option linter.unusedSimpArgs false

/-- The lines are read one after another: what has been read, the line that was refused, why. -/
def foldP : Nat → Ps → List ByteArray → Ps × Nat × Int
  | _, p, [] => (p, 0, 0)
  | k, p, s :: l => if skipB s then foldP (k + 1) p l else if (stepP p (lineO s)).2 = 0 then foldP (k + 1) (stepP p (lineO s)).1 l else (p, k + 1, (stepP p (lineO s)).2)
theorem linesB_size : ∀ (m : Nat) (s x : ByteArray), x ∈ linesB m s → x.size ≤ s.size
  | 0, s, x, h => by simp [linesB] at h; subst h; exact Nat.le_refl _
  | m + 1, s, x, h => by
    unfold linesB at h
    split at h
    · simp at h; subst h; exact Nat.le_refl _
    · rcases List.mem_cons.1 h with rfl | h
      · rw [ByteArray.size_extract]; omega
      · have := linesB_size m _ x h
        rw [ByteArray.size_extract] at this
        omega
theorem foldP_get {l : List ByteArray} {k : Nat} {s : ByteArray} {p : Ps} (h : l[k]? = some s) : foldP k p (l.drop k) = if skipB s then foldP (k + 1) p (l.drop (k + 1)) else if (stepP p (lineO s)).2 = 0 then foldP (k + 1) (stepP p (lineO s)).1 (l.drop (k + 1)) else (p, k + 1, (stepP p (lineO s)).2) := by
  obtain ⟨hk, rfl⟩ := List.getElem?_eq_some_iff.1 h
  rw [List.drop_eq_getElem_cons hk]
  rfl
def netZ : Nt := ⟨0, [], 0, 0, [], []⟩
def snZ : Sn := ⟨netZ, [], [], 0, 0, [], [], [], [], 0⟩
def rdZ : Rd := ⟨snZ, 0, false, false, false⟩
def psZ : Ps := ⟨rdZ, none⟩
def hdrZ : Hdr := ⟨none, .slice none 0 0, []⟩
def rmZ : RM := ⟨.slice none 0 0, hdrZ, hdrZ, .slice none 0 0, .slice none 0 0, hdrZ, hdrZ, hdrZ, hdrZ, .pointer none⟩
def rxZ : RX := ⟨rdZ, rmZ, ⟨none, .slice none 0 0⟩, ⟨none, .slice none 0 0⟩, ⟨none, .slice none 0 0⟩, [], [], []⟩
theorem okZ : OKX psZ rxZ := ⟨rfl, rfl, rfl, rfl, fun h => absurd rfl h, rfl, ⟨fun _ => ⟨rfl, rfl, rfl⟩, fun h => absurd rfl h, Int.le_refl 0, (by decide), rfl, fun r hr => (by cases hr), rfl⟩⟩

section
variable {R : Reader} {w : World} {e : TypeId} {sz : Nat} {q : Option Nat} {V : Value} {xs : List Value} {rows : List (List PV)}
/-- A list's rows are data. -/
theorem repP_rows (h : RowsOK w e sz q V xs rows.length) (hr : RowsRd R sz xs rows) (hR : ∀ g, q = some g → ∀ j u, w.cell? ⟨g, j, none⟩ = some u → R ⟨g, j, none⟩ = some u) : RepP R (.sl sz rows) V := by
  cases q with
  | none =>
    obtain ⟨rfl, hn⟩ := h.own
    obtain rfl : rows = [] := List.eq_nil_of_length_eq_zero hn
    exact .sl sz [] none 0 (fun _ _ => undef) (fun k row hk => by simp at hk) (.inl rfl) (fun k row j p hk => by simp at hk) (Nat.le_refl 0)
  | some g =>
    obtain ⟨cap, cur, rfl, _, _, hc, _, _⟩ := h.own
    refine .sl sz rows (some ⟨g, 0, none⟩) cap (fun k j => (xs[k * sz + j]?).getD undef) hr.len (.inr ⟨g, 0, rfl, fun k row j p hk hj => ?_⟩) (fun k row j p hk hj => ?_) hc
    · obtain ⟨x, h1, h2⟩ := hr.rd k row j p hk hj
      rw [h1, Nat.zero_add]
      exact hR g rfl _ _ (h.at_ g rfl _ _ h1)
    · obtain ⟨x, h1, h2⟩ := hr.rd k row j p hk hj
      rw [h1]
      exact h2
theorem rowsE_rep {w : World} (h : (rowsE e sz q V xs rows).holds w) (hr : (rowsE e sz q V xs rows).reads R) (hR : ∀ g, q = some g → ∀ j u, w.cell? ⟨g, j, none⟩ = some u → R ⟨g, j, none⟩ = some u) : RepP R (.sl sz rows) V := repP_rows h hr hR
end
theorem exts_reads : ∀ {l : List Ext} {i : Nat} {X : Ext} {R : Reader}, (exts l).reads R → l[i]? = some X → X.reads R
  | [], _, _, _, _, h => by simp at h
  | E :: l, 0, X, R, hh, h => by simp at h; subst h; exact hh.2
  | E :: l, i + 1, X, R, hh, h => exts_reads (l := l) (i := i) hh.1 (by simpa using h)
theorem exts_foot : ∀ {l : List Ext} {i : Nat} {X : Ext} {b : Nat}, l[i]? = some X → X.foot b → (exts l).foot b
  | [], _, _, _, h, _ => by simp at h
  | E :: l, 0, X, b, h, hb => by simp at h; subst h; exact .inr hb
  | E :: l, i + 1, X, b, h, hb => .inl (exts_foot (l := l) (i := i) (by simpa using h) hb)
theorem repL_nums {R : Reader} : ∀ l : List Int, RepL R (l.map ip) (l.map fun n => .int .i64 n)
  | [] => .nil
  | n :: l => .cons (.v _ rfl) (repL_nums l)
set_option maxHeartbeats 2000000 in
/-- What has been read is data. -/
theorem rep_sn {R : Reader} {w : World} {b : Nat} {p : Ps} {X : RX} (hX : OKX p X) (h : (exts (pcsX b X)).holds w) (hr : (exts (pcsX b X)).reads R) (hR : ∀ g, (exts (pcsX b X)).foot g → ∀ j u, w.cell? ⟨g, j, none⟩ = some u → R ⟨g, j, none⟩ = some u) :
    RepL R p.R.x.pv ((rvals X.R X.m).take 15) := by
  have row : ∀ (i : Nat) {e : TypeId} {sz : Nat} {q : Option Nat} {V : Value} {xs : List Value} {rows : List (List PV)}, (pcsX b X)[i]? = some (rowsE e sz q V xs rows) → RepP R (.sl sz rows) V := fun i _ _ q _ _ _ hi =>
    rowsE_rep (exts_get h hi) (exts_reads hr hi) fun g hg j u hu => hR g (exts_foot hi hg) j u hu
  have own : ∀ (i : Nat) {e : TypeId} {sz : Nat} {q : Option Nat} {V : Value} {xs : List Value} {rows rows' : List (List PV)}, (pcsX b X)[i]? = some (rowsE e sz q V xs rows) → rows'.length = rows.length → RowsRd R sz xs rows' → RepP R (.sl sz rows') V := fun i _ _ q _ _ _ _ hi hl hrd =>
    repP_rows (by have h1 : RowsOK _ _ _ _ _ _ _ := exts_get h hi; rw [hl]; exact h1) hrd fun g hg j u hu => hR g (exts_foot hi hg) j u hu
  have pw : ∀ a (z : Pz), X.pw[a]? = some z → RepP R (.sl 1 (z.row.map fun n => [ip n])) z.V := fun a z hz => by
    have := row _ (pcsX_row (b := b) hz)
    simpa [List.map_map, Function.comp_def] using this
  have gb : ∀ a (z : Rz), X.bs[a]? = some z → (pcsX b X)[10 + (X.zs.length + a)]? = some z.ext := fun a z hz => by
    rw [pcsX_get]
    unfold dynX
    rw [List.getElem?_append_right (by rw [List.length_map]; omega), List.length_map, show X.zs.length + a - X.zs.length = a by omega,
      List.getElem?_append_left (by rw [List.length_map]; exact (List.getElem?_eq_some_iff.1 hz).1), List.getElem?_map, hz]
    rfl
  have gz : ∀ a (z : Rz), X.zs[a]? = some z → (pcsX b X)[10 + a]? = some z.ext := fun a z hz => by
    rw [pcsX_get]
    unfold dynX
    rw [List.getElem?_append_left (by rw [List.length_map]; exact (List.getElem?_eq_some_iff.1 hz).1), List.getElem?_map, hz]
    rfl
  have rq : ∀ (l : List Rz), (∀ z ∈ l, RepP R (.sl 1 (rsR z.rs)) z.V) → RowsRd R 7 ((l.map Rz.vals).flatten) ((l.map Rz.rq).map Rq.pv) := fun l hl => by
    refine ⟨fun k row hk => ?_, fun k row j p' hk hj => ?_⟩
    · rw [List.getElem?_map, List.getElem?_map] at hk
      cases hz : l[k]? with
      | none => rw [hz] at hk; cases hk
      | some z => rw [hz] at hk; cases hk; rfl
    · rw [List.getElem?_map, List.getElem?_map] at hk
      cases hz : l[k]? with
      | none => rw [hz] at hk; cases hk
      | some z =>
        rw [hz] at hk
        cases hk
        have hrep : RepL R (Rq.pv z.rq) z.vals := .cons (.v _ rfl) (.cons (.v _ rfl) (.cons (.v _ rfl) (.cons (.v _ rfl) (.cons (.v _ rfl) (.cons (.v _ rfl) (.cons (hl z (List.mem_of_getElem? hz)) .nil))))))
        obtain ⟨x, h1, h2⟩ := hrep.get hj
        exact ⟨x, flat_get (fun r hr' => by obtain ⟨y, _, rfl⟩ := List.mem_map.1 hr'; rfl) (by rw [List.getElem?_map, hz]; rfl) h1, h2⟩
  have hpw : RepP R (.sl 1 (rsR p.R.x.net.power)) X.hp.V := by
    refine own 7 (rows := (X.pw.map fun x => [x.V]).map fun r => r.map PV.v) (xs := (X.pw.map fun x => [x.V]).flatten) rfl (by unfold rsR; rw [← hX.pw]; simp) ?_
    rw [← hX.pw]
    unfold rsR
    refine ⟨fun k row hk => ?_, fun k row j p' hk hj => ?_⟩
    · rw [List.getElem?_map, List.getElem?_map] at hk
      cases hz : X.pw[k]? with
      | none => rw [hz] at hk; cases hk
      | some z => rw [hz] at hk; cases hk; rfl
    · rw [List.getElem?_map, List.getElem?_map] at hk
      cases hz : X.pw[k]? with
      | none => rw [hz] at hk; cases hk
      | some z =>
        rw [hz] at hk
        cases hk
        have hrep : RepL R [PV.sl 1 (z.row.map fun n => [ip n])] [z.V] := .cons (pw k z hz) .nil
        obtain ⟨x, h1, h2⟩ := hrep.get hj
        exact ⟨x, flat_get (sz := 1) (fun r hr' => by obtain ⟨y, _, rfl⟩ := List.mem_map.1 hr'; rfl) (by rw [List.getElem?_map, hz]; rfl) h1, h2⟩
  have hbf : RepP R (.sl 7 (p.R.x.before.map Rq.pv)) X.hb.V := by
    refine own 8 (rows := (X.bs.reverse.map Rz.vals).map fun r => r.map PV.v) (xs := (X.bs.reverse.map Rz.vals).flatten) rfl (by rw [← hX.bs]; simp) ?_
    rw [← hX.bs]
    refine rq _ fun z hz => ?_
    obtain ⟨a, ha⟩ := List.getElem?_of_mem (List.mem_reverse.1 hz)
    exact row _ (gb a z ha)
  have haf : RepP R (.sl 7 (p.R.x.after.map Rq.pv)) X.ha.V := by
    refine own 9 (rows := (X.zs.reverse.map Rz.vals).map fun r => r.map PV.v) (xs := (X.zs.reverse.map Rz.vals).flatten) rfl (by rw [← hX.zs]; simp) ?_
    rw [← hX.zs]
    refine rq _ fun z hz => ?_
    obtain ⟨a, ha⟩ := List.getElem?_of_mem (List.mem_reverse.1 hz)
    exact row _ (gz a z ha)
  have hRR := hX.R
  rw [← hRR]
  rw [← hRR] at hpw hbf haf
  exact .cons (.v _ rfl) (.cons hpw (.cons (.v _ rfl) (.cons (.v _ rfl) (.cons (row 1 rfl) (.cons (row 2 rfl) (.cons hbf (.cons haf (.cons (.v _ rfl) (.cons (.v _ rfl) (.cons (row 3 rfl) (.cons (row 4 rfl) (.cons (row 5 rfl) (.cons (row 6 rfl) (.cons (.v _ rfl) .nil))))))))))))))
theorem exts_empty {w : World} : ∀ {l : List Ext}, (∀ E ∈ l, E.holds w ∧ ∀ b, ¬ E.all b) → (exts l).holds w ∧ ∀ b, ¬ (exts l).all b
  | [], _ => ⟨trivial, fun b h => h.elim (fun h => h.elim) (fun h => h.elim)⟩
  | E :: l, h => by
    have h1 := exts_empty (l := l) fun E' hE => h E' (List.mem_cons_of_mem _ hE)
    have h2 := h E List.mem_cons_self
    refine ⟨⟨h1.1, h2.1, fun b hb => absurd hb (h1.2 b)⟩, fun b hb => ?_⟩
    rcases hb with (hb | hb) | (hb | hb)
    · exact h1.2 b (.inl hb)
    · exact h2.2 b (.inl hb)
    · exact h1.2 b (.inr hb)
    · exact h2.2 b (.inr hb)
theorem exts_laidOf {w : World} : ∀ {l : List Ext}, (∀ E ∈ l, E.laid w) → (exts l).laid w
  | [], _ => trivial
  | E :: l, h => ⟨exts_laidOf (l := l) fun E' hE => h E' (List.mem_cons_of_mem _ hE), h E List.mem_cons_self⟩
theorem exts_readsOf {R : Reader} : ∀ {l : List Ext}, (∀ E ∈ l, E.reads R) → (exts l).reads R
  | [], _ => trivial
  | E :: l, h => ⟨exts_readsOf (l := l) fun E' hE => h E' (List.mem_cons_of_mem _ hE), h E List.mem_cons_self⟩
theorem rowsZ {e : TypeId} {sz : Nat} (w : World) : (rowsE e sz none (.slice none 0 0) [] []).holds w ∧ ∀ b, ¬ (rowsE e sz none (.slice none 0 0) [] []).all b :=
  ⟨⟨⟨rfl, rfl⟩, (Nat.zero_mul _).symm, fun g h => by cases h⟩, fun b h => h.elim (fun h => by cases h) (fun h => h.elim)⟩
theorem rowsZ_reads {e : TypeId} {sz : Nat} (R : Reader) : (rowsE e sz none (.slice none 0 0) [] []).reads R := ⟨fun k row h => by simp at h, fun k row j p h => by simp at h⟩
def tailZ : List Ext := [rowsE 126 3 none (.slice none 0 0) [] [], rowsE 3 1 none (.slice none 0 0) [] [], rowsE 79 5 none (.slice none 0 0) [] [], rowsE 81 7 none (.slice none 0 0) [] [], rowsE 83 5 none (.slice none 0 0) [] [], rowsE 85 3 none (.slice none 0 0) [] [], rowsE 24 1 none (.slice none 0 0) [] [], rowsE 67 7 none (.slice none 0 0) [] [], rowsE 67 7 none (.slice none 0 0) [] []]
theorem pcsZ (b : Nat) : pcsX b rxZ = rawU b (rvals rdZ rmZ) :: tailZ := rfl
theorem tailZ_all (P : Ext → Prop) (h : ∀ e sz, P (rowsE e sz none (.slice none 0 0) [] [])) : ∀ E ∈ tailZ, P E := by
  intro E hE
  unfold tailZ at hE
  simp only [List.mem_cons, List.not_mem_nil, or_false] at hE
  rcases hE with rfl | rfl | rfl | rfl | rfl | rfl | rfl | rfl | rfl <;> exact h _ _
theorem holdZ {b : Nat} {w : World} {T : TypeId} (h : w.heap[b]? = some (.cells (rvals rdZ rmZ).toArray T (0, 0))) : (exts (pcsX b rxZ)).holds w := by
  rw [pcsZ]
  have ht := exts_empty (w := w) (tailZ_all (fun E => E.holds w ∧ ∀ b, ¬ E.all b) fun e sz => rowsZ w)
  exact ⟨ht.1, ⟨T, h⟩, fun b' hb => absurd hb (ht.2 b')⟩
theorem allZ {b x : Nat} (h : (exts (pcsX b rxZ)).all x) : x = b := by
  rw [pcsZ] at h
  have ht := exts_empty (w := default) (tailZ_all (fun E => E.holds default ∧ ∀ b, ¬ E.all b) fun e sz => rowsZ default)
  rcases h with (h | h) | (h | h)
  · exact absurd (.inl h) (ht.2 x)
  · exact h
  · exact absurd (.inr h) (ht.2 x)
  · exact h.elim
theorem laidZ (b : Nat) (w : World) : (exts (pcsX b rxZ)).laid w := by
  rw [pcsZ]
  exact ⟨exts_laidOf (tailZ_all (fun E => E.laid w) fun _ _ => trivial), trivial⟩
theorem readsZ (b : Nat) (R : Reader) : (exts (pcsX b rxZ)).reads R := by
  rw [pcsZ]
  exact ⟨exts_readsOf (tailZ_all (fun E => E.reads R) fun _ _ => rowsZ_reads R), trivial⟩
def snV : List Value := [.int .i64 0, .slice none 0 0, .int .i64 0, .int .i64 0, .slice none 0 0, .slice none 0 0, .slice none 0 0, .slice none 0 0, .int .i64 0, .int .i64 0, .slice none 0 0, .slice none 0 0, .slice none 0 0, .slice none 0 0, .int .i64 0]
theorem slZ (R : Reader) (sz : Nat) : RepP R (.sl sz []) (.slice none 0 0) := .sl sz [] none 0 (fun _ _ => undef) (fun k row hk => by simp at hk) (.inl rfl) (fun k row j p hk => by simp at hk) (Nat.le_refl 0)
theorem repZ (R : Reader) : RepL R snZ.pv snV :=
  .cons (.v _ rfl) (.cons (slZ R 1) (.cons (.v _ rfl) (.cons (.v _ rfl) (.cons (slZ R 3) (.cons (slZ R 1) (.cons (slZ R 7) (.cons (slZ R 7) (.cons (.v _ rfl) (.cons (.v _ rfl) (.cons (slZ R 5) (.cons (slZ R 7) (.cons (slZ R 5) (.cons (slZ R 3) (.cons (.v _ rfl) .nil))))))))))))))
/-- What Parse keeps while it reads. -/
structure PW (w : World) (N N' kb : Nat) (S : Nat → Prop) (p : Ps) (W : World) : Prop where
  rel : ∃ X γ a, OKX p X ∧ Rel ⟨fun _ => none, w, 0⟩ (exSt LC S W ((knownE kb).and (exts (pcsX (N + 3) X)))) γ a W
  c2 : W.heap[N]? = some (.cells snV.toArray 35 (0, 0))
  c3 : W.heap[N + 1]? = some (.cells #[.int .i64 0] 3 (0, 0))
  c4 : W.heap[N + 2]? = some (.cells #[.int .i64 0] 38 (0, 0))
  c5 : W.heap[N']? = some (.cells #[.pointer (some ⟨N + 3, 0, none⟩)] 91 (0, 0))
  c6 : W.heap[N' + 1]? = some (.cells #[.map (some kb)] 95 (0, 0))
theorem PW.touched {w : World} {N N' kb B : Nat} {S T : Nat → Prop} {p : Ps} {W W' : World} (h : PW w N N' kb S p W) (ht : touch T W W') (hTS : ∀ b, T b → S b) (hT : ∀ b, T b → B ≤ b) (hB : N + 3 ≤ N') (hB' : N' + 2 ≤ B) : PW w N N' kb S p W' := by
  obtain ⟨X, γ, a, h1, h2⟩ := h.rel
  exact ⟨⟨X, γ, a, h1, h2.touchedS (ht.mono fun b _ hb => hTS b hb)⟩, ht.keep h.c2 fun e => (by have := hT _ e; omega), ht.keep h.c3 fun e => (by have := hT _ e; omega), ht.keep h.c4 fun e => (by have := hT _ e; omega), ht.keep h.c5 fun e => (by have := hT _ e; omega), ht.keep h.c6 fun e => (by have := hT _ e; omega)⟩
theorem PW.more {w : World} {N N' kb : Nat} {S S' : Nat → Prop} {p : Ps} {W W' : World} (h : PW w N N' kb S p W) (hb : Below W.heap.size W W') (hS : ∀ b, S' b ↔ S b ∨ (W.heap.size ≤ b ∧ b < W'.heap.size)) : PW w N N' kb S' p W' := by
  obtain ⟨X, γ, a, h1, h2⟩ := h.rel
  have lt : ∀ {b : Nat} {o : Obj}, W.heap[b]? = some o → W'.heap[b]? = some o := fun h => (hb.block _ (Array.getElem?_eq_some_iff.1 h).1).trans h
  exact ⟨⟨X, γ, a, h1, h2.moreS hb hS⟩, lt h.c2, lt h.c3, lt h.c4, lt h.c5, lt h.c6⟩
end Go.Proofs.YtcloigoajohppaaGreatDoor
/- Parse. -/
namespace Go.Proofs.YtcloigoajohppaaGreatDoor
open Go.RowKit
open Av
open Sc
set_option maxRecDepth 100000
set_option linter.unusedSimpArgs false

attribute [local go_sem] Oper.semAt_some
/-- The number of the last line. -/
def lastB (s : ByteArray) : Int := if s.toList.isEmpty || Lib.hasSuffix s.data.toList [10] then (Lib.countByte s.data.toList 10 : Int) else (Lib.countByte s.data.toList 10 : Int) + 1
/-- What Parse answers. -/
def parseP (text : ByteArray) : Sn × Int × Int :=
  if 65536 < text.size then (snZ, 0, 8) else
  let r := foldP 0 psZ (linesB text.size text)
  if r.2.2 ≠ 0 then (snZ, r.2.1, r.2.2)
  else if r.1.R.begun && r.1.R.sched && r.1.R.done then (r.1.R.x, 0, 0)
  else (snZ, lastB text + 1, 9)
section
variable {tmps : Array Value} {w : World} {a N : Nat} {t T : TypeId} {d : TypeDesc} {vs : List Value} {v : Value}
theorem resOne_row {P : Program} (ha : tmps.getD a undef = .pointer (some ⟨N, 0, none⟩)) (h : w.heap[N]? = some (.cells vs.toArray T (0, 0))) (hu : P.underlying t = some d) (hrow : d.isRow = true) (hsz : (P.info? t).map (·.size) = some vs.length) : (resOne tmps (.cell a t)).run P w = .ok (.agg vs.toArray) w := by
  have hl : ∀ v, (Instr.loadAt t (.pointer (some ⟨N, 0, none⟩))).run P w = .ok v w → ((do loadVar t (← asAddr (tmps.getD a undef)) : Sem Value)).run P w = .ok v w := fun v hv => by
    rw [ha]
    simpa [Instr.loadAt, Instr.sureAddr, asAddr] using hv
  refine hl _ (run_loadAt_mid w _ 0 t _ d (fun j v hv => ?_) hu hrow hsz)
  rw [cell_of_row w _ _ _ T (0, 0) h, Nat.zero_add]
  simpa using hv
theorem resOne_one {P : Program} (ha : tmps.getD a undef = .pointer (some ⟨N, 0, none⟩)) (h : w.heap[N]? = some (.cells #[v] T (0, 0))) (hu : P.underlying t = some d) (hrow : d.isRow = false) : (resOne tmps (.cell a t)).run P w = .ok v w := by
  have hl : ∀ v, (Instr.loadAt t (.pointer (some ⟨N, 0, none⟩))).run P w = .ok v w → ((do loadVar t (← asAddr (tmps.getD a undef)) : Sem Value)).run P w = .ok v w := fun v hv => by
    rw [ha]
    simpa [Instr.loadAt, Instr.sureAddr, asAddr] using hv
  exact hl _ (run_load_one w _ 0 t d v (cell_one1 h) hu hrow)
end
open Classical in
/-- What can be read beside these blocks. -/
noncomputable def besR (N : Nat) (S : Nat → Prop) (w : World) : Reader := fun q => if q.block < N ∨ S q.block then none else w.cell? q
theorem _root_.Go.Proofs.YtcloigoajohppaaGreatDoor.Av.RepL.all_one {R : Reader} {ps : List PV} {us : List Value} (h : RepL R ps us) : us.all (·.oneCell') = true := by
  induction h with
  | nil => rfl
  | cons h _ ih => rw [List.all_cons, h.one, ih]; rfl
theorem resP {tmps : Array Value} {W : World} {N : Nat} {vs : List Value} {k e : Int} {T2 T3 T4 : TypeId} (a2 : tmps.getD 2 undef = .pointer (some ⟨N, 0, none⟩)) (a3 : tmps.getD 3 undef = .pointer (some ⟨N + 1, 0, none⟩)) (a4 : tmps.getD 4 undef = .pointer (some ⟨N + 2, 0, none⟩))
    (h2 : W.heap[N]? = some (.cells vs.toArray T2 (0, 0))) (hl : vs.length = 15) (h3 : W.heap[N + 1]? = some (.cells #[.int .i64 k] T3 (0, 0))) (h4 : W.heap[N + 2]? = some (.cells #[.int .i64 e] T4 (0, 0))) :
    (results Tryz.f13 tmps).run Tryz.prog W = .ok (.tuple #[.agg vs.toArray, .int .i64 k, .int .i64 e]) W := by
  rw [results_eq, Tryz.results13, Array.mapM_eq_mapM_toList, Sem.run_bind, Sem.run_map]
  have e2 := resOne_row (P := Tryz.prog) (t := 35) a2 h2 Tryz.underlying35 rfl (by rw [hl]; exact Tryz.sz35)
  have e3 := resOne_one (P := Tryz.prog) (t := 3) a3 h3 Tryz.underlying3 rfl
  have e4 := resOne_one (P := Tryz.prog) (t := 38) a4 h4 Tryz.underlying38 rfl
  simp only [List.mapM_cons, List.mapM_nil, Sem.run_bind, e2, e3, e4, Result.andThen_ok, Sem.run_pure]
  rfl
theorem parse_fin {W5 : World} {N D : Nat} {T2 T3 T4 : TypeId} {old : Array Value} {u3 u4 : Value} (vs : List Value) (k e : Int) (q2 : W5.heap[N]? = some (.cells old T2 (0, 0))) (q3 : W5.heap[N + 1]? = some (.cells #[u3] T3 (0, 0))) (q4 : W5.heap[N + 2]? = some (.cells #[u4] T4 (0, 0))) (hd : W5.heap[D]? = some (.deferred (some []))) (hD : N + 3 ≤ D)
    {W7 : World} (h7 : ((W5.setRow N vs.toArray).setCell ⟨N + 1, 0, none⟩ (.int .i64 k)).setCell ⟨N + 1 + 1, 0, none⟩ (.int .i64 e) = W7) :
    W7.heap[D]? = some (.deferred (some [])) ∧ (W7.putObj D (.deferred none)).heap[N]? = some (.cells vs.toArray T2 (0, 0)) ∧ (W7.putObj D (.deferred none)).heap[N + 1]? = some (.cells #[.int .i64 k] T3 (0, 0)) ∧ (W7.putObj D (.deferred none)).heap[N + 2]? = some (.cells #[.int .i64 e] T4 (0, 0)) ∧
      touch (fun b => (N ≤ b ∧ b < N + 3) ∨ b = D) W5 (W7.putObj D (.deferred none)) ∧ ∀ b, ¬ ((N ≤ b ∧ b < N + 3) ∨ b = D) → (W7.putObj D (.deferred none)).heap[b]? = W5.heap[b]? := by
  obtain ⟨A, hA⟩ : ∃ A, W5.setRow N vs.toArray = A := ⟨_, rfl⟩
  obtain ⟨B, hB⟩ : ∃ B, A.setCell ⟨N + 1, 0, none⟩ (.int .i64 k) = B := ⟨_, rfl⟩
  rw [hA, hB] at h7
  have t1 : touch (fun b => b = N) W5 A := by rw [← hA]; exact setRow_touch _ _ _ rfl
  have t2 : touch (fun b => b = N + 1) A B := by rw [← hB]; exact touch.setCell _ _ _ rfl
  have t3 : touch (fun b => b = N + 2) B W7 := by rw [← h7]; exact touch.setCell _ _ _ rfl
  have t4 : touch (fun b => b = D) W7 (W7.putObj D (.deferred none)) := touch.putObj _ _ _ rfl
  have a2 : A.heap[N]? = some (.cells vs.toArray T2 (0, 0)) := by rw [← hA]; exact setRow_same q2
  have b3 : B.heap[N + 1]? = some (.cells #[.int .i64 k] T3 (0, 0)) := by rw [← hB]; exact heap_set (t1.keep q3 (by omega))
  have c4 : W7.heap[N + 2]? = some (.cells #[.int .i64 e] T4 (0, 0)) := by rw [← h7]; exact heap_set (t2.keep (t1.keep q4 (by omega)) (by omega))
  refine ⟨t3.keep (t2.keep (t1.keep hd (by omega)) (by omega)) (by omega), t4.keep (t3.keep (t2.keep a2 (by omega)) (by omega)) (by omega), t4.keep (t3.keep b3 (by omega)) (by omega), t4.keep c4 (by omega), ?_, fun b hb => ?_⟩
  · exact (((t1.mono fun b _ e => .inl ⟨by omega, by omega⟩).trans (t2.mono fun b _ e => .inl ⟨by omega, by omega⟩)).trans (t3.mono fun b _ e => .inl ⟨by omega, by omega⟩)).trans (t4.mono fun b _ e => .inr e)
  · have e1 : A.heap[b]? = W5.heap[b]? := by
      have : ¬ N = b := by omega
      rw [← hA]
      simp [World.setRow, Array.getElem?_modify, this]
    exact (World.putObj_heap_other (by omega)).trans ((by rw [← h7]; exact Below.heap_setCell _ ⟨N + 1 + 1, 0, none⟩ _ _ (show b ≠ N + 1 + 1 by omega) : W7.heap[b]? = B.heap[b]?).trans ((by rw [← hB]; exact Below.heap_setCell _ ⟨N + 1, 0, none⟩ _ _ (show b ≠ N + 1 by omega) : B.heap[b]? = A.heap[b]?).trans e1))
set_option maxRecDepth 100000 in
set_option maxHeartbeats 4000000 in
theorem parse_any (text : ByteArray) (w : World) (hC : LC w) : Calls Tryz.prog 13 #[.string text] w fun e w' => ∃ vs, e = .returned (.tuple #[.agg vs.toArray, .int .i64 (parseP text).2.1, .int .i64 (parseP text).2.2]) ∧ Below w.heap.size w w' ∧ RepL (fun p => if p.block < w.heap.size then none else w'.cell? p) (parseP text).1.pv vs := by
  obtain ⟨n, hn⟩ : ∃ n : Nat, n = 5 := ⟨_, rfl⟩
  clear hn
  refine (callsIn_wide (n := n)).1 ?_
  refine callsIn_of_wp_marks Tryz.func13 rfl trivial ?_ rfl
  simp only [Tryz.ntmps13, List.size_toArray, List.length_cons, List.length_nil, Nat.reduceAdd, Nat.reduceSub, Array.replicate_succ, Array.replicate_zero, List.push_toArray, List.append_toArray, List.nil_append, List.cons_append]
  by_cases hbig : 65536 < text.size
  · have hbig' : (65536 : Int) < (text.size : Int) := by omega
    have hres : parseP text = (snZ, 0, 8) := by unfold parseP; rw [if_pos hbig]
    rw [hres]
    gi_wp2
    obtain ⟨N, hN⟩ : ∃ N, w.heap.size = N := ⟨_, rfl⟩
    generalize hW4 : World.alloc _ _ = W4
    rw [hN]
    refine ⟨_, resP (N := N) (vs := snV) (k := 0) (e := 8) (T2 := 35) (T3 := 3) (T4 := 38) rfl rfl rfl ?_ rfl ?_ ?_, _, rfl, ?_, ?_⟩
    · rw [← hW4, ← hN]; repeat (first | (refine alloc_at _ _ _ ?_; (try simp only [World.size_alloc]) <;> omega) | refine (Below.heap_alloc _ _ _ (by simp only [World.size_alloc]; omega)).trans ?_)
    · rw [← hW4, ← hN]; repeat (first | (refine alloc_at _ _ _ ?_; (try simp only [World.size_alloc]) <;> omega) | refine (Below.heap_alloc _ _ _ (by simp only [World.size_alloc]; omega)).trans ?_)
    · rw [← hW4, ← hN]; repeat (first | (refine alloc_at _ _ _ ?_; (try simp only [World.size_alloc]) <;> omega) | refine (Below.heap_alloc _ _ _ (by simp only [World.size_alloc]; omega)).trans ?_)
    · rw [← hW4, ← hN]; exact (((Below.refl _ w).alloc (Nat.le_refl _) _).alloc (by simp) _).alloc (by simp; omega) _
    · exact repZ _
  · have hbig' : ¬ (65536 : Int) < (text.size : Int) := by omega
    gi_wp2_with ((with_reducible refine And.intro ?_ (And.intro ?_ ?_)); exact trivial; (intro h; cases h); first | (refine (callsIn_wide.2 (forms_any _)).mono ?_; rintro e w' ⟨kb, rfl, hbk, hkx, hkf⟩) | (refine (callsIn_wide.2 (lines_any text _)).mono ?_; rintro e w' ⟨rfl, rfl⟩))
    generalize hW4 : World.alloc _ _ = W4 at hbk hkf
    generalize hWf : World.alloc _ _ = Wf
    obtain ⟨N, hN⟩ : ∃ N, w.heap.size = N := ⟨_, rfl⟩
    obtain ⟨N', hN'⟩ : ∃ N', w'.heap.size = N' := ⟨_, rfl⟩
    have hs4 : W4.heap.size = N + 4 := by rw [← hW4]; simp only [World.size_alloc]; omega
    have hNN : N + 4 ≤ N' := by have := hbk.size; omega
    have hb4 : Below N w W4 := by
      rw [← hW4, ← hN]; exact ((((Below.refl _ w).alloc (Nat.le_refl _) _).alloc (by simp) _).alloc (by simp; omega) _).alloc (by simp; omega) _
    have g2 : W4.heap[N]? = some (.cells snV.toArray 35 (0, 0)) := by rw [← hW4, ← hN]; repeat (first | (refine alloc_at _ _ _ ?_; (try simp only [World.size_alloc]) <;> omega) | refine (Below.heap_alloc _ _ _ (by simp only [World.size_alloc]; omega)).trans ?_)
    have g3 : W4.heap[N + 1]? = some (.cells #[.int .i64 0] 3 (0, 0)) := by rw [← hW4, ← hN]; repeat (first | (refine alloc_at _ _ _ ?_; (try simp only [World.size_alloc]) <;> omega) | refine (Below.heap_alloc _ _ _ (by simp only [World.size_alloc]; omega)).trans ?_)
    have g4 : W4.heap[N + 2]? = some (.cells #[.int .i64 0] 38 (0, 0)) := by rw [← hW4, ← hN]; repeat (first | (refine alloc_at _ _ _ ?_; (try simp only [World.size_alloc]) <;> omega) | refine (Below.heap_alloc _ _ _ (by simp only [World.size_alloc]; omega)).trans ?_)
    have gb : W4.heap[N + 3]? = some (.cells (rvals rdZ rmZ).toArray 94 (0, 0)) := by rw [← hW4, ← hN]; repeat (first | (refine alloc_at _ _ _ ?_; (try simp only [World.size_alloc]) <;> omega) | refine (Below.heap_alloc _ _ _ (by simp only [World.size_alloc]; omega)).trans ?_)
    rw [hs4] at hbk hkf
    have hsf : Wf.heap.size = N' + 3 := by rw [← hWf]; simp only [World.size_alloc]; omega
    have hbf : Below N' w' Wf := by
      rw [← hWf, ← hN']; exact (((Below.refl _ w').alloc (Nat.le_refl _) _).alloc (by simp) _).alloc (by simp; omega) _
    have f5 : Wf.heap[N']? = some (.cells #[.pointer (some ⟨N + 3, 0, none⟩)] 91 (0, 0)) := by rw [← hWf, ← hN', ← hN]; repeat (first | (refine alloc_at _ _ _ ?_; (try simp only [World.size_alloc]) <;> omega) | refine (Below.heap_alloc _ _ _ (by simp only [World.size_alloc]; omega)).trans ?_)
    have f6 : Wf.heap[N' + 1]? = some (.cells #[.map (some kb)] 95 (0, 0)) := by rw [← hWf, ← hN']; repeat (first | (refine alloc_at _ _ _ ?_; (try simp only [World.size_alloc]) <;> omega) | refine (Below.heap_alloc _ _ _ (by simp only [World.size_alloc]; omega)).trans ?_)
    have ft : Wf.heap[N' + 2]? = some (.cells #[.string text] 9 (0, 0)) := by rw [← hWf, ← hN']; repeat (first | (refine alloc_at _ _ _ ?_; (try simp only [World.size_alloc]) <;> omega) | refine (Below.heap_alloc _ _ _ (by simp only [World.size_alloc]; omega)).trans ?_)
    have l4 : ∀ {b : Nat} {o : Obj}, b < N + 4 → W4.heap[b]? = some o → Wf.heap[b]? = some o := fun hb h => (hbf.block _ (by omega)).trans ((hbk.block _ hb).trans h)
    rw [hN, hN']
    clear hWf hW4
    refine range_law (gf := 77) (lb := #[.pointer (some ⟨N' + 1 + 1, 0, none⟩)]) rfl (enters_of Tryz.func77 (by kernel_rfl) rfl) ?_
    intro fn W1 rec hrec hb hs1 hD1 hl1
    rw [hsf] at hs1 hD1 hl1 hb ⊢
    have hst : ∀ st pe, (rec st pe).state = st := fun st pe => by rw [hrec]
    have hpe : ∀ st pe, (rec st pe).pending = pe := fun st pe => by rw [hrec]
    have hps : ∀ st pe, (rec st pe).params = #[20, 21] := fun st pe => by rw [hrec]
    have hasn := fun st pe => congrArg (fun r => Loop.assign (r st pe)) hrec
    have hbod := fun st pe => congrArg (fun r => Loop.body (r st pe)) hrec
    have htm := fun st pe => congrArg (fun r => Loop.tmps (r st pe)) hrec
    dsimp only at hasn hbod htm
    have hset : ∀ st pe st' pe', { rec st pe with state := st', pending := pe' } = rec st' pe' := fun st pe st' pe' => by rw [hrec]
    have hset1 : ∀ st pe st', { rec st pe with state := st' } = rec st' pe := fun st pe st' => by rw [hrec]
    have hlt : ∀ {w : World} {b : Nat} {o : Obj}, w.heap[b]? = some o → b < w.heap.size := fun h => (Array.getElem?_eq_some_iff.1 h).1
    have hbe : ∀ {w : World} {b b' : Nat} {o : Obj} (o' : Obj), w.heap[b]? = some o → b ≠ b' → (w.putObj b' o').heap[b]? = some o := fun o' h hn => (World.putObj_heap_other hn).trans h
    have hb1 : Below N w W1 := hb4.trans ((hbk.mono (by omega)).trans ((hbf.mono (by omega)).trans (hb.mono (by omega))))
    have l1 : ∀ {b : Nat} {o : Obj}, Wf.heap[b]? = some o → W1.heap[b]? = some o := fun h => (hb.block _ (by have := hlt h; omega)).trans h
    clear hrec
    obtain ⟨S, hS⟩ : ∃ S : Nat → Nat → Prop, S = fun B b => (N ≤ b ∧ b < N + 3) ∨ (N' ≤ b ∧ b < B) := ⟨_, rfl⟩
    have hP1 : PW w N N' kb (S (N' + 5)) psZ W1 := by
      refine ⟨⟨rxZ, _, _, okZ, Rel.beginS hC (by rw [hN]; exact hb1) ?_ ⟨trivial, laidZ _ _⟩ (fun R => ⟨trivial, readsZ _ R⟩) ?_ ?_⟩, l1 (l4 (by omega) g2), l1 (l4 (by omega) g3), l1 (l4 (by omega) g4), l1 f5, l1 f6⟩
      · refine ⟨(knownE kb).stable (fun b hb' => ?_) hkx, holdZ (l1 (l4 (by omega) gb)), fun b h1 h2 => ?_⟩
        · have h3 := hkf b hb'
          exact (hb.block b (by omega)).trans (hbf.block b (by omega))
        · have h3 := hkf b h1
          have h4 := allZ h2
          omega
      · intro b hb'
        rw [hS] at hb'
        rw [hN, hs1]
        refine ⟨by omega, by omega, fun h1 => ?_⟩
        rcases (all_and b).1 h1 with h1 | h1
        · have h3 := hkf b h1
          omega
        · have h4 := allZ h1
          omega
      · intro b h1
        rw [hN, hs1]
        rcases (all_and b).1 h1 with h1 | h1
        · have h3 := hkf b h1
          omega
        · have h4 := allZ h1
          omega
    refine (lines_in (n - 1) (N' + 4) (N' + 2) text (by omega) (N' + 5)
      (fun B k W => ∃ p, foldP 0 psZ (linesB text.size text) = foldP k p ((linesB text.size text).drop k) ∧ PW w N N' kb (S B) p W ∧ W.heap[N' + 3]? = some (.deferred (some [])) ∧ W.heap[N' + 4]? = some (.loop (rec .ready none)) ∧ N' + 5 ≤ B)
      (fun _ W => ∃ k e, e ≠ 0 ∧ (foldP 0 psZ (linesB text.size text)).2 = (k, e) ∧ Below N w W ∧ W.heap[N]? = some (.cells snV.toArray 35 (0, 0)) ∧ W.heap[N + 1]? = some (.cells #[.int .i64 (k : Int)] 3 (0, 0)) ∧ W.heap[N + 2]? = some (.cells #[.int .i64 e] 38 (0, 0)) ∧ W.heap[N' + 3]? = some (.deferred (some [])) ∧ W.heap[N' + 4]? = some (.loop (rec .done (some .ret))))
      ?hE ?hT ?hTx ?hS ?hY W1 (by omega) (cell_one1 (l1 ft)) ⟨psZ, by rw [List.drop_zero], by rw [hs1]; exact hP1, hD1, hl1, by rw [hs1]; omega⟩).mono ?_
    case hE =>
      rintro B k W W' ⟨p, h1, h2, h3, h4, h9⟩ hB hbw
      have h5 := hlt h4
      have h6 := hbw.size
      exact ⟨p, h1, h2.more hbw (fun b => by rw [hS, hB]; dsimp only; omega), (hbw.block _ (hlt h3)).trans h3, (hbw.block _ (hlt h4)).trans h4, by omega⟩
    case hT =>
      rintro B k W W' ⟨p, h1, h2, h3, h4, h9⟩ ht
      exact ⟨p, h1, h2.touched (B := N' + 5) ht (fun b hb' => by rw [hS]; exact .inr ⟨by omega, hb'.2⟩) (fun b hb' => hb'.1) (by omega) (by omega), ht.keep h3 (by omega), ht.keep h4 (by omega), h9⟩
    case hTx =>
      rintro B W W' ⟨k, e, h1, h2, h3, h4, h5, h6, h7, h8⟩ ht
      exact ⟨k, e, h1, h2, h3.trans ⟨ht.os, ht.tape, ht.output, ht.size, fun b hb' => ht.block b (by have := hlt h8; omega) (by omega)⟩, ht.keep h4 (by omega), ht.keep h5 (by omega), ht.keep h6 (by omega), ht.keep h7 (by omega), ht.keep h8 (by omega)⟩
    case hS =>
      rintro B k s W hk hsk ⟨p, h1, h2⟩
      exact ⟨p, by rw [h1, foldP_get hk, if_pos hsk], h2⟩
    case hY =>
      rintro m B k s W hk hsk ⟨p, h1, h2, h3, h4, h9⟩
      refine yield_law (A1 := ?A) h4 (hst _ _) (by rw [hps]; rfl) ?asg ?bdy
      case asg =>
        rw [hasn, htm, hps]
        simp only [List.zip_toArray, List.zip_cons_cons, List.zip_nil_right, List.foldl_toArray, List.foldl_cons, List.foldl_nil, List.setIfInBounds_toArray, List.set_cons_succ, List.set_cons_zero]
        gi_wp2
        first | exact rfl | exact ⟨rfl, rfl⟩
      obtain ⟨W2, hW2⟩ : ∃ W2, W.putObj (N' + 4) (.loop { rec .ready none with state := .busy }) = W2 := ⟨_, rfl⟩
      have ht2 : touch (fun b => b = N' + 4) W W2 := by rw [← hW2]; exact touch.putObj _ _ _ rfl
      have hl2 : W2.heap[N' + 4]? = some (.loop (rec .busy none)) := by rw [← hW2, hset1]; exact World.putObj_heap_same (hlt h4)
      have hp2 : PW w N N' kb (S B) p W2 := h2.touched (B := N' + 4) ht2 (fun b hb' => by rw [hS]; exact .inr ⟨by omega, by omega⟩) (fun b hb' => by omega) (by omega) (by omega)
      have hd2 := ht2.keep h3 (by omega)
      have hsz : s.size ≤ 100000 := by
        have := linesB_size _ _ _ (List.mem_of_getElem? hk)
        omega
      obtain ⟨X, γ, a, hX, hrel⟩ := hp2.rel
      have hline := (line_okX (N + 3) kb hX s hsz).calls _ ((laidE LC).and (heldS (S B) fun b => W2.heap[b]?)) γ a W2 [wrP (N + 3), .string s, .map (some kb)] (fun w0 h => h.1) hrel (.cons rfl rfl (.cons rfl rfl (.cons rfl rfl .nil)))
      unfold wrP at hline
      have q5 := cell_one1 hp2.c5
      have q6 := cell_one1 hp2.c6
      obtain ⟨Rp, hRp⟩ : ∃ Rp, (fun (e : Ending) (W' : World) => (∀ b, N' + 5 ≤ b → b < B → W'.heap[b]? = W.heap[b]?) ∧ ((e = .returned (.bool true) ∧ ∃ p, foldP 0 psZ (linesB text.size text) = foldP (k + 1) p ((linesB text.size text).drop (k + 1)) ∧ PW w N N' kb (S B) p W' ∧ W'.heap[N' + 3]? = some (.deferred (some [])) ∧ W'.heap[N' + 4]? = some (.loop (rec .ready none)) ∧ N' + 5 ≤ B) ∨
        (e = .returned (.bool false) ∧ ∃ k e, e ≠ 0 ∧ (foldP 0 psZ (linesB text.size text)).2 = (k, e) ∧ Below N w W' ∧ W'.heap[N]? = some (.cells snV.toArray 35 (0, 0)) ∧ W'.heap[N + 1]? = some (.cells #[.int .i64 (k : Int)] 3 (0, 0)) ∧ W'.heap[N + 2]? = some (.cells #[.int .i64 e] 38 (0, 0)) ∧ W'.heap[N' + 3]? = some (.deferred (some [])) ∧ W'.heap[N' + 4]? = some (.loop (rec .done (some .ret)))))) = Rp := ⟨_, rfl⟩
      rw [hRp, hW2, hbod]
      have hp2c2 := hp2.c2
      have hp2c3 := hp2.c3
      have hp2c4 := hp2.c4
      have hp2c5 := hp2.c5
      have hp2c6 := hp2.c6
      clear hp2 h2
      gi_wp2
      refine ⟨trivial, (fun h => (by cases h)), ?_⟩
      refine CallsIn.mono (CallsIn.inRound _ (callsIn_wide.2 hline)) ?_
      rintro e W3 ⟨u, γ', ⟨X3, hi⟩, rfl, hrel3, _, hu⟩
      obtain rfl := hu
      have hk3 : ∀ b, S B b → W3.heap[b]? = W2.heap[b]? := fun b hb' => hrel3.exth.1.2.1 b hb'
      have hin1 : ∀ b, N ≤ b → b < N + 3 → S B b := fun b h1 h2 => by rw [hS]; exact .inl ⟨h1, h2⟩
      have hin2 : ∀ b, N' ≤ b → b < B → S B b := fun b h1 h2 => by rw [hS]; exact .inr ⟨h1, h2⟩
      have t2 := (hk3 N (hin1 _ (by omega) (by omega))).trans hp2c2
      have t3 := (hk3 (N + 1) (hin1 _ (by omega) (by omega))).trans hp2c3
      have t4 := (hk3 (N + 2) (hin1 _ (by omega) (by omega))).trans hp2c4
      have t5 := (hk3 N' (hin2 _ (by omega) (by omega))).trans hp2c5
      have t6 := (hk3 (N' + 1) (hin2 _ (by omega) (by omega))).trans hp2c6
      have td := (hk3 (N' + 3) (hin2 _ (by omega) (by omega))).trans hd2
      have tl := (hk3 (N' + 4) (hin2 _ (by omega) (by omega))).trans hl2
      have hback : ∀ b, N' + 5 ≤ b → b < B → W3.heap[b]? = W.heap[b]? := fun b h1 h2 => (hk3 b (hin2 _ (by omega) h2)).trans (by rw [← hW2]; exact World.putObj_heap_other (by omega))
      have hrel4 : Rel ⟨fun _ => none, w, 0⟩ (exSt LC (S B) W3 ((knownE kb).and (exts (pcsX (N + 3) X3)))) γ' a W3 := Rel.touchedS (w0 := W2) hrel3 (touch.refl _ _)
      have hbl : Below N w W3 := by rw [← hN]; exact hrel3.below
      have hfold := foldP_get (p := p) hk
      rw [if_neg (by rw [hsk]; simp)] at hfold
      obtain ⟨er, her⟩ : ∃ er, (stepP p (lineO s)).2 = er := ⟨_, rfl⟩
      rw [her] at hi hfold ⊢
      clear hline hrel hrel3 hk3 hp2c2 hp2c3 hp2c4 hp2c5 hp2c6 q5 q6
      by_cases h0 : er = 0
      · subst h0
        have hPW : PW w N N' kb (S B) (stepP p (lineO s)).1 W3 := ⟨⟨X3, γ', a, hi rfl, hrel4⟩, t2, t3, t4, t5, t6⟩
        have hdone : ∃ v w', (Instr.endRound (N' + 4) none).run Tryz.prog W3 = .ok v w' ∧ Rp (.returned v) w' := by
          refine ⟨_, _, run_endRound none tl, ?_⟩
          rw [← hRp, hset]
          refine ⟨fun b b1 b2 => (World.putObj_heap_other (by omega)).trans (hback b b1 b2), .inl ⟨rfl, _, ?_, hPW.touched (B := N' + 4) (touch.putObj (S := fun b => b = N' + 4) _ _ _ rfl) (fun b hb' => hin2 _ (by omega) (by omega)) (fun b hb' => by omega) (by omega) (by omega), hbe _ td (by omega), World.putObj_heap_same (hlt tl), h9⟩⟩
          rw [h1, hfold, if_pos rfl]
        clear hRp hi hPW
        gi_wp2
        exact hdone
      · have hne : (er == 0) = false := by simpa using h0
        clear hi
        gi_wp2_with (with_reducible refine hold_store 35 ?_)
        refine ⟨?_⟩
        refine store_row_in (FOK.round _) rfl 35 _ _ rfl N snV.toArray rfl rfl _ _ t2 Tryz.sz35 rfl (by simp [snV, Value.oneCell']) ?_
        obtain ⟨W4, hW4⟩ : ∃ W4, W3.setRow N snV.toArray = W4 := ⟨_, rfl⟩
        have htc : touch (fun b => b = N) W3 W4 := by rw [← hW4]; exact setRow_touch _ _ _ rfl
        have o4 : ∀ b, b ≠ N → W4.heap[b]? = W3.heap[b]? := fun b hb' => by
          have : ¬ N = b := fun e => hb' e.symm
          rw [← hW4]
          simp [World.setRow, Array.getElem?_modify, this]
        have v2 : W4.heap[N]? = some (.cells snV.toArray 35 (0, 0)) := by rw [← hW4]; exact setRow_same t2
        have v3 := htc.keep t3 (by omega)
        have v4 := htc.keep t4 (by omega)
        have vd := htc.keep td (by omega)
        have vl := htc.keep tl (by omega)
        have z3 := cell_one1 v3
        have z4 := cell_one1 v4
        have y3 := frozen_one v3
        have y4 := frozen_one v4
        rw [hW4]
        clear hW4
        gi_wp2
        obtain ⟨W5, hW5⟩ : ∃ W5, W4.setCell ⟨N + 1, 0, none⟩ (.int .i64 ((k : Int) + 1)) = W5 := ⟨_, rfl⟩
        obtain ⟨W6, hW6⟩ : ∃ W6, W5.setCell ⟨N + 1 + 1, 0, none⟩ (.int .i64 er) = W6 := ⟨_, rfl⟩
        rw [hW5, hW6]
        have s5 : touch (fun b => b = N + 1) W4 W5 := by rw [← hW5]; exact touch.setCell _ _ _ rfl
        have s6 : touch (fun b => b = N + 2) W5 W6 := by rw [← hW6]; exact touch.setCell _ _ _ rfl
        have x3 : W5.heap[N + 1]? = some (.cells #[.int .i64 ((k + 1 : Nat) : Int)] 3 (0, 0)) := by rw [← hW5]; exact heap_set v3
        have x4 : W6.heap[N + 2]? = some (.cells #[.int .i64 er] 38 (0, 0)) := by rw [← hW6]; exact heap_set (s5.keep v4 (by omega))
        have sall : touch (fun b => N ≤ b ∧ b < N + 3) W3 W6 := ((htc.mono fun b _ e => ⟨by omega, by omega⟩).trans (s5.mono fun b _ e => ⟨by omega, by omega⟩)).trans (s6.mono fun b _ e => ⟨by omega, by omega⟩)
        have oall : ∀ b, N + 3 ≤ b → W6.heap[b]? = W3.heap[b]? := fun b hb' => by
          rw [← hW6, ← hW5]
          exact (Below.heap_setCell _ ⟨N + 1 + 1, 0, none⟩ _ _ (show b ≠ N + 1 + 1 by omega)).trans ((Below.heap_setCell _ ⟨N + 1, 0, none⟩ _ _ (show b ≠ N + 1 by omega)).trans (o4 b (by omega)))
        have l6 := sall.keep tl (by omega)
        refine ⟨_, _, run_endRound (some .ret) l6, ?_⟩
        rw [← hRp, hset]
        refine ⟨fun b b1 b2 => (World.putObj_heap_other (by omega)).trans ((oall b (by omega)).trans (hback b b1 b2)), .inr ⟨rfl, k + 1, er, h0, ?_, ?_, hbe _ (s6.keep (s5.keep v2 (by omega)) (by omega)) (by omega), hbe _ (s6.keep x3 (by omega)) (by omega), hbe _ x4 (by omega), hbe _ (sall.keep td (by omega)) (by omega), World.putObj_heap_same (hlt l6)⟩⟩
        · rw [h1, hfold, if_neg h0]
        · exact below_touch hbl ((sall.mono (S' := fun b => N ≤ b) fun b _ e => e.1).trans (touch.putObj _ _ _ (by omega))) (fun b hb' => hb') (by have := hlt tl; omega)
    rintro e W' ⟨⟨v, rfl⟩, B, (⟨p, h1, h2, h3, h4, h9⟩ | ⟨k, e, h1, h2, h3, h4, h5, h6, h7, h8⟩)⟩
    · obtain ⟨W5, hW5⟩ : ∃ W5, W'.putObj (N' + 4) (.loop { rec .ready none with state := .exhausted }) = W5 := ⟨_, rfl⟩
      refine ⟨_, _, run_endLoop h4 (by rw [hst]; simp), ?_⟩
      have hp5 : PW w N N' kb (S B) p W5 := by rw [← hW5]; exact h2.touched (B := N' + 4) (touch.putObj (S := fun b => b = N' + 4) _ _ _ rfl) (fun b hb' => by rw [hS]; exact .inr ⟨by omega, by omega⟩) (fun b hb' => by omega) (by omega) (by omega)
      have hd5 : W5.heap[N' + 3]? = some (.deferred (some [])) := by rw [← hW5]; exact hbe _ h3 (by omega)
      rw [hW5, hpe]
      obtain ⟨X, γ, a, hX, hrel⟩ := hp5.rel
      obtain ⟨T, hT⟩ : ∃ T, W5.heap[N + 3]? = some (.cells (rvals X.R X.m).toArray T (0, 0)) := exts_get hrel.exth.2.1.2.1 (rfl : (pcsX (N + 3) X)[0]? = some (rawU (N + 3) (rvals X.R X.m)))
      rw [hX.R] at hT
      have hc : ∀ j v, (rvals p.R X.m)[j]? = some v → W5.cell? ⟨N + 3, j, none⟩ = some v := fun j v h => by rw [cell_of_row _ _ _ _ T (0, 0) hT]; simpa using h
      obtain ⟨M, hM⟩ : ∃ M, X.m = M := ⟨_, rfl⟩
      rw [hM] at hc hT
      have r0 := hc 0 _ rfl
      have r1 := hc 1 _ rfl
      have r2 := hc 2 _ rfl
      have r3 := hc 3 _ rfl
      have r4 := hc 4 _ rfl
      have r5 := hc 5 _ rfl
      have r6 := hc 6 _ rfl
      have r7 := hc 7 _ rfl
      have r8 := hc 8 _ rfl
      have r9 := hc 9 _ rfl
      have r10 := hc 10 _ rfl
      have r11 := hc 11 _ rfl
      have r12 := hc 12 _ rfl
      have r13 := hc 13 _ rfl
      have r14 := hc 14 _ rfl
      have r16 := hc 16 _ rfl
      have r17 := hc 17 _ rfl
      have r18 := hc 18 _ rfl
      have q2 := hp5.c2
      have q3 := hp5.c3
      have q4 := hp5.c4
      have q5 := cell_one1 hp5.c5
      have hcnt : ∀ W, Calls Tryz.prog 38 #[.string text, .string ⟨#[10]⟩] W fun e w' => e = .returned (.int .i64 ((Lib.countByte text.data.toList 10 : Nat) : Int)) ∧ w' = W := fun W => Any.strings_Count_one (ρ := Tryz.lays138_ren) { Tryz.lays138 with } text 10 W
      have hsuf : ∀ W, Calls Tryz.prog 39 #[.string text, .string ⟨#[10]⟩] W fun e w' => e = .returned (.bool (Lib.hasSuffix text.data.toList [10])) ∧ w' = W := fun W => Any.strings_HasSuffix (ρ := Tryz.lays100_ren) { Tryz.lays100 with } text ⟨#[10]⟩ W (by omega)
      have hcb : Lib.countByte text.data.toList 10 ≤ 65536 := by
        unfold Lib.countByte
        have := List.count_le_length (a := (10 : UInt8)) (l := text.data.toList)
        rw [← Sc.ba_size] at this
        omega
      obtain ⟨ct, hct⟩ : ∃ ct : Nat, Lib.countByte text.data.toList 10 = ct := ⟨_, rfl⟩
      rw [hct] at hcnt hcb
      have hfold : foldP 0 psZ (linesB text.size text) = (p, 0, 0) := by rw [h1, List.drop_length]; rfl
      obtain ⟨b1, hb1⟩ : ∃ b, p.R.begun = b := ⟨_, rfl⟩
      obtain ⟨b2, hb2⟩ : ∃ b, p.R.sched = b := ⟨_, rfl⟩
      obtain ⟨b3, hb3⟩ : ∃ b, p.R.done = b := ⟨_, rfl⟩
      rw [hb1] at r16
      rw [hb2] at r17
      rw [hb3] at r18
      have hbad : (b1 && b2 && b3) = false → parseP text = (snZ, lastB text + 1, 9) := fun h => by
        unfold parseP
        rw [if_neg hbig]
        dsimp only
        rw [hfold]
        dsimp only
        rw [if_neg (by simp), hb1, hb2, hb3, h]
        rfl
      have hgood : (b1 && b2 && b3) = true → parseP text = (p.R.x, 0, 0) := fun h => by
        unfold parseP
        rw [if_neg hbig]
        dsimp only
        rw [hfold]
        dsimp only
        rw [if_neg (by simp), hb1, hb2, hb3, h]
        rfl
      simp only [Exit.inBlock, Exit.then, List.cons_append, List.nil_append]
      clear hp5 h1 h2 h3 h4 hst hpe hps hasn hbod htm hset hset1 hW5
      cases b1
      · have hres := hbad rfl
        have hbl : Below N w W5 := by rw [← hN]; exact hrel.below
        clear hbad hgood r17 r18 hrel hX hM hc hT r0 r1 r2 r3 r4 r5 r6 r7 r8 r9 r10 r11 r12 r13 r14 hfold hb1 hb2 hb3 l4 l1 hlt hbe hS hP1 hD1 hl1 f5 f6 ft g2 g3 g4 gb hbk hkf hkx hb hC hbf hb4
        cases hem : text.toList.isEmpty
        · cases hsf : Lib.hasSuffix text.data.toList [10]
          · have hlb : lastB text = (ct : Int) + 1 := by unfold lastB; rw [hem, hsf, hct]; rfl
            rw [hsf] at hsuf
            gi_wp2_with (first | ((with_reducible refine And.intro ?_ (And.intro ?_ ?_)); exact trivial; (intro h; cases h); first | (refine (callsIn_wide.2 (hcnt _)).mono ?_; rintro e w' ⟨rfl, hww⟩; obtain rfl : W5 = w' := hww.symm) | (refine (callsIn_wide.2 (hsuf _)).mono ?_; rintro e w' ⟨rfl, hww⟩; obtain rfl : W5 = w' := hww.symm)) | (with_reducible refine hold_store 35 ?_))
            refine ⟨?_⟩
            refine store_row_in FOK.wide rfl 35 _ _ rfl N snV.toArray rfl rfl _ _ q2 Tryz.sz35 rfl (by simp [snV, Value.oneCell']) ?_
            obtain ⟨W6, hW6⟩ : ∃ W6, W5.setRow N snV.toArray = W6 := ⟨_, rfl⟩
            have htc : touch (fun b => b = N) W5 W6 := by rw [← hW6]; exact setRow_touch _ _ _ rfl
            have v3 := htc.keep q3 (by omega)
            have v4 := htc.keep q4 (by omega)
            have z3 := cell_one1 v3
            have z4 := cell_one1 v4
            have y3 := frozen_one v3
            have y4 := frozen_one v4
            rw [hW6]
            gi_wp2
            generalize hW7 : World.setCell _ _ _ = W7
            rw [← hW6] at hW7
            obtain ⟨f1, f2, f3, f4, f5, f6⟩ := parse_fin snV _ 9 q2 q3 q4 hd5 (by omega) hW7
            refine ⟨by simp, .inl ⟨_, _, rfl, run_takeDeferred f1, _, resP (N := N) (vs := snV) rfl rfl rfl f2 rfl f3 f4, snV, ?_, ?_, ?_⟩⟩
            · rw [hres, hlb]
            · rw [hN]
              exact below_touch hbl f5 (fun b hb' => by omega) (by have := (Array.getElem?_eq_some_iff.1 hd5).1; omega)
            · rw [hres]
              exact repZ _
          · have hlb : lastB text = (ct : Int) := by unfold lastB; rw [hem, hsf, hct]; rfl
            rw [hsf] at hsuf
            gi_wp2_with (first | ((with_reducible refine And.intro ?_ (And.intro ?_ ?_)); exact trivial; (intro h; cases h); first | (refine (callsIn_wide.2 (hcnt _)).mono ?_; rintro e w' ⟨rfl, hww⟩; obtain rfl : W5 = w' := hww.symm) | (refine (callsIn_wide.2 (hsuf _)).mono ?_; rintro e w' ⟨rfl, hww⟩; obtain rfl : W5 = w' := hww.symm)) | (with_reducible refine hold_store 35 ?_))
            refine ⟨?_⟩
            refine store_row_in FOK.wide rfl 35 _ _ rfl N snV.toArray rfl rfl _ _ q2 Tryz.sz35 rfl (by simp [snV, Value.oneCell']) ?_
            obtain ⟨W6, hW6⟩ : ∃ W6, W5.setRow N snV.toArray = W6 := ⟨_, rfl⟩
            have htc : touch (fun b => b = N) W5 W6 := by rw [← hW6]; exact setRow_touch _ _ _ rfl
            have v3 := htc.keep q3 (by omega)
            have v4 := htc.keep q4 (by omega)
            have z3 := cell_one1 v3
            have z4 := cell_one1 v4
            have y3 := frozen_one v3
            have y4 := frozen_one v4
            rw [hW6]
            gi_wp2
            generalize hW7 : World.setCell _ _ _ = W7
            rw [← hW6] at hW7
            obtain ⟨f1, f2, f3, f4, f5, f6⟩ := parse_fin snV _ 9 q2 q3 q4 hd5 (by omega) hW7
            refine ⟨by simp, .inl ⟨_, _, rfl, run_takeDeferred f1, _, resP (N := N) (vs := snV) rfl rfl rfl f2 rfl f3 f4, snV, ?_, ?_, ?_⟩⟩
            · rw [hres, hlb]
            · rw [hN]
              exact below_touch hbl f5 (fun b hb' => by omega) (by have := (Array.getElem?_eq_some_iff.1 hd5).1; omega)
            · rw [hres]
              exact repZ _
        · have hlb : lastB text = (ct : Int) := by unfold lastB; rw [hem, hct]; rfl
          gi_wp2_with (first | ((with_reducible refine And.intro ?_ (And.intro ?_ ?_)); exact trivial; (intro h; cases h); first | (refine (callsIn_wide.2 (hcnt _)).mono ?_; rintro e w' ⟨rfl, hww⟩; obtain rfl : W5 = w' := hww.symm) | (refine (callsIn_wide.2 (hsuf _)).mono ?_; rintro e w' ⟨rfl, hww⟩; obtain rfl : W5 = w' := hww.symm)) | (with_reducible refine hold_store 35 ?_))
          refine And.intro trivial ?_
          gi_wp2_with (with_reducible refine hold_store 35 ?_)
          refine ⟨?_⟩
          refine store_row_in FOK.wide rfl 35 _ _ rfl N snV.toArray rfl rfl _ _ q2 Tryz.sz35 rfl (by simp [snV, Value.oneCell']) ?_
          obtain ⟨W6, hW6⟩ : ∃ W6, W5.setRow N snV.toArray = W6 := ⟨_, rfl⟩
          have htc : touch (fun b => b = N) W5 W6 := by rw [← hW6]; exact setRow_touch _ _ _ rfl
          have v3 := htc.keep q3 (by omega)
          have v4 := htc.keep q4 (by omega)
          have z3 := cell_one1 v3
          have z4 := cell_one1 v4
          have y3 := frozen_one v3
          have y4 := frozen_one v4
          rw [hW6]
          gi_wp2
          generalize hW7 : World.setCell _ _ _ = W7
          rw [← hW6] at hW7
          obtain ⟨f1, f2, f3, f4, f5, f6⟩ := parse_fin snV _ 9 q2 q3 q4 hd5 (by omega) hW7
          refine ⟨by simp, .inl ⟨_, _, rfl, run_takeDeferred f1, _, resP (N := N) (vs := snV) rfl rfl rfl f2 rfl f3 f4, snV, ?_, ?_, ?_⟩⟩
          · rw [hres, hlb]
          · rw [hN]
            exact below_touch hbl f5 (fun b hb' => by omega) (by have := (Array.getElem?_eq_some_iff.1 hd5).1; omega)
          · rw [hres]
            exact repZ _
      · cases b2
        · have hres := hbad rfl
          have hbl : Below N w W5 := by rw [← hN]; exact hrel.below
          clear hbad hgood r18 hrel hX hM hc hT r0 r1 r2 r3 r4 r5 r6 r7 r8 r9 r10 r11 r12 r13 r14 hfold hb1 hb2 hb3 l4 l1 hlt hbe hS hP1 hD1 hl1 f5 f6 ft g2 g3 g4 gb hbk hkf hkx hb hC hbf hb4
          cases hem : text.toList.isEmpty
          · cases hsf : Lib.hasSuffix text.data.toList [10]
            · have hlb : lastB text = (ct : Int) + 1 := by unfold lastB; rw [hem, hsf, hct]; rfl
              rw [hsf] at hsuf
              gi_wp2_with (first | ((with_reducible refine And.intro ?_ (And.intro ?_ ?_)); exact trivial; (intro h; cases h); first | (refine (callsIn_wide.2 (hcnt _)).mono ?_; rintro e w' ⟨rfl, hww⟩; obtain rfl : W5 = w' := hww.symm) | (refine (callsIn_wide.2 (hsuf _)).mono ?_; rintro e w' ⟨rfl, hww⟩; obtain rfl : W5 = w' := hww.symm)) | (with_reducible refine hold_store 35 ?_))
              refine ⟨?_⟩
              refine store_row_in FOK.wide rfl 35 _ _ rfl N snV.toArray rfl rfl _ _ q2 Tryz.sz35 rfl (by simp [snV, Value.oneCell']) ?_
              obtain ⟨W6, hW6⟩ : ∃ W6, W5.setRow N snV.toArray = W6 := ⟨_, rfl⟩
              have htc : touch (fun b => b = N) W5 W6 := by rw [← hW6]; exact setRow_touch _ _ _ rfl
              have v3 := htc.keep q3 (by omega)
              have v4 := htc.keep q4 (by omega)
              have z3 := cell_one1 v3
              have z4 := cell_one1 v4
              have y3 := frozen_one v3
              have y4 := frozen_one v4
              rw [hW6]
              gi_wp2
              generalize hW7 : World.setCell _ _ _ = W7
              rw [← hW6] at hW7
              obtain ⟨f1, f2, f3, f4, f5, f6⟩ := parse_fin snV _ 9 q2 q3 q4 hd5 (by omega) hW7
              refine ⟨by simp, .inl ⟨_, _, rfl, run_takeDeferred f1, _, resP (N := N) (vs := snV) rfl rfl rfl f2 rfl f3 f4, snV, ?_, ?_, ?_⟩⟩
              · rw [hres, hlb]
              · rw [hN]
                exact below_touch hbl f5 (fun b hb' => by omega) (by have := (Array.getElem?_eq_some_iff.1 hd5).1; omega)
              · rw [hres]
                exact repZ _
            · have hlb : lastB text = (ct : Int) := by unfold lastB; rw [hem, hsf, hct]; rfl
              rw [hsf] at hsuf
              gi_wp2_with (first | ((with_reducible refine And.intro ?_ (And.intro ?_ ?_)); exact trivial; (intro h; cases h); first | (refine (callsIn_wide.2 (hcnt _)).mono ?_; rintro e w' ⟨rfl, hww⟩; obtain rfl : W5 = w' := hww.symm) | (refine (callsIn_wide.2 (hsuf _)).mono ?_; rintro e w' ⟨rfl, hww⟩; obtain rfl : W5 = w' := hww.symm)) | (with_reducible refine hold_store 35 ?_))
              refine ⟨?_⟩
              refine store_row_in FOK.wide rfl 35 _ _ rfl N snV.toArray rfl rfl _ _ q2 Tryz.sz35 rfl (by simp [snV, Value.oneCell']) ?_
              obtain ⟨W6, hW6⟩ : ∃ W6, W5.setRow N snV.toArray = W6 := ⟨_, rfl⟩
              have htc : touch (fun b => b = N) W5 W6 := by rw [← hW6]; exact setRow_touch _ _ _ rfl
              have v3 := htc.keep q3 (by omega)
              have v4 := htc.keep q4 (by omega)
              have z3 := cell_one1 v3
              have z4 := cell_one1 v4
              have y3 := frozen_one v3
              have y4 := frozen_one v4
              rw [hW6]
              gi_wp2
              generalize hW7 : World.setCell _ _ _ = W7
              rw [← hW6] at hW7
              obtain ⟨f1, f2, f3, f4, f5, f6⟩ := parse_fin snV _ 9 q2 q3 q4 hd5 (by omega) hW7
              refine ⟨by simp, .inl ⟨_, _, rfl, run_takeDeferred f1, _, resP (N := N) (vs := snV) rfl rfl rfl f2 rfl f3 f4, snV, ?_, ?_, ?_⟩⟩
              · rw [hres, hlb]
              · rw [hN]
                exact below_touch hbl f5 (fun b hb' => by omega) (by have := (Array.getElem?_eq_some_iff.1 hd5).1; omega)
              · rw [hres]
                exact repZ _
          · have hlb : lastB text = (ct : Int) := by unfold lastB; rw [hem, hct]; rfl
            gi_wp2_with (first | ((with_reducible refine And.intro ?_ (And.intro ?_ ?_)); exact trivial; (intro h; cases h); first | (refine (callsIn_wide.2 (hcnt _)).mono ?_; rintro e w' ⟨rfl, hww⟩; obtain rfl : W5 = w' := hww.symm) | (refine (callsIn_wide.2 (hsuf _)).mono ?_; rintro e w' ⟨rfl, hww⟩; obtain rfl : W5 = w' := hww.symm)) | (with_reducible refine hold_store 35 ?_))
            refine And.intro trivial ?_
            gi_wp2_with (with_reducible refine hold_store 35 ?_)
            refine ⟨?_⟩
            refine store_row_in FOK.wide rfl 35 _ _ rfl N snV.toArray rfl rfl _ _ q2 Tryz.sz35 rfl (by simp [snV, Value.oneCell']) ?_
            obtain ⟨W6, hW6⟩ : ∃ W6, W5.setRow N snV.toArray = W6 := ⟨_, rfl⟩
            have htc : touch (fun b => b = N) W5 W6 := by rw [← hW6]; exact setRow_touch _ _ _ rfl
            have v3 := htc.keep q3 (by omega)
            have v4 := htc.keep q4 (by omega)
            have z3 := cell_one1 v3
            have z4 := cell_one1 v4
            have y3 := frozen_one v3
            have y4 := frozen_one v4
            rw [hW6]
            gi_wp2
            generalize hW7 : World.setCell _ _ _ = W7
            rw [← hW6] at hW7
            obtain ⟨f1, f2, f3, f4, f5, f6⟩ := parse_fin snV _ 9 q2 q3 q4 hd5 (by omega) hW7
            refine ⟨by simp, .inl ⟨_, _, rfl, run_takeDeferred f1, _, resP (N := N) (vs := snV) rfl rfl rfl f2 rfl f3 f4, snV, ?_, ?_, ?_⟩⟩
            · rw [hres, hlb]
            · rw [hN]
              exact below_touch hbl f5 (fun b hb' => by omega) (by have := (Array.getElem?_eq_some_iff.1 hd5).1; omega)
            · rw [hres]
              exact repZ _
        · cases b3
          · have hres := hbad rfl
            have hbl : Below N w W5 := by rw [← hN]; exact hrel.below
            clear hbad hgood  hrel hX hM hc hT r0 r1 r2 r3 r4 r5 r6 r7 r8 r9 r10 r11 r12 r13 r14 hfold hb1 hb2 hb3 l4 l1 hlt hbe hS hP1 hD1 hl1 f5 f6 ft g2 g3 g4 gb hbk hkf hkx hb hC hbf hb4
            cases hem : text.toList.isEmpty
            · cases hsf : Lib.hasSuffix text.data.toList [10]
              · have hlb : lastB text = (ct : Int) + 1 := by unfold lastB; rw [hem, hsf, hct]; rfl
                rw [hsf] at hsuf
                gi_wp2_with (first | ((with_reducible refine And.intro ?_ (And.intro ?_ ?_)); exact trivial; (intro h; cases h); first | (refine (callsIn_wide.2 (hcnt _)).mono ?_; rintro e w' ⟨rfl, hww⟩; obtain rfl : W5 = w' := hww.symm) | (refine (callsIn_wide.2 (hsuf _)).mono ?_; rintro e w' ⟨rfl, hww⟩; obtain rfl : W5 = w' := hww.symm)) | (with_reducible refine hold_store 35 ?_))
                refine ⟨?_⟩
                refine store_row_in FOK.wide rfl 35 _ _ rfl N snV.toArray rfl rfl _ _ q2 Tryz.sz35 rfl (by simp [snV, Value.oneCell']) ?_
                obtain ⟨W6, hW6⟩ : ∃ W6, W5.setRow N snV.toArray = W6 := ⟨_, rfl⟩
                have htc : touch (fun b => b = N) W5 W6 := by rw [← hW6]; exact setRow_touch _ _ _ rfl
                have v3 := htc.keep q3 (by omega)
                have v4 := htc.keep q4 (by omega)
                have z3 := cell_one1 v3
                have z4 := cell_one1 v4
                have y3 := frozen_one v3
                have y4 := frozen_one v4
                rw [hW6]
                gi_wp2
                generalize hW7 : World.setCell _ _ _ = W7
                rw [← hW6] at hW7
                obtain ⟨f1, f2, f3, f4, f5, f6⟩ := parse_fin snV _ 9 q2 q3 q4 hd5 (by omega) hW7
                refine ⟨by simp, .inl ⟨_, _, rfl, run_takeDeferred f1, _, resP (N := N) (vs := snV) rfl rfl rfl f2 rfl f3 f4, snV, ?_, ?_, ?_⟩⟩
                · rw [hres, hlb]
                · rw [hN]
                  exact below_touch hbl f5 (fun b hb' => by omega) (by have := (Array.getElem?_eq_some_iff.1 hd5).1; omega)
                · rw [hres]
                  exact repZ _
              · have hlb : lastB text = (ct : Int) := by unfold lastB; rw [hem, hsf, hct]; rfl
                rw [hsf] at hsuf
                gi_wp2_with (first | ((with_reducible refine And.intro ?_ (And.intro ?_ ?_)); exact trivial; (intro h; cases h); first | (refine (callsIn_wide.2 (hcnt _)).mono ?_; rintro e w' ⟨rfl, hww⟩; obtain rfl : W5 = w' := hww.symm) | (refine (callsIn_wide.2 (hsuf _)).mono ?_; rintro e w' ⟨rfl, hww⟩; obtain rfl : W5 = w' := hww.symm)) | (with_reducible refine hold_store 35 ?_))
                refine ⟨?_⟩
                refine store_row_in FOK.wide rfl 35 _ _ rfl N snV.toArray rfl rfl _ _ q2 Tryz.sz35 rfl (by simp [snV, Value.oneCell']) ?_
                obtain ⟨W6, hW6⟩ : ∃ W6, W5.setRow N snV.toArray = W6 := ⟨_, rfl⟩
                have htc : touch (fun b => b = N) W5 W6 := by rw [← hW6]; exact setRow_touch _ _ _ rfl
                have v3 := htc.keep q3 (by omega)
                have v4 := htc.keep q4 (by omega)
                have z3 := cell_one1 v3
                have z4 := cell_one1 v4
                have y3 := frozen_one v3
                have y4 := frozen_one v4
                rw [hW6]
                gi_wp2
                generalize hW7 : World.setCell _ _ _ = W7
                rw [← hW6] at hW7
                obtain ⟨f1, f2, f3, f4, f5, f6⟩ := parse_fin snV _ 9 q2 q3 q4 hd5 (by omega) hW7
                refine ⟨by simp, .inl ⟨_, _, rfl, run_takeDeferred f1, _, resP (N := N) (vs := snV) rfl rfl rfl f2 rfl f3 f4, snV, ?_, ?_, ?_⟩⟩
                · rw [hres, hlb]
                · rw [hN]
                  exact below_touch hbl f5 (fun b hb' => by omega) (by have := (Array.getElem?_eq_some_iff.1 hd5).1; omega)
                · rw [hres]
                  exact repZ _
            · have hlb : lastB text = (ct : Int) := by unfold lastB; rw [hem, hct]; rfl
              gi_wp2_with (first | ((with_reducible refine And.intro ?_ (And.intro ?_ ?_)); exact trivial; (intro h; cases h); first | (refine (callsIn_wide.2 (hcnt _)).mono ?_; rintro e w' ⟨rfl, hww⟩; obtain rfl : W5 = w' := hww.symm) | (refine (callsIn_wide.2 (hsuf _)).mono ?_; rintro e w' ⟨rfl, hww⟩; obtain rfl : W5 = w' := hww.symm)) | (with_reducible refine hold_store 35 ?_))
              refine And.intro trivial ?_
              gi_wp2_with (with_reducible refine hold_store 35 ?_)
              refine ⟨?_⟩
              refine store_row_in FOK.wide rfl 35 _ _ rfl N snV.toArray rfl rfl _ _ q2 Tryz.sz35 rfl (by simp [snV, Value.oneCell']) ?_
              obtain ⟨W6, hW6⟩ : ∃ W6, W5.setRow N snV.toArray = W6 := ⟨_, rfl⟩
              have htc : touch (fun b => b = N) W5 W6 := by rw [← hW6]; exact setRow_touch _ _ _ rfl
              have v3 := htc.keep q3 (by omega)
              have v4 := htc.keep q4 (by omega)
              have z3 := cell_one1 v3
              have z4 := cell_one1 v4
              have y3 := frozen_one v3
              have y4 := frozen_one v4
              rw [hW6]
              gi_wp2
              generalize hW7 : World.setCell _ _ _ = W7
              rw [← hW6] at hW7
              obtain ⟨f1, f2, f3, f4, f5, f6⟩ := parse_fin snV _ 9 q2 q3 q4 hd5 (by omega) hW7
              refine ⟨by simp, .inl ⟨_, _, rfl, run_takeDeferred f1, _, resP (N := N) (vs := snV) rfl rfl rfl f2 rfl f3 f4, snV, ?_, ?_, ?_⟩⟩
              · rw [hres, hlb]
              · rw [hN]
                exact below_touch hbl f5 (fun b hb' => by omega) (by have := (Array.getElem?_eq_some_iff.1 hd5).1; omega)
              · rw [hres]
                exact repZ _
          · have hres := hgood rfl
            have hbl : Below N w W5 := by rw [← hN]; exact hrel.below
            have hexts := hrel.exth.2.1.2.1
            have hdisj := hrel.exth.2.2
            have hread := hrel.extr.2.2
            clear hbad hgood hfold hb1 hb2 hb3 l4 l1 hlt hbe hP1 hD1 hl1 f5 f6 ft g2 g3 g4 gb hbk hkf hkx hb hC hbf hb4 hcnt hsuf hc hT
            gi_wp2_with (with_reducible refine hold_store 35 ?_)
            refine ⟨?_⟩
            have hSN : ∀ b, N ≤ b → b < N + 3 → S B b := fun b h1 h2 => by rw [hS]; exact .inl ⟨h1, h2⟩
            have hSD : S B (N' + 3) := by rw [hS]; exact .inr ⟨by omega, by omega⟩
            have hrep : RepL (besR N (S B) W5) p.R.x.pv ((rvals p.R M).take 15) := by
              have h9 := rep_sn (R := besR N (S B) W5) (w := W5) (b := N + 3) hX hexts ?_ ?_
              · rw [hX.R, hM] at h9
                exact h9
              · refine (exts (pcsX (N + 3) X)).rmono (fun q v hq => ?_) hread
                unfold rdr at hq
                dsimp only at hq
                rw [hN] at hq
                by_cases h1 : q.block < N
                · rw [if_pos h1] at hq; cases hq
                · rw [if_neg h1] at hq
                  by_cases h2 : S B q.block
                  · rw [if_pos (.inr (.inr (.inl (.inl (.inr h2)))))] at hq; cases hq
                  · unfold besR
                    rw [if_neg (fun h : _ ∨ _ => h.elim h1 h2)]
                    split at hq
                    · cases hq
                    · exact hq
              · intro g hg j u hu
                have h1 := (hrel.extf g (.inl (.inr (.inr hg)))).1
                have h2 : ¬ S B g := fun h => hdisj g (.inl (.inr h)) (.inl (.inr hg))
                have h3 : w.heap.size = N := hN
                unfold besR
                rw [if_neg (fun h : _ ∨ _ => h.elim (fun h => by dsimp only at h h1; omega) h2)]
                exact hu
            have hone : ((rvals p.R M).take 15).toArray.all (·.oneCell') = true := by
              rw [List.all_toArray]
              exact hrep.all_one
            clear hexts hdisj hread hrel hX hM
            refine store_row_in FOK.wide rfl 35 _ _ rfl N ((rvals p.R M).take 15).toArray rfl rfl _ _ q2 Tryz.sz35 rfl hone ?_
            obtain ⟨W6, hW6⟩ : ∃ W6, W5.setRow N ((rvals p.R M).take 15).toArray = W6 := ⟨_, rfl⟩
            have htc : touch (fun b => b = N) W5 W6 := by rw [← hW6]; exact setRow_touch _ _ _ rfl
            have v3 := htc.keep q3 (by omega)
            have v4 := htc.keep q4 (by omega)
            have z3 := cell_one1 v3
            have z4 := cell_one1 v4
            have y3 := frozen_one v3
            have y4 := frozen_one v4
            rw [hW6]
            gi_wp2
            generalize hW7 : World.setCell _ _ _ = W7
            rw [← hW6] at hW7
            obtain ⟨f1, f2, f3, f4, f5, f6⟩ := parse_fin ((rvals p.R M).take 15) 0 0 q2 q3 q4 hd5 (by omega) hW7
            refine ⟨by simp, .inl ⟨_, _, rfl, run_takeDeferred f1, _, resP (N := N) (vs := (rvals p.R M).take 15) rfl rfl rfl f2 rfl f3 f4, (rvals p.R M).take 15, ?_, ?_, ?_⟩⟩
            · rw [hres]
            · rw [hN]
              exact below_touch hbl f5 (fun b hb' => by omega) (by have := (Array.getElem?_eq_some_iff.1 hd5).1; omega)
            · rw [hres]
              refine hrep.mono fun q v hq => ?_
              unfold besR at hq
              split at hq
              · cases hq
              · rename_i h1
                rw [if_neg (by rw [hN]; exact fun h => h1 (.inl h))]
                refine (World.cell?_of_block (w := W5) (a := q) (f6 q.block fun h => ?_)).trans hq
                rcases h with h | h
                · exact h1 (.inr (hSN _ h.1 h.2))
                · exact h1 (.inr (by rw [h]; exact hSD))
    · refine ⟨_, _, run_endLoop h8 (by rw [hst]; simp), ?_⟩
      rw [hpe]
      refine wpIn_ret ?_
      refine ⟨by simp, .inl ⟨_, _, rfl, run_takeDeferred (hbe _ h7 (by omega)), ?_⟩⟩
      have hres : parseP text = (snZ, (k : Int), e) := by
        unfold parseP
        rw [if_neg hbig]
        dsimp only
        rw [h2]
        dsimp only
        rw [if_pos h1]
      refine ⟨_, resP (N := N) (vs := snV) (k := k) (e := e) rfl rfl rfl (hbe _ (hbe _ h4 (by omega)) (by omega)) rfl (hbe _ (hbe _ h5 (by omega)) (by omega)) (hbe _ (hbe _ h6 (by omega)) (by omega)), snV, ?_, ?_, ?_⟩
      · rw [hres]
      · rw [hN]
        exact below_touch h3 ((touch.putObj (S := fun b => N' ≤ b) _ _ _ (by omega)).trans (touch.putObj _ _ _ (by omega))) (fun b hb' => by omega) (by have := hlt h8; omega)
      · rw [hres]
        exact repZ _
end Go.Proofs.YtcloigoajohppaaGreatDoor
/- Parse: its contract. -/
namespace Go.Proofs.YtcloigoajohppaaGreatDoor
open Go.RowKit
open Av
open Sc
set_option maxRecDepth 100000
set_option linter.unusedSimpArgs false

theorem parse_okC (text : ByteArray) : FnOKC Tryz.prog LC 13 [.v (.string text)] ⟨.tup [.g (parseP text).1.pv, .c (ip (parseP text).2.1), .c (ip (parseP text).2.2)], none⟩ := by
  refine ⟨⟨Tryz.f13, _, Tryz.func13, by kernel_rfl, rfl⟩, fun w R hC hR us hus => ?_⟩
  cases hus with | cons h0 _ hus =>
  cases hus
  rw [h0]
  refine (parse_any text w hC).mono ?_
  rintro e w' ⟨vs, rfl, hb, hrep⟩
  refine ⟨_, rfl, hb, rfl, [.agg vs.toArray, .int .i64 (parseP text).2.1, .int .i64 (parseP text).2.2], rfl, .cons (.g (hrep.mono fun q v hq => ?_)) (.cons (.c (.v _ rfl)) (.cons (.c (.v _ rfl)) .nil))⟩
  unfold fresh
  split at hq
  · cases hq
  · rename_i h
    rw [if_neg h, if_neg (by simp)]
    exact hq
end Go.Proofs.YtcloigoajohppaaGreatDoor
/- The lines of a text that was written are read: in plain Lean. -/
namespace Go.Proofs.YtcloigoajohppaaGreatDoor
open Go.RowKit
open Av
open Sc
set_option maxRecDepth 100000
set_option linter.unusedSimpArgs false
set_option linter.unusedVariables false

theorem linesB_of : ∀ (m : Nat) (s : ByteArray), s.size ≤ m → linesB m s = (splitC 10 s.data.toList).map mkB := fun m => by
  induction m with
  | zero =>
    intro s hs
    have h0 : s.data.toList = [] := List.eq_nil_of_length_eq_zero (by rw [← size_list]; omega)
    rw [h0]
    show [s] = [mkB []]
    rw [← mkB_of s, h0]
  | succ m ih =>
    intro s hs
    unfold linesB
    rcases split_cases 10 s.data.toList with h | ⟨a, r, he, h⟩
    · rw [indexByte_miss h, if_pos (by decide), splitC_one h, List.map_cons, List.map_nil, mkB_of]
    · have hi : Lib.indexByte s.data.toList 10 = (a.length : Nat) := by rw [he, indexByte_hit r h]
      have hsz := size_list s
      rw [he] at hsz
      simp only [List.length_append, List.length_cons] at hsz
      rw [hi, if_neg (by omega), show ((a.length : Nat) : Int).toNat = a.length from Int.toNat_natCast _, ih _ (by rw [ByteArray.size_extract]; omega)]
      have e1 : (s.extract (a.length + 1) s.size).data.toList = r := by
        rw [Lib.extract_to_end, he, List.drop_append]
        simp
      have e2 : s.extract 0 a.length = mkB a := ext_list (by rw [Lib.extract_from_zero, he, mkB_list]; simp)
      rw [e1, e2, he, splitC_cons r h, List.map_cons]
theorem wordsL_eq (s : ByteArray) : wordsL s = (splitC 32 s.data.toList).map mkB := wordsL_of 32 s.size s (Nat.le_refl _)
theorem numR_itoa {n : Int} (h0 : -1099511627776 ≤ n) (h1 : n ≤ 1099511627776) : numR (mkB (Lib.itoa n)) = (n, true) := by
  unfold numR
  rw [mkB_list, atoiAll_itoa h0 h1]
  show (n, ((mkB (Lib.itoa n)).toList == (mkB (Lib.itoa n)).toList) && _) = _
  rw [beq_self_eq_true, decide_eq_true h0, decide_eq_true h1]
  rfl
/-- A word of a line. -/
structure GoodW (w : ByteArray) : Prop where
  ok : badW w = false
  b : 32 ∉ w.data.toList
  n : 10 ∉ w.data.toList
  h : ∃ c t, w.data.toList = c :: t ∧ (c == 35) = false
def inR (ns : List Int) : Prop := ∀ n ∈ ns, -1099511627776 ≤ n ∧ n ≤ 1099511627776
theorem inR_of {ns : List Int} (h : ns.any farB = false) : inR ns := fun n hn => by
  have h1 : farB n = false := by
    cases hf : farB n with
    | false => rfl
    | true => rw [List.any_eq_true.2 ⟨n, hn, hf⟩] at h; cases h
  unfold farB at h1
  rw [Bool.or_eq_false_iff] at h1
  have h2 := of_decide_eq_false h1.1
  have h3 := of_decide_eq_false h1.2
  omega
theorem split_line (ns : List Int) : ∀ (w : List UInt8), 32 ∉ w → splitC 32 (w ++ ns.flatMap fun n => 32 :: Lib.itoa n) = w :: ns.map Lib.itoa := by
  induction ns with
  | nil => intro w h; simp only [List.flatMap_nil, List.append_nil, List.map_nil]; exact splitC_one h
  | cons n ns ih =>
    intro w h
    rw [List.flatMap_cons, List.cons_append, splitC_cons _ h, ih _ (itoa_no (by decide)), List.map_cons]
theorem lineO_line {w : ByteArray} {ns : List Int} (hw : GoodW w) (hn : inR ns) : lineO (mkB (lineB w ns)) = some (w, ns) := by
  have e : wordsL (mkB (lineB w ns)) = w :: ns.map fun n => mkB (Lib.itoa n) := by
    rw [wordsL_eq, mkB_list]
    unfold lineB
    rw [split_line ns _ hw.b, List.map_cons, mkB_of, List.map_map]
    rfl
  unfold lineO
  rw [e]
  simp only [List.headD_cons, List.tail_cons, hw.ok, Bool.false_eq_true, if_false]
  have h1 : (ns.map fun n => mkB (Lib.itoa n)).all (fun p => (numR p).2) = true := by
    rw [List.all_eq_true]
    intro p hp
    obtain ⟨n, hm, rfl⟩ := List.mem_map.1 hp
    rw [numR_itoa (hn n hm).1 (hn n hm).2]
  simp only [h1, if_true, List.map_map]
  congr 2
  conv => rhs; rw [← List.map_id ns]
  refine List.map_congr_left fun n hm => ?_
  show (numR (mkB (Lib.itoa n))).1 = n
  rw [numR_itoa (hn n hm).1 (hn n hm).2]
theorem line_no {w : ByteArray} {ns : List Int} (hw : GoodW w) : 10 ∉ lineB w ns := fun h => by
  unfold lineB at h
  rcases List.mem_append.1 h with h | h
  · exact hw.n h
  · obtain ⟨n, _, h⟩ := List.mem_flatMap.1 h
    rcases List.mem_cons.1 h with h | h
    · exact absurd h (by decide)
    · exact itoa_no (by decide) h
theorem skip_line {w : ByteArray} {ns : List Int} (hw : GoodW w) : skipB (mkB (lineB w ns)) = false := by
  obtain ⟨c, t, he, hc⟩ := hw.h
  unfold skipB
  rw [mkB_list]
  unfold lineB
  rw [he]
  exact hc
theorem split_txt (r : List UInt8) : ∀ (L : List Ln), (∀ l ∈ L, GoodW l.1) → splitC 10 (txt L ++ r) = (L.map fun l => lineB l.1 l.2) ++ splitC 10 r
  | [], _ => rfl
  | l :: L, h => by
    rw [txt_cons, List.append_assoc, List.append_assoc, List.singleton_append, splitC_cons _ (line_no (h l List.mem_cons_self)), split_txt r L fun x hx => h x (List.mem_cons_of_mem _ hx)]
    rfl
def mkL (l : Ln) : ByteArray := mkB (lineB l.1 l.2)
theorem lines_txt {L : List Ln} (h : ∀ l ∈ L, GoodW l.1) : linesB (mkB (txt L)).size (mkB (txt L)) = L.map mkL ++ [mkB []] := by
  rw [linesB_of _ _ (Nat.le_refl _), mkB_list]
  have := split_txt [] L h
  rw [List.append_nil] at this
  rw [this, List.map_append, List.map_map]
  rfl
/-- Lines are read, all of them well. -/
def runL : Ps → List Ln → Option Ps
  | p, [] => some p
  | p, l :: L => if (stepP p (some l)).2 = 0 then runL (stepP p (some l)).1 L else none
theorem runL_cons (p : Ps) (l : Ln) (L : List Ln) : runL p (l :: L) = if (stepP p (some l)).2 = 0 then runL (stepP p (some l)).1 L else none := rfl
theorem foldP_cons (k : Nat) (p : Ps) (s : ByteArray) (l : List ByteArray) : foldP k p (s :: l) = if skipB s then foldP (k + 1) p l else if (stepP p (lineO s)).2 = 0 then foldP (k + 1) (stepP p (lineO s)).1 l else (p, k + 1, (stepP p (lineO s)).2) := rfl
theorem runL_append : ∀ (L M : List Ln) (p : Ps), runL p (L ++ M) = (runL p L).bind fun q => runL q M
  | [], M, p => rfl
  | l :: L, M, p => by
    rw [List.cons_append, runL_cons, runL_cons]
    split
    · exact runL_append L M (stepP p (some l)).1
    · rfl
theorem run_then {L M : List Ln} {p q : Ps} {o : Option Ps} (h : runL p L = some q) (h2 : runL q M = o) : runL p (L ++ M) = o := by rw [runL_append, h]; exact h2
theorem run_one {l : Ln} {p q : Ps} (h : stepP p (some l) = (q, 0)) : runL p [l] = some q := by
  unfold runL
  rw [h, if_pos rfl]
  rfl
theorem run_cons {l : Ln} {L : List Ln} {p q : Ps} {o : Option Ps} (h : stepP p (some l) = (q, 0)) (h2 : runL q L = o) : runL p (l :: L) = o := by
  unfold runL
  rw [h, if_pos rfl]
  exact h2
def GoodL (l : Ln) : Prop := GoodW l.1 ∧ inR l.2
theorem foldP_run (rest : List ByteArray) : ∀ (L : List Ln) (k : Nat) (p q : Ps), (∀ l ∈ L, GoodL l) → runL p L = some q → foldP k p (L.map mkL ++ rest) = foldP (k + L.length) q rest
  | [], k, p, q, _, h => by cases h; rfl
  | l :: L, k, p, q, hg, h => by
    have hl := hg l List.mem_cons_self
    unfold runL at h
    split at h
    · rename_i h0
      rw [List.map_cons, List.cons_append, foldP_cons]
      rw [show skipB (mkL l) = false from skip_line hl.1, show lineO (mkL l) = some l from lineO_line hl.1 hl.2, if_neg (by decide), if_pos h0,
        foldP_run rest L (k + 1) _ q (fun x hx => hg x (List.mem_cons_of_mem _ hx)) h, List.length_cons, show k + 1 + L.length = k + (L.length + 1) by omega]
    · cases h
theorem count_txt : ∀ (L : List Ln), (∀ l ∈ L, GoodW l.1) → (txt L).count 10 = L.length
  | [], _ => rfl
  | l :: L, h => by
    rw [txt_cons, List.count_append, List.count_append, count_txt L fun x hx => h x (List.mem_cons_of_mem _ hx), List.count_eq_zero.2 (line_no (h l List.mem_cons_self)), List.length_cons]
    show 0 + 1 + L.length = _
    omega
theorem lastB_txt {L : List Ln} (h : ∀ l ∈ L, GoodW l.1) : lastB (mkB (txt L)) = L.length := by
  have hc : Lib.countByte (txt L) 10 = L.length := count_txt L h
  have hs : ((mkB (txt L)).toList.isEmpty || Lib.hasSuffix (mkB (txt L)).data.toList [10]) = true := by
    rw [mkB_list]
    rcases List.eq_nil_or_concat L with rfl | ⟨M, l, rfl⟩
    · rw [ByteArray.toList_eq]
      rfl
    · rw [Bool.or_eq_true]
      refine .inr ?_
      unfold Lib.hasSuffix
      rw [List.isSuffixOf_iff_suffix]
      rw [List.concat_eq_append, txt_append, txt_one, ← List.append_assoc]
      exact List.suffix_append _ _
  unfold lastB
  rw [if_pos hs, mkB_list, hc]
/-- Lines that were written are read. -/
theorem parse_txt {L : List Ln} {p : Ps} (hg : ∀ l ∈ L, GoodL l) (hs : (txt L).length ≤ 65536) (hr : runL psZ L = some p) :
    parseP (mkB (txt L)) = if p.R.begun && p.R.sched && p.R.done then (p.R.x, 0, 0) else (snZ, (L.length : Int) + 1, 9) := by
  have hf : foldP 0 psZ (linesB (mkB (txt L)).size (mkB (txt L))) = (p, 0, 0) := by
    rw [lines_txt fun l hl => (hg l hl).1, foldP_run _ L 0 psZ p hg hr]
    rfl
  unfold parseP
  rw [if_neg (by rw [mkB_size]; omega), hf, lastB_txt fun l hl => (hg l hl).1]
  show (if (0 : Int) ≠ 0 then _ else if (p.R.begun && p.R.sched && p.R.done) = true then _ else _) = _
  rw [if_neg (by decide)]
theorem good_word : GoodW wNetwork ∧ GoodW wPower ∧ GoodW wLink ∧ GoodW wBefore ∧ GoodW wAfter ∧ GoodW wRoute ∧ GoodW wSchedule ∧ GoodW wCell ∧ GoodW wAdd ∧ GoodW wRemove ∧ GoodW wWeak ∧ GoodW wOutage ∧ GoodW wSlots :=
  ⟨⟨by kernel_rfl, by decide, by decide, _, _, rfl, rfl⟩, ⟨by kernel_rfl, by decide, by decide, _, _, rfl, rfl⟩, ⟨by kernel_rfl, by decide, by decide, _, _, rfl, rfl⟩, ⟨by kernel_rfl, by decide, by decide, _, _, rfl, rfl⟩,
    ⟨by kernel_rfl, by decide, by decide, _, _, rfl, rfl⟩, ⟨by kernel_rfl, by decide, by decide, _, _, rfl, rfl⟩, ⟨by kernel_rfl, by decide, by decide, _, _, rfl, rfl⟩, ⟨by kernel_rfl, by decide, by decide, _, _, rfl, rfl⟩,
    ⟨by kernel_rfl, by decide, by decide, _, _, rfl, rfl⟩, ⟨by kernel_rfl, by decide, by decide, _, _, rfl, rfl⟩, ⟨by kernel_rfl, by decide, by decide, _, _, rfl, rfl⟩, ⟨by kernel_rfl, by decide, by decide, _, _, rfl, rfl⟩,
    ⟨by kernel_rfl, by decide, by decide, _, _, rfl, rfl⟩⟩
end Go.Proofs.YtcloigoajohppaaGreatDoor
/- The lines of a scenario are read back as the scenario: in plain Lean. -/
namespace Go.Proofs.YtcloigoajohppaaGreatDoor
open Go.RowKit
open Av
open Sc
set_option maxRecDepth 100000
set_option linter.unusedSimpArgs false
set_option linter.unusedVariables false

/-- What has been read is x, up to rank r. -/
structure At (p : Ps) (x : Sn) (r : Int) (s : Bool) : Prop where
  x : p.R.x = x
  begun : p.R.begun = true
  rank : p.R.rank ≤ r
  sched : p.R.sched = s
  done : p.R.done = false
theorem At.up {p : Ps} {x : Sn} {r r' : Int} {s : Bool} (h : At p x r s) (hr : r ≤ r') : At p x r' s := ⟨h.x, h.begun, Int.le_trans h.rank hr, h.sched, h.done⟩
theorem kd_word (k : Kd) : kdOf k.word = some k ∧ k.word ≠ wRoute := by cases k <;> decide
theorem step_kd (k : Kd) {p : Ps} {l : List Int} (hl : l.length = k.count) (hc : comesB p.R k.rank = true) : stepP p (some (k.word, l)) = readP k ⟨{ p.R with rank := k.rank }, none⟩ l := by
  unfold stepP
  simp only
  rw [if_neg (fun h => (kd_word k).2 h.1), (kd_word k).1]
  simp only
  rw [if_neg (fun h => h hl), if_neg (by rw [hc]; decide)]
theorem comes_at {p : Ps} {x : Sn} {r : Int} {s : Bool} (h : At p x r s) {k : Int} (hr : r ≤ k) (hk : 0 < k) (hs : k < 5 ∨ (k = 5 ∧ s = false) ∨ (5 < k ∧ s = true)) : comesB p.R k = true := by
  unfold comesB
  have h0 : (k == 0) = false := beq_eq_false_iff_ne.2 (by omega)
  have h1 : decide (k < p.R.rank) = false := decide_eq_false (by have := h.rank; omega)
  rw [h0, h.begun, h1, h.sched, h.done]
  rcases hs with hs | ⟨hs, rfl⟩ | ⟨hs, rfl⟩
  · have h2 : decide (k > 5) = false := decide_eq_false (by omega)
    have h3 : (k == 5) = false := beq_eq_false_iff_ne.2 (by omega)
    have h4 : (k == 10) = false := beq_eq_false_iff_ne.2 (by omega)
    rw [h2, h3, h4]
    rfl
  · subst hs
    rfl
  · have h3 : (k == 5) = false := beq_eq_false_iff_ne.2 (by omega)
    rw [h3]
    cases decide (k > 5) <;> cases (k == 10) <;> rfl
/-- A part of the lines. -/
theorem seg {α : Type} (f : α → List Ln) (rk : Int) (s : Bool) (cnt : Sn → Nat) (put : Sn → α → Sn) (good : α → Prop)
    (hp : ∀ x a, cnt (put x a) = cnt x + 1)
    (hs : ∀ p x a, At p x rk s → cnt x < 1024 → good a → ∃ p', runL p (f a) = some p' ∧ At p' (put x a) rk s) :
    ∀ (l : List α) (p : Ps) (x : Sn), At p x rk s → cnt x + l.length ≤ 1024 → (∀ a ∈ l, good a) → ∃ p', runL p (l.flatMap f) = some p' ∧ At p' (l.foldl put x) rk s
  | [], p, x, h, _, _ => ⟨p, rfl, h⟩
  | a :: l, p, x, h, hc, hg => by
    rw [List.length_cons] at hc
    obtain ⟨p1, h1, h2⟩ := hs p x a h (by omega) (hg a List.mem_cons_self)
    obtain ⟨p2, h3, h4⟩ := seg f rk s cnt put good hp hs l p1 (put x a) h2 (by rw [hp]; omega) (fun b hb => hg b (List.mem_cons_of_mem _ hb))
    exact ⟨p2, by rw [List.flatMap_cons]; exact run_then h1 h3, h4⟩
theorem map_flat {α β : Type} (f : α → β) (l : List α) : l.map f = l.flatMap fun a => [f a] := by
  induction l with
  | nil => rfl
  | cons a l ih => rw [List.map_cons, List.flatMap_cons, ih]; rfl
theorem fold_cells : ∀ (l : List Ce) (x : Sn), l.foldl (fun x c => { x with cells := x.cells ++ [c] }) x = { x with cells := x.cells ++ l }
  | [], x => by simp
  | c :: l, x => by rw [List.foldl_cons, fold_cells l]; simp
theorem fold_changes : ∀ (l : List Ch) (x : Sn), l.foldl (fun x c => { x with changes := x.changes ++ [c] }) x = { x with changes := x.changes ++ l }
  | [], x => by simp
  | c :: l, x => by rw [List.foldl_cons, fold_changes l]; simp
theorem fold_weak : ∀ (l : List Wk) (x : Sn), l.foldl (fun x c => { x with weak := x.weak ++ [c] }) x = { x with weak := x.weak ++ l }
  | [], x => by simp
  | c :: l, x => by rw [List.foldl_cons, fold_weak l]; simp
theorem fold_outs : ∀ (l : List Og) (x : Sn), l.foldl (fun x c => { x with outs := x.outs ++ [c] }) x = { x with outs := x.outs ++ l }
  | [], x => by simp
  | c :: l, x => by rw [List.foldl_cons, fold_outs l]; simp
theorem fold_before : ∀ (l : List Rq) (x : Sn), l.foldl (fun x c => { x with before := x.before ++ [c] }) x = { x with before := x.before ++ l }
  | [], x => by simp
  | c :: l, x => by rw [List.foldl_cons, fold_before l]; simp
theorem fold_after : ∀ (l : List Rq) (x : Sn), l.foldl (fun x c => { x with after := x.after ++ [c] }) x = { x with after := x.after ++ l }
  | [], x => by simp
  | c :: l, x => by rw [List.foldl_cons, fold_after l]; simp
theorem fold_links : ∀ (l : List (Lk × Int)) (x : Sn), l.foldl (fun x c => { x with net := { x.net with links := x.net.links ++ [c.1], margin := x.net.margin ++ [c.2] } }) x = { x with net := { x.net with links := x.net.links ++ l.map (·.1), margin := x.net.margin ++ l.map (·.2) } }
  | [], x => by simp
  | c :: l, x => by rw [List.foldl_cons, fold_links l]; simp

theorem seg_cells {p : Ps} {x : Sn} {r : Int} (h : At p x r true) (hr : r ≤ 6) (l : List Ce) (hl : x.cells.length + l.length ≤ 1024) : ∃ p', runL p (l.map fun c => (wCell, c.nums)) = some p' ∧ At p' { x with cells := x.cells ++ l } 6 true := by
  rw [map_flat, ← fold_cells]
  refine seg _ 6 true (fun x => x.cells.length) _ (fun _ => True) (fun x a => by simp) (fun p x c h hc _ => ?_) l p x (h.up hr) hl (fun _ _ => trivial)
  refine ⟨_, run_one (p := p) (l := (wCell, c.nums)) ((step_kd .cell rfl (comes_at h (Int.le_refl 6) (by decide) (.inr (.inr ⟨by decide, rfl⟩)))).trans (if_neg (by show ¬ 1024 ≤ p.R.x.cells.length; rw [h.x]; omega))), ?_⟩
  exact ⟨by show ({ p.R.x with cells := _ } : Sn) = _; rw [h.x], h.begun, Int.le_refl 6, h.sched, h.done⟩
theorem seg_changes {p : Ps} {x : Sn} {r : Int} (h : At p x r true) (hr : r ≤ 7) (l : List Ch) (hl : x.changes.length + l.length ≤ 1024) : ∃ p', runL p (l.map chL) = some p' ∧ At p' { x with changes := x.changes ++ l } 7 true := by
  rw [map_flat, ← fold_changes]
  refine seg _ 7 true (fun x => x.changes.length) _ (fun _ => True) (fun x a => by simp) (fun p x c h hc _ => ?_) l p x (h.up hr) hl (fun _ _ => trivial)
  obtain ⟨sl, ad, ⟨c1, c2, c3, c4, c5⟩⟩ := c
  cases ad with
  | true =>
    refine ⟨_, run_one (p := p) (l := (wAdd, [sl, c1, c2, c3, c4, c5])) ((step_kd .add rfl (comes_at h (Int.le_refl 7) (by decide) (.inr (.inr ⟨by decide, rfl⟩)))).trans (if_neg (by show ¬ 1024 ≤ p.R.x.changes.length; rw [h.x]; omega))), ?_⟩
    exact ⟨by show ({ p.R.x with changes := _ } : Sn) = _; rw [h.x], h.begun, Int.le_refl 7, h.sched, h.done⟩
  | false =>
    refine ⟨_, run_one (p := p) (l := (wRemove, [sl, c1, c2, c3, c4, c5])) ((step_kd .remove rfl (comes_at h (Int.le_refl 7) (by decide) (.inr (.inr ⟨by decide, rfl⟩)))).trans (if_neg (by show ¬ 1024 ≤ p.R.x.changes.length; rw [h.x]; omega))), ?_⟩
    exact ⟨by show ({ p.R.x with changes := _ } : Sn) = _; rw [h.x], h.begun, Int.le_refl 7, h.sched, h.done⟩
theorem seg_weak {p : Ps} {x : Sn} {r : Int} (h : At p x r true) (hr : r ≤ 8) (l : List Wk) (hl : x.weak.length + l.length ≤ 1024) : ∃ p', runL p (l.map wkL) = some p' ∧ At p' { x with weak := x.weak ++ l } 8 true := by
  rw [map_flat, ← fold_weak]
  refine seg _ 8 true (fun x => x.weak.length) _ (fun _ => True) (fun x a => by simp) (fun p x c h hc _ => ?_) l p x (h.up hr) hl (fun _ _ => trivial)
  refine ⟨_, run_one (p := p) (l := wkL c) ((step_kd .weak rfl (comes_at h (Int.le_refl 8) (by decide) (.inr (.inr ⟨by decide, rfl⟩)))).trans (if_neg (by show ¬ 1024 ≤ p.R.x.weak.length; rw [h.x]; omega))), ?_⟩
  exact ⟨by show ({ p.R.x with weak := _ } : Sn) = _; rw [h.x], h.begun, Int.le_refl 8, h.sched, h.done⟩
theorem seg_outs {p : Ps} {x : Sn} {r : Int} (h : At p x r true) (hr : r ≤ 9) (l : List Og) (hl : x.outs.length + l.length ≤ 1024) : ∃ p', runL p (l.map ogL) = some p' ∧ At p' { x with outs := x.outs ++ l } 9 true := by
  rw [map_flat, ← fold_outs]
  refine seg _ 9 true (fun x => x.outs.length) _ (fun _ => True) (fun x a => by simp) (fun p x c h hc _ => ?_) l p x (h.up hr) hl (fun _ _ => trivial)
  refine ⟨_, run_one (p := p) (l := ogL c) ((step_kd .outage rfl (comes_at h (Int.le_refl 9) (by decide) (.inr (.inr ⟨by decide, rfl⟩)))).trans (if_neg (by show ¬ 1024 ≤ p.R.x.outs.length; rw [h.x]; omega))), ?_⟩
  exact ⟨by show ({ p.R.x with outs := _ } : Sn) = _; rw [h.x], h.begun, Int.le_refl 9, h.sched, h.done⟩
theorem seg_links {p : Ps} {x : Sn} {r : Int} (h : At p x r false) (hr : r ≤ 2) (l : List (Lk × Int)) (hl : x.net.links.length + l.length ≤ 1024) : ∃ p', runL p (l.map lkL) = some p' ∧ At p' { x with net := { x.net with links := x.net.links ++ l.map (·.1), margin := x.net.margin ++ l.map (·.2) } } 2 false := by
  rw [map_flat, ← fold_links]
  refine seg _ 2 false (fun x => x.net.links.length) _ (fun _ => True) (fun x a => by simp) (fun p x c h hc _ => ?_) l p x (h.up hr) hl (fun _ _ => trivial)
  refine ⟨_, run_one (p := p) (l := lkL c) ((step_kd .link rfl (comes_at h (Int.le_refl 2) (by decide) (.inl (by decide)))).trans (if_neg (by show ¬ 1024 ≤ p.R.x.net.links.length; rw [h.x]; omega))), ?_⟩
  exact ⟨by show ({ p.R.x with net := _ } : Sn) = _; rw [h.x], h.begun, Int.le_refl 2, h.sched, h.done⟩

/-! Requests -/
def goodRt (r : List Int) : Prop := r ≠ [] ∧ r.length ≤ 1024
theorem step_rt {p : Ps} {r : List Int} (h : r ≠ []) : stepP p (some (wRoute, r)) = routeP p r := by
  show (if wRoute = wRoute ∧ r ≠ [] then routeP p r else _) = _
  exact if_pos ⟨rfl, h⟩
theorem rts_before (f : Fw) (B : List Rq) (x : Sn) : ∀ (rs done : List (List Int)) (p : Ps), At p { x with before := B ++ [⟨f, done⟩] } 3 false → p.ro = some false → (∀ r ∈ rs, goodRt r) → done.length + rs.length ≤ 1024 →
    ∃ p', runL p (rtL rs) = some p' ∧ At p' { x with before := B ++ [⟨f, done ++ rs⟩] } 3 false
  | [], done, p, h, _, _, _ => ⟨p, rfl, by rw [List.append_nil]; exact h⟩
  | r :: rs, done, p, h, ho, hg, hl => by
    have hr := hg r List.mem_cons_self
    rw [List.length_cons] at hl
    have hb : p.R.x.before = B ++ [⟨f, done⟩] := by rw [h.x]
    have hstep : stepP p (some (wRoute, r)) = ({ p with R := { p.R with x := { p.R.x with before := addRt r p.R.x.before } } }, 0) := by
      rw [step_rt hr.1]
      unfold routeP
      rw [ho]
      simp only
      rw [if_neg]
      rw [hb, lastRs_end]
      rintro (h1 | h1)
      · have := hr.2
        omega
      · simp only at h1
        omega
    obtain ⟨p', h1, h2⟩ := rts_before f B x rs (done ++ [r]) (p := { p with R := { p.R with x := { p.R.x with before := addRt r p.R.x.before } } })
      ⟨by show ({ p.R.x with before := addRt r p.R.x.before } : Sn) = _; rw [hb, addRt_end, h.x], h.begun, h.rank, h.sched, h.done⟩ ho (fun q hq => hg q (List.mem_cons_of_mem _ hq)) (by rw [List.length_append]; simp only [List.length_cons, List.length_nil]; omega)
    exact ⟨p', run_cons hstep h1, by rw [List.append_assoc] at h2; exact h2⟩
theorem rts_after (f : Fw) (B : List Rq) (x : Sn) : ∀ (rs done : List (List Int)) (p : Ps), At p { x with after := B ++ [⟨f, done⟩] } 4 false → p.ro = some true → (∀ r ∈ rs, goodRt r) → done.length + rs.length ≤ 1024 →
    ∃ p', runL p (rtL rs) = some p' ∧ At p' { x with after := B ++ [⟨f, done ++ rs⟩] } 4 false
  | [], done, p, h, _, _, _ => ⟨p, rfl, by rw [List.append_nil]; exact h⟩
  | r :: rs, done, p, h, ho, hg, hl => by
    have hr := hg r List.mem_cons_self
    rw [List.length_cons] at hl
    have hb : p.R.x.after = B ++ [⟨f, done⟩] := by rw [h.x]
    have hstep : stepP p (some (wRoute, r)) = ({ p with R := { p.R with x := { p.R.x with after := addRt r p.R.x.after } } }, 0) := by
      rw [step_rt hr.1]
      unfold routeP
      rw [ho]
      simp only
      rw [if_neg]
      rw [hb, lastRs_end]
      rintro (h1 | h1)
      · have := hr.2
        omega
      · simp only at h1
        omega
    obtain ⟨p', h1, h2⟩ := rts_after f B x rs (done ++ [r]) (p := { p with R := { p.R with x := { p.R.x with after := addRt r p.R.x.after } } })
      ⟨by show ({ p.R.x with after := addRt r p.R.x.after } : Sn) = _; rw [hb, addRt_end, h.x], h.begun, h.rank, h.sched, h.done⟩ ho (fun q hq => hg q (List.mem_cons_of_mem _ hq)) (by rw [List.length_append]; simp only [List.length_cons, List.length_nil]; omega)
    exact ⟨p', run_cons hstep h1, by rw [List.append_assoc] at h2; exact h2⟩
def goodQ (q : Rq) : Prop := q.rs.length ≤ 1024 ∧ ∀ r ∈ q.rs, goodRt r
theorem seg_before {p : Ps} {x : Sn} {r : Int} (h : At p x r false) (hr : r ≤ 3) (l : List Rq) (hl : x.before.length + l.length ≤ 1024) (hg : ∀ q ∈ l, goodQ q) : ∃ p', runL p (reqL wBefore l) = some p' ∧ At p' { x with before := x.before ++ l } 3 false := by
  rw [← fold_before]
  refine seg (reqL1 wBefore) 3 false (fun x => x.before.length) _ goodQ (fun x a => by simp) (fun p x q h hc hq => ?_) l p x (h.up hr) hl hg
  obtain ⟨f, rs⟩ := q
  have hstep : stepP p (some (wBefore, f.nums)) = (⟨{ p.R with rank := 3, x := { p.R.x with before := p.R.x.before ++ [⟨f, []⟩] } }, some false⟩, 0) :=
    (step_kd .before rfl (comes_at h (Int.le_refl 3) (by decide) (.inl (by decide)))).trans (if_neg (by show ¬ 1024 ≤ p.R.x.before.length; rw [h.x]; omega))
  obtain ⟨p', h1, h2⟩ := rts_before f x.before x rs [] ⟨{ p.R with rank := 3, x := { p.R.x with before := p.R.x.before ++ [⟨f, []⟩] } }, some false⟩
    ⟨by show ({ p.R.x with before := _ } : Sn) = _; rw [h.x], h.begun, Int.le_refl 3, h.sched, h.done⟩ rfl hq.2 (by have := hq.1; simpa using this)
  exact ⟨p', run_cons hstep h1, h2⟩
theorem seg_after {p : Ps} {x : Sn} {r : Int} (h : At p x r false) (hr : r ≤ 4) (l : List Rq) (hl : x.after.length + l.length ≤ 1024) (hg : ∀ q ∈ l, goodQ q) : ∃ p', runL p (reqL wAfter l) = some p' ∧ At p' { x with after := x.after ++ l } 4 false := by
  rw [← fold_after]
  refine seg (reqL1 wAfter) 4 false (fun x => x.after.length) _ goodQ (fun x a => by simp) (fun p x q h hc hq => ?_) l p x (h.up hr) hl hg
  obtain ⟨f, rs⟩ := q
  have hstep : stepP p (some (wAfter, f.nums)) = (⟨{ p.R with rank := 4, x := { p.R.x with after := p.R.x.after ++ [⟨f, []⟩] } }, some true⟩, 0) :=
    (step_kd .after rfl (comes_at h (Int.le_refl 4) (by decide) (.inl (by decide)))).trans (if_neg (by show ¬ 1024 ≤ p.R.x.after.length; rw [h.x]; omega))
  obtain ⟨p', h1, h2⟩ := rts_after f x.after x rs [] ⟨{ p.R with rank := 4, x := { p.R.x with after := p.R.x.after ++ [⟨f, []⟩] } }, some true⟩
    ⟨by show ({ p.R.x with after := _ } : Sn) = _; rw [h.x], h.begun, Int.le_refl 4, h.sched, h.done⟩ rfl hq.2 (by have := hq.1; simpa using this)
  exact ⟨p', run_cons hstep h1, h2⟩

/-! Powers -/
/-- A scenario with another table. -/
def setPw (x : Sn) (P : List (List Int)) : Sn := { x with net := { x.net with power := P } }
theorem step_pw {p : Ps} {x : Sn} (h : At p x 1 false) {a b : Nat} {v : Int} (ha : (a : Int) < x.net.nodes) (hb : (b : Int) < x.net.nodes) :
    ∃ p', stepP p (some (wPower, [(a : Int), (b : Int), v])) = (p', 0) ∧ At p' (setPw x (x.net.power.set a ((x.net.power.getD a []).set b v))) 1 false := by
  refine ⟨_, (step_kd .power rfl (comes_at h (Int.le_refl 1) (by decide) (.inl (by decide)))).trans (if_pos ?_), ?_⟩
  · show (nodeB (a : Int) p.R.x.net.nodes && nodeB (b : Int) p.R.x.net.nodes) = true
    rw [h.x]
    unfold nodeB
    rw [decide_eq_true ha, decide_eq_true hb, decide_eq_true (show (a : Int) ≥ 0 by omega), decide_eq_true (show (b : Int) ≥ 0 by omega)]
    rfl
  · refine ⟨?_, h.begun, Int.le_refl 1, h.sched, h.done⟩
    show ({ p.R.x with net := { p.R.x.net with power := p.R.x.net.power.set (a : Int).toNat ((p.R.x.net.power.getD (a : Int).toNat []).set (b : Int).toNat v) } } : Sn) = _
    rw [h.x, Int.toNat_natCast, Int.toNat_natCast]
    rfl
theorem row_run (a : Nat) : ∀ (l : List Int) (b : Nat) (pre : List Int) (p : Ps) (x : Sn), At p x 1 false → a < x.net.power.length → (a : Int) < x.net.nodes → x.net.power.getD a [] = pre ++ List.replicate l.length 0 → pre.length = b → ((b + l.length : Nat) : Int) = x.net.nodes →
    ∃ p', runL p (rowL a b l) = some p' ∧ At p' (setPw x (x.net.power.set a (pre ++ l))) 1 false
  | [], b, pre, p, x, h, ha, han, hrow, hpre, hn => by
    refine ⟨p, rfl, ?_⟩
    have e : x.net.power.set a (pre ++ []) = x.net.power := by
      have h1 : pre ++ List.replicate ([] : List Int).length 0 = pre ++ [] := rfl
      rw [← h1, ← hrow, List.getD_eq_getElem?_getD, List.getElem?_eq_getElem ha, Option.getD_some, List.set_getElem_self]
    rw [e]
    exact h
  | v :: l, b, pre, p, x, h, ha, han, hrow, hpre, hn => by
    rw [List.length_cons] at hn hrow
    by_cases hv : v = 0
    · subst hv
      have := row_run a l (b + 1) (pre ++ [0]) p x h ha han (by rw [hrow, List.replicate_succ, List.append_assoc]; rfl) (by rw [List.length_append, hpre]; rfl) (by rw [← hn]; congr 1; omega)
      rw [List.append_assoc] at this
      unfold rowL
      rw [if_pos rfl]
      exact this
    · obtain ⟨p1, h1, h2⟩ := step_pw (v := v) h han (b := b) (by omega)
      have e1 : (x.net.power.getD a []).set b v = (pre ++ [v]) ++ List.replicate l.length 0 := by
        rw [hrow, List.set_append_right _ _ (by omega), hpre, Nat.sub_self, List.replicate_succ, List.set_cons_zero, List.append_assoc]
        rfl
      rw [e1] at h2
      obtain ⟨p2, h3, h4⟩ := row_run a l (b + 1) (pre ++ [v]) p1 _ h2 (by show a < (x.net.power.set a _).length; rw [List.length_set]; exact ha) han
        (by show (x.net.power.set a _).getD a [] = _; rw [List.getD_eq_getElem?_getD, List.getElem?_set_self ha]; rfl) (by rw [List.length_append, hpre]; rfl) (by show ((b + 1 + l.length : Nat) : Int) = x.net.nodes; rw [← hn]; congr 1; omega)
      refine ⟨p2, ?_, ?_⟩
      · unfold rowL
        rw [if_neg hv]
        exact run_cons h1 h3
      · have e2 : setPw (setPw x (x.net.power.set a (pre ++ [v] ++ List.replicate l.length 0))) ((setPw x (x.net.power.set a (pre ++ [v] ++ List.replicate l.length 0))).net.power.set a (pre ++ [v] ++ l)) = setPw x (x.net.power.set a (pre ++ v :: l)) := by
          show setPw x ((x.net.power.set a (pre ++ [v] ++ List.replicate l.length 0)).set a (pre ++ [v] ++ l)) = _
          rw [List.set_set, List.append_assoc]
          rfl
        rw [e2] at h4
        exact h4
theorem pow_run (N : Nat) : ∀ (rows : List (List Int)) (a : Nat) (P : List (List Int)) (p : Ps) (x : Sn), At p x 1 false → x.net.power = P ++ List.replicate rows.length (List.replicate N 0) → P.length = a → x.net.nodes = (N : Int) → a + rows.length = N → (∀ r ∈ rows, r.length = N) →
    ∃ p', runL p (powL a rows) = some p' ∧ At p' (setPw x (P ++ rows)) 1 false
  | [], a, P, p, x, h, hp, _, _, _, _ => by
    refine ⟨p, rfl, ?_⟩
    have e : setPw x (P ++ []) = x := by
      show ({ x with net := { x.net with power := P ++ List.replicate ([] : List (List Int)).length (List.replicate N 0) } } : Sn) = x
      rw [← hp]
    rw [e]
    exact h
  | r :: rows, a, P, p, x, h, hp, ha, hn, hN, hr => by
    rw [List.length_cons] at hp hN
    have hrN := hr r List.mem_cons_self
    rw [List.replicate_succ] at hp
    obtain ⟨p1, h1, h2⟩ := row_run a r 0 [] p x h (by rw [hp, List.length_append, List.length_cons]; omega) (by rw [hn]; omega)
      (by rw [hp, List.getD_eq_getElem?_getD, List.getElem?_append_right (by omega), ha, Nat.sub_self, List.getElem?_cons_zero, Option.getD_some, hrN]; rfl) rfl (by rw [hn, Nat.zero_add, hrN])
    have e1 : x.net.power.set a ([] ++ r) = (P ++ [r]) ++ List.replicate rows.length (List.replicate N 0) := by
      rw [hp, List.set_append_right _ _ (by omega), ha, Nat.sub_self, List.set_cons_zero, List.append_assoc]
      rfl
    rw [e1] at h2
    obtain ⟨p2, h3, h4⟩ := pow_run N rows (a + 1) (P ++ [r]) p1 _ h2 rfl (by rw [List.length_append, ha]; rfl) hn (by omega) (fun q hq => hr q (List.mem_cons_of_mem _ hq))
    refine ⟨p2, ?_, ?_⟩
    · unfold powL
      exact run_then h1 h3
    · have e2 : setPw (setPw x (P ++ [r] ++ List.replicate rows.length (List.replicate N 0))) (P ++ [r] ++ rows) = setPw x (P ++ r :: rows) := by
        show setPw x (P ++ [r] ++ rows) = _
        rw [List.append_assoc]
        rfl
      rw [e2] at h4
      exact h4
theorem setPw_power (x : Sn) (P : List (List Int)) : (setPw x P).net.power = P := rfl
theorem setPw_nodes (x : Sn) (P : List (List Int)) : (setPw x P).net.nodes = x.net.nodes := rfl

/-- What Format writes. -/
structure CanW (x : Sn) : Prop where
  shaped : shaped x.net = true
  long : longX x = false
  bad : badB x = false
theorem canW_of {x : Sn} {s : ByteArray} (h : fmt x = (s, 0)) : CanW x ∧ s = mkB (txt (linesOf x)) := by
  unfold fmt at h
  split at h
  · cases h
  · rename_i hb
    have h1 := Bool.eq_false_iff.2 hb
    rw [Bool.or_eq_false_iff, Bool.or_eq_false_iff] at h1
    refine ⟨⟨by simpa using h1.1.1, h1.1.2, h1.2⟩, ?_⟩
    injection h with h2 h3
    exact h2.symm
theorem fmt_of {x : Sn} (h : CanW x) : fmt x = (mkB (txt (linesOf x)), 0) := by
  unfold fmt
  rw [h.shaped, h.long, h.bad]
  rfl
theorem fmt_no {x : Sn} (h : (fmt x).2 ≠ 0) : (fmt x).1 = ⟨#[]⟩ := by
  unfold fmt at h ⊢
  split
  · rfl
  · rename_i hb
    rw [if_neg hb] at h
    exact absurd rfl h
theorem le_of_dec {a b : Int} (h : decide (a > b) = false) : a ≤ b := by have := of_decide_eq_false h; omega
structure Shp (n : Nt) : Prop where
  n0 : 0 ≤ n.nodes
  n32 : n.nodes ≤ 32
  rows : (n.power.length : Int) = n.nodes
  lm : n.links.length = n.margin.length
  ll : n.links.length ≤ 1024
  row : ∀ r ∈ n.power, (r.length : Int) = n.nodes
theorem shp_of {n : Nt} (h : shaped n = true) : Shp n := by
  unfold shaped at h
  rw [Bool.and_eq_true, Bool.not_eq_true', Bool.not_eq_true', Bool.or_eq_false_iff, Bool.or_eq_false_iff, Bool.or_eq_false_iff, Bool.or_eq_false_iff] at h
  obtain ⟨⟨⟨⟨⟨h1, h2⟩, h3⟩, h4⟩, h5⟩, h6⟩ := h
  have h1 := of_decide_eq_false h1
  have h2 := le_of_dec h2
  have h5 := le_of_dec h5
  have h3 : (n.power.length : Int) = n.nodes := by simpa using h3
  have h4 : (n.links.length : Int) = (n.margin.length : Int) := by simpa using h4
  refine ⟨by omega, h2, h3, by omega, by omega, fun r hr => ?_⟩
  have h7 := List.any_eq_false.1 h6 r hr
  simpa using h7
structure Lng (x : Sn) : Prop where
  cells : x.cells.length ≤ 1024
  changes : x.changes.length ≤ 1024
  weak : x.weak.length ≤ 1024
  outs : x.outs.length ≤ 1024
theorem lng_of {x : Sn} (h : longX x = false) : Lng x := by
  unfold longX at h
  have := le_of_dec h
  refine ⟨?_, ?_, ?_, ?_⟩ <;> omega
theorem goodQ_of {q : List Rq} (h : qsBad q = false) : q.length ≤ 1024 ∧ ∀ x ∈ q, goodQ x := by
  unfold qsBad at h
  rw [Bool.or_eq_false_iff] at h
  refine ⟨by have := le_of_dec h.1; omega, fun x hx => ?_⟩
  have h1 := Bool.eq_false_iff.2 (List.any_eq_false.1 h.2 x hx)
  unfold qBad at h1
  rw [Bool.or_eq_false_iff, Bool.or_eq_false_iff] at h1
  refine ⟨by have := le_of_dec h1.1.2; omega, fun r hr => ?_⟩
  have h2 := Bool.eq_false_iff.2 (List.any_eq_false.1 h1.2 r hr)
  unfold rtBad at h2
  rw [Bool.or_eq_false_iff, Bool.or_eq_false_iff] at h2
  refine ⟨fun e => ?_, by have := le_of_dec h2.1.2; omega⟩
  subst e
  exact absurd h2.1.1 (by decide)
/-- The lines but for the last one. -/
def initL (x : Sn) : List Ln := netL x.net ++ (reqL wBefore x.before ++ (reqL wAfter x.after ++ ((wSchedule, [x.len, x.offs]) :: (x.cells.map (fun c => (wCell, c.nums)) ++ (x.changes.map chL ++ (x.weak.map wkL ++ x.outs.map ogL))))))
theorem linesOf_init (x : Sn) : linesOf x = initL x ++ [(wSlots, [x.slots])] := by
  unfold linesOf initL tailL
  simp only [List.append_assoc, List.cons_append]
/-- All lines but for the last one are read. -/
theorem init_run {x : Sn} (h : CanW x) : ∃ p, runL psZ (initL x) = some p ∧ At p { x with slots := 0 } 9 true := by
  have hs := shp_of h.shaped
  have hl := lng_of h.long
  have hb := h.bad
  unfold badB at hb
  rw [Bool.or_eq_false_iff, Bool.or_eq_false_iff, Bool.or_eq_false_iff] at hb
  have hq := goodQ_of hb.1.1.2
  have hr := goodQ_of hb.1.2
  obtain ⟨⟨nodes, power, noise, thr, links, margin⟩, before, after, len, offs, cells, changes, weak, outs, slots⟩ := x
  simp only at hs hl hq hr
  obtain ⟨N, hN⟩ : ∃ N : Nat, nodes = (N : Int) := ⟨nodes.toNat, by have := hs.n0; simp only at this; omega⟩
  have hrows : power.length = N := by have := hs.rows; simp only at this; omega
  have hrow : ∀ r ∈ power, r.length = N := fun r hr => by have := hs.row r hr; simp only at this; omega
  have h32 : N ≤ 32 := by have := hs.n32; simp only at this; omega
  -- the line of the network
  have e0 : stepP psZ (some (wNetwork, [nodes, noise, thr])) = (⟨⟨⟨⟨nodes, List.replicate nodes.toNat (List.replicate nodes.toNat 0), noise, thr, [], []⟩, [], [], 0, 0, [], [], [], [], 0⟩, 0, true, false, false⟩, none⟩, 0) :=
    (step_kd .network rfl rfl).trans (if_neg (by omega))
  rw [hN, Int.toNat_natCast] at e0
  have a0 : At ⟨⟨⟨⟨(N : Int), List.replicate N (List.replicate N 0), noise, thr, [], []⟩, [], [], 0, 0, [], [], [], [], 0⟩, 0, true, false, false⟩, none⟩ ⟨⟨(N : Int), List.replicate N (List.replicate N 0), noise, thr, [], []⟩, [], [], 0, 0, [], [], [], [], 0⟩ 0 false := ⟨rfl, rfl, Int.le_refl 0, rfl, rfl⟩
  obtain ⟨p1, r1, a1⟩ := pow_run N power 0 [] _ _ (a0.up (by decide)) (by rw [hrows]; rfl) rfl rfl (by omega) hrow
  obtain ⟨p2, r2, a2⟩ := seg_links a1 (by decide) (links.zip margin) (by
    have h1 := hs.ll
    simp only at h1
    show 0 + (links.zip margin).length ≤ 1024
    rw [List.length_zip]
    omega)
  obtain ⟨p3, r3, a3⟩ := seg_before a2 (by decide) before (by show 0 + before.length ≤ 1024; have := hq.1; omega) hq.2
  obtain ⟨p4, r4, a4⟩ := seg_after a3 (by decide) after (by show 0 + after.length ≤ 1024; have := hr.1; omega) hr.2
  have e5 : stepP p4 (some (wSchedule, [len, offs])) = (⟨{ p4.R with rank := 5, x := { p4.R.x with len := len, offs := offs }, sched := true }, none⟩, 0) :=
    step_kd .schedule rfl (comes_at a4 (by decide) (by decide) (.inr (.inl ⟨rfl, rfl⟩)))
  have a5 : At ⟨{ p4.R with rank := 5, x := { p4.R.x with len := len, offs := offs }, sched := true }, none⟩ _ 5 true := ⟨rfl, a4.begun, Int.le_refl 5, rfl, a4.done⟩
  rw [a4.x] at a5
  obtain ⟨p6, r6, a6⟩ := seg_cells a5 (by decide) cells (by show 0 + cells.length ≤ 1024; have := hl.cells; simp only at this; omega)
  obtain ⟨p7, r7, a7⟩ := seg_changes a6 (by decide) changes (by show 0 + changes.length ≤ 1024; have := hl.changes; simp only at this; omega)
  obtain ⟨p8, r8, a8⟩ := seg_weak a7 (by decide) weak (by show 0 + weak.length ≤ 1024; have := hl.weak; simp only at this; omega)
  obtain ⟨p9, r9, a9⟩ := seg_outs a8 (by decide) outs (by show 0 + outs.length ≤ 1024; have := hl.outs; simp only at this; omega)
  refine ⟨p9, ?_, ?_⟩
  · unfold initL netL
    rw [hN]
    refine run_then (run_cons e0 (run_then r1 r2)) (run_then r3 (run_then r4 (run_cons (by rw [e5]) ?_)))
    rw [a4.x]
    exact run_then r6 (run_then r7 (run_then r8 r9))
  · have hlm : links.length = margin.length := hs.lm
    have e1 : (links.zip margin).map (·.1) = links := List.map_fst_zip (by omega)
    have e2 : (links.zip margin).map (·.2) = margin := List.map_snd_zip (by omega)
    have := a9
    simp only [setPw, List.nil_append, e1, e2] at this
    rw [hN]
    exact this
/-- All lines are read. -/
theorem lines_run {x : Sn} (h : CanW x) : ∃ p, runL psZ (linesOf x) = some p ∧ p.R.x = x ∧ (p.R.begun && p.R.sched && p.R.done) = true := by
  obtain ⟨p, h1, h2⟩ := init_run h
  have e : stepP p (some (wSlots, [x.slots])) = (⟨{ p.R with rank := 10, x := { p.R.x with slots := x.slots }, done := true }, none⟩, 0) :=
    step_kd .slots rfl (comes_at h2 (by decide) (by decide) (.inr (.inr ⟨by decide, rfl⟩)))
  refine ⟨_, by rw [linesOf_init]; exact run_then h1 (run_one e), ?_, ?_⟩
  · show ({ p.R.x with slots := x.slots } : Sn) = x
    rw [h2.x]
  · show (p.R.begun && p.R.sched && true) = true
    rw [h2.begun, h2.sched]
    rfl
theorem good_rows {a : Nat} : ∀ (l : List Int) (b : Nat), ∀ y ∈ rowL a b l, y.1 = wPower
  | [], _, y, hy => by cases hy
  | v :: l, b, y, hy => by
    unfold rowL at hy
    rcases List.mem_append.1 hy with hy | hy
    · split at hy
      · cases hy
      · rw [List.mem_singleton.1 hy]
    · exact good_rows l (b + 1) y hy
theorem good_pows : ∀ (l : List (List Int)) (a : Nat), ∀ y ∈ powL a l, y.1 = wPower
  | [], _, y, hy => by cases hy
  | v :: l, a, y, hy => by
    unfold powL at hy
    rcases List.mem_append.1 hy with hy | hy
    · exact good_rows v 0 y hy
    · exact good_pows l (a + 1) y hy
theorem farL_mem {L : List Ln} (h : farL L = false) {y : Ln} (hy : y ∈ L) : inR y.2 := inR_of (Bool.eq_false_iff.2 (List.any_eq_false.1 h y hy))
theorem good_req {w : ByteArray} (hw : GoodW w) {q : List Rq} (h : qsBad q = false) : ∀ y ∈ reqL w q, GoodL y := fun y hy => by
  unfold qsBad at h
  rw [Bool.or_eq_false_iff] at h
  obtain ⟨x, hx, hy⟩ := List.mem_flatMap.1 hy
  have h1 := Bool.eq_false_iff.2 (List.any_eq_false.1 h.2 x hx)
  unfold qBad at h1
  rw [Bool.or_eq_false_iff, Bool.or_eq_false_iff] at h1
  rcases List.mem_cons.1 hy with rfl | hy
  · exact ⟨hw, inR_of h1.1.1⟩
  · obtain ⟨r, hr, rfl⟩ := List.mem_map.1 hy
    have h2 := Bool.eq_false_iff.2 (List.any_eq_false.1 h1.2 r hr)
    unfold rtBad at h2
    rw [Bool.or_eq_false_iff, Bool.or_eq_false_iff] at h2
    exact ⟨good_word.2.2.2.2.2.1, inR_of h2.2⟩
theorem good_lines {x : Sn} (h : CanW x) : ∀ y ∈ linesOf x, GoodL y := by
  have hb := h.bad
  unfold badB at hb
  rw [Bool.or_eq_false_iff, Bool.or_eq_false_iff, Bool.or_eq_false_iff] at hb
  obtain ⟨⟨⟨h1, h2⟩, h3⟩, h4⟩ := hb
  obtain ⟨w1, w2, w3, w4, w5, w6, w7, w8, w9, w10, w11, w12, w13⟩ := good_word
  intro y hy
  unfold linesOf at hy
  rcases List.mem_append.1 hy with hy | hy
  · refine ⟨?_, farL_mem h1 hy⟩
    unfold netL at hy
    rcases List.mem_cons.1 hy with rfl | hy
    · exact w1
    · rcases List.mem_append.1 hy with hy | hy
      · rw [good_pows _ _ y hy]; exact w2
      · obtain ⟨z, _, rfl⟩ := List.mem_map.1 hy
        exact w3
  rcases List.mem_append.1 hy with hy | hy
  · exact good_req w4 h2 y hy
  rcases List.mem_append.1 hy with hy | hy
  · exact good_req w5 h3 y hy
  · refine ⟨?_, farL_mem h4 hy⟩
    unfold tailL at hy
    rcases List.mem_cons.1 hy with rfl | hy
    · exact w7
    rcases List.mem_append.1 hy with hy | hy
    · obtain ⟨z, _, rfl⟩ := List.mem_map.1 hy
      exact w8
    rcases List.mem_append.1 hy with hy | hy
    · obtain ⟨z, _, rfl⟩ := List.mem_map.1 hy
      unfold chL
      cases z.ad
      · exact w10
      · exact w9
    rcases List.mem_append.1 hy with hy | hy
    · obtain ⟨z, _, rfl⟩ := List.mem_map.1 hy
      exact w11
    rcases List.mem_append.1 hy with hy | hy
    · obtain ⟨z, _, rfl⟩ := List.mem_map.1 hy
      exact w12
    · rw [List.mem_singleton.1 hy]
      exact w13
/-- P59.3: a scenario that can be written is restored from its text. -/
theorem parse_fmt {x : Sn} (h : CanW x) (hs : (txt (linesOf x)).length ≤ 65536) : parseP (mkB (txt (linesOf x))) = (x, 0, 0) := by
  obtain ⟨p, h1, h2, h3⟩ := lines_run h
  rw [parse_txt (good_lines h) hs h1, if_pos h3, h2]
theorem readP_done (k : Kd) (p : Ps) (l : List Int) (h : k ≠ .slots) : (readP k p l).1.R.done = p.R.done := by
  cases k
  all_goals (rcases l with _ | ⟨a0, _ | ⟨a1, _ | ⟨a2, _ | ⟨a3, _ | ⟨a4, _ | ⟨a5, _ | ⟨a6, l⟩⟩⟩⟩⟩⟩⟩)
  all_goals (first | rfl | exact absurd rfl h | (simp only [readP]; split <;> rfl))
/-- Nothing sets 'done' but the line of the slots. -/
theorem step_done {p : Ps} {l : Ln} (h : l.1 ≠ wSlots) (h0 : (stepP p (some l)).2 = 0) : (stepP p (some l)).1.R.done = p.R.done := by
  obtain ⟨w, l⟩ := l
  simp only at h
  unfold stepP at h0 ⊢
  simp only at h0 ⊢
  split
  · unfold routeP
    split
    · rfl
    · split <;> rfl
    · split <;> rfl
  · rename_i hr
    rw [if_neg hr] at h0
    cases hk : kdOf w with
    | none => simp [hk] at h0
    | some k =>
      simp only [hk] at h0 ⊢
      split
      · rfl
      · split
        · rfl
        · have hw : k.word = w := by have h9 := List.find?_some (show Kd.all.find? (fun k => decide (k.word = w)) = some k from hk); exact of_decide_eq_true h9
          exact readP_done k _ l (fun e => h (by rw [← hw, e]; rfl))
theorem run_done : ∀ (L : List Ln) (p q : Ps), (∀ l ∈ L, l.1 ≠ wSlots) → runL p L = some q → q.R.done = p.R.done
  | [], p, q, _, h => by cases h; rfl
  | l :: L, p, q, hg, h => by
    unfold runL at h
    split at h
    · rename_i h0
      rw [run_done L _ q (fun x hx => hg x (List.mem_cons_of_mem _ hx)) h, step_done (hg l List.mem_cons_self) h0]
    · cases h
theorem init_no {x : Sn} : ∀ y ∈ initL x, y.1 ≠ wSlots := fun y hy => by
  unfold initL netL at hy
  have hne : wNetwork ≠ wSlots ∧ wPower ≠ wSlots ∧ wLink ≠ wSlots ∧ wBefore ≠ wSlots ∧ wAfter ≠ wSlots ∧ wRoute ≠ wSlots ∧ wSchedule ≠ wSlots ∧ wCell ≠ wSlots ∧ wAdd ≠ wSlots ∧ wRemove ≠ wSlots ∧ wWeak ≠ wSlots ∧ wOutage ≠ wSlots := by decide
  obtain ⟨w1, w2, w3, w4, w5, w6, w7, w8, w9, w10, w11, w12⟩ := hne
  have hq : ∀ {w : ByteArray} {q : List Rq}, w ≠ wSlots → y ∈ reqL w q → y.1 ≠ wSlots := fun hw hy => by
    obtain ⟨z, _, hy⟩ := List.mem_flatMap.1 hy
    rcases List.mem_cons.1 hy with rfl | hy
    · exact hw
    · obtain ⟨r, _, rfl⟩ := List.mem_map.1 hy
      exact w6
  rcases List.mem_append.1 hy with hy | hy
  · rcases List.mem_cons.1 hy with rfl | hy
    · exact w1
    · rcases List.mem_append.1 hy with hy | hy
      · rw [good_pows _ _ y hy]; exact w2
      · obtain ⟨z, _, rfl⟩ := List.mem_map.1 hy
        exact w3
  rcases List.mem_append.1 hy with hy | hy
  · exact hq w4 hy
  rcases List.mem_append.1 hy with hy | hy
  · exact hq w5 hy
  rcases List.mem_cons.1 hy with rfl | hy
  · exact w7
  rcases List.mem_append.1 hy with hy | hy
  · obtain ⟨z, _, rfl⟩ := List.mem_map.1 hy
    exact w8
  rcases List.mem_append.1 hy with hy | hy
  · obtain ⟨z, _, rfl⟩ := List.mem_map.1 hy
    unfold chL
    cases z.ad
    · exact w10
    · exact w9
  rcases List.mem_append.1 hy with hy | hy
  · obtain ⟨z, _, rfl⟩ := List.mem_map.1 hy
    exact w11
  · obtain ⟨z, _, rfl⟩ := List.mem_map.1 hy
    exact w12
/-- P59.1: a beginning of the text that ends with a whole line, but is not the whole, is short. -/
theorem parse_cut {x : Sn} (h : CanW x) (hs : (txt (linesOf x)).length ≤ 65536) {k : Nat} (hk : k < (linesOf x).length) : parseP (mkB (txt ((linesOf x).take k))) = (snZ, (k : Int) + 1, 9) := by
  obtain ⟨p, h1, h2⟩ := init_run h
  have hki : k ≤ (initL x).length := by
    rw [linesOf_init, List.length_append] at hk
    simp only [List.length_cons, List.length_nil] at hk
    omega
  have et : (linesOf x).take k = (initL x).take k := by
    rw [linesOf_init, List.take_append_of_le_length hki]
  have hr : ∃ q, runL psZ ((initL x).take k) = some q := by
    have e := List.take_append_drop k (initL x)
    rw [← e, runL_append] at h1
    cases hq : runL psZ ((initL x).take k) with
    | none => rw [hq] at h1; cases h1
    | some q => exact ⟨q, rfl⟩
  obtain ⟨q, hq⟩ := hr
  have hd : q.R.done = false := run_done _ _ q (fun l hl => init_no l (List.mem_of_mem_take hl)) hq
  have hlen : (txt ((linesOf x).take k)).length ≤ 65536 := by
    have e := List.take_append_drop k (linesOf x)
    have := congrArg (fun L => (txt L).length) e
    simp only [txt_append, List.length_append] at this
    omega
  rw [parse_txt (fun l hl => good_lines h l (List.mem_of_mem_take hl)) hlen (by rw [et]; exact hq), hd, Bool.and_false, if_neg (by decide), List.length_take, Nat.min_eq_left (Nat.le_of_lt hk)]
end Go.Proofs.YtcloigoajohppaaGreatDoor
/- The example. -/
namespace Go.Proofs.YtcloigoajohppaaGreatDoor
open Go.RowKit
open Av
open Sc
set_option maxRecDepth 100000
set_option linter.unusedSimpArgs false

def exB : ByteArray := ⟨#[110, 101, 116, 119, 111, 114, 107, 32, 50, 32, 49, 32, 50, 48, 48, 48, 10, 112, 111, 119, 101, 114, 32, 48, 32, 49, 32, 52, 48, 10, 112, 111, 119, 101, 114, 32, 49, 32, 48, 32, 52, 48, 10, 108, 105, 110, 107, 32, 48, 32, 49, 32, 48, 32, 50, 48, 10, 115, 99, 104, 101, 100, 117, 108, 101, 32, 52, 32, 49, 10, 115, 108, 111, 116, 115, 32, 56, 10]⟩
def exC : ByteArray := ⟨#[110, 101, 116, 119, 111, 114, 107, 32, 50, 32, 49, 32, 50, 48, 48, 48, 10, 112, 111, 119, 101, 114, 32, 48, 32, 49, 32, 52, 48, 10, 112, 111, 119, 101, 114, 32, 49, 32, 48, 32, 52, 48, 10, 108, 105, 110, 107, 32, 48, 32, 49, 32, 48, 32, 50, 48, 10, 115, 108, 111, 116, 115, 32, 56, 10, 115, 99, 104, 101, 100, 117, 108, 101, 32, 52, 32, 49, 10]⟩
def exX : Sn := ⟨⟨2, [[0, 40], [40, 0]], 1, 2000, [⟨0, 1, 0⟩], [20]⟩, [], [], 4, 1, [], [], [], [], 8⟩
theorem parse_exB : parseP exB = (exX, 0, 0) := by kernel_rfl
theorem fmt_exB : fmt exX = (exB, 0) := by kernel_rfl
theorem parse_exC : parseP exC = (snZ, 5, 5) := by kernel_rfl
theorem line_exW : lineO ⟨#[119, 101, 97, 107, 32, 49, 32, 45, 50, 32, 51, 48]⟩ = some (⟨#[119, 101, 97, 107]⟩, [1, -2, 30]) := by kernel_rfl
end Go.Proofs.YtcloigoajohppaaGreatDoor
/- The size of inputs. -/
namespace Go.Proofs.YtcloigoajohppaaGreatDoor
open Go.RowKit
open Av
open Sc
set_option maxRecDepth 100000
set_option linter.unusedSimpArgs false
attribute [local go_sem] Av.guardB Av.sop Av.hopx Av.hop Av.hopCall Av.hopF Av.hopB Av.evo Av.evos Av.avCells Av.loadK Av.bound Av.abin Av.aun Av.partsC Av.lfill Av.placesB Av.setAt Av.stl Av.takes Av.src Av.bxOf Av.ownOf Av.St.res Av.St.put Av.St.addBox Av.St.putOwn Av.delL Av.delS Av.look Av.lookL Av.storeSt Av.stealSt Av.St.setBox Av.keepL Av.hitB Av.snap Av.snaps Av.snapCaps Av.AV.lit Av.AV.refs Av.capRefs Av.PV.av Av.CV.av Av.startSt Av.steals Av.athen Av.ablock Av.appK Av.AllS Av.AllO Av.AllR Av.keepS Av.St.avAt Av.RetOK Av.retAll Av.retOne Av.intsOf Av.ptrB TypeDesc.isRow List.range_zero Option.some.injEq exists_eq_left' exists_eq_left exists_eq' exists_and_left exists_and_right exists_const true_and and_true and_self false_and and_false or_false false_or or_true true_or if_true if_false Bool.false_eq_true List.zipIdx_cons List.zipIdx_nil List.map_cons List.map_nil List.filter_cons List.filter_nil List.contains_cons List.contains_nil List.drop_succ_cons List.drop_zero List.take_succ_cons List.take_zero List.take_nil List.drop_nil List.length_cons List.length_nil List.cons_append List.nil_append List.append_nil List.getElem?_cons_zero List.getElem?_cons_succ List.getElem?_nil Option.bind_some Option.bind_none Option.map_some Option.map_none Option.isNone_none Option.isNone_some Option.isSome_some Option.isSome_none Bool.and_true Bool.true_and Bool.and_false Bool.false_and Bool.or_false Bool.false_or Bool.not_true Bool.not_false beq_true beq_false Bool.true_beq Bool.false_beq Loc.s.injEq Loc.b.injEq decide_true decide_false beq_self_eq_true Nat.zero_add Nat.add_zero List.getElem?_toArray List.toList_toArray List.size_toArray Value.oneCell' List.all_cons List.all_nil Value.int.injEq AV.v.injEq AV.sl.injEq AV.agg.injEq AV.ref.injEq AV.ept.injEq AV.tup.injEq Value.bool.injEq PV.v.injEq PV.sl.injEq List.isEmpty_nil List.isEmpty_cons forall_const not_true_eq_false not_false_eq_true true_implies false_implies Value.string.injEq List.length_map List.getElem?_map Int.toNat_natCast Int.natCast_nonneg List.length_append Value.cells implies_true TypeDesc.struct.injEq TypeDesc.slice.injEq TypeDesc.array.injEq List.getElem?_toArray Prod.mk.injEq and_assoc exists_false List.cons.injEq Operand.tmp.injEq ite_self AV.fnv.injEq AV.clo.injEq ne_eq eq_self Tryz.sz3 Tryz.zr3 Tryz.by3 Tryz.pl3 Tryz.is3 Tryz.underlying3 Tryz.sz4 Tryz.zr4 Tryz.by4 Tryz.pl4 Tryz.is4 Tryz.underlying4 Tryz.sz9 Tryz.zr9 Tryz.by9 Tryz.pl9 Tryz.is9 Tryz.underlying9 Tryz.sz5 Tryz.zr5 Tryz.by5 Tryz.pl5 Tryz.is5 Tryz.underlying5 Tryz.sz56 Tryz.zr56 Tryz.by56 Tryz.pl56 Tryz.is56 Tryz.underlying56 Tryz.sz24 Tryz.zr24 Tryz.by24 Tryz.pl24 Tryz.is24 Tryz.underlying24 Tryz.sz70 Tryz.zr70 Tryz.by70 Tryz.pl70 Tryz.is70 Tryz.underlying70 Tryz.sz69 Tryz.zr69 Tryz.by69 Tryz.pl69 Tryz.is69 Tryz.underlying69 Tryz.sz72 Tryz.zr72 Tryz.by72 Tryz.pl72 Tryz.is72 Tryz.underlying72 Tryz.sz74 Tryz.zr74 Tryz.by74 Tryz.pl74 Tryz.is74 Tryz.underlying74 Tryz.sz117 Tryz.zr117 Tryz.by117 Tryz.pl117 Tryz.is117 Tryz.underlying117 Tryz.sz182 Tryz.zr182 Tryz.by182 Tryz.pl182 Tryz.is182 Tryz.underlying182 Tryz.sz64 Tryz.zr64 Tryz.by64 Tryz.pl64 Tryz.is64 Tryz.underlying64 Tryz.sz67 Tryz.zr67 Tryz.by67 Tryz.pl67 Tryz.is67 Tryz.underlying67 Tryz.sz26 Tryz.zr26 Tryz.by26 Tryz.pl26 Tryz.is26 Tryz.underlying26 Tryz.sz30 Tryz.zr30 Tryz.by30 Tryz.pl30 Tryz.is30 Tryz.underlying30 Tryz.sz126 Tryz.zr126 Tryz.by126 Tryz.pl126 Tryz.is126 Tryz.underlying126 Tryz.sz79 Tryz.zr79 Tryz.by79 Tryz.pl79 Tryz.is79 Tryz.underlying79 Tryz.sz81 Tryz.zr81 Tryz.by81 Tryz.pl81 Tryz.is81 Tryz.underlying81 Tryz.sz83 Tryz.zr83 Tryz.by83 Tryz.pl83 Tryz.is83 Tryz.underlying83 Tryz.sz85 Tryz.zr85 Tryz.by85 Tryz.pl85 Tryz.is85 Tryz.underlying85 Tryz.sz35 Tryz.zr35 Tryz.by35 Tryz.pl35 Tryz.is35 Tryz.underlying35 Tryz.sz88 Tryz.zr88 Tryz.by88 Tryz.pl88 Tryz.is88 Tryz.underlying88 Tryz.sz22 Tryz.zr22 Tryz.by22 Tryz.pl22 Tryz.is22 Tryz.underlying22 Tryz.sz23 Tryz.zr23 Tryz.by23 Tryz.pl23 Tryz.is23 Tryz.underlying23 Tryz.sz27 Tryz.zr27 Tryz.by27 Tryz.pl27 Tryz.is27 Tryz.underlying27 Tryz.sz28 Tryz.zr28 Tryz.by28 Tryz.pl28 Tryz.is28 Tryz.underlying28 Tryz.sz31 Tryz.zr31 Tryz.by31 Tryz.pl31 Tryz.is31 Tryz.underlying31 Tryz.sz32 Tryz.zr32 Tryz.by32 Tryz.pl32 Tryz.is32 Tryz.underlying32 Tryz.sz33 Tryz.zr33 Tryz.by33 Tryz.pl33 Tryz.is33 Tryz.underlying33 Tryz.sz65 Tryz.zr65 Tryz.by65 Tryz.pl65 Tryz.is65 Tryz.underlying65 Tryz.sz68 Tryz.zr68 Tryz.by68 Tryz.pl68 Tryz.is68 Tryz.underlying68 Tryz.sz46 Tryz.zr46 Tryz.by46 Tryz.pl46 Tryz.is46 Tryz.underlying46 Tryz.sz38 Tryz.zr38 Tryz.by38 Tryz.pl38 Tryz.is38 Tryz.underlying38 Tryz.sz94 Tryz.zr94 Tryz.by94 Tryz.pl94 Tryz.is94 Tryz.underlying94 Tryz.sz91 Tryz.zr91 Tryz.by91 Tryz.pl91 Tryz.is91 Tryz.underlying91 Tryz.sz86 Tryz.zr86 Tryz.by86 Tryz.pl86 Tryz.is86 Tryz.underlying86 all_arr loc_ss loc_sb loc_bs loc_bb arr_two arr_one rg1 rg2 rg3 rg4 rg5 rg6 rg7 rg8 ResultVar.tmp.injEq Bool.not_true Bool.not_false undef Fn.func.injEq
def few52B (a b : Nat) : Bool := (decide ((a : Int) ≤ 24) || ((a : Int) == 513)) && (decide ((b : Int) ≤ 16) || ((b : Int) == 1025))
def few31B (ps : List (List Int)) (nl nm : Nat) : Bool := ps.all (fun r => decide (r.length ≤ 40)) && (decide ((ps.length : Int) ≤ 8) && (decide ((nl : Int) ≤ 60) && decide ((nm : Int) ≤ 60)))

set_option maxHeartbeats 2000000 in
theorem few52_ok (x y : Int) (cs hs : List (List PV)) : FnOK Tryz.prog 25 [.agg [ip x, ip y, .sl 5 cs], .sl 7 hs] ⟨bv (few52B cs.length hs.length), none⟩ := by
 refine fn_ok Tryz.func25 (by kernel_rfl) rfl (by rw [Tryz.ntmps25]; exact of_decide_eq_true rfl) (fun F hF => ?_)
 rw [Tryz.ntmps25] at hF
 rw [Tryz.results25]
 unfold few52B
 cases h1 : decide ((cs.length : Int) ≤ 24) <;> cases h2 : ((cs.length : Int) == 513) <;> cases h3 : decide ((hs.length : Int) ≤ 16) <;> cases h4 : ((hs.length : Int) == 1025)
 all_goals
  repeat (first
   | ((first | with_reducible refine sops_go ?_ | with_reducible refine sops_end ?_ | with_reducible refine awp_ret ?_); simp only [go_sem, simprocAttr, hF, h1, h2, h3, h4])
   | with_reducible refine awp_seq_k fun _ _ => ?_
   | (with_reducible refine awp_region [] ?_)
   | go_step)
  all_goals (try rfl)
/- The size of inputs: a network. -/
attribute [local go_sem] Sc.rsR
set_option maxHeartbeats 2000000 in
theorem few31_ok (n1 n2 n3 : Int) (ps : List (List Int)) (ls ms : List (List PV)) (hps : ps.length ≤ 9223372036854775807) : FnOK Tryz.prog 24 [.agg [ip n1, .sl 1 (rsR ps), ip n2, ip n3, .sl 3 ls, .sl 1 ms]] ⟨bv (few31B ps ls.length ms.length), none⟩ := by
 refine fn_ok Tryz.func24 (by kernel_rfl) rfl (by rw [Tryz.ntmps24]; exact of_decide_eq_true rfl) (fun F hF => ?_)
 rw [Tryz.ntmps24] at hF
 rw [Tryz.results24]
 repeat (first
  | ((first | with_reducible refine sops_go ?_ | with_reducible refine sops_end ?_); simp only [go_sem, simprocAttr, hF])
  | with_reducible (first | refine awp_seq_k fun _ _ => ?_ | refine awp_region [] ?_ | refine awp_block ?_)
  | go_step)
 refine awp_loop_by (ι := {k : Nat // k ≤ ps.length ∧ ∀ y ∈ ps.take k, y.length ≤ 40}) (fun k σ => ⟨(3, iv (k.1 : Int)) :: keepS [0, 1] σ.slot, σ.box, [], σ.ext⟩) (fun k => ps.length - k.1) ⟨0, by omega, by simp⟩ (sub_mk ?_) (fun R hR k => ?_)
 · simp only [go_sem, simprocAttr, hF]
   repeat' (first | rfl | refine ⟨?_, ?_⟩)
 obtain ⟨k, hk, hT⟩ := k
 dsimp only
 simp only [go_sem, simprocAttr, hF]
 by_cases hlt : k < ps.length
 case neg =>
  have hd : decide ((k : Int) < (ps.length : Int)) = false := decide_eq_false (by omega)
  rw [List.take_of_length_le (by omega)] at hT
  have hall : ps.all (fun y => decide (y.length ≤ 40)) = true := List.all_eq_true.2 fun l hl => decide_eq_true (hT l hl)
  cases h1 : decide ((ps.length : Int) ≤ 8) <;> cases h2 : decide ((ls.length : Int) ≤ 60) <;> cases h3 : decide ((ms.length : Int) ≤ 60)
  all_goals
   repeat (first
    | ((first | with_reducible refine sops_go ?_ | with_reducible refine sops_end ?_ | with_reducible refine awp_if ?_ | with_reducible refine awp_ret ?_ | with_reducible refine awp_exit ?_); simp only [go_sem, simprocAttr, hF, hd, h1, h2, h3])
    | with_reducible refine awp_seq_k fun _ _ => ?_
    | (with_reducible refine awp_region [] ?_)
    | go_step)
   rw [few31B, hall, h1, h2, h3]
   rfl
 obtain ⟨d, hdk⟩ := get_of_lt hlt
 have hd : decide ((k : Int) < (ps.length : Int)) = true := decide_eq_true (by omega)
 have hw : IntKind.i64.wrap ((k : Int) + 1) = ((k + 1 : Nat) : Int) := by rw [IntKind.wrap_i64]; omega
 by_cases h40 : d.length ≤ 40
 case neg =>
  have he : decide ((40 : Int) < (d.length : Int)) = true := decide_eq_true (by omega)
  have hall : ps.all (fun y => decide (y.length ≤ 40)) = false := by
   refine Bool.eq_false_iff.2 fun h => h40 ?_
   exact of_decide_eq_true (List.all_eq_true.1 h d (List.mem_of_getElem? hdk))
  repeat (first
   | ((first | with_reducible refine sops_go ?_ | with_reducible refine sops_end ?_ | with_reducible refine awp_if ?_ | with_reducible refine awp_skip ?_ | with_reducible refine awp_ret ?_); simp only [go_sem, simprocAttr, hF, hd, hdk, he])
   | with_reducible (first | refine awp_seq_k fun _ _ => ?_ | refine awp_region [] ?_ | refine awp_block ?_)
   | go_step)
  rw [few31B, hall]
  rfl
 have he : decide ((40 : Int) < (d.length : Int)) = false := decide_eq_false (by omega)
 repeat (first
  | ((first | with_reducible refine sops_go ?_ | with_reducible refine sops_end ?_ | with_reducible refine awp_if ?_ | with_reducible refine awp_skip ?_); simp only [go_sem, simprocAttr, hF, hd, hdk, he])
  | with_reducible (first | refine awp_seq_k fun _ _ => ?_ | refine awp_region [] ?_ | refine awp_block ?_)
  | go_step)
 refine ⟨⟨k + 1, by omega, fun l hl => by
  rw [List.take_add_one, hdk] at hl
  rcases List.mem_append.1 hl with hl | hl
  · exact hT l hl
  · simp at hl; subst hl; exact h40⟩, by dsimp only; omega, hR _ _ (sub_mk ?_)⟩
 simp only [go_sem, simprocAttr, hF, hw]
/- The size of inputs: a scenario. -/
attribute [local go_sem] Sc.Rq.pv Sc.Sn.pv Sc.Nt.pv Sc.rsR Av.sopX Av.bxf Av.xof Av.takesS
def tst54 (x : Sn) : Bool := !few31B x.net.power x.net.links.length x.net.margin.length || !few52B x.cells.length x.changes.length || (decide (x.len > 48) && decide (x.len ≤ 512)) || (decide (x.slots > 120) && decide (x.slots ≤ 4096)) || decide ((x.before.length : Int) > 20) || decide ((x.after.length : Int) > 20) || (decide ((x.weak.length : Int) > 30) && decide ((x.weak.length : Int) ≤ 1024)) || (decide ((x.outs.length : Int) > 30) && decide ((x.outs.length : Int) ≤ 1024))
def okq (q : Rq) : Bool := decide (q.rs.length ≤ 4) && q.rs.all fun r => decide (r.length ≤ 20)
section
variable {x : Sn}
theorem t54a (h : few31B x.net.power x.net.links.length x.net.margin.length = false) : tst54 x = true := by unfold tst54; rw [h]; rfl
theorem t54b (h : few52B x.cells.length x.changes.length = false) : tst54 x = true := by unfold tst54; rw [h]; simp
theorem t54c (h : decide (x.len > 48) = true) (h2 : decide (x.len ≤ 512) = true) : tst54 x = true := by unfold tst54; rw [h, h2]; simp
theorem t54d (h : decide (x.slots > 120) = true) (h2 : decide (x.slots ≤ 4096) = true) : tst54 x = true := by unfold tst54; rw [h, h2]; simp
theorem t54e (h : decide ((x.before.length : Int) > 20) = true) : tst54 x = true := by unfold tst54; rw [h]; simp
theorem t54f (h : decide ((x.after.length : Int) > 20) = true) : tst54 x = true := by unfold tst54; rw [h]; simp
theorem t54g (h : decide ((x.weak.length : Int) > 30) = true) (h2 : decide ((x.weak.length : Int) ≤ 1024) = true) : tst54 x = true := by unfold tst54; rw [h, h2]; simp
theorem t54h (h : decide ((x.outs.length : Int) > 30) = true) (h2 : decide ((x.outs.length : Int) ≤ 1024) = true) : tst54 x = true := by unfold tst54; rw [h, h2]; simp
theorem t54n (ha : few31B x.net.power x.net.links.length x.net.margin.length = true) (hb : few52B x.cells.length x.changes.length = true) (hc : (decide (x.len > 48) && decide (x.len ≤ 512)) = false) (hd : (decide (x.slots > 120) && decide (x.slots ≤ 4096)) = false)
 (he : decide ((x.before.length : Int) > 20) = false) (hf : decide ((x.after.length : Int) > 20) = false) (hg : (decide ((x.weak.length : Int) > 30) && decide ((x.weak.length : Int) ≤ 1024)) = false) (hh : (decide ((x.outs.length : Int) > 30) && decide ((x.outs.length : Int) ≤ 1024)) = false) : tst54 x = false := by
 unfold tst54; rw [ha, hb, hc, hd, he, hf, hg, hh]; rfl
end
def few54B (x : Sn) : Bool := !tst54 x && (x.before ++ x.after).all okq

set_option maxHeartbeats 2000000 in
theorem few54_ok (x : Sn) (hps : x.net.power.length ≤ 9223372036854775807) : FnOK Tryz.prog 10 [.agg x.pv] ⟨bv (few54B x), none⟩ := by
 have hfe : FnOK Tryz.prog 24 [.agg x.net.pv] ⟨bv (few31B x.net.power x.net.links.length x.net.margin.length), none⟩ := by
  have h := few31_ok x.net.nodes x.net.noise x.net.thr x.net.power (x.net.links.map Lk.pv) (x.net.margin.map fun n => [ip n]) hps
  rw [List.length_map, List.length_map] at h
  exact h
 have hff : FnOK Tryz.prog 25 [.agg [ip x.len, ip x.offs, .sl 5 (x.cells.map Ce.pv)], .sl 7 (x.changes.map Ch.pv)] ⟨bv (few52B x.cells.length x.changes.length), none⟩ := by
  have h := few52_ok x.len x.offs (x.cells.map Ce.pv) (x.changes.map Ch.pv)
  rw [List.length_map, List.length_map] at h
  exact h
 refine fn_ok Tryz.func10 (by kernel_rfl) rfl (by rw [Tryz.ntmps10]; exact of_decide_eq_true rfl) (fun F hF => ?_)
 rw [Tryz.ntmps10] at hF
 rw [Tryz.results10]
 repeat (first
  | (with_reducible refine awp_cut (id := 1) (fun (_ : Unit) σ => ⟨(75, bv (tst54 x)) :: keepS [0, 1, 2] σ.slot, σ.box, [], σ.ext⟩) ?hxz ?hyz)
  | ((first | with_reducible refine sops_go ?_ | with_reducible refine sops_end ?_); simp only [go_sem, simprocAttr, hF])
  | with_reducible refine awp_seq_k fun _ _ => ?_
  | (with_reducible refine awp_region (id := 0) [] ?_)
  | (simp only [List.append_eq, List.cons_append, List.nil_append, go_sem, simprocAttr, hF])
  | go_step)
 case hxz =>
  intro R hR
  try simp only [go_sem, simprocAttr, hF]
  repeat (first
   | (with_reducible refine sops_go ?_; simp only [go_sem, simprocAttr, hF])
   | (with_reducible refine awp_region [] ?_))
  refine ⟨_, hfe, ?_⟩
  simp only [go_sem, simprocAttr, hF]
  all_goals (try (rcases Bool.eq_false_or_eq_true (few31B x.net.power x.net.links.length x.net.margin.length) with h0 | h0 <;> rw [h0]))
  all_goals (try simp only [go_sem, simprocAttr, hF])
  all_goals (repeat (first
   | ((first | with_reducible refine sops_go ?_ | with_reducible refine sops_end ?_); simp only [go_sem, simprocAttr, hF])
   | go_step))
  all_goals (try (refine ⟨_, hff, ?_⟩))
  all_goals (try simp only [go_sem, simprocAttr, hF])
  all_goals (try (rcases Bool.eq_false_or_eq_true (few52B x.cells.length x.changes.length) with h1 | h1 <;> rw [h1]))
  all_goals (try simp only [go_sem, simprocAttr, hF])
  all_goals (repeat (first
   | ((first | with_reducible refine sops_go ?_ | with_reducible refine sops_end ?_); simp only [go_sem, simprocAttr, hF])
   | go_step))
  all_goals (try (rcases Bool.eq_false_or_eq_true (decide (x.len > 48)) with h2 | h2 <;> rw [h2]))
  all_goals (try simp only [go_sem, simprocAttr, hF])
  all_goals (repeat ((with_reducible refine sops_go ?_; simp only [go_sem, simprocAttr, hF])))
  all_goals (try (rcases Bool.eq_false_or_eq_true (decide (x.len ≤ 512)) with h3 | h3 <;> rw [h3]))
  all_goals (try simp only [go_sem, simprocAttr, hF])
  all_goals (repeat (first
   | ((first | with_reducible refine sops_go ?_ | with_reducible refine sops_end ?_); simp only [go_sem, simprocAttr, hF])
   | go_step))
  all_goals (try (rcases Bool.eq_false_or_eq_true (decide (x.slots > 120)) with h4 | h4 <;> rw [h4]))
  all_goals (try simp only [go_sem, simprocAttr, hF])
  all_goals (repeat ((with_reducible refine sops_go ?_; simp only [go_sem, simprocAttr, hF])))
  all_goals (try (rcases Bool.eq_false_or_eq_true (decide (x.slots ≤ 4096)) with h5 | h5 <;> rw [h5]))
  all_goals (try simp only [go_sem, simprocAttr, hF])
  all_goals (repeat (first
   | ((first | with_reducible refine sops_go ?_ | with_reducible refine sops_end ?_); simp only [go_sem, simprocAttr, hF])
   | go_step))
  all_goals (try (rcases Bool.eq_false_or_eq_true (decide ((x.before.length : Int) > 20)) with h6 | h6 <;> rw [h6]))
  all_goals (try simp only [go_sem, simprocAttr, hF])
  all_goals (repeat (first
   | ((first | with_reducible refine sops_go ?_ | with_reducible refine sops_end ?_); simp only [go_sem, simprocAttr, hF])
   | go_step))
  all_goals (try (rcases Bool.eq_false_or_eq_true (decide ((x.after.length : Int) > 20)) with h7 | h7 <;> rw [h7]))
  all_goals (try simp only [go_sem, simprocAttr, hF])
  all_goals (repeat (first
   | ((first | with_reducible refine sops_go ?_ | with_reducible refine sops_end ?_); simp only [go_sem, simprocAttr, hF])
   | go_step))
  all_goals (try (rcases Bool.eq_false_or_eq_true (decide ((x.weak.length : Int) > 30)) with h8 | h8 <;> rw [h8]))
  all_goals (try simp only [go_sem, simprocAttr, hF])
  all_goals (repeat ((with_reducible refine sops_go ?_; simp only [go_sem, simprocAttr, hF])))
  all_goals (try (rcases Bool.eq_false_or_eq_true (decide ((x.weak.length : Int) ≤ 1024)) with h9 | h9 <;> rw [h9]))
  all_goals (try simp only [go_sem, simprocAttr, hF])
  all_goals (repeat (first
   | ((first | with_reducible refine sops_go ?_ | with_reducible refine sops_end ?_); simp only [go_sem, simprocAttr, hF])
   | go_step))
  all_goals (try (rcases Bool.eq_false_or_eq_true (decide ((x.outs.length : Int) > 30)) with h10 | h10 <;> rw [h10]))
  all_goals (try simp only [go_sem, simprocAttr, hF])
  all_goals (repeat (first
   | ((first | with_reducible refine sops_go ?_ | with_reducible refine sops_end ?_); simp only [go_sem, simprocAttr, hF])
   | go_step))
  all_goals (try (rcases Bool.eq_false_or_eq_true (decide ((x.outs.length : Int) ≤ 1024)) with h11 | h11 <;> rw [h11]))
  all_goals (try simp only [go_sem, simprocAttr, hF])
  all_goals (skip)
  all_goals ((try (first | refine hR () _ (sub_mk ?_) | refine sub_mk ?_)); first | rw [t54a h0] | rw [t54b h1] | rw [t54c h2 h3] | rw [t54d h4 h5] | rw [t54e h6] | rw [t54f h7] | rw [t54g h8 h9] | rw [t54h h10 h11] | rw [t54n h0 h1 (by first | rw [h2, Bool.false_and] | rw [h3, Bool.and_false]) (by first | rw [h4, Bool.false_and] | rw [h5, Bool.and_false]) h6 h7 (by first | rw [h8, Bool.false_and] | rw [h9, Bool.and_false]) (by first | rw [h10, Bool.false_and] | rw [h11, Bool.and_false])])
  all_goals simp only [go_sem, simprocAttr, hF]
  all_goals (first | rfl | (repeat' (first | rfl | refine ⟨?_, ?_⟩)))
 case hyz =>
  intro _
  dsimp only
  simp only [go_sem, simprocAttr, hF]

  cases hT : tst54 x with
  | true =>
   try simp only [go_sem, simprocAttr, hF, hT]
   repeat (first
    | ((first | with_reducible refine sops_go ?_ | with_reducible refine sops_end ?_ | with_reducible refine awp_if ?_ | with_reducible refine awp_ret ?_); simp only [go_sem, simprocAttr, hF, hT])
    | with_reducible refine awp_seq_k fun _ _ => ?_
    | (with_reducible refine awp_region [] ?_)
    | go_step)
   rw [few54B, hT]
   rfl
  | false =>
   have hlen : x.before.length ≤ 20 ∧ x.after.length ≤ 20 := by
    unfold tst54 at hT
    simp only [Bool.or_eq_false_iff, decide_eq_false_iff_not] at hT
    omega
   have hb1 : (x.before.length ≤ 100000000) = True := eq_true (by omega)
   have hb2 : (x.after.length ≤ 100000000) = True := eq_true (by omega)
   have hb3 : (x.before.length + x.after.length ≤ 100000000) = True := eq_true (by omega)
   try simp only [go_sem, simprocAttr, hF, hT]
   repeat (first
    | ((with_reducible refine sopsX_go ?_); simp only [go_sem, simprocAttr, hF, hT, hb1, hb2, hb3])
    | ((with_reducible refine sopsX_end ?_); refine And.intro (by kernel_rfl) ?_; (try simp only [go_sem, simprocAttr, hF, hT, hb1, hb2, hb3]))
    | ((first | with_reducible refine sops_go ?_ | with_reducible refine sops_end ?_ | with_reducible refine awp_if ?_ | with_reducible refine awp_skip ?_); simp only [go_sem, simprocAttr, hF, hT, hb1, hb2, hb3])
    | with_reducible refine awp_seq_k fun _ _ => ?_
    | (refine awp_any (id := 3) [] [] [] (by kernel_rfl) (by kernel_rfl) ?_)
    | with_reducible (first | refine awp_region [] ?_ | refine awp_block ?_)
    | (simp only [List.append_eq, List.cons_append, List.nil_append, go_sem, simprocAttr, hF, hT, hb1, hb2, hb3])
    | go_step)
   obtain ⟨al, hal⟩ : ∃ al, al = x.before ++ x.after := ⟨_, rfl⟩
   have hm : x.before.map Rq.pv ++ x.after.map Rq.pv = al.map Rq.pv := by rw [hal, List.map_append]
   have hal2 : al.length ≤ 40 := by rw [hal, List.length_append]; omega
   have hres : few54B x = al.all okq := by unfold few54B; rw [hT, hal]; rfl
   simp only [hm]
   clear hm hal
   refine awp_loop_by (ι := {k : Nat // k ≤ al.length ∧ ∀ q ∈ al.take k, okq q = true}) (fun k σ => ⟨(4, iv (k.1 : Int)) :: keepS [0, 1, 2, 3] σ.slot, σ.box, [], σ.ext⟩) (fun k => al.length - k.1) ⟨0, by omega, by simp⟩ (sub_mk ?_) (fun R hR k => ?_)
   · simp only [go_sem, simprocAttr, hF]
     repeat' (first | rfl | refine ⟨?_, ?_⟩)
   obtain ⟨k, hk, hK⟩ := k
   dsimp only
   simp only [go_sem, simprocAttr, hF]
   by_cases hlt : k < al.length
   case neg =>
    have hd : decide ((k : Int) < (al.length : Int)) = false := decide_eq_false (by omega)
    rw [List.take_of_length_le (by omega)] at hK
    have hall : al.all okq = true := List.all_eq_true.2 hK
    repeat (first
     | ((first | with_reducible refine sops_go ?_ | with_reducible refine sops_end ?_ | with_reducible refine awp_if ?_ | with_reducible refine awp_ret ?_ | with_reducible refine awp_exit ?_); simp only [go_sem, simprocAttr, hF, hd])
     | with_reducible refine awp_seq_k fun _ _ => ?_
     | (with_reducible refine awp_region [] ?_)
     | go_step)
    rw [hres, hall]
    all_goals (try rfl)
   obtain ⟨d, hdk⟩ := get_of_lt hlt
   have hd : decide ((k : Int) < (al.length : Int)) = true := decide_eq_true (by omega)
   have hw : IntKind.i64.wrap ((k : Int) + 1) = ((k + 1 : Nat) : Int) := by rw [IntKind.wrap_i64]; omega
   have hbad : okq d = false → al.all okq = false := fun h => by
    refine Bool.eq_false_iff.2 fun hh => ?_
    rw [List.all_eq_true.1 hh d (List.mem_of_getElem? hdk)] at h
    cases h
   by_cases h4 : d.rs.length ≤ 4
   case neg =>
    have he : decide ((d.rs.length : Int) > 4) = true := decide_eq_true (by omega)
    have hbd := hbad (by unfold okq; rw [decide_eq_false h4]; rfl)
    repeat (first
     | ((first | with_reducible refine sops_go ?_ | with_reducible refine sops_end ?_ | with_reducible refine awp_if ?_ | with_reducible refine awp_skip ?_ | with_reducible refine awp_ret ?_); simp only [go_sem, simprocAttr, hF, hd, hdk, he])
     | with_reducible (first | refine awp_seq_k fun _ _ => ?_ | refine awp_region [] ?_ | refine awp_block ?_)
     | go_step)
    rw [hres, hbd]
    all_goals (try rfl)
   have he : decide ((d.rs.length : Int) > 4) = false := decide_eq_false (by omega)
   repeat (first
    | ((first | with_reducible refine sops_go ?_ | with_reducible refine sops_end ?_ | with_reducible refine awp_if ?_ | with_reducible refine awp_skip ?_); simp only [go_sem, simprocAttr, hF, hd, hdk, he])
    | with_reducible (first | refine awp_seq_k fun _ _ => ?_ | refine awp_region [] ?_ | refine awp_block ?_)
    | go_step)
   refine awp_loop_by (ι := {j : Nat // j ≤ d.rs.length ∧ ∀ r ∈ d.rs.take j, r.length ≤ 20}) (fun j σ => ⟨(5, iv (j.1 : Int)) :: keepS [0, 1, 2, 3, 4] σ.slot, σ.box, [], σ.ext⟩) (fun j => d.rs.length - j.1) ⟨0, by omega, by simp⟩ (sub_mk ?_) (fun R2 hR2 j => ?_)
   · simp only [go_sem, simprocAttr, hF]
     repeat' (first | rfl | refine ⟨?_, ?_⟩)
   obtain ⟨j, hj, hJ⟩ := j
   dsimp only
   simp only [go_sem, simprocAttr, hF]
   by_cases hlj : j < d.rs.length
   case neg =>
    have hd2 : decide ((j : Int) < (d.rs.length : Int)) = false := decide_eq_false (by omega)
    rw [List.take_of_length_le (by omega)] at hJ
    have hok : okq d = true := by
     unfold okq
     rw [decide_eq_true h4, List.all_eq_true.2 fun r hr => decide_eq_true (hJ r hr)]
     rfl
    repeat (first
     | ((first | with_reducible refine sops_go ?_ | with_reducible refine sops_end ?_ | with_reducible refine awp_if ?_ | with_reducible refine awp_exit ?_); simp only [go_sem, simprocAttr, hF, hd, hdk, hd2])
     | with_reducible refine awp_seq_k fun _ _ => ?_
     | (with_reducible refine awp_region [] ?_)
     | go_step)
    refine ⟨⟨k + 1, by omega, fun q hq => by
     rw [List.take_add_one, hdk] at hq
     rcases List.mem_append.1 hq with hq | hq
     · exact hK q hq
     · simp at hq; subst hq; exact hok⟩, by dsimp only; omega, hR _ _ (sub_mk ?_)⟩
    simp only [go_sem, simprocAttr, hF, hw]
   obtain ⟨r, hrj⟩ := get_of_lt hlj
   have hd2 : decide ((j : Int) < (d.rs.length : Int)) = true := decide_eq_true (by omega)
   have hw2 : IntKind.i64.wrap ((j : Int) + 1) = ((j + 1 : Nat) : Int) := by rw [IntKind.wrap_i64]; omega
   by_cases h20 : r.length ≤ 20
   case neg =>
    have he2 : decide ((r.length : Int) > 20) = true := decide_eq_true (by omega)
    have hbd := hbad (by
     unfold okq
     rw [Bool.and_eq_false_iff]
     refine .inr (Bool.eq_false_iff.2 fun hh => h20 ?_)
     exact of_decide_eq_true (List.all_eq_true.1 hh r (List.mem_of_getElem? hrj)))
    repeat (first
     | ((first | with_reducible refine sops_go ?_ | with_reducible refine sops_end ?_ | with_reducible refine awp_if ?_ | with_reducible refine awp_skip ?_ | with_reducible refine awp_ret ?_); simp only [go_sem, simprocAttr, hF, hd, hdk, hd2, hrj, he2])
     | with_reducible (first | refine awp_seq_k fun _ _ => ?_ | refine awp_region [] ?_ | refine awp_block ?_)
     | go_step)
    rw [hres, hbd]
    all_goals (try rfl)
   have he2 : decide ((r.length : Int) > 20) = false := decide_eq_false (by omega)
   repeat (first
    | ((first | with_reducible refine sops_go ?_ | with_reducible refine sops_end ?_ | with_reducible refine awp_if ?_ | with_reducible refine awp_skip ?_); simp only [go_sem, simprocAttr, hF, hd, hdk, hd2, hrj, he2])
    | with_reducible (first | refine awp_seq_k fun _ _ => ?_ | refine awp_region [] ?_ | refine awp_block ?_)
    | go_step)
   refine ⟨⟨j + 1, by omega, fun l hl => by
    rw [List.take_add_one, hrj] at hl
    rcases List.mem_append.1 hl with hl | hl
    · exact hJ l hl
    · simp at hl; subst hl; exact h20⟩, by dsimp only; omega, hR2 _ _ (sub_mk ?_)⟩
   simp only [go_sem, simprocAttr, hF, hw2]
/- slices.Equal. -/
attribute [local go_sem] Sc.Ce.pv Sc.Ch.pv
set_option maxHeartbeats 2000000 in
theorem eqI_ok (a b : List Int) (ha : a.length ≤ 1000000) : FnOK Tryz.prog 19 [.sl 1 (a.map (fun x => [ip x])), .sl 1 (b.map (fun x => [ip x]))] ⟨bv (decide (a = b)), none⟩ := by
 refine fn_ok Tryz.func19 (by kernel_rfl) rfl (by rw [Tryz.ntmps19]; exact of_decide_eq_true rfl) (fun F hF => ?_)
 rw [Tryz.ntmps19] at hF
 rw [Tryz.results19]
 have hal : ((a.length : Int) != (b.length : Int)) = !decide (a.length = b.length) := by rw [Bool.eq_iff_iff]; simp; omega
 by_cases hl : a.length = b.length
 case neg =>
  have hn : decide (a.length = b.length) = false := decide_eq_false hl
  repeat (first
   | ((first | with_reducible refine sops_go ?_ | with_reducible refine sops_end ?_ | with_reducible refine awp_if ?_ | with_reducible refine awp_ret ?_); simp only [go_sem, simprocAttr, hF, hal, hn])
   | with_reducible refine awp_seq_k fun _ _ => ?_
   | (with_reducible refine awp_region [] ?_)
   | go_step)
  rw [decide_eq_false (fun h => hl (by rw [h]))]
 have hn : decide (a.length = b.length) = true := decide_eq_true hl
 repeat (first
  | ((first | with_reducible refine sops_go ?_ | with_reducible refine sops_end ?_ | with_reducible refine awp_if ?_ | with_reducible refine awp_skip ?_); simp only [go_sem, simprocAttr, hF, hal, hn])
  | with_reducible (first | refine awp_seq_k fun _ _ => ?_ | refine awp_region [] ?_ | refine awp_block ?_)
  | go_step)
 refine awp_loop_by (ι := {k : Nat // k ≤ a.length ∧ decide (a = b) = decide (a.drop k = b.drop k)}) (fun k σ => ⟨(13, iv (k.1 : Int)) :: keepS [0, 1, 4, 12] σ.slot, σ.box, [], σ.ext⟩) (fun k => a.length - k.1) ⟨0, by omega, rfl⟩ (sub_mk ?_) (fun R hR k => ?_)
 · simp only [go_sem, simprocAttr, hF]
   repeat' (first | rfl | refine ⟨?_, ?_⟩)
 obtain ⟨k, hk, hT⟩ := k
 dsimp only
 simp only [go_sem, simprocAttr, hF]
 by_cases hlt : k < a.length
 case neg =>
  have hd : decide ((k : Int) < (a.length : Int)) = false := decide_eq_false (by omega)
  repeat (first
   | ((first | with_reducible refine sops_go ?_ | with_reducible refine sops_end ?_ | with_reducible refine awp_if ?_ | with_reducible refine awp_ret ?_ | with_reducible refine awp_exit ?_); simp only [go_sem, simprocAttr, hF, hd])
   | with_reducible refine awp_seq_k fun _ _ => ?_
   | (with_reducible refine awp_region [] ?_)
   | go_step)
  rw [hT, List.drop_of_length_le (by omega), List.drop_of_length_le (by omega)]
  rfl
 obtain ⟨x, hxk⟩ := get_of_lt hlt
 obtain ⟨y, hyk⟩ := get_of_lt (l := b) (k := k) (by omega)
 have hd : decide ((k : Int) < (a.length : Int)) = true := decide_eq_true (by omega)
 have hw : IntKind.i64.wrap ((k : Int) + 1) = ((k + 1 : Nat) : Int) := by rw [IntKind.wrap_i64]; omega
 have hT' : decide (a = b) = ((x == y) && decide (a.drop (k + 1) = b.drop (k + 1))) := by
  rw [hT, drop_of_get hxk, drop_of_get hyk, Bool.eq_iff_iff]
  simp
 cases he : (x == y) with
 | false =>
  have hne : (x != y) = true := by rw [bne, he]; rfl
  repeat (first
   | ((first | with_reducible refine sops_go ?_ | with_reducible refine headW_end ?_ | with_reducible refine sops_end ?_ | with_reducible refine awp_if ?_ | with_reducible refine awp_skip ?_ | with_reducible refine awp_ret ?_); simp only [go_sem, simprocAttr, hF, hd, hxk, hyk, he, hne])
   | ((with_reducible refine headW_go ?_); simp only [go_sem, simprocAttr, hF, hd, hxk, hyk, he, hne, hbx])
   | with_reducible refine awp_seq_k fun _ _ => ?_
   | (refine awp_draw' (id := 6) [] 9 (by kernel_rfl) (by kernel_rfl) rfl rfl (fun bx0 hbx => ?_); try dsimp only [List.take, List.drop])
   | with_reducible (first | refine awp_region [] ?_ | refine awp_block ?_)
   | go_step)
  rw [hT', he]
  rfl
 | true =>
  have hne : (x != y) = false := by rw [bne, he]; rfl
  repeat (first
   | ((first | with_reducible refine sops_go ?_ | with_reducible refine headW_end ?_ | with_reducible refine sops_end ?_ | with_reducible refine awp_if ?_ | with_reducible refine awp_skip ?_); simp only [go_sem, simprocAttr, hF, hd, hxk, hyk, he, hne])
   | ((with_reducible refine headW_go ?_); simp only [go_sem, simprocAttr, hF, hd, hxk, hyk, he, hne, hbx])
   | with_reducible refine awp_seq_k fun _ _ => ?_
   | (refine awp_draw' (id := 6) [] 9 (by kernel_rfl) (by kernel_rfl) rfl rfl (fun bx0 hbx => ?_); try dsimp only [List.take, List.drop])
   | with_reducible (first | refine awp_region [] ?_ | refine awp_block ?_)
   | go_step)
  refine ⟨⟨k + 1, by omega, by rw [hT', he, Bool.true_and]⟩, by dsimp only; omega, hR _ _ (sub_mk ?_)⟩
  simp only [go_sem, simprocAttr, hF, hw]
/- slices.Equal of routes. -/
set_option maxHeartbeats 2000000 in
theorem eqRt_ok (a b : List Int) (ha : a.length ≤ 1000000) : FnOK Tryz.prog 48 [.sl 1 (a.map (fun x => [ip x])), .sl 1 (b.map (fun x => [ip x]))] ⟨bv (decide (a = b)), none⟩ := by
 refine fn_ok Tryz.func48 (by kernel_rfl) rfl (by rw [Tryz.ntmps48]; exact of_decide_eq_true rfl) (fun F hF => ?_)
 rw [Tryz.ntmps48] at hF
 rw [Tryz.results48]
 have hal : ((a.length : Int) != (b.length : Int)) = !decide (a.length = b.length) := by rw [Bool.eq_iff_iff]; simp; omega
 by_cases hl : a.length = b.length
 case neg =>
  have hn : decide (a.length = b.length) = false := decide_eq_false hl
  repeat (first
   | ((first | with_reducible refine sops_go ?_ | with_reducible refine sops_end ?_ | with_reducible refine awp_if ?_ | with_reducible refine awp_ret ?_); simp only [go_sem, simprocAttr, hF, hal, hn])
   | with_reducible refine awp_seq_k fun _ _ => ?_
   | (with_reducible refine awp_region [] ?_)
   | go_step)
  rw [decide_eq_false (fun h => hl (by rw [h]))]
 have hn : decide (a.length = b.length) = true := decide_eq_true hl
 repeat (first
  | ((first | with_reducible refine sops_go ?_ | with_reducible refine sops_end ?_ | with_reducible refine awp_if ?_ | with_reducible refine awp_skip ?_); simp only [go_sem, simprocAttr, hF, hal, hn])
  | with_reducible (first | refine awp_seq_k fun _ _ => ?_ | refine awp_region [] ?_ | refine awp_block ?_)
  | go_step)
 refine awp_loop_by (ι := {k : Nat // k ≤ a.length ∧ decide (a = b) = decide (a.drop k = b.drop k)}) (fun k σ => ⟨(13, iv (k.1 : Int)) :: keepS [0, 1, 4, 12] σ.slot, σ.box, [], σ.ext⟩) (fun k => a.length - k.1) ⟨0, by omega, rfl⟩ (sub_mk ?_) (fun R hR k => ?_)
 · simp only [go_sem, simprocAttr, hF]
   repeat' (first | rfl | refine ⟨?_, ?_⟩)
 obtain ⟨k, hk, hT⟩ := k
 dsimp only
 simp only [go_sem, simprocAttr, hF]
 by_cases hlt : k < a.length
 case neg =>
  have hd : decide ((k : Int) < (a.length : Int)) = false := decide_eq_false (by omega)
  repeat (first
   | ((first | with_reducible refine sops_go ?_ | with_reducible refine sops_end ?_ | with_reducible refine awp_if ?_ | with_reducible refine awp_ret ?_ | with_reducible refine awp_exit ?_); simp only [go_sem, simprocAttr, hF, hd])
   | with_reducible refine awp_seq_k fun _ _ => ?_
   | (with_reducible refine awp_region [] ?_)
   | go_step)
  rw [hT, List.drop_of_length_le (by omega), List.drop_of_length_le (by omega)]
  rfl
 obtain ⟨x, hxk⟩ := get_of_lt hlt
 obtain ⟨y, hyk⟩ := get_of_lt (l := b) (k := k) (by omega)
 have hd : decide ((k : Int) < (a.length : Int)) = true := decide_eq_true (by omega)
 have hw : IntKind.i64.wrap ((k : Int) + 1) = ((k + 1 : Nat) : Int) := by rw [IntKind.wrap_i64]; omega
 have hT' : decide (a = b) = ((x == y) && decide (a.drop (k + 1) = b.drop (k + 1))) := by
  rw [hT, drop_of_get hxk, drop_of_get hyk, Bool.eq_iff_iff]
  simp
 cases he : (x == y) with
 | false =>
  have hne : (x != y) = true := by rw [bne, he]; rfl
  repeat (first
   | ((first | with_reducible refine sops_go ?_ | with_reducible refine headW_end ?_ | with_reducible refine sops_end ?_ | with_reducible refine awp_if ?_ | with_reducible refine awp_skip ?_ | with_reducible refine awp_ret ?_); simp only [go_sem, simprocAttr, hF, hd, hxk, hyk, he, hne])
   | ((with_reducible refine headW_go ?_); simp only [go_sem, simprocAttr, hF, hd, hxk, hyk, he, hne, hbx])
   | with_reducible refine awp_seq_k fun _ _ => ?_
   | (refine awp_draw' (id := 6) [] 9 (by kernel_rfl) (by kernel_rfl) rfl rfl (fun bx0 hbx => ?_); try dsimp only [List.take, List.drop])
   | with_reducible (first | refine awp_region [] ?_ | refine awp_block ?_)
   | go_step)
  rw [hT', he]
  rfl
 | true =>
  have hne : (x != y) = false := by rw [bne, he]; rfl
  repeat (first
   | ((first | with_reducible refine sops_go ?_ | with_reducible refine headW_end ?_ | with_reducible refine sops_end ?_ | with_reducible refine awp_if ?_ | with_reducible refine awp_skip ?_); simp only [go_sem, simprocAttr, hF, hd, hxk, hyk, he, hne])
   | ((with_reducible refine headW_go ?_); simp only [go_sem, simprocAttr, hF, hd, hxk, hyk, he, hne, hbx])
   | with_reducible refine awp_seq_k fun _ _ => ?_
   | (refine awp_draw' (id := 6) [] 9 (by kernel_rfl) (by kernel_rfl) rfl rfl (fun bx0 hbx => ?_); try dsimp only [List.take, List.drop])
   | with_reducible (first | refine awp_region [] ?_ | refine awp_block ?_)
   | go_step)
  refine ⟨⟨k + 1, by omega, by rw [hT', he, Bool.true_and]⟩, by dsimp only; omega, hR _ _ (sub_mk ?_)⟩
  simp only [go_sem, simprocAttr, hF, hw]
/- Routes are equal. -/
set_option maxHeartbeats 2000000 in
theorem sameRt_ok (a b : List Int) (ha : a.length ≤ 1000000) : FnOK Tryz.prog 47 [.sl 1 (a.map (fun x => [ip x])), .sl 1 (b.map (fun x => [ip x]))] ⟨bv (decide (a = b)), none⟩ := by
 refine fn_ok Tryz.func47 (by kernel_rfl) rfl (by rw [Tryz.ntmps47]; exact of_decide_eq_true rfl) (fun F hF => ?_)
 rw [Tryz.ntmps47] at hF
 rw [Tryz.results47]
 repeat (first
  | ((first | with_reducible refine sops_go ?_ | with_reducible refine sops_end ?_); simp only [go_sem, simprocAttr, hF])
  | with_reducible refine awp_seq_k fun _ _ => ?_
  | (with_reducible refine awp_region [] ?_)
  | go_step)
 refine ⟨_, eqRt_ok a b ha, ?_⟩
 simp only [go_sem, simprocAttr, hF]
 repeat (first
  | ((first | with_reducible refine sops_go ?_ | with_reducible refine sops_end ?_ | with_reducible refine awp_ret ?_); simp only [go_sem, simprocAttr, hF])
  | go_step)
 all_goals (try rfl)
/- slices.Equal of cells and changes. -/
theorem Tryz.it79 : Av.intT Tryz.prog 8 79 = some 5 := by kernel_rfl
theorem Tryz.eg79 : Tryz.prog.eqGuardType Tryz.prog.depth 79 = false := by kernel_rfl
theorem Tryz.it64 : Av.intT Tryz.prog 8 64 = some 6 := by kernel_rfl
theorem Tryz.eg64 : Tryz.prog.eqGuardType Tryz.prog.depth 64 = false := by kernel_rfl
theorem Tryz.it126 : Av.intT Tryz.prog 8 126 = some 3 := by kernel_rfl
theorem Tryz.eg126 : Tryz.prog.eqGuardType Tryz.prog.depth 126 = false := by kernel_rfl
theorem Tryz.it83 : Av.intT Tryz.prog 8 83 = some 5 := by kernel_rfl
theorem Tryz.eg83 : Tryz.prog.eqGuardType Tryz.prog.depth 83 = false := by kernel_rfl
theorem Tryz.it85 : Av.intT Tryz.prog 8 85 = some 3 := by kernel_rfl
theorem Tryz.eg85 : Tryz.prog.eqGuardType Tryz.prog.depth 85 = false := by kernel_rfl
attribute [local go_sem] Sc.Ce.pv Sc.Ch.pv Tryz.it79 Tryz.eg79 Tryz.it64 Tryz.eg64 Tryz.it126 Tryz.eg126 Tryz.it83 Tryz.eg83 Tryz.it85 Tryz.eg85
set_option maxHeartbeats 2000000 in
theorem eqCe_ok (a b : List Ce) (ha : a.length ≤ 1000000) : FnOK Tryz.prog 43 [.sl 5 (a.map Ce.pv), .sl 5 (b.map Ce.pv)] ⟨bv (decide (a = b)), none⟩ := by
 refine fn_ok Tryz.func43 (by kernel_rfl) rfl (by rw [Tryz.ntmps43]; exact of_decide_eq_true rfl) (fun F hF => ?_)
 rw [Tryz.ntmps43] at hF
 rw [Tryz.results43]
 have hal : ((a.length : Int) != (b.length : Int)) = !decide (a.length = b.length) := by rw [Bool.eq_iff_iff]; simp; omega
 by_cases hl : a.length = b.length
 case neg =>
  have hn : decide (a.length = b.length) = false := decide_eq_false hl
  repeat (first
   | ((first | with_reducible refine sops_go ?_ | with_reducible refine sops_end ?_ | with_reducible refine awp_if ?_ | with_reducible refine awp_ret ?_); simp only [go_sem, simprocAttr, hF, hal, hn])
   | with_reducible refine awp_seq_k fun _ _ => ?_
   | (with_reducible refine awp_region [] ?_)
   | go_step)
  rw [decide_eq_false (fun h => hl (by rw [h]))]
 have hn : decide (a.length = b.length) = true := decide_eq_true hl
 repeat (first
  | ((first | with_reducible refine sops_go ?_ | with_reducible refine sops_end ?_ | with_reducible refine awp_if ?_ | with_reducible refine awp_skip ?_); simp only [go_sem, simprocAttr, hF, hal, hn])
  | with_reducible (first | refine awp_seq_k fun _ _ => ?_ | refine awp_region [] ?_ | refine awp_block ?_)
  | go_step)
 refine awp_loop_by (ι := {k : Nat // k ≤ a.length ∧ decide (a = b) = decide (a.drop k = b.drop k)}) (fun k σ => ⟨(13, iv (k.1 : Int)) :: keepS [0, 1, 4, 12] σ.slot, σ.box, [], σ.ext⟩) (fun k => a.length - k.1) ⟨0, by omega, rfl⟩ (sub_mk ?_) (fun R hR k => ?_)
 · simp only [go_sem, simprocAttr, hF]
   repeat' (first | rfl | refine ⟨?_, ?_⟩)
 obtain ⟨k, hk, hT⟩ := k
 dsimp only
 simp only [go_sem, simprocAttr, hF]
 by_cases hlt : k < a.length
 case neg =>
  have hd : decide ((k : Int) < (a.length : Int)) = false := decide_eq_false (by omega)
  repeat (first
   | ((first | with_reducible refine sops_go ?_ | with_reducible refine sops_end ?_ | with_reducible refine awp_if ?_ | with_reducible refine awp_ret ?_ | with_reducible refine awp_exit ?_); simp only [go_sem, simprocAttr, hF, hd])
   | with_reducible refine awp_seq_k fun _ _ => ?_
   | (with_reducible refine awp_region [] ?_)
   | go_step)
  rw [hT, List.drop_of_length_le (by omega), List.drop_of_length_le (by omega)]
  rfl
 obtain ⟨x, hxk⟩ := get_of_lt hlt
 obtain ⟨y, hyk⟩ := get_of_lt (l := b) (k := k) (by omega)
 have hd : decide ((k : Int) < (a.length : Int)) = true := decide_eq_true (by omega)
 have hw : IntKind.i64.wrap ((k : Int) + 1) = ((k + 1 : Nat) : Int) := by rw [IntKind.wrap_i64]; omega
 have hT' : decide (a = b) = (([x.sl, x.of, x.fr, x.to, x.fl] == [y.sl, y.of, y.fr, y.to, y.fl]) && decide (a.drop (k + 1) = b.drop (k + 1))) := by
  rw [hT, drop_of_get hxk, drop_of_get hyk, Bool.eq_iff_iff]
  obtain ⟨x0, x1, x2, x3, x4⟩ := x
  obtain ⟨y0, y1, y2, y3, y4⟩ := y
  simp
 cases he : ([x.sl, x.of, x.fr, x.to, x.fl] == [y.sl, y.of, y.fr, y.to, y.fl]) with
 | false =>
  have hne : ([x.sl, x.of, x.fr, x.to, x.fl] != [y.sl, y.of, y.fr, y.to, y.fl]) = true := by rw [bne, he]; rfl
  repeat (first
   | ((first | with_reducible refine sops_go ?_ | with_reducible refine headW_end ?_ | with_reducible refine sops_end ?_ | with_reducible refine awp_if ?_ | with_reducible refine awp_skip ?_ | with_reducible refine awp_ret ?_); simp only [go_sem, simprocAttr, hF, hd, hxk, hyk, he, hne])
   | ((with_reducible refine headW_go ?_); simp only [go_sem, simprocAttr, hF, hd, hxk, hyk, he, hne, hbx])
   | with_reducible refine awp_seq_k fun _ _ => ?_
   | (refine awp_draw' (id := 6) [] 9 (by kernel_rfl) (by kernel_rfl) rfl rfl (fun bx0 hbx => ?_); try dsimp only [List.take, List.drop])
   | with_reducible (first | refine awp_region [] ?_ | refine awp_block ?_)
   | go_step)
  rw [hT', he]
  rfl
 | true =>
  have hne : ([x.sl, x.of, x.fr, x.to, x.fl] != [y.sl, y.of, y.fr, y.to, y.fl]) = false := by rw [bne, he]; rfl
  repeat (first
   | ((first | with_reducible refine sops_go ?_ | with_reducible refine headW_end ?_ | with_reducible refine sops_end ?_ | with_reducible refine awp_if ?_ | with_reducible refine awp_skip ?_); simp only [go_sem, simprocAttr, hF, hd, hxk, hyk, he, hne])
   | ((with_reducible refine headW_go ?_); simp only [go_sem, simprocAttr, hF, hd, hxk, hyk, he, hne, hbx])
   | with_reducible refine awp_seq_k fun _ _ => ?_
   | (refine awp_draw' (id := 6) [] 9 (by kernel_rfl) (by kernel_rfl) rfl rfl (fun bx0 hbx => ?_); try dsimp only [List.take, List.drop])
   | with_reducible (first | refine awp_region [] ?_ | refine awp_block ?_)
   | go_step)
  refine ⟨⟨k + 1, by omega, by rw [hT', he, Bool.true_and]⟩, by dsimp only; omega, hR _ _ (sub_mk ?_)⟩
  simp only [go_sem, simprocAttr, hF, hw]
/- slices.EqualFunc of routes with themselves. -/
set_option maxHeartbeats 2000000 in
theorem eqfRt_ok (l : List (List Int)) (hl : l.length ≤ 1000000) (hy : ∀ r ∈ l, r.length ≤ 1000000) : FnOK Tryz.prog 46 [.sl 1 (rsR l), .sl 1 (rsR l), .fnv 47 []] ⟨bv true, none⟩ := by
 refine fn_ok Tryz.func46 (by kernel_rfl) rfl (by rw [Tryz.ntmps46]; exact of_decide_eq_true rfl) (fun F hF => ?_)
 rw [Tryz.ntmps46] at hF
 rw [Tryz.results46]
 have hal : ((l.length : Int) != (l.length : Int)) = false := bne_self_eq_false _
 repeat (first
  | ((first | with_reducible refine sops_go ?_ | with_reducible refine sops_end ?_ | with_reducible refine awp_if ?_ | with_reducible refine awp_skip ?_); simp only [go_sem, simprocAttr, hF, hal])
  | with_reducible (first | refine awp_seq_k fun _ _ => ?_ | refine awp_region [] ?_ | refine awp_block ?_)
  | go_step)
 refine awp_loop_by (ι := {k : Nat // k ≤ l.length}) (fun k σ => ⟨(17, iv (k.1 : Int)) :: keepS [0, 1, 2, 15, 16] σ.slot, σ.box, [], σ.ext⟩) (fun k => l.length - k.1) ⟨0, by omega⟩ (sub_mk ?_) (fun R hR k => ?_)
 · simp only [go_sem, simprocAttr, hF]
   repeat' (first | rfl | refine ⟨?_, ?_⟩)
 obtain ⟨k, hk⟩ := k
 dsimp only
 simp only [go_sem, simprocAttr, hF]
 by_cases hlt : k < l.length
 case neg =>
  have hd : decide ((k : Int) < (l.length : Int)) = false := decide_eq_false (by omega)
  repeat (first
   | ((first | with_reducible refine sops_go ?_ | with_reducible refine sops_end ?_ | with_reducible refine awp_if ?_ | with_reducible refine awp_ret ?_ | with_reducible refine awp_exit ?_); simp only [go_sem, simprocAttr, hF, hd])
   | with_reducible refine awp_seq_k fun _ _ => ?_
   | (with_reducible refine awp_region [] ?_)
   | go_step)
  all_goals (try rfl)
 obtain ⟨d, hdk⟩ := get_of_lt hlt
 have hd : decide ((k : Int) < (l.length : Int)) = true := decide_eq_true (by omega)
 have hw : IntKind.i64.wrap ((k : Int) + 1) = ((k + 1 : Nat) : Int) := by rw [IntKind.wrap_i64]; omega
 have hsd : FnOK Tryz.prog 47 [.sl 1 (d.map (fun x => [ip x])), .sl 1 (d.map (fun x => [ip x]))] ⟨bv true, none⟩ := by
  have h := sameRt_ok d d (hy d (List.mem_of_getElem? hdk))
  rw [decide_eq_true rfl] at h
  exact h
 repeat (first
  | ((first | with_reducible refine sops_go ?_ | with_reducible refine sops_end ?_ | with_reducible refine awp_if ?_ | with_reducible refine awp_skip ?_); simp only [go_sem, simprocAttr, hF, hd, hdk])
  | with_reducible (first | refine awp_seq_k fun _ _ => ?_ | refine awp_region [] ?_ | refine awp_block ?_)
  | go_step)
 refine ⟨_, hsd, ?_⟩
 simp only [go_sem, simprocAttr, hF]
 repeat (first
  | ((first | with_reducible refine sops_go ?_ | with_reducible refine sops_end ?_ | with_reducible refine awp_if ?_ | with_reducible refine awp_skip ?_); simp only [go_sem, simprocAttr, hF, hd, hdk])
  | (with_reducible refine awp_region [] ?_)
  | go_step)
 refine ⟨⟨k + 1, by omega⟩, by dsimp only; omega, hR _ _ (sub_mk ?_)⟩
 simp only [go_sem, simprocAttr, hF, hw]
attribute [local go_sem] Tryz.it64 Tryz.eg64
set_option maxHeartbeats 2000000 in
theorem sameRq_ok (q : Rq) (h1 : q.rs.length ≤ 1000000) (h2 : ∀ r ∈ q.rs, r.length ≤ 1000000) : FnOK Tryz.prog 45 [.agg q.pv, .agg q.pv] ⟨bv true, none⟩ := by
 refine fn_ok Tryz.func45 (by kernel_rfl) rfl (by rw [Tryz.ntmps45]; exact of_decide_eq_true rfl) (fun F hF => ?_)
 rw [Tryz.ntmps45] at hF
 rw [Tryz.results45]
 have he : ([q.f.id, q.f.fr, q.f.to, q.f.pe, q.f.ph, q.f.dl] == [q.f.id, q.f.fr, q.f.to, q.f.pe, q.f.ph, q.f.dl]) = true := beq_self_eq_true _
 repeat (first
  | ((first | with_reducible refine sops_go ?_ | with_reducible refine sops_end ?_); simp only [go_sem, simprocAttr, hF, he])
  | with_reducible refine awp_seq_k fun _ _ => ?_
  | (with_reducible refine awp_region [] ?_)
  | go_step)
 refine ⟨_, eqfRt_ok q.rs h1 h2, ?_⟩
 simp only [go_sem, simprocAttr, hF, he]
 repeat (first
  | ((first | with_reducible refine sops_go ?_ | with_reducible refine sops_end ?_ | with_reducible refine awp_ret ?_); simp only [go_sem, simprocAttr, hF, he])
  | go_step)
 all_goals (try rfl)

set_option maxHeartbeats 2000000 in
theorem eqfRq_ok (l : List Rq) (hl : l.length ≤ 1000000) (hy : ∀ q ∈ l, q.rs.length ≤ 1000000 ∧ ∀ r ∈ q.rs, r.length ≤ 1000000) : FnOK Tryz.prog 49 [.sl 7 (l.map Rq.pv), .sl 7 (l.map Rq.pv), .fnv 45 []] ⟨bv true, none⟩ := by
 refine fn_ok Tryz.func49 (by kernel_rfl) rfl (by rw [Tryz.ntmps49]; exact of_decide_eq_true rfl) (fun F hF => ?_)
 rw [Tryz.ntmps49] at hF
 rw [Tryz.results49]
 have hal : ((l.length : Int) != (l.length : Int)) = false := bne_self_eq_false _
 repeat (first
  | ((first | with_reducible refine sops_go ?_ | with_reducible refine sops_end ?_ | with_reducible refine awp_if ?_ | with_reducible refine awp_skip ?_); simp only [go_sem, simprocAttr, hF, hal])
  | with_reducible (first | refine awp_seq_k fun _ _ => ?_ | refine awp_region [] ?_ | refine awp_block ?_)
  | go_step)
 refine awp_loop_by (ι := {k : Nat // k ≤ l.length}) (fun k σ => ⟨(17, iv (k.1 : Int)) :: keepS [0, 1, 2, 15, 16] σ.slot, σ.box, [], σ.ext⟩) (fun k => l.length - k.1) ⟨0, by omega⟩ (sub_mk ?_) (fun R hR k => ?_)
 · simp only [go_sem, simprocAttr, hF]
   repeat' (first | rfl | refine ⟨?_, ?_⟩)
 obtain ⟨k, hk⟩ := k
 dsimp only
 simp only [go_sem, simprocAttr, hF]
 by_cases hlt : k < l.length
 case neg =>
  have hd : decide ((k : Int) < (l.length : Int)) = false := decide_eq_false (by omega)
  repeat (first
   | ((first | with_reducible refine sops_go ?_ | with_reducible refine sops_end ?_ | with_reducible refine awp_if ?_ | with_reducible refine awp_ret ?_ | with_reducible refine awp_exit ?_); simp only [go_sem, simprocAttr, hF, hd])
   | with_reducible refine awp_seq_k fun _ _ => ?_
   | (with_reducible refine awp_region [] ?_)
   | go_step)
  all_goals (try rfl)
 obtain ⟨d, hdk⟩ := get_of_lt hlt
 have hd : decide ((k : Int) < (l.length : Int)) = true := decide_eq_true (by omega)
 have hw : IntKind.i64.wrap ((k : Int) + 1) = ((k + 1 : Nat) : Int) := by rw [IntKind.wrap_i64]; omega
 have hsd := sameRq_ok d (hy d (List.mem_of_getElem? hdk)).1 (hy d (List.mem_of_getElem? hdk)).2
 unfold Rq.pv at hsd
 repeat (first
  | ((first | with_reducible refine sops_go ?_ | with_reducible refine sops_end ?_ | with_reducible refine awp_if ?_ | with_reducible refine awp_skip ?_); simp only [go_sem, simprocAttr, hF, hd, hdk])
  | with_reducible (first | refine awp_seq_k fun _ _ => ?_ | refine awp_region [] ?_ | refine awp_block ?_)
  | go_step)
 refine ⟨_, hsd, ?_⟩
 simp only [go_sem, simprocAttr, hF]
 repeat (first
  | ((first | with_reducible refine sops_go ?_ | with_reducible refine sops_end ?_ | with_reducible refine awp_if ?_ | with_reducible refine awp_skip ?_); simp only [go_sem, simprocAttr, hF, hd, hdk])
  | (with_reducible refine awp_region [] ?_)
  | go_step)
 refine ⟨⟨k + 1, by omega⟩, by dsimp only; omega, hR _ _ (sub_mk ?_)⟩
 simp only [go_sem, simprocAttr, hF, hw]
/- slices.Equal of a list of changes with itself. -/
attribute [local go_sem] Sc.Ch.pv
def chV (y : Ch) : List Value := [.int .i64 y.sl, .bool y.ad, .int .i64 y.c.sl, .int .i64 y.c.of, .int .i64 y.c.fr, .int .i64 y.c.to, .int .i64 y.c.fl]
theorem eqf_self {P : Program} {d : Nat} {xs : Array Value} {w : World} : ∀ fs : List Field, (∀ f ∈ fs, ∃ v, (part f.type xs f.offset).run P w = .ok v w ∧ (Op.equalIn d f.type v v).run P w = .ok true w) → (Op.eqFields d xs xs fs).run P w = .ok true w
 | [], _ => rfl
 | f :: fs, h => by
  obtain ⟨v, h1, h2⟩ := h f List.mem_cons_self
  have h3 := eqf_self fs fun g hg => h g (List.mem_cons_of_mem _ hg)
  unfold Op.eqFields
  split
  · simp only [Sem.run_bind, h1, h2, Result.andThen_ok, Bool.not_true, Bool.false_eq_true, if_false]
    exact h3
  · exact h3
theorem eqch_run (w : World) (y : Ch) : (Op.equalIn 10000 81 (.agg (chV y).toArray) (.agg (chV y).toArray)).run Tryz.prog w = .ok true w := by
 have hu := Tryz.underlying81
 rw [run_equalIn_agg w 9999 _ _ _ (by kernel_rfl) (by kernel_rfl)]
 refine eqf_self _ fun f hf => ?_
 unfold Program.fieldsOf at hf
 rw [hu] at hf
 simp only [List.mem_cons, List.not_mem_nil, or_false] at hf
 rcases hf with rfl | rfl | rfl
 · refine ⟨_, (run_part w _ _ 1 _ _ Tryz.underlying3 (by kernel_rfl)).2 rfl _ rfl, ?_⟩
   rw [run_equalIn_int w 9998 _ .i64 .i64 _ _ Tryz.underlying3, beq_self_eq_true]
 · refine ⟨_, (run_part w _ _ 1 _ _ Tryz.underlying4 (by kernel_rfl)).2 rfl _ rfl, ?_⟩
   rw [run_equalIn_bool w 9998 _ _ _ Tryz.underlying4, beq_self_eq_true]
 · refine ⟨_, (run_part w _ _ 5 _ _ Tryz.underlying79 (by kernel_rfl)).1 rfl, ?_⟩
   have h := eq_ints (P := Tryz.prog) w 8 79 5 Tryz.it79 9999 (by decide) [y.c.sl, y.c.of, y.c.fr, y.c.to, y.c.fl] [y.c.sl, y.c.of, y.c.fr, y.c.to, y.c.fl] rfl rfl
   rw [beq_self_eq_true] at h
   unfold mkI at h
   rw [Tryz.underlying79] at h
   exact h
section
variable {n d : Nat} {σ : St} {o : Oper}
theorem handq_neqCh {bx0 : Nat → Option (List PV)} {T' : TypeId} {x y : Operand} {c : Ch} (ho : o.op = .binOp .neq 81 x y T') (hd : o.dst = some d) (hdn : d < n)
 (hx : evo (Av.look σ.slot) x = some (.agg c.pv)) (hy : evo (Av.look σ.slot) y = some (.agg c.pv)) : HandQ Tryz.prog n bx0 σ o d ⟨.v (.bool false), none, none⟩ := by
 intro F σ1 γ a w hF hr hops hb hext Q
 have h1 : ∀ y v, evo (Av.look σ.slot) y = some v → y ∈ o.op.operands.toList → evo (Av.look σ1.slot) y = some v := fun y v hy hmem => by
  cases y with
  | tmp t => exact hops t v hmem hy
  | _ => exact hy
 have e1 : a.eval x = .agg (chV c).toArray := eval_aggv (xs := chV c) hr (h1 x _ hx (by rw [ho]; simp [Op.operands]))
 have e2 : a.eval y = .agg (chV c).toArray := eval_aggv (xs := chV c) hr (h1 y _ hy (by rw [ho]; simp [Op.operands]))
 refine pure_ok hr hd (by rw [hF]; exact hdn) (u := .bool false) ?_ rfl (fun j hj => by simp [AV.refs] at hj)
 have hg : Tryz.prog.eqGuardType Tryz.prog.depth 81 = false := by kernel_rfl
 simp [execOp, ho, e1, e2, run_eqGuard_agg _ _ _ _ _ _ _ hg, run_neq_struct, eqch_run]
end

set_option maxHeartbeats 2000000 in
theorem eqCh_ok (l : List Ch) (hl : l.length ≤ 1000000) : FnOK Tryz.prog 44 [.sl 7 (l.map Ch.pv), .sl 7 (l.map Ch.pv)] ⟨bv true, none⟩ := by
 refine fn_ok Tryz.func44 (by kernel_rfl) rfl (by rw [Tryz.ntmps44]; exact of_decide_eq_true rfl) (fun F hF => ?_)
 rw [Tryz.ntmps44] at hF
 rw [Tryz.results44]
 have hal : ((l.length : Int) != (l.length : Int)) = false := bne_self_eq_false _
 repeat (first
  | ((first | with_reducible refine sops_go ?_ | with_reducible refine sops_end ?_ | with_reducible refine awp_if ?_ | with_reducible refine awp_skip ?_); simp only [go_sem, simprocAttr, hF, hal])
  | with_reducible (first | refine awp_seq_k fun _ _ => ?_ | refine awp_region [1000024] ?_ | refine awp_block ?_)
  | go_step)
 refine awp_loop_by (ι := {k : Nat // k ≤ l.length}) (fun k σ => ⟨(13, iv (k.1 : Int)) :: keepS [0, 1, 4, 12] σ.slot, σ.box, [], σ.ext⟩) (fun k => l.length - k.1) ⟨0, by omega⟩ (sub_mk ?_) (fun R hR k => ?_)
 · simp only [go_sem, simprocAttr, hF]
   repeat' (first | rfl | refine ⟨?_, ?_⟩)
 obtain ⟨k, hk⟩ := k
 dsimp only
 simp only [go_sem, simprocAttr, hF]
 by_cases hlt : k < l.length
 case neg =>
  have hd : decide ((k : Int) < (l.length : Int)) = false := decide_eq_false (by omega)
  repeat (first
   | ((first | with_reducible refine sops_go ?_ | with_reducible refine sops_end ?_ | with_reducible refine awp_if ?_ | with_reducible refine awp_ret ?_ | with_reducible refine awp_exit ?_); simp only [go_sem, simprocAttr, hF, hd])
   | with_reducible refine awp_seq_k fun _ _ => ?_
   | (with_reducible refine awp_region [1000024] ?_)
   | go_step)
  all_goals (try rfl)
 obtain ⟨d, hdk⟩ := get_of_lt hlt
 have hd : decide ((k : Int) < (l.length : Int)) = true := decide_eq_true (by omega)
 have hw : IntKind.i64.wrap ((k : Int) + 1) = ((k + 1 : Nat) : Int) := by rw [IntKind.wrap_i64]; omega
 repeat (first
  | ((refine ⟨_, handq_neqCh (c := d) rfl rfl (by decide) rfl rfl, rfl, ?_⟩); simp only [go_sem, simprocAttr, hF, hbx])
  | ((first | with_reducible refine sops_go ?_ | with_reducible refine headW_end ?_ | with_reducible refine sops_end ?_ | with_reducible refine awp_if ?_ | with_reducible refine awp_skip ?_); simp only [go_sem, simprocAttr, hF, hd, hdk])
  | ((with_reducible refine headW_go ?_); simp only [go_sem, simprocAttr, hF, hd, hdk, hbx])
  | with_reducible refine awp_seq_k fun _ _ => ?_
  | (refine awp_draw' (id := 6) [1000024] 9 (by kernel_rfl) (by kernel_rfl) rfl rfl (fun bx0 hbx => ?_); try dsimp only [List.take, List.drop])
  | with_reducible (first | refine awp_region [1000024] ?_ | refine awp_block ?_)
  | go_step)
 refine ⟨⟨k + 1, by omega⟩, by dsimp only; omega, hR _ _ (sub_mk ?_)⟩
 simp only [go_sem, simprocAttr, hF, hw]
end Go.Proofs.YtcloigoajohppaaGreatDoor

import Derived.Lib.LaidTab
import Derived.Stop.LaidErr
import Derived.Lay
import Derived.ChangeMaps5
import Derived.ProofKit
import Derived.LaidMore
import Derived.OpenShut
import Derived.Stop.Joined
import Derived.Below
import Derived.Laws.BytesArg
import Derived.Test.YtcloigoajohppaaGreatDoorZ5
import Derived.Test.YtcloigoajohppaaGreatDoorRows
set_option linter.unusedVariables false
set_option linter.unusedSimpArgs false
/- Parse. -/
namespace Go.Proofs.YtcloigoajohppaaGreatDoor
open Go.RowKit
open Av
open Sc
set_option maxRecDepth 100000
set_option linter.unusedSimpArgs false

attribute [local go_sem] Oper.semAt_some
/-- The number of the last line. -/
def lastB (s : ByteArray) : Int := if s.toList.isEmpty || Lib.hasSuffix s.data.toList [10] then (Lib.countByte s.data.toList 10 : Int) else (Lib.countByte s.data.toList 10 : Int) + 1
/-- What Parse answers. -/
def parseP (text : ByteArray) : Sn × Int × Int :=
  if 65536 < text.size then (snZ, 0, 8) else
  let r := foldP 0 psZ (linesB text.size text)
  if r.2.2 ≠ 0 then (snZ, r.2.1, r.2.2)
  else if r.1.R.begun && r.1.R.sched && r.1.R.done then (r.1.R.x, 0, 0)
  else (snZ, lastB text + 1, 9)
section
variable {tmps : Array Value} {w : World} {a N : Nat} {t T : TypeId} {d : TypeDesc} {vs : List Value} {v : Value}
theorem resOne_row {P : Program} (ha : tmps.getD a undef = .pointer (some ⟨N, 0, none⟩)) (h : w.heap[N]? = some (.cells vs.toArray T (0, 0))) (hu : P.underlying t = some d) (hrow : d.isRow = true) (hsz : (P.info? t).map (·.size) = some vs.length) : (resOne tmps (.cell a t)).run P w = .ok (.agg vs.toArray) w := by
  have hl : ∀ v, (Instr.loadAt t (.pointer (some ⟨N, 0, none⟩))).run P w = .ok v w → ((do loadVar t (← asAddr (tmps.getD a undef)) : Sem Value)).run P w = .ok v w := fun v hv => by
    rw [ha]
    simpa [Instr.loadAt, Instr.sureAddr, asAddr] using hv
  refine hl _ (run_loadAt_mid w _ 0 t _ d (fun j v hv => ?_) hu hrow hsz)
  rw [cell_of_row w _ _ _ T (0, 0) h, Nat.zero_add]
  simpa using hv
theorem resOne_one {P : Program} (ha : tmps.getD a undef = .pointer (some ⟨N, 0, none⟩)) (h : w.heap[N]? = some (.cells #[v] T (0, 0))) (hu : P.underlying t = some d) (hrow : d.isRow = false) : (resOne tmps (.cell a t)).run P w = .ok v w := by
  have hl : ∀ v, (Instr.loadAt t (.pointer (some ⟨N, 0, none⟩))).run P w = .ok v w → ((do loadVar t (← asAddr (tmps.getD a undef)) : Sem Value)).run P w = .ok v w := fun v hv => by
    rw [ha]
    simpa [Instr.loadAt, Instr.sureAddr, asAddr] using hv
  exact hl _ (run_load_one w _ 0 t d v (cell_one1 h) hu hrow)
end
open Classical in
/-- What can be read beside these blocks. -/
noncomputable def besR (N : Nat) (S : Nat → Prop) (w : World) : Reader := fun q => if q.block < N ∨ S q.block then none else w.cell? q
theorem _root_.Go.Proofs.YtcloigoajohppaaGreatDoor.Av.RepL.all_one {R : Reader} {ps : List PV} {us : List Value} (h : RepL R ps us) : us.all (·.oneCell') = true := by
  induction h with
  | nil => rfl
  | cons h _ ih => rw [List.all_cons, h.one, ih]; rfl
theorem resP {tmps : Array Value} {W : World} {N : Nat} {vs : List Value} {k e : Int} {T2 T3 T4 : TypeId} (a2 : tmps.getD 2 undef = .pointer (some ⟨N, 0, none⟩)) (a3 : tmps.getD 3 undef = .pointer (some ⟨N + 1, 0, none⟩)) (a4 : tmps.getD 4 undef = .pointer (some ⟨N + 2, 0, none⟩))
    (h2 : W.heap[N]? = some (.cells vs.toArray T2 (0, 0))) (hl : vs.length = 15) (h3 : W.heap[N + 1]? = some (.cells #[.int .i64 k] T3 (0, 0))) (h4 : W.heap[N + 2]? = some (.cells #[.int .i64 e] T4 (0, 0))) :
    (results Tryz.f13 tmps).run Tryz.prog W = .ok (.tuple #[.agg vs.toArray, .int .i64 k, .int .i64 e]) W := by
  rw [results_eq, Tryz.results13, Array.mapM_eq_mapM_toList, Sem.run_bind, Sem.run_map]
  have e2 := resOne_row (P := Tryz.prog) (t := 35) a2 h2 Tryz.underlying35 rfl (by rw [hl]; exact Tryz.sz35)
  have e3 := resOne_one (P := Tryz.prog) (t := 3) a3 h3 Tryz.underlying3 rfl
  have e4 := resOne_one (P := Tryz.prog) (t := 38) a4 h4 Tryz.underlying38 rfl
  simp only [List.mapM_cons, List.mapM_nil, Sem.run_bind, e2, e3, e4, Result.andThen_ok, Sem.run_pure]
  rfl
theorem parse_fin {W5 : World} {N D : Nat} {T2 T3 T4 : TypeId} {old : Array Value} {u3 u4 : Value} (vs : List Value) (k e : Int) (q2 : W5.heap[N]? = some (.cells old T2 (0, 0))) (q3 : W5.heap[N + 1]? = some (.cells #[u3] T3 (0, 0))) (q4 : W5.heap[N + 2]? = some (.cells #[u4] T4 (0, 0))) (hd : W5.heap[D]? = some (.deferred (some []))) (hD : N + 3 ≤ D)
    {W7 : World} (h7 : ((W5.setRow N vs.toArray).setCell ⟨N + 1, 0, none⟩ (.int .i64 k)).setCell ⟨N + 1 + 1, 0, none⟩ (.int .i64 e) = W7) :
    W7.heap[D]? = some (.deferred (some [])) ∧ (W7.putObj D (.deferred none)).heap[N]? = some (.cells vs.toArray T2 (0, 0)) ∧ (W7.putObj D (.deferred none)).heap[N + 1]? = some (.cells #[.int .i64 k] T3 (0, 0)) ∧ (W7.putObj D (.deferred none)).heap[N + 2]? = some (.cells #[.int .i64 e] T4 (0, 0)) ∧
      touch (fun b => (N ≤ b ∧ b < N + 3) ∨ b = D) W5 (W7.putObj D (.deferred none)) ∧ ∀ b, ¬ ((N ≤ b ∧ b < N + 3) ∨ b = D) → (W7.putObj D (.deferred none)).heap[b]? = W5.heap[b]? := by
  obtain ⟨A, hA⟩ : ∃ A, W5.setRow N vs.toArray = A := ⟨_, rfl⟩
  obtain ⟨B, hB⟩ : ∃ B, A.setCell ⟨N + 1, 0, none⟩ (.int .i64 k) = B := ⟨_, rfl⟩
  rw [hA, hB] at h7
  have t1 : touch (fun b => b = N) W5 A := by rw [← hA]; exact setRow_touch _ _ _ rfl
  have t2 : touch (fun b => b = N + 1) A B := by rw [← hB]; exact touch.setCell _ _ _ rfl
  have t3 : touch (fun b => b = N + 2) B W7 := by rw [← h7]; exact touch.setCell _ _ _ rfl
  have t4 : touch (fun b => b = D) W7 (W7.putObj D (.deferred none)) := touch.putObj _ _ _ rfl
  have a2 : A.heap[N]? = some (.cells vs.toArray T2 (0, 0)) := by rw [← hA]; exact setRow_same q2
  have b3 : B.heap[N + 1]? = some (.cells #[.int .i64 k] T3 (0, 0)) := by rw [← hB]; exact heap_set (t1.keep q3 (by omega))
  have c4 : W7.heap[N + 2]? = some (.cells #[.int .i64 e] T4 (0, 0)) := by rw [← h7]; exact heap_set (t2.keep (t1.keep q4 (by omega)) (by omega))
  refine ⟨t3.keep (t2.keep (t1.keep hd (by omega)) (by omega)) (by omega), t4.keep (t3.keep (t2.keep a2 (by omega)) (by omega)) (by omega), t4.keep (t3.keep b3 (by omega)) (by omega), t4.keep c4 (by omega), ?_, fun b hb => ?_⟩
  · exact (((t1.mono fun b _ e => .inl ⟨by omega, by omega⟩).trans (t2.mono fun b _ e => .inl ⟨by omega, by omega⟩)).trans (t3.mono fun b _ e => .inl ⟨by omega, by omega⟩)).trans (t4.mono fun b _ e => .inr e)
  · have e1 : A.heap[b]? = W5.heap[b]? := by
      have : ¬ N = b := by omega
      rw [← hA]
      simp [World.setRow, Array.getElem?_modify, this]
    exact (World.putObj_heap_other (by omega)).trans ((by rw [← h7]; exact Below.heap_setCell _ ⟨N + 1 + 1, 0, none⟩ _ _ (show b ≠ N + 1 + 1 by omega) : W7.heap[b]? = B.heap[b]?).trans ((by rw [← hB]; exact Below.heap_setCell _ ⟨N + 1, 0, none⟩ _ _ (show b ≠ N + 1 by omega) : B.heap[b]? = A.heap[b]?).trans e1))
set_option maxRecDepth 100000 in
set_option maxHeartbeats 4000000 in
theorem parse_any (text : ByteArray) (w : World) (hC : LC w) : Calls Tryz.prog 13 #[.string text] w fun e w' => ∃ vs, e = .returned (.tuple #[.agg vs.toArray, .int .i64 (parseP text).2.1, .int .i64 (parseP text).2.2]) ∧ Below w.heap.size w w' ∧ RepL (fun p => if p.block < w.heap.size then none else w'.cell? p) (parseP text).1.pv vs := by
  obtain ⟨n, hn⟩ : ∃ n : Nat, n = 5 := ⟨_, rfl⟩
  clear hn
  refine (callsIn_wide (n := n)).1 ?_
  refine callsIn_of_wp_marks Tryz.func13 rfl trivial ?_ rfl
  simp only [Tryz.ntmps13, List.size_toArray, List.length_cons, List.length_nil, Nat.reduceAdd, Nat.reduceSub, Array.replicate_succ, Array.replicate_zero, List.push_toArray, List.append_toArray, List.nil_append, List.cons_append]
  by_cases hbig : 65536 < text.size
  · have hbig' : (65536 : Int) < (text.size : Int) := by omega
    have hres : parseP text = (snZ, 0, 8) := by unfold parseP; rw [if_pos hbig]
    rw [hres]
    gi_wp2
    obtain ⟨N, hN⟩ : ∃ N, w.heap.size = N := ⟨_, rfl⟩
    generalize hW4 : World.alloc _ _ = W4
    rw [hN]
    refine ⟨_, resP (N := N) (vs := snV) (k := 0) (e := 8) (T2 := 35) (T3 := 3) (T4 := 38) rfl rfl rfl ?_ rfl ?_ ?_, _, rfl, ?_, ?_⟩
    · rw [← hW4, ← hN]; repeat (first | (refine alloc_at _ _ _ ?_; (try simp only [World.size_alloc]) <;> omega) | refine (Below.heap_alloc _ _ _ (by simp only [World.size_alloc]; omega)).trans ?_)
    · rw [← hW4, ← hN]; repeat (first | (refine alloc_at _ _ _ ?_; (try simp only [World.size_alloc]) <;> omega) | refine (Below.heap_alloc _ _ _ (by simp only [World.size_alloc]; omega)).trans ?_)
    · rw [← hW4, ← hN]; repeat (first | (refine alloc_at _ _ _ ?_; (try simp only [World.size_alloc]) <;> omega) | refine (Below.heap_alloc _ _ _ (by simp only [World.size_alloc]; omega)).trans ?_)
    · rw [← hW4, ← hN]; exact (((Below.refl _ w).alloc (Nat.le_refl _) _).alloc (by simp) _).alloc (by simp; omega) _
    · exact repZ _
  · have hbig' : ¬ (65536 : Int) < (text.size : Int) := by omega
    gi_wp2_with ((with_reducible refine And.intro ?_ (And.intro ?_ ?_)); exact trivial; (intro h; cases h); first | (refine (callsIn_wide.2 (forms_any _)).mono ?_; rintro e w' ⟨kb, rfl, hbk, hkx, hkf⟩) | (refine (callsIn_wide.2 (lines_any text _)).mono ?_; rintro e w' ⟨rfl, rfl⟩))
    generalize hW4 : World.alloc _ _ = W4 at hbk hkf
    generalize hWf : World.alloc _ _ = Wf
    obtain ⟨N, hN⟩ : ∃ N, w.heap.size = N := ⟨_, rfl⟩
    obtain ⟨N', hN'⟩ : ∃ N', w'.heap.size = N' := ⟨_, rfl⟩
    have hs4 : W4.heap.size = N + 4 := by rw [← hW4]; simp only [World.size_alloc]; omega
    have hNN : N + 4 ≤ N' := by have := hbk.size; omega
    have hb4 : Below N w W4 := by
      rw [← hW4, ← hN]; exact ((((Below.refl _ w).alloc (Nat.le_refl _) _).alloc (by simp) _).alloc (by simp; omega) _).alloc (by simp; omega) _
    have g2 : W4.heap[N]? = some (.cells snV.toArray 35 (0, 0)) := by rw [← hW4, ← hN]; repeat (first | (refine alloc_at _ _ _ ?_; (try simp only [World.size_alloc]) <;> omega) | refine (Below.heap_alloc _ _ _ (by simp only [World.size_alloc]; omega)).trans ?_)
    have g3 : W4.heap[N + 1]? = some (.cells #[.int .i64 0] 3 (0, 0)) := by rw [← hW4, ← hN]; repeat (first | (refine alloc_at _ _ _ ?_; (try simp only [World.size_alloc]) <;> omega) | refine (Below.heap_alloc _ _ _ (by simp only [World.size_alloc]; omega)).trans ?_)
    have g4 : W4.heap[N + 2]? = some (.cells #[.int .i64 0] 38 (0, 0)) := by rw [← hW4, ← hN]; repeat (first | (refine alloc_at _ _ _ ?_; (try simp only [World.size_alloc]) <;> omega) | refine (Below.heap_alloc _ _ _ (by simp only [World.size_alloc]; omega)).trans ?_)
    have gb : W4.heap[N + 3]? = some (.cells (rvals rdZ rmZ).toArray 94 (0, 0)) := by rw [← hW4, ← hN]; repeat (first | (refine alloc_at _ _ _ ?_; (try simp only [World.size_alloc]) <;> omega) | refine (Below.heap_alloc _ _ _ (by simp only [World.size_alloc]; omega)).trans ?_)
    rw [hs4] at hbk hkf
    have hsf : Wf.heap.size = N' + 3 := by rw [← hWf]; simp only [World.size_alloc]; omega
    have hbf : Below N' w' Wf := by
      rw [← hWf, ← hN']; exact (((Below.refl _ w').alloc (Nat.le_refl _) _).alloc (by simp) _).alloc (by simp; omega) _
    have f5 : Wf.heap[N']? = some (.cells #[.pointer (some ⟨N + 3, 0, none⟩)] 91 (0, 0)) := by rw [← hWf, ← hN', ← hN]; repeat (first | (refine alloc_at _ _ _ ?_; (try simp only [World.size_alloc]) <;> omega) | refine (Below.heap_alloc _ _ _ (by simp only [World.size_alloc]; omega)).trans ?_)
    have f6 : Wf.heap[N' + 1]? = some (.cells #[.map (some kb)] 95 (0, 0)) := by rw [← hWf, ← hN']; repeat (first | (refine alloc_at _ _ _ ?_; (try simp only [World.size_alloc]) <;> omega) | refine (Below.heap_alloc _ _ _ (by simp only [World.size_alloc]; omega)).trans ?_)
    have ft : Wf.heap[N' + 2]? = some (.cells #[.string text] 9 (0, 0)) := by rw [← hWf, ← hN']; repeat (first | (refine alloc_at _ _ _ ?_; (try simp only [World.size_alloc]) <;> omega) | refine (Below.heap_alloc _ _ _ (by simp only [World.size_alloc]; omega)).trans ?_)
    have l4 : ∀ {b : Nat} {o : Obj}, b < N + 4 → W4.heap[b]? = some o → Wf.heap[b]? = some o := fun hb h => (hbf.block _ (by omega)).trans ((hbk.block _ hb).trans h)
    rw [hN, hN']
    clear hWf hW4
    refine range_law (gf := 77) (lb := #[.pointer (some ⟨N' + 1 + 1, 0, none⟩)]) rfl (enters_of Tryz.func77 (by kernel_rfl) rfl) ?_
    intro fn W1 rec hrec hb hs1 hD1 hl1
    rw [hsf] at hs1 hD1 hl1 hb ⊢
    have hst : ∀ st pe, (rec st pe).state = st := fun st pe => by rw [hrec]
    have hpe : ∀ st pe, (rec st pe).pending = pe := fun st pe => by rw [hrec]
    have hps : ∀ st pe, (rec st pe).params = #[20, 21] := fun st pe => by rw [hrec]
    have hasn := fun st pe => congrArg (fun r => Loop.assign (r st pe)) hrec
    have hbod := fun st pe => congrArg (fun r => Loop.body (r st pe)) hrec
    have htm := fun st pe => congrArg (fun r => Loop.tmps (r st pe)) hrec
    dsimp only at hasn hbod htm
    have hset : ∀ st pe st' pe', { rec st pe with state := st', pending := pe' } = rec st' pe' := fun st pe st' pe' => by rw [hrec]
    have hset1 : ∀ st pe st', { rec st pe with state := st' } = rec st' pe := fun st pe st' => by rw [hrec]
    have hlt : ∀ {w : World} {b : Nat} {o : Obj}, w.heap[b]? = some o → b < w.heap.size := fun h => (Array.getElem?_eq_some_iff.1 h).1
    have hbe : ∀ {w : World} {b b' : Nat} {o : Obj} (o' : Obj), w.heap[b]? = some o → b ≠ b' → (w.putObj b' o').heap[b]? = some o := fun o' h hn => (World.putObj_heap_other hn).trans h
    have hb1 : Below N w W1 := hb4.trans ((hbk.mono (by omega)).trans ((hbf.mono (by omega)).trans (hb.mono (by omega))))
    have l1 : ∀ {b : Nat} {o : Obj}, Wf.heap[b]? = some o → W1.heap[b]? = some o := fun h => (hb.block _ (by have := hlt h; omega)).trans h
    clear hrec
    obtain ⟨S, hS⟩ : ∃ S : Nat → Nat → Prop, S = fun B b => (N ≤ b ∧ b < N + 3) ∨ (N' ≤ b ∧ b < B) := ⟨_, rfl⟩
    have hP1 : PW w N N' kb (S (N' + 5)) psZ W1 := by
      refine ⟨⟨rxZ, _, _, okZ, Rel.beginS hC (by rw [hN]; exact hb1) ?_ ⟨trivial, laidZ _ _⟩ (fun R => ⟨trivial, readsZ _ R⟩) ?_ ?_⟩, l1 (l4 (by omega) g2), l1 (l4 (by omega) g3), l1 (l4 (by omega) g4), l1 f5, l1 f6⟩
      · refine ⟨(knownE kb).stable (fun b hb' => ?_) hkx, holdZ (l1 (l4 (by omega) gb)), fun b h1 h2 => ?_⟩
        · have h3 := hkf b hb'
          exact (hb.block b (by omega)).trans (hbf.block b (by omega))
        · have h3 := hkf b h1
          have h4 := allZ h2
          omega
      · intro b hb'
        rw [hS] at hb'
        rw [hN, hs1]
        refine ⟨by omega, by omega, fun h1 => ?_⟩
        rcases (all_and b).1 h1 with h1 | h1
        · have h3 := hkf b h1
          omega
        · have h4 := allZ h1
          omega
      · intro b h1
        rw [hN, hs1]
        rcases (all_and b).1 h1 with h1 | h1
        · have h3 := hkf b h1
          omega
        · have h4 := allZ h1
          omega
    refine (lines_in (n - 1) (N' + 4) (N' + 2) text (by omega) (N' + 5)
      (fun B k W => ∃ p, foldP 0 psZ (linesB text.size text) = foldP k p ((linesB text.size text).drop k) ∧ PW w N N' kb (S B) p W ∧ W.heap[N' + 3]? = some (.deferred (some [])) ∧ W.heap[N' + 4]? = some (.loop (rec .ready none)) ∧ N' + 5 ≤ B)
      (fun _ W => ∃ k e, e ≠ 0 ∧ (foldP 0 psZ (linesB text.size text)).2 = (k, e) ∧ Below N w W ∧ W.heap[N]? = some (.cells snV.toArray 35 (0, 0)) ∧ W.heap[N + 1]? = some (.cells #[.int .i64 (k : Int)] 3 (0, 0)) ∧ W.heap[N + 2]? = some (.cells #[.int .i64 e] 38 (0, 0)) ∧ W.heap[N' + 3]? = some (.deferred (some [])) ∧ W.heap[N' + 4]? = some (.loop (rec .done (some .ret))))
      ?hE ?hT ?hTx ?hS ?hY W1 (by omega) (cell_one1 (l1 ft)) ⟨psZ, by rw [List.drop_zero], by rw [hs1]; exact hP1, hD1, hl1, by rw [hs1]; omega⟩).mono ?_
    case hE =>
      rintro B k W W' ⟨p, h1, h2, h3, h4, h9⟩ hB hbw
      have h5 := hlt h4
      have h6 := hbw.size
      exact ⟨p, h1, h2.more hbw (fun b => by rw [hS, hB]; dsimp only; omega), (hbw.block _ (hlt h3)).trans h3, (hbw.block _ (hlt h4)).trans h4, by omega⟩
    case hT =>
      rintro B k W W' ⟨p, h1, h2, h3, h4, h9⟩ ht
      exact ⟨p, h1, h2.touched (B := N' + 5) ht (fun b hb' => by rw [hS]; exact .inr ⟨by omega, hb'.2⟩) (fun b hb' => hb'.1) (by omega) (by omega), ht.keep h3 (by omega), ht.keep h4 (by omega), h9⟩
    case hTx =>
      rintro B W W' ⟨k, e, h1, h2, h3, h4, h5, h6, h7, h8⟩ ht
      exact ⟨k, e, h1, h2, h3.trans ⟨ht.os, ht.tape, ht.output, ht.size, fun b hb' => ht.block b (by have := hlt h8; omega) (by omega)⟩, ht.keep h4 (by omega), ht.keep h5 (by omega), ht.keep h6 (by omega), ht.keep h7 (by omega), ht.keep h8 (by omega)⟩
    case hS =>
      rintro B k s W hk hsk ⟨p, h1, h2⟩
      exact ⟨p, by rw [h1, foldP_get hk, if_pos hsk], h2⟩
    case hY =>
      rintro m B k s W hk hsk ⟨p, h1, h2, h3, h4, h9⟩
      refine yield_law (A1 := ?A) h4 (hst _ _) (by rw [hps]; rfl) ?asg ?bdy
      case asg =>
        rw [hasn, htm, hps]
        simp only [List.zip_toArray, List.zip_cons_cons, List.zip_nil_right, List.foldl_toArray, List.foldl_cons, List.foldl_nil, List.setIfInBounds_toArray, List.set_cons_succ, List.set_cons_zero]
        gi_wp2
        first | exact rfl | exact ⟨rfl, rfl⟩
      obtain ⟨W2, hW2⟩ : ∃ W2, W.putObj (N' + 4) (.loop { rec .ready none with state := .busy }) = W2 := ⟨_, rfl⟩
      have ht2 : touch (fun b => b = N' + 4) W W2 := by rw [← hW2]; exact touch.putObj _ _ _ rfl
      have hl2 : W2.heap[N' + 4]? = some (.loop (rec .busy none)) := by rw [← hW2, hset1]; exact World.putObj_heap_same (hlt h4)
      have hp2 : PW w N N' kb (S B) p W2 := h2.touched (B := N' + 4) ht2 (fun b hb' => by rw [hS]; exact .inr ⟨by omega, by omega⟩) (fun b hb' => by omega) (by omega) (by omega)
      have hd2 := ht2.keep h3 (by omega)
      have hsz : s.size ≤ 100000 := by
        have := linesB_size _ _ _ (List.mem_of_getElem? hk)
        omega
      obtain ⟨X, γ, a, hX, hrel⟩ := hp2.rel
      have hline := (line_okX (N + 3) kb hX s hsz).calls _ ((laidE LC).and (heldS (S B) fun b => W2.heap[b]?)) γ a W2 [wrP (N + 3), .string s, .map (some kb)] (fun w0 h => h.1) hrel (.cons rfl rfl (.cons rfl rfl (.cons rfl rfl .nil)))
      unfold wrP at hline
      have q5 := cell_one1 hp2.c5
      have q6 := cell_one1 hp2.c6
      obtain ⟨Rp, hRp⟩ : ∃ Rp, (fun (e : Ending) (W' : World) => (∀ b, N' + 5 ≤ b → b < B → W'.heap[b]? = W.heap[b]?) ∧ ((e = .returned (.bool true) ∧ ∃ p, foldP 0 psZ (linesB text.size text) = foldP (k + 1) p ((linesB text.size text).drop (k + 1)) ∧ PW w N N' kb (S B) p W' ∧ W'.heap[N' + 3]? = some (.deferred (some [])) ∧ W'.heap[N' + 4]? = some (.loop (rec .ready none)) ∧ N' + 5 ≤ B) ∨
        (e = .returned (.bool false) ∧ ∃ k e, e ≠ 0 ∧ (foldP 0 psZ (linesB text.size text)).2 = (k, e) ∧ Below N w W' ∧ W'.heap[N]? = some (.cells snV.toArray 35 (0, 0)) ∧ W'.heap[N + 1]? = some (.cells #[.int .i64 (k : Int)] 3 (0, 0)) ∧ W'.heap[N + 2]? = some (.cells #[.int .i64 e] 38 (0, 0)) ∧ W'.heap[N' + 3]? = some (.deferred (some [])) ∧ W'.heap[N' + 4]? = some (.loop (rec .done (some .ret)))))) = Rp := ⟨_, rfl⟩
      rw [hRp, hW2, hbod]
      have hp2c2 := hp2.c2
      have hp2c3 := hp2.c3
      have hp2c4 := hp2.c4
      have hp2c5 := hp2.c5
      have hp2c6 := hp2.c6
      clear hp2 h2
      gi_wp2
      refine ⟨trivial, (fun h => (by cases h)), ?_⟩
      refine CallsIn.mono (CallsIn.inRound _ (callsIn_wide.2 hline)) ?_
      rintro e W3 ⟨u, γ', ⟨X3, hi⟩, rfl, hrel3, _, hu⟩
      obtain rfl := hu
      have hk3 : ∀ b, S B b → W3.heap[b]? = W2.heap[b]? := fun b hb' => hrel3.exth.1.2.1 b hb'
      have hin1 : ∀ b, N ≤ b → b < N + 3 → S B b := fun b h1 h2 => by rw [hS]; exact .inl ⟨h1, h2⟩
      have hin2 : ∀ b, N' ≤ b → b < B → S B b := fun b h1 h2 => by rw [hS]; exact .inr ⟨h1, h2⟩
      have t2 := (hk3 N (hin1 _ (by omega) (by omega))).trans hp2c2
      have t3 := (hk3 (N + 1) (hin1 _ (by omega) (by omega))).trans hp2c3
      have t4 := (hk3 (N + 2) (hin1 _ (by omega) (by omega))).trans hp2c4
      have t5 := (hk3 N' (hin2 _ (by omega) (by omega))).trans hp2c5
      have t6 := (hk3 (N' + 1) (hin2 _ (by omega) (by omega))).trans hp2c6
      have td := (hk3 (N' + 3) (hin2 _ (by omega) (by omega))).trans hd2
      have tl := (hk3 (N' + 4) (hin2 _ (by omega) (by omega))).trans hl2
      have hback : ∀ b, N' + 5 ≤ b → b < B → W3.heap[b]? = W.heap[b]? := fun b h1 h2 => (hk3 b (hin2 _ (by omega) h2)).trans (by rw [← hW2]; exact World.putObj_heap_other (by omega))
      have hrel4 : Rel ⟨fun _ => none, w, 0⟩ (exSt LC (S B) W3 ((knownE kb).and (exts (pcsX (N + 3) X3)))) γ' a W3 := Rel.touchedS (w0 := W2) hrel3 (touch.refl _ _)
      have hbl : Below N w W3 := by rw [← hN]; exact hrel3.below
      have hfold := foldP_get (p := p) hk
      rw [if_neg (by rw [hsk]; simp)] at hfold
      obtain ⟨er, her⟩ : ∃ er, (stepP p (lineO s)).2 = er := ⟨_, rfl⟩
      rw [her] at hi hfold ⊢
      clear hline hrel hrel3 hk3 hp2c2 hp2c3 hp2c4 hp2c5 hp2c6 q5 q6
      by_cases h0 : er = 0
      · subst h0
        have hPW : PW w N N' kb (S B) (stepP p (lineO s)).1 W3 := ⟨⟨X3, γ', a, hi rfl, hrel4⟩, t2, t3, t4, t5, t6⟩
        have hdone : ∃ v w', (Instr.endRound (N' + 4) none).run Tryz.prog W3 = .ok v w' ∧ Rp (.returned v) w' := by
          refine ⟨_, _, run_endRound none tl, ?_⟩
          rw [← hRp, hset]
          refine ⟨fun b b1 b2 => (World.putObj_heap_other (by omega)).trans (hback b b1 b2), .inl ⟨rfl, _, ?_, hPW.touched (B := N' + 4) (touch.putObj (S := fun b => b = N' + 4) _ _ _ rfl) (fun b hb' => hin2 _ (by omega) (by omega)) (fun b hb' => by omega) (by omega) (by omega), hbe _ td (by omega), World.putObj_heap_same (hlt tl), h9⟩⟩
          rw [h1, hfold, if_pos rfl]
        clear hRp hi hPW
        gi_wp2
        exact hdone
      · have hne : (er == 0) = false := by simpa using h0
        clear hi
        gi_wp2_with (with_reducible refine hold_store 35 ?_)
        refine ⟨?_⟩
        refine store_row_in (FOK.round _) rfl 35 _ _ rfl N snV.toArray rfl rfl _ _ t2 Tryz.sz35 rfl (by simp [snV, Value.oneCell']) ?_
        obtain ⟨W4, hW4⟩ : ∃ W4, W3.setRow N snV.toArray = W4 := ⟨_, rfl⟩
        have htc : touch (fun b => b = N) W3 W4 := by rw [← hW4]; exact setRow_touch _ _ _ rfl
        have o4 : ∀ b, b ≠ N → W4.heap[b]? = W3.heap[b]? := fun b hb' => by
          have : ¬ N = b := fun e => hb' e.symm
          rw [← hW4]
          simp [World.setRow, Array.getElem?_modify, this]
        have v2 : W4.heap[N]? = some (.cells snV.toArray 35 (0, 0)) := by rw [← hW4]; exact setRow_same t2
        have v3 := htc.keep t3 (by omega)
        have v4 := htc.keep t4 (by omega)
        have vd := htc.keep td (by omega)
        have vl := htc.keep tl (by omega)
        have z3 := cell_one1 v3
        have z4 := cell_one1 v4
        have y3 := frozen_one v3
        have y4 := frozen_one v4
        rw [hW4]
        clear hW4
        gi_wp2
        obtain ⟨W5, hW5⟩ : ∃ W5, W4.setCell ⟨N + 1, 0, none⟩ (.int .i64 ((k : Int) + 1)) = W5 := ⟨_, rfl⟩
        obtain ⟨W6, hW6⟩ : ∃ W6, W5.setCell ⟨N + 1 + 1, 0, none⟩ (.int .i64 er) = W6 := ⟨_, rfl⟩
        rw [hW5, hW6]
        have s5 : touch (fun b => b = N + 1) W4 W5 := by rw [← hW5]; exact touch.setCell _ _ _ rfl
        have s6 : touch (fun b => b = N + 2) W5 W6 := by rw [← hW6]; exact touch.setCell _ _ _ rfl
        have x3 : W5.heap[N + 1]? = some (.cells #[.int .i64 ((k + 1 : Nat) : Int)] 3 (0, 0)) := by rw [← hW5]; exact heap_set v3
        have x4 : W6.heap[N + 2]? = some (.cells #[.int .i64 er] 38 (0, 0)) := by rw [← hW6]; exact heap_set (s5.keep v4 (by omega))
        have sall : touch (fun b => N ≤ b ∧ b < N + 3) W3 W6 := ((htc.mono fun b _ e => ⟨by omega, by omega⟩).trans (s5.mono fun b _ e => ⟨by omega, by omega⟩)).trans (s6.mono fun b _ e => ⟨by omega, by omega⟩)
        have oall : ∀ b, N + 3 ≤ b → W6.heap[b]? = W3.heap[b]? := fun b hb' => by
          rw [← hW6, ← hW5]
          exact (Below.heap_setCell _ ⟨N + 1 + 1, 0, none⟩ _ _ (show b ≠ N + 1 + 1 by omega)).trans ((Below.heap_setCell _ ⟨N + 1, 0, none⟩ _ _ (show b ≠ N + 1 by omega)).trans (o4 b (by omega)))
        have l6 := sall.keep tl (by omega)
        refine ⟨_, _, run_endRound (some .ret) l6, ?_⟩
        rw [← hRp, hset]
        refine ⟨fun b b1 b2 => (World.putObj_heap_other (by omega)).trans ((oall b (by omega)).trans (hback b b1 b2)), .inr ⟨rfl, k + 1, er, h0, ?_, ?_, hbe _ (s6.keep (s5.keep v2 (by omega)) (by omega)) (by omega), hbe _ (s6.keep x3 (by omega)) (by omega), hbe _ x4 (by omega), hbe _ (sall.keep td (by omega)) (by omega), World.putObj_heap_same (hlt l6)⟩⟩
        · rw [h1, hfold, if_neg h0]
        · exact below_touch hbl ((sall.mono (S' := fun b => N ≤ b) fun b _ e => e.1).trans (touch.putObj _ _ _ (by omega))) (fun b hb' => hb') (by have := hlt tl; omega)
    rintro e W' ⟨⟨v, rfl⟩, B, (⟨p, h1, h2, h3, h4, h9⟩ | ⟨k, e, h1, h2, h3, h4, h5, h6, h7, h8⟩)⟩
    · obtain ⟨W5, hW5⟩ : ∃ W5, W'.putObj (N' + 4) (.loop { rec .ready none with state := .exhausted }) = W5 := ⟨_, rfl⟩
      refine ⟨_, _, run_endLoop h4 (by rw [hst]; simp), ?_⟩
      have hp5 : PW w N N' kb (S B) p W5 := by rw [← hW5]; exact h2.touched (B := N' + 4) (touch.putObj (S := fun b => b = N' + 4) _ _ _ rfl) (fun b hb' => by rw [hS]; exact .inr ⟨by omega, by omega⟩) (fun b hb' => by omega) (by omega) (by omega)
      have hd5 : W5.heap[N' + 3]? = some (.deferred (some [])) := by rw [← hW5]; exact hbe _ h3 (by omega)
      rw [hW5, hpe]
      obtain ⟨X, γ, a, hX, hrel⟩ := hp5.rel
      obtain ⟨T, hT⟩ : ∃ T, W5.heap[N + 3]? = some (.cells (rvals X.R X.m).toArray T (0, 0)) := exts_get hrel.exth.2.1.2.1 (rfl : (pcsX (N + 3) X)[0]? = some (rawU (N + 3) (rvals X.R X.m)))
      rw [hX.R] at hT
      have hc : ∀ j v, (rvals p.R X.m)[j]? = some v → W5.cell? ⟨N + 3, j, none⟩ = some v := fun j v h => by rw [cell_of_row _ _ _ _ T (0, 0) hT]; simpa using h
      obtain ⟨M, hM⟩ : ∃ M, X.m = M := ⟨_, rfl⟩
      rw [hM] at hc hT
      have r0 := hc 0 _ rfl
      have r1 := hc 1 _ rfl
      have r2 := hc 2 _ rfl
      have r3 := hc 3 _ rfl
      have r4 := hc 4 _ rfl
      have r5 := hc 5 _ rfl
      have r6 := hc 6 _ rfl
      have r7 := hc 7 _ rfl
      have r8 := hc 8 _ rfl
      have r9 := hc 9 _ rfl
      have r10 := hc 10 _ rfl
      have r11 := hc 11 _ rfl
      have r12 := hc 12 _ rfl
      have r13 := hc 13 _ rfl
      have r14 := hc 14 _ rfl
      have r16 := hc 16 _ rfl
      have r17 := hc 17 _ rfl
      have r18 := hc 18 _ rfl
      have q2 := hp5.c2
      have q3 := hp5.c3
      have q4 := hp5.c4
      have q5 := cell_one1 hp5.c5
      have hcnt : ∀ W, Calls Tryz.prog 38 #[.string text, .string ⟨#[10]⟩] W fun e w' => e = .returned (.int .i64 ((Lib.countByte text.data.toList 10 : Nat) : Int)) ∧ w' = W := fun W => Any.strings_Count_one (ρ := Tryz.lays138_ren) { Tryz.lays138 with } text 10 W
      have hsuf : ∀ W, Calls Tryz.prog 39 #[.string text, .string ⟨#[10]⟩] W fun e w' => e = .returned (.bool (Lib.hasSuffix text.data.toList [10])) ∧ w' = W := fun W => Any.strings_HasSuffix (ρ := Tryz.lays100_ren) { Tryz.lays100 with } text ⟨#[10]⟩ W (by omega)
      have hcb : Lib.countByte text.data.toList 10 ≤ 65536 := by
        unfold Lib.countByte
        have := List.count_le_length (a := (10 : UInt8)) (l := text.data.toList)
        rw [← Sc.ba_size] at this
        omega
      obtain ⟨ct, hct⟩ : ∃ ct : Nat, Lib.countByte text.data.toList 10 = ct := ⟨_, rfl⟩
      rw [hct] at hcnt hcb
      have hfold : foldP 0 psZ (linesB text.size text) = (p, 0, 0) := by rw [h1, List.drop_length]; rfl
      obtain ⟨b1, hb1⟩ : ∃ b, p.R.begun = b := ⟨_, rfl⟩
      obtain ⟨b2, hb2⟩ : ∃ b, p.R.sched = b := ⟨_, rfl⟩
      obtain ⟨b3, hb3⟩ : ∃ b, p.R.done = b := ⟨_, rfl⟩
      rw [hb1] at r16
      rw [hb2] at r17
      rw [hb3] at r18
      have hbad : (b1 && b2 && b3) = false → parseP text = (snZ, lastB text + 1, 9) := fun h => by
        unfold parseP
        rw [if_neg hbig]
        dsimp only
        rw [hfold]
        dsimp only
        rw [if_neg (by simp), hb1, hb2, hb3, h]
        rfl
      have hgood : (b1 && b2 && b3) = true → parseP text = (p.R.x, 0, 0) := fun h => by
        unfold parseP
        rw [if_neg hbig]
        dsimp only
        rw [hfold]
        dsimp only
        rw [if_neg (by simp), hb1, hb2, hb3, h]
        rfl
      simp only [Exit.inBlock, Exit.then, List.cons_append, List.nil_append]
      clear hp5 h1 h2 h3 h4 hst hpe hps hasn hbod htm hset hset1 hW5
      cases b1
      · have hres := hbad rfl
        have hbl : Below N w W5 := by rw [← hN]; exact hrel.below
        clear hbad hgood r17 r18 hrel hX hM hc hT r0 r1 r2 r3 r4 r5 r6 r7 r8 r9 r10 r11 r12 r13 r14 hfold hb1 hb2 hb3 l4 l1 hlt hbe hS hP1 hD1 hl1 f5 f6 ft g2 g3 g4 gb hbk hkf hkx hb hC hbf hb4
        cases hem : text.toList.isEmpty
        · cases hsf : Lib.hasSuffix text.data.toList [10]
          · have hlb : lastB text = (ct : Int) + 1 := by unfold lastB; rw [hem, hsf, hct]; rfl
            rw [hsf] at hsuf
            gi_wp2_with (first | ((with_reducible refine And.intro ?_ (And.intro ?_ ?_)); exact trivial; (intro h; cases h); first | (refine (callsIn_wide.2 (hcnt _)).mono ?_; rintro e w' ⟨rfl, hww⟩; obtain rfl : W5 = w' := hww.symm) | (refine (callsIn_wide.2 (hsuf _)).mono ?_; rintro e w' ⟨rfl, hww⟩; obtain rfl : W5 = w' := hww.symm)) | (with_reducible refine hold_store 35 ?_))
            refine ⟨?_⟩
            refine store_row_in FOK.wide rfl 35 _ _ rfl N snV.toArray rfl rfl _ _ q2 Tryz.sz35 rfl (by simp [snV, Value.oneCell']) ?_
            obtain ⟨W6, hW6⟩ : ∃ W6, W5.setRow N snV.toArray = W6 := ⟨_, rfl⟩
            have htc : touch (fun b => b = N) W5 W6 := by rw [← hW6]; exact setRow_touch _ _ _ rfl
            have v3 := htc.keep q3 (by omega)
            have v4 := htc.keep q4 (by omega)
            have z3 := cell_one1 v3
            have z4 := cell_one1 v4
            have y3 := frozen_one v3
            have y4 := frozen_one v4
            rw [hW6]
            gi_wp2
            generalize hW7 : World.setCell _ _ _ = W7
            rw [← hW6] at hW7
            obtain ⟨f1, f2, f3, f4, f5, f6⟩ := parse_fin snV _ 9 q2 q3 q4 hd5 (by omega) hW7
            refine ⟨by simp, .inl ⟨_, _, rfl, run_takeDeferred f1, _, resP (N := N) (vs := snV) rfl rfl rfl f2 rfl f3 f4, snV, ?_, ?_, ?_⟩⟩
            · rw [hres, hlb]
            · rw [hN]
              exact below_touch hbl f5 (fun b hb' => by omega) (by have := (Array.getElem?_eq_some_iff.1 hd5).1; omega)
            · rw [hres]
              exact repZ _
          · have hlb : lastB text = (ct : Int) := by unfold lastB; rw [hem, hsf, hct]; rfl
            rw [hsf] at hsuf
            gi_wp2_with (first | ((with_reducible refine And.intro ?_ (And.intro ?_ ?_)); exact trivial; (intro h; cases h); first | (refine (callsIn_wide.2 (hcnt _)).mono ?_; rintro e w' ⟨rfl, hww⟩; obtain rfl : W5 = w' := hww.symm) | (refine (callsIn_wide.2 (hsuf _)).mono ?_; rintro e w' ⟨rfl, hww⟩; obtain rfl : W5 = w' := hww.symm)) | (with_reducible refine hold_store 35 ?_))
            refine ⟨?_⟩
            refine store_row_in FOK.wide rfl 35 _ _ rfl N snV.toArray rfl rfl _ _ q2 Tryz.sz35 rfl (by simp [snV, Value.oneCell']) ?_
            obtain ⟨W6, hW6⟩ : ∃ W6, W5.setRow N snV.toArray = W6 := ⟨_, rfl⟩
            have htc : touch (fun b => b = N) W5 W6 := by rw [← hW6]; exact setRow_touch _ _ _ rfl
            have v3 := htc.keep q3 (by omega)
            have v4 := htc.keep q4 (by omega)
            have z3 := cell_one1 v3
            have z4 := cell_one1 v4
            have y3 := frozen_one v3
            have y4 := frozen_one v4
            rw [hW6]
            gi_wp2
            generalize hW7 : World.setCell _ _ _ = W7
            rw [← hW6] at hW7
            obtain ⟨f1, f2, f3, f4, f5, f6⟩ := parse_fin snV _ 9 q2 q3 q4 hd5 (by omega) hW7
            refine ⟨by simp, .inl ⟨_, _, rfl, run_takeDeferred f1, _, resP (N := N) (vs := snV) rfl rfl rfl f2 rfl f3 f4, snV, ?_, ?_, ?_⟩⟩
            · rw [hres, hlb]
            · rw [hN]
              exact below_touch hbl f5 (fun b hb' => by omega) (by have := (Array.getElem?_eq_some_iff.1 hd5).1; omega)
            · rw [hres]
              exact repZ _
        · have hlb : lastB text = (ct : Int) := by unfold lastB; rw [hem, hct]; rfl
          gi_wp2_with (first | ((with_reducible refine And.intro ?_ (And.intro ?_ ?_)); exact trivial; (intro h; cases h); first | (refine (callsIn_wide.2 (hcnt _)).mono ?_; rintro e w' ⟨rfl, hww⟩; obtain rfl : W5 = w' := hww.symm) | (refine (callsIn_wide.2 (hsuf _)).mono ?_; rintro e w' ⟨rfl, hww⟩; obtain rfl : W5 = w' := hww.symm)) | (with_reducible refine hold_store 35 ?_))
          refine And.intro trivial ?_
          gi_wp2_with (with_reducible refine hold_store 35 ?_)
          refine ⟨?_⟩
          refine store_row_in FOK.wide rfl 35 _ _ rfl N snV.toArray rfl rfl _ _ q2 Tryz.sz35 rfl (by simp [snV, Value.oneCell']) ?_
          obtain ⟨W6, hW6⟩ : ∃ W6, W5.setRow N snV.toArray = W6 := ⟨_, rfl⟩
          have htc : touch (fun b => b = N) W5 W6 := by rw [← hW6]; exact setRow_touch _ _ _ rfl
          have v3 := htc.keep q3 (by omega)
          have v4 := htc.keep q4 (by omega)
          have z3 := cell_one1 v3
          have z4 := cell_one1 v4
          have y3 := frozen_one v3
          have y4 := frozen_one v4
          rw [hW6]
          gi_wp2
          generalize hW7 : World.setCell _ _ _ = W7
          rw [← hW6] at hW7
          obtain ⟨f1, f2, f3, f4, f5, f6⟩ := parse_fin snV _ 9 q2 q3 q4 hd5 (by omega) hW7
          refine ⟨by simp, .inl ⟨_, _, rfl, run_takeDeferred f1, _, resP (N := N) (vs := snV) rfl rfl rfl f2 rfl f3 f4, snV, ?_, ?_, ?_⟩⟩
          · rw [hres, hlb]
          · rw [hN]
            exact below_touch hbl f5 (fun b hb' => by omega) (by have := (Array.getElem?_eq_some_iff.1 hd5).1; omega)
          · rw [hres]
            exact repZ _
      · cases b2
        · have hres := hbad rfl
          have hbl : Below N w W5 := by rw [← hN]; exact hrel.below
          clear hbad hgood r18 hrel hX hM hc hT r0 r1 r2 r3 r4 r5 r6 r7 r8 r9 r10 r11 r12 r13 r14 hfold hb1 hb2 hb3 l4 l1 hlt hbe hS hP1 hD1 hl1 f5 f6 ft g2 g3 g4 gb hbk hkf hkx hb hC hbf hb4
          cases hem : text.toList.isEmpty
          · cases hsf : Lib.hasSuffix text.data.toList [10]
            · have hlb : lastB text = (ct : Int) + 1 := by unfold lastB; rw [hem, hsf, hct]; rfl
              rw [hsf] at hsuf
              gi_wp2_with (first | ((with_reducible refine And.intro ?_ (And.intro ?_ ?_)); exact trivial; (intro h; cases h); first | (refine (callsIn_wide.2 (hcnt _)).mono ?_; rintro e w' ⟨rfl, hww⟩; obtain rfl : W5 = w' := hww.symm) | (refine (callsIn_wide.2 (hsuf _)).mono ?_; rintro e w' ⟨rfl, hww⟩; obtain rfl : W5 = w' := hww.symm)) | (with_reducible refine hold_store 35 ?_))
              refine ⟨?_⟩
              refine store_row_in FOK.wide rfl 35 _ _ rfl N snV.toArray rfl rfl _ _ q2 Tryz.sz35 rfl (by simp [snV, Value.oneCell']) ?_
              obtain ⟨W6, hW6⟩ : ∃ W6, W5.setRow N snV.toArray = W6 := ⟨_, rfl⟩
              have htc : touch (fun b => b = N) W5 W6 := by rw [← hW6]; exact setRow_touch _ _ _ rfl
              have v3 := htc.keep q3 (by omega)
              have v4 := htc.keep q4 (by omega)
              have z3 := cell_one1 v3
              have z4 := cell_one1 v4
              have y3 := frozen_one v3
              have y4 := frozen_one v4
              rw [hW6]
              gi_wp2
              generalize hW7 : World.setCell _ _ _ = W7
              rw [← hW6] at hW7
              obtain ⟨f1, f2, f3, f4, f5, f6⟩ := parse_fin snV _ 9 q2 q3 q4 hd5 (by omega) hW7
              refine ⟨by simp, .inl ⟨_, _, rfl, run_takeDeferred f1, _, resP (N := N) (vs := snV) rfl rfl rfl f2 rfl f3 f4, snV, ?_, ?_, ?_⟩⟩
              · rw [hres, hlb]
              · rw [hN]
                exact below_touch hbl f5 (fun b hb' => by omega) (by have := (Array.getElem?_eq_some_iff.1 hd5).1; omega)
              · rw [hres]
                exact repZ _
            · have hlb : lastB text = (ct : Int) := by unfold lastB; rw [hem, hsf, hct]; rfl
              rw [hsf] at hsuf
              gi_wp2_with (first | ((with_reducible refine And.intro ?_ (And.intro ?_ ?_)); exact trivial; (intro h; cases h); first | (refine (callsIn_wide.2 (hcnt _)).mono ?_; rintro e w' ⟨rfl, hww⟩; obtain rfl : W5 = w' := hww.symm) | (refine (callsIn_wide.2 (hsuf _)).mono ?_; rintro e w' ⟨rfl, hww⟩; obtain rfl : W5 = w' := hww.symm)) | (with_reducible refine hold_store 35 ?_))
              refine ⟨?_⟩
              refine store_row_in FOK.wide rfl 35 _ _ rfl N snV.toArray rfl rfl _ _ q2 Tryz.sz35 rfl (by simp [snV, Value.oneCell']) ?_
              obtain ⟨W6, hW6⟩ : ∃ W6, W5.setRow N snV.toArray = W6 := ⟨_, rfl⟩
              have htc : touch (fun b => b = N) W5 W6 := by rw [← hW6]; exact setRow_touch _ _ _ rfl
              have v3 := htc.keep q3 (by omega)
              have v4 := htc.keep q4 (by omega)
              have z3 := cell_one1 v3
              have z4 := cell_one1 v4
              have y3 := frozen_one v3
              have y4 := frozen_one v4
              rw [hW6]
              gi_wp2
              generalize hW7 : World.setCell _ _ _ = W7
              rw [← hW6] at hW7
              obtain ⟨f1, f2, f3, f4, f5, f6⟩ := parse_fin snV _ 9 q2 q3 q4 hd5 (by omega) hW7
              refine ⟨by simp, .inl ⟨_, _, rfl, run_takeDeferred f1, _, resP (N := N) (vs := snV) rfl rfl rfl f2 rfl f3 f4, snV, ?_, ?_, ?_⟩⟩
              · rw [hres, hlb]
              · rw [hN]
                exact below_touch hbl f5 (fun b hb' => by omega) (by have := (Array.getElem?_eq_some_iff.1 hd5).1; omega)
              · rw [hres]
                exact repZ _
          · have hlb : lastB text = (ct : Int) := by unfold lastB; rw [hem, hct]; rfl
            gi_wp2_with (first | ((with_reducible refine And.intro ?_ (And.intro ?_ ?_)); exact trivial; (intro h; cases h); first | (refine (callsIn_wide.2 (hcnt _)).mono ?_; rintro e w' ⟨rfl, hww⟩; obtain rfl : W5 = w' := hww.symm) | (refine (callsIn_wide.2 (hsuf _)).mono ?_; rintro e w' ⟨rfl, hww⟩; obtain rfl : W5 = w' := hww.symm)) | (with_reducible refine hold_store 35 ?_))
            refine And.intro trivial ?_
            gi_wp2_with (with_reducible refine hold_store 35 ?_)
            refine ⟨?_⟩
            refine store_row_in FOK.wide rfl 35 _ _ rfl N snV.toArray rfl rfl _ _ q2 Tryz.sz35 rfl (by simp [snV, Value.oneCell']) ?_
            obtain ⟨W6, hW6⟩ : ∃ W6, W5.setRow N snV.toArray = W6 := ⟨_, rfl⟩
            have htc : touch (fun b => b = N) W5 W6 := by rw [← hW6]; exact setRow_touch _ _ _ rfl
            have v3 := htc.keep q3 (by omega)
            have v4 := htc.keep q4 (by omega)
            have z3 := cell_one1 v3
            have z4 := cell_one1 v4
            have y3 := frozen_one v3
            have y4 := frozen_one v4
            rw [hW6]
            gi_wp2
            generalize hW7 : World.setCell _ _ _ = W7
            rw [← hW6] at hW7
            obtain ⟨f1, f2, f3, f4, f5, f6⟩ := parse_fin snV _ 9 q2 q3 q4 hd5 (by omega) hW7
            refine ⟨by simp, .inl ⟨_, _, rfl, run_takeDeferred f1, _, resP (N := N) (vs := snV) rfl rfl rfl f2 rfl f3 f4, snV, ?_, ?_, ?_⟩⟩
            · rw [hres, hlb]
            · rw [hN]
              exact below_touch hbl f5 (fun b hb' => by omega) (by have := (Array.getElem?_eq_some_iff.1 hd5).1; omega)
            · rw [hres]
              exact repZ _
        · cases b3
          · have hres := hbad rfl
            have hbl : Below N w W5 := by rw [← hN]; exact hrel.below
            clear hbad hgood  hrel hX hM hc hT r0 r1 r2 r3 r4 r5 r6 r7 r8 r9 r10 r11 r12 r13 r14 hfold hb1 hb2 hb3 l4 l1 hlt hbe hS hP1 hD1 hl1 f5 f6 ft g2 g3 g4 gb hbk hkf hkx hb hC hbf hb4
            cases hem : text.toList.isEmpty
            · cases hsf : Lib.hasSuffix text.data.toList [10]
              · have hlb : lastB text = (ct : Int) + 1 := by unfold lastB; rw [hem, hsf, hct]; rfl
                rw [hsf] at hsuf
                gi_wp2_with (first | ((with_reducible refine And.intro ?_ (And.intro ?_ ?_)); exact trivial; (intro h; cases h); first | (refine (callsIn_wide.2 (hcnt _)).mono ?_; rintro e w' ⟨rfl, hww⟩; obtain rfl : W5 = w' := hww.symm) | (refine (callsIn_wide.2 (hsuf _)).mono ?_; rintro e w' ⟨rfl, hww⟩; obtain rfl : W5 = w' := hww.symm)) | (with_reducible refine hold_store 35 ?_))
                refine ⟨?_⟩
                refine store_row_in FOK.wide rfl 35 _ _ rfl N snV.toArray rfl rfl _ _ q2 Tryz.sz35 rfl (by simp [snV, Value.oneCell']) ?_
                obtain ⟨W6, hW6⟩ : ∃ W6, W5.setRow N snV.toArray = W6 := ⟨_, rfl⟩
                have htc : touch (fun b => b = N) W5 W6 := by rw [← hW6]; exact setRow_touch _ _ _ rfl
                have v3 := htc.keep q3 (by omega)
                have v4 := htc.keep q4 (by omega)
                have z3 := cell_one1 v3
                have z4 := cell_one1 v4
                have y3 := frozen_one v3
                have y4 := frozen_one v4
                rw [hW6]
                gi_wp2
                generalize hW7 : World.setCell _ _ _ = W7
                rw [← hW6] at hW7
                obtain ⟨f1, f2, f3, f4, f5, f6⟩ := parse_fin snV _ 9 q2 q3 q4 hd5 (by omega) hW7
                refine ⟨by simp, .inl ⟨_, _, rfl, run_takeDeferred f1, _, resP (N := N) (vs := snV) rfl rfl rfl f2 rfl f3 f4, snV, ?_, ?_, ?_⟩⟩
                · rw [hres, hlb]
                · rw [hN]
                  exact below_touch hbl f5 (fun b hb' => by omega) (by have := (Array.getElem?_eq_some_iff.1 hd5).1; omega)
                · rw [hres]
                  exact repZ _
              · have hlb : lastB text = (ct : Int) := by unfold lastB; rw [hem, hsf, hct]; rfl
                rw [hsf] at hsuf
                gi_wp2_with (first | ((with_reducible refine And.intro ?_ (And.intro ?_ ?_)); exact trivial; (intro h; cases h); first | (refine (callsIn_wide.2 (hcnt _)).mono ?_; rintro e w' ⟨rfl, hww⟩; obtain rfl : W5 = w' := hww.symm) | (refine (callsIn_wide.2 (hsuf _)).mono ?_; rintro e w' ⟨rfl, hww⟩; obtain rfl : W5 = w' := hww.symm)) | (with_reducible refine hold_store 35 ?_))
                refine ⟨?_⟩
                refine store_row_in FOK.wide rfl 35 _ _ rfl N snV.toArray rfl rfl _ _ q2 Tryz.sz35 rfl (by simp [snV, Value.oneCell']) ?_
                obtain ⟨W6, hW6⟩ : ∃ W6, W5.setRow N snV.toArray = W6 := ⟨_, rfl⟩
                have htc : touch (fun b => b = N) W5 W6 := by rw [← hW6]; exact setRow_touch _ _ _ rfl
                have v3 := htc.keep q3 (by omega)
                have v4 := htc.keep q4 (by omega)
                have z3 := cell_one1 v3
                have z4 := cell_one1 v4
                have y3 := frozen_one v3
                have y4 := frozen_one v4
                rw [hW6]
                gi_wp2
                generalize hW7 : World.setCell _ _ _ = W7
                rw [← hW6] at hW7
                obtain ⟨f1, f2, f3, f4, f5, f6⟩ := parse_fin snV _ 9 q2 q3 q4 hd5 (by omega) hW7
                refine ⟨by simp, .inl ⟨_, _, rfl, run_takeDeferred f1, _, resP (N := N) (vs := snV) rfl rfl rfl f2 rfl f3 f4, snV, ?_, ?_, ?_⟩⟩
                · rw [hres, hlb]
                · rw [hN]
                  exact below_touch hbl f5 (fun b hb' => by omega) (by have := (Array.getElem?_eq_some_iff.1 hd5).1; omega)
                · rw [hres]
                  exact repZ _
            · have hlb : lastB text = (ct : Int) := by unfold lastB; rw [hem, hct]; rfl
              gi_wp2_with (first | ((with_reducible refine And.intro ?_ (And.intro ?_ ?_)); exact trivial; (intro h; cases h); first | (refine (callsIn_wide.2 (hcnt _)).mono ?_; rintro e w' ⟨rfl, hww⟩; obtain rfl : W5 = w' := hww.symm) | (refine (callsIn_wide.2 (hsuf _)).mono ?_; rintro e w' ⟨rfl, hww⟩; obtain rfl : W5 = w' := hww.symm)) | (with_reducible refine hold_store 35 ?_))
              refine And.intro trivial ?_
              gi_wp2_with (with_reducible refine hold_store 35 ?_)
              refine ⟨?_⟩
              refine store_row_in FOK.wide rfl 35 _ _ rfl N snV.toArray rfl rfl _ _ q2 Tryz.sz35 rfl (by simp [snV, Value.oneCell']) ?_
              obtain ⟨W6, hW6⟩ : ∃ W6, W5.setRow N snV.toArray = W6 := ⟨_, rfl⟩
              have htc : touch (fun b => b = N) W5 W6 := by rw [← hW6]; exact setRow_touch _ _ _ rfl
              have v3 := htc.keep q3 (by omega)
              have v4 := htc.keep q4 (by omega)
              have z3 := cell_one1 v3
              have z4 := cell_one1 v4
              have y3 := frozen_one v3
              have y4 := frozen_one v4
              rw [hW6]
              gi_wp2
              generalize hW7 : World.setCell _ _ _ = W7
              rw [← hW6] at hW7
              obtain ⟨f1, f2, f3, f4, f5, f6⟩ := parse_fin snV _ 9 q2 q3 q4 hd5 (by omega) hW7
              refine ⟨by simp, .inl ⟨_, _, rfl, run_takeDeferred f1, _, resP (N := N) (vs := snV) rfl rfl rfl f2 rfl f3 f4, snV, ?_, ?_, ?_⟩⟩
              · rw [hres, hlb]
              · rw [hN]
                exact below_touch hbl f5 (fun b hb' => by omega) (by have := (Array.getElem?_eq_some_iff.1 hd5).1; omega)
              · rw [hres]
                exact repZ _
          · have hres := hgood rfl
            have hbl : Below N w W5 := by rw [← hN]; exact hrel.below
            have hexts := hrel.exth.2.1.2.1
            have hdisj := hrel.exth.2.2
            have hread := hrel.extr.2.2
            clear hbad hgood hfold hb1 hb2 hb3 l4 l1 hlt hbe hP1 hD1 hl1 f5 f6 ft g2 g3 g4 gb hbk hkf hkx hb hC hbf hb4 hcnt hsuf hc hT
            gi_wp2_with (with_reducible refine hold_store 35 ?_)
            refine ⟨?_⟩
            have hSN : ∀ b, N ≤ b → b < N + 3 → S B b := fun b h1 h2 => by rw [hS]; exact .inl ⟨h1, h2⟩
            have hSD : S B (N' + 3) := by rw [hS]; exact .inr ⟨by omega, by omega⟩
            have hrep : RepL (besR N (S B) W5) p.R.x.pv ((rvals p.R M).take 15) := by
              have h9 := rep_sn (R := besR N (S B) W5) (w := W5) (b := N + 3) hX hexts ?_ ?_
              · rw [hX.R, hM] at h9
                exact h9
              · refine (exts (pcsX (N + 3) X)).rmono (fun q v hq => ?_) hread
                unfold rdr at hq
                dsimp only at hq
                rw [hN] at hq
                by_cases h1 : q.block < N
                · rw [if_pos h1] at hq; cases hq
                · rw [if_neg h1] at hq
                  by_cases h2 : S B q.block
                  · rw [if_pos (.inr (.inr (.inl (.inl (.inr h2)))))] at hq; cases hq
                  · unfold besR
                    rw [if_neg (fun h : _ ∨ _ => h.elim h1 h2)]
                    split at hq
                    · cases hq
                    · exact hq
              · intro g hg j u hu
                have h1 := (hrel.extf g (.inl (.inr (.inr hg)))).1
                have h2 : ¬ S B g := fun h => hdisj g (.inl (.inr h)) (.inl (.inr hg))
                have h3 : w.heap.size = N := hN
                unfold besR
                rw [if_neg (fun h : _ ∨ _ => h.elim (fun h => by dsimp only at h h1; omega) h2)]
                exact hu
            have hone : ((rvals p.R M).take 15).toArray.all (·.oneCell') = true := by
              rw [List.all_toArray]
              exact hrep.all_one
            clear hexts hdisj hread hrel hX hM
            refine store_row_in FOK.wide rfl 35 _ _ rfl N ((rvals p.R M).take 15).toArray rfl rfl _ _ q2 Tryz.sz35 rfl hone ?_
            obtain ⟨W6, hW6⟩ : ∃ W6, W5.setRow N ((rvals p.R M).take 15).toArray = W6 := ⟨_, rfl⟩
            have htc : touch (fun b => b = N) W5 W6 := by rw [← hW6]; exact setRow_touch _ _ _ rfl
            have v3 := htc.keep q3 (by omega)
            have v4 := htc.keep q4 (by omega)
            have z3 := cell_one1 v3
            have z4 := cell_one1 v4
            have y3 := frozen_one v3
            have y4 := frozen_one v4
            rw [hW6]
            gi_wp2
            generalize hW7 : World.setCell _ _ _ = W7
            rw [← hW6] at hW7
            obtain ⟨f1, f2, f3, f4, f5, f6⟩ := parse_fin ((rvals p.R M).take 15) 0 0 q2 q3 q4 hd5 (by omega) hW7
            refine ⟨by simp, .inl ⟨_, _, rfl, run_takeDeferred f1, _, resP (N := N) (vs := (rvals p.R M).take 15) rfl rfl rfl f2 rfl f3 f4, (rvals p.R M).take 15, ?_, ?_, ?_⟩⟩
            · rw [hres]
            · rw [hN]
              exact below_touch hbl f5 (fun b hb' => by omega) (by have := (Array.getElem?_eq_some_iff.1 hd5).1; omega)
            · rw [hres]
              refine hrep.mono fun q v hq => ?_
              unfold besR at hq
              split at hq
              · cases hq
              · rename_i h1
                rw [if_neg (by rw [hN]; exact fun h => h1 (.inl h))]
                refine (World.cell?_of_block (w := W5) (a := q) (f6 q.block fun h => ?_)).trans hq
                rcases h with h | h
                · exact h1 (.inr (hSN _ h.1 h.2))
                · exact h1 (.inr (by rw [h]; exact hSD))
    · refine ⟨_, _, run_endLoop h8 (by rw [hst]; simp), ?_⟩
      rw [hpe]
      refine wpIn_ret ?_
      refine ⟨by simp, .inl ⟨_, _, rfl, run_takeDeferred (hbe _ h7 (by omega)), ?_⟩⟩
      have hres : parseP text = (snZ, (k : Int), e) := by
        unfold parseP
        rw [if_neg hbig]
        dsimp only
        rw [h2]
        dsimp only
        rw [if_pos h1]
      refine ⟨_, resP (N := N) (vs := snV) (k := k) (e := e) rfl rfl rfl (hbe _ (hbe _ h4 (by omega)) (by omega)) rfl (hbe _ (hbe _ h5 (by omega)) (by omega)) (hbe _ (hbe _ h6 (by omega)) (by omega)), snV, ?_, ?_, ?_⟩
      · rw [hres]
      · rw [hN]
        exact below_touch h3 ((touch.putObj (S := fun b => N' ≤ b) _ _ _ (by omega)).trans (touch.putObj _ _ _ (by omega))) (fun b hb' => by omega) (by have := hlt h8; omega)
      · rw [hres]
        exact repZ _
end Go.Proofs.YtcloigoajohppaaGreatDoor
/- Parse: its contract. -/
namespace Go.Proofs.YtcloigoajohppaaGreatDoor
open Go.RowKit
open Av
open Sc
set_option maxRecDepth 100000
set_option linter.unusedSimpArgs false

theorem parse_okC (text : ByteArray) : FnOKC Tryz.prog LC 13 [.v (.string text)] ⟨.tup [.g (parseP text).1.pv, .c (ip (parseP text).2.1), .c (ip (parseP text).2.2)], none⟩ := by
  refine ⟨⟨Tryz.f13, _, Tryz.func13, by kernel_rfl, rfl⟩, fun w R hC hR us hus => ?_⟩
  cases hus with | cons h0 _ hus =>
  cases hus
  rw [h0]
  refine (parse_any text w hC).mono ?_
  rintro e w' ⟨vs, rfl, hb, hrep⟩
  refine ⟨_, rfl, hb, rfl, [.agg vs.toArray, .int .i64 (parseP text).2.1, .int .i64 (parseP text).2.2], rfl, .cons (.g (hrep.mono fun q v hq => ?_)) (.cons (.c (.v _ rfl)) (.cons (.c (.v _ rfl)) .nil))⟩
  unfold fresh
  split at hq
  · cases hq
  · rename_i h
    rw [if_neg h, if_neg (by simp)]
    exact hq
end Go.Proofs.YtcloigoajohppaaGreatDoor
/- The lines of a scenario are read back as the scenario: in plain Lean. -/
namespace Go.Proofs.YtcloigoajohppaaGreatDoor
open Go.RowKit
open Av
open Sc
set_option maxRecDepth 100000
set_option linter.unusedSimpArgs false
set_option linter.unusedVariables false

/-- What has been read is x, up to rank r. -/
structure At (p : Ps) (x : Sn) (r : Int) (s : Bool) : Prop where
  x : p.R.x = x
  begun : p.R.begun = true
  rank : p.R.rank ≤ r
  sched : p.R.sched = s
  done : p.R.done = false
theorem At.up {p : Ps} {x : Sn} {r r' : Int} {s : Bool} (h : At p x r s) (hr : r ≤ r') : At p x r' s := ⟨h.x, h.begun, Int.le_trans h.rank hr, h.sched, h.done⟩
theorem le_of_dec {a b : Int} (h : decide (a > b) = false) : a ≤ b := by have := of_decide_eq_false h; omega
structure Lng (x : Sn) : Prop where
  cells : x.cells.length ≤ 1024
  changes : x.changes.length ≤ 1024
  weak : x.weak.length ≤ 1024
  outs : x.outs.length ≤ 1024
theorem lng_of {x : Sn} (h : longX x = false) : Lng x := by
  unfold longX at h
  have := le_of_dec h
  refine ⟨?_, ?_, ?_, ?_⟩ <;> omega
theorem good_rows {a : Nat} : ∀ (l : List Int) (b : Nat), ∀ y ∈ rowL a b l, y.1 = wPower
  | [], _, y, hy => by cases hy
  | v :: l, b, y, hy => by
    unfold rowL at hy
    rcases List.mem_append.1 hy with hy | hy
    · split at hy
      · cases hy
      · rw [List.mem_singleton.1 hy]
    · exact good_rows l (b + 1) y hy
theorem good_pows : ∀ (l : List (List Int)) (a : Nat), ∀ y ∈ powL a l, y.1 = wPower
  | [], _, y, hy => by cases hy
  | v :: l, a, y, hy => by
    unfold powL at hy
    rcases List.mem_append.1 hy with hy | hy
    · exact good_rows v 0 y hy
    · exact good_pows l (a + 1) y hy
end Go.Proofs.YtcloigoajohppaaGreatDoor
/- The example. -/
namespace Go.Proofs.YtcloigoajohppaaGreatDoor
open Go.RowKit
open Av
open Sc
set_option maxRecDepth 100000
set_option linter.unusedSimpArgs false

def exB : ByteArray := ⟨#[110, 101, 116, 119, 111, 114, 107, 32, 50, 32, 49, 32, 50, 48, 48, 48, 10, 112, 111, 119, 101, 114, 32, 48, 32, 49, 32, 52, 48, 10, 112, 111, 119, 101, 114, 32, 49, 32, 48, 32, 52, 48, 10, 108, 105, 110, 107, 32, 48, 32, 49, 32, 48, 32, 50, 48, 10, 115, 99, 104, 101, 100, 117, 108, 101, 32, 52, 32, 49, 10, 115, 108, 111, 116, 115, 32, 56, 10]⟩
def exC : ByteArray := ⟨#[110, 101, 116, 119, 111, 114, 107, 32, 50, 32, 49, 32, 50, 48, 48, 48, 10, 112, 111, 119, 101, 114, 32, 48, 32, 49, 32, 52, 48, 10, 112, 111, 119, 101, 114, 32, 49, 32, 48, 32, 52, 48, 10, 108, 105, 110, 107, 32, 48, 32, 49, 32, 48, 32, 50, 48, 10, 115, 108, 111, 116, 115, 32, 56, 10, 115, 99, 104, 101, 100, 117, 108, 101, 32, 52, 32, 49, 10]⟩
def exX : Sn := ⟨⟨2, [[0, 40], [40, 0]], 1, 2000, [⟨0, 1, 0⟩], [20]⟩, [], [], 4, 1, [], [], [], [], 8⟩
theorem parse_exB : parseP exB = (exX, 0, 0) := by kernel_rfl
theorem fmt_exB : fmt exX = (exB, 0) := by kernel_rfl
theorem parse_exC : parseP exC = (snZ, 5, 5) := by kernel_rfl
theorem line_exW : lineO ⟨#[119, 101, 97, 107, 32, 49, 32, 45, 50, 32, 51, 48]⟩ = some (⟨#[119, 101, 97, 107]⟩, [1, -2, 30]) := by kernel_rfl
end Go.Proofs.YtcloigoajohppaaGreatDoor
/- The size of inputs. -/
namespace Go.Proofs.YtcloigoajohppaaGreatDoor
open Go.RowKit
open Av
open Sc
set_option maxRecDepth 100000
set_option linter.unusedSimpArgs false
attribute [local go_sem] Av.guardB Av.sop Av.hopx Av.hop Av.hopCall Av.hopF Av.hopB Av.evo Av.evos Av.avCells Av.loadK Av.bound Av.abin Av.aun Av.partsC Av.lfill Av.placesB Av.setAt Av.stl Av.takes Av.src Av.bxOf Av.ownOf Av.St.res Av.St.put Av.St.addBox Av.St.putOwn Av.delL Av.delS Av.look Av.lookL Av.storeSt Av.stealSt Av.St.setBox Av.keepL Av.hitB Av.snap Av.snaps Av.snapCaps Av.AV.lit Av.AV.refs Av.capRefs Av.PV.av Av.CV.av Av.startSt Av.steals Av.athen Av.ablock Av.appK Av.AllS Av.AllO Av.AllR Av.keepS Av.St.avAt Av.RetOK Av.retAll Av.retOne Av.intsOf Av.ptrB TypeDesc.isRow List.range_zero Option.some.injEq exists_eq_left' exists_eq_left exists_eq' exists_and_left exists_and_right exists_const true_and and_true and_self false_and and_false or_false false_or or_true true_or if_true if_false Bool.false_eq_true List.zipIdx_cons List.zipIdx_nil List.map_cons List.map_nil List.filter_cons List.filter_nil List.contains_cons List.contains_nil List.drop_succ_cons List.drop_zero List.take_succ_cons List.take_zero List.take_nil List.drop_nil List.length_cons List.length_nil List.cons_append List.nil_append List.append_nil List.getElem?_cons_zero List.getElem?_cons_succ List.getElem?_nil Option.bind_some Option.bind_none Option.map_some Option.map_none Option.isNone_none Option.isNone_some Option.isSome_some Option.isSome_none Bool.and_true Bool.true_and Bool.and_false Bool.false_and Bool.or_false Bool.false_or Bool.not_true Bool.not_false beq_true beq_false Bool.true_beq Bool.false_beq Loc.s.injEq Loc.b.injEq decide_true decide_false beq_self_eq_true Nat.zero_add Nat.add_zero List.getElem?_toArray List.toList_toArray List.size_toArray Value.oneCell' List.all_cons List.all_nil Value.int.injEq AV.v.injEq AV.sl.injEq AV.agg.injEq AV.ref.injEq AV.ept.injEq AV.tup.injEq Value.bool.injEq PV.v.injEq PV.sl.injEq List.isEmpty_nil List.isEmpty_cons forall_const not_true_eq_false not_false_eq_true true_implies false_implies Value.string.injEq List.length_map List.getElem?_map Int.toNat_natCast Int.natCast_nonneg List.length_append Value.cells implies_true TypeDesc.struct.injEq TypeDesc.slice.injEq TypeDesc.array.injEq List.getElem?_toArray Prod.mk.injEq and_assoc exists_false List.cons.injEq Operand.tmp.injEq ite_self AV.fnv.injEq AV.clo.injEq ne_eq eq_self Tryz.sz3 Tryz.zr3 Tryz.by3 Tryz.pl3 Tryz.is3 Tryz.underlying3 Tryz.sz4 Tryz.zr4 Tryz.by4 Tryz.pl4 Tryz.is4 Tryz.underlying4 Tryz.sz9 Tryz.zr9 Tryz.by9 Tryz.pl9 Tryz.is9 Tryz.underlying9 Tryz.sz5 Tryz.zr5 Tryz.by5 Tryz.pl5 Tryz.is5 Tryz.underlying5 Tryz.sz56 Tryz.zr56 Tryz.by56 Tryz.pl56 Tryz.is56 Tryz.underlying56 Tryz.sz24 Tryz.zr24 Tryz.by24 Tryz.pl24 Tryz.is24 Tryz.underlying24 Tryz.sz70 Tryz.zr70 Tryz.by70 Tryz.pl70 Tryz.is70 Tryz.underlying70 Tryz.sz69 Tryz.zr69 Tryz.by69 Tryz.pl69 Tryz.is69 Tryz.underlying69 Tryz.sz72 Tryz.zr72 Tryz.by72 Tryz.pl72 Tryz.is72 Tryz.underlying72 Tryz.sz74 Tryz.zr74 Tryz.by74 Tryz.pl74 Tryz.is74 Tryz.underlying74 Tryz.sz117 Tryz.zr117 Tryz.by117 Tryz.pl117 Tryz.is117 Tryz.underlying117 Tryz.sz182 Tryz.zr182 Tryz.by182 Tryz.pl182 Tryz.is182 Tryz.underlying182 Tryz.sz64 Tryz.zr64 Tryz.by64 Tryz.pl64 Tryz.is64 Tryz.underlying64 Tryz.sz67 Tryz.zr67 Tryz.by67 Tryz.pl67 Tryz.is67 Tryz.underlying67 Tryz.sz26 Tryz.zr26 Tryz.by26 Tryz.pl26 Tryz.is26 Tryz.underlying26 Tryz.sz30 Tryz.zr30 Tryz.by30 Tryz.pl30 Tryz.is30 Tryz.underlying30 Tryz.sz126 Tryz.zr126 Tryz.by126 Tryz.pl126 Tryz.is126 Tryz.underlying126 Tryz.sz79 Tryz.zr79 Tryz.by79 Tryz.pl79 Tryz.is79 Tryz.underlying79 Tryz.sz81 Tryz.zr81 Tryz.by81 Tryz.pl81 Tryz.is81 Tryz.underlying81 Tryz.sz83 Tryz.zr83 Tryz.by83 Tryz.pl83 Tryz.is83 Tryz.underlying83 Tryz.sz85 Tryz.zr85 Tryz.by85 Tryz.pl85 Tryz.is85 Tryz.underlying85 Tryz.sz35 Tryz.zr35 Tryz.by35 Tryz.pl35 Tryz.is35 Tryz.underlying35 Tryz.sz88 Tryz.zr88 Tryz.by88 Tryz.pl88 Tryz.is88 Tryz.underlying88 Tryz.sz22 Tryz.zr22 Tryz.by22 Tryz.pl22 Tryz.is22 Tryz.underlying22 Tryz.sz23 Tryz.zr23 Tryz.by23 Tryz.pl23 Tryz.is23 Tryz.underlying23 Tryz.sz27 Tryz.zr27 Tryz.by27 Tryz.pl27 Tryz.is27 Tryz.underlying27 Tryz.sz28 Tryz.zr28 Tryz.by28 Tryz.pl28 Tryz.is28 Tryz.underlying28 Tryz.sz31 Tryz.zr31 Tryz.by31 Tryz.pl31 Tryz.is31 Tryz.underlying31 Tryz.sz32 Tryz.zr32 Tryz.by32 Tryz.pl32 Tryz.is32 Tryz.underlying32 Tryz.sz33 Tryz.zr33 Tryz.by33 Tryz.pl33 Tryz.is33 Tryz.underlying33 Tryz.sz65 Tryz.zr65 Tryz.by65 Tryz.pl65 Tryz.is65 Tryz.underlying65 Tryz.sz68 Tryz.zr68 Tryz.by68 Tryz.pl68 Tryz.is68 Tryz.underlying68 Tryz.sz46 Tryz.zr46 Tryz.by46 Tryz.pl46 Tryz.is46 Tryz.underlying46 Tryz.sz38 Tryz.zr38 Tryz.by38 Tryz.pl38 Tryz.is38 Tryz.underlying38 Tryz.sz94 Tryz.zr94 Tryz.by94 Tryz.pl94 Tryz.is94 Tryz.underlying94 Tryz.sz91 Tryz.zr91 Tryz.by91 Tryz.pl91 Tryz.is91 Tryz.underlying91 Tryz.sz86 Tryz.zr86 Tryz.by86 Tryz.pl86 Tryz.is86 Tryz.underlying86 all_arr loc_ss loc_sb loc_bs loc_bb arr_two arr_one rg1 rg2 rg3 rg4 rg5 rg6 rg7 rg8 ResultVar.tmp.injEq Bool.not_true Bool.not_false undef Fn.func.injEq
def few52B (a b : Nat) : Bool := (decide ((a : Int) ≤ 24) || ((a : Int) == 513)) && (decide ((b : Int) ≤ 16) || ((b : Int) == 1025))
def few31B (ps : List (List Int)) (nl nm : Nat) : Bool := ps.all (fun r => decide (r.length ≤ 40)) && (decide ((ps.length : Int) ≤ 8) && (decide ((nl : Int) ≤ 60) && decide ((nm : Int) ≤ 60)))

set_option maxHeartbeats 2000000 in
theorem few52_ok (x y : Int) (cs hs : List (List PV)) : FnOK Tryz.prog 25 [.agg [ip x, ip y, .sl 5 cs], .sl 7 hs] ⟨bv (few52B cs.length hs.length), none⟩ := by
 refine fn_ok Tryz.func25 (by kernel_rfl) rfl (by rw [Tryz.ntmps25]; exact of_decide_eq_true rfl) (fun F hF => ?_)
 rw [Tryz.ntmps25] at hF
 rw [Tryz.results25]
 unfold few52B
 cases h1 : decide ((cs.length : Int) ≤ 24) <;> cases h2 : ((cs.length : Int) == 513) <;> cases h3 : decide ((hs.length : Int) ≤ 16) <;> cases h4 : ((hs.length : Int) == 1025)
 all_goals
  repeat (first
   | ((first | with_reducible refine sops_go ?_ | with_reducible refine sops_end ?_ | with_reducible refine awp_ret ?_); simp only [go_sem, simprocAttr, hF, h1, h2, h3, h4])
   | with_reducible refine awp_seq_k fun _ _ => ?_
   | (with_reducible refine awp_region [] ?_)
   | go_step)
  all_goals (try rfl)
/- The size of inputs: a network. -/
attribute [local go_sem] Sc.rsR
set_option maxHeartbeats 2000000 in
theorem few31_ok (n1 n2 n3 : Int) (ps : List (List Int)) (ls ms : List (List PV)) (hps : ps.length ≤ 9223372036854775807) : FnOK Tryz.prog 24 [.agg [ip n1, .sl 1 (rsR ps), ip n2, ip n3, .sl 3 ls, .sl 1 ms]] ⟨bv (few31B ps ls.length ms.length), none⟩ := by
 refine fn_ok Tryz.func24 (by kernel_rfl) rfl (by rw [Tryz.ntmps24]; exact of_decide_eq_true rfl) (fun F hF => ?_)
 rw [Tryz.ntmps24] at hF
 rw [Tryz.results24]
 repeat (first
  | ((first | with_reducible refine sops_go ?_ | with_reducible refine sops_end ?_); simp only [go_sem, simprocAttr, hF])
  | with_reducible (first | refine awp_seq_k fun _ _ => ?_ | refine awp_region [] ?_ | refine awp_block ?_)
  | go_step)
 refine awp_loop_by (ι := {k : Nat // k ≤ ps.length ∧ ∀ y ∈ ps.take k, y.length ≤ 40}) (fun k σ => ⟨(3, iv (k.1 : Int)) :: keepS [0, 1] σ.slot, σ.box, [], σ.ext⟩) (fun k => ps.length - k.1) ⟨0, by omega, by simp⟩ (sub_mk ?_) (fun R hR k => ?_)
 · simp only [go_sem, simprocAttr, hF]
   repeat' (first | rfl | refine ⟨?_, ?_⟩)
 obtain ⟨k, hk, hT⟩ := k
 dsimp only
 simp only [go_sem, simprocAttr, hF]
 by_cases hlt : k < ps.length
 case neg =>
  have hd : decide ((k : Int) < (ps.length : Int)) = false := decide_eq_false (by omega)
  rw [List.take_of_length_le (by omega)] at hT
  have hall : ps.all (fun y => decide (y.length ≤ 40)) = true := List.all_eq_true.2 fun l hl => decide_eq_true (hT l hl)
  cases h1 : decide ((ps.length : Int) ≤ 8) <;> cases h2 : decide ((ls.length : Int) ≤ 60) <;> cases h3 : decide ((ms.length : Int) ≤ 60)
  all_goals
   repeat (first
    | ((first | with_reducible refine sops_go ?_ | with_reducible refine sops_end ?_ | with_reducible refine awp_if ?_ | with_reducible refine awp_ret ?_ | with_reducible refine awp_exit ?_); simp only [go_sem, simprocAttr, hF, hd, h1, h2, h3])
    | with_reducible refine awp_seq_k fun _ _ => ?_
    | (with_reducible refine awp_region [] ?_)
    | go_step)
   rw [few31B, hall, h1, h2, h3]
   rfl
 obtain ⟨d, hdk⟩ := get_of_lt hlt
 have hd : decide ((k : Int) < (ps.length : Int)) = true := decide_eq_true (by omega)
 have hw : IntKind.i64.wrap ((k : Int) + 1) = ((k + 1 : Nat) : Int) := by rw [IntKind.wrap_i64]; omega
 by_cases h40 : d.length ≤ 40
 case neg =>
  have he : decide ((40 : Int) < (d.length : Int)) = true := decide_eq_true (by omega)
  have hall : ps.all (fun y => decide (y.length ≤ 40)) = false := by
   refine Bool.eq_false_iff.2 fun h => h40 ?_
   exact of_decide_eq_true (List.all_eq_true.1 h d (List.mem_of_getElem? hdk))
  repeat (first
   | ((first | with_reducible refine sops_go ?_ | with_reducible refine sops_end ?_ | with_reducible refine awp_if ?_ | with_reducible refine awp_skip ?_ | with_reducible refine awp_ret ?_); simp only [go_sem, simprocAttr, hF, hd, hdk, he])
   | with_reducible (first | refine awp_seq_k fun _ _ => ?_ | refine awp_region [] ?_ | refine awp_block ?_)
   | go_step)
  rw [few31B, hall]
  rfl
 have he : decide ((40 : Int) < (d.length : Int)) = false := decide_eq_false (by omega)
 repeat (first
  | ((first | with_reducible refine sops_go ?_ | with_reducible refine sops_end ?_ | with_reducible refine awp_if ?_ | with_reducible refine awp_skip ?_); simp only [go_sem, simprocAttr, hF, hd, hdk, he])
  | with_reducible (first | refine awp_seq_k fun _ _ => ?_ | refine awp_region [] ?_ | refine awp_block ?_)
  | go_step)
 refine ⟨⟨k + 1, by omega, fun l hl => by
  rw [List.take_add_one, hdk] at hl
  rcases List.mem_append.1 hl with hl | hl
  · exact hT l hl
  · simp at hl; subst hl; exact h40⟩, by dsimp only; omega, hR _ _ (sub_mk ?_)⟩
 simp only [go_sem, simprocAttr, hF, hw]
/- The size of inputs: a scenario. -/
attribute [local go_sem] Sc.Rq.pv Sc.Sn.pv Sc.Nt.pv Sc.rsR Av.sopX Av.bxf Av.xof Av.takesS
def tst54 (x : Sn) : Bool := !few31B x.net.power x.net.links.length x.net.margin.length || !few52B x.cells.length x.changes.length || (decide (x.len > 48) && decide (x.len ≤ 512)) || (decide (x.slots > 120) && decide (x.slots ≤ 4096)) || decide ((x.before.length : Int) > 20) || decide ((x.after.length : Int) > 20) || (decide ((x.weak.length : Int) > 30) && decide ((x.weak.length : Int) ≤ 1024)) || (decide ((x.outs.length : Int) > 30) && decide ((x.outs.length : Int) ≤ 1024))
def okq (q : Rq) : Bool := decide (q.rs.length ≤ 4) && q.rs.all fun r => decide (r.length ≤ 20)
section
variable {x : Sn}
theorem t54a (h : few31B x.net.power x.net.links.length x.net.margin.length = false) : tst54 x = true := by unfold tst54; rw [h]; rfl
theorem t54b (h : few52B x.cells.length x.changes.length = false) : tst54 x = true := by unfold tst54; rw [h]; simp
theorem t54c (h : decide (x.len > 48) = true) (h2 : decide (x.len ≤ 512) = true) : tst54 x = true := by unfold tst54; rw [h, h2]; simp
theorem t54d (h : decide (x.slots > 120) = true) (h2 : decide (x.slots ≤ 4096) = true) : tst54 x = true := by unfold tst54; rw [h, h2]; simp
theorem t54e (h : decide ((x.before.length : Int) > 20) = true) : tst54 x = true := by unfold tst54; rw [h]; simp
theorem t54f (h : decide ((x.after.length : Int) > 20) = true) : tst54 x = true := by unfold tst54; rw [h]; simp
theorem t54g (h : decide ((x.weak.length : Int) > 30) = true) (h2 : decide ((x.weak.length : Int) ≤ 1024) = true) : tst54 x = true := by unfold tst54; rw [h, h2]; simp
theorem t54h (h : decide ((x.outs.length : Int) > 30) = true) (h2 : decide ((x.outs.length : Int) ≤ 1024) = true) : tst54 x = true := by unfold tst54; rw [h, h2]; simp
theorem t54n (ha : few31B x.net.power x.net.links.length x.net.margin.length = true) (hb : few52B x.cells.length x.changes.length = true) (hc : (decide (x.len > 48) && decide (x.len ≤ 512)) = false) (hd : (decide (x.slots > 120) && decide (x.slots ≤ 4096)) = false)
 (he : decide ((x.before.length : Int) > 20) = false) (hf : decide ((x.after.length : Int) > 20) = false) (hg : (decide ((x.weak.length : Int) > 30) && decide ((x.weak.length : Int) ≤ 1024)) = false) (hh : (decide ((x.outs.length : Int) > 30) && decide ((x.outs.length : Int) ≤ 1024)) = false) : tst54 x = false := by
 unfold tst54; rw [ha, hb, hc, hd, he, hf, hg, hh]; rfl
end
def few54B (x : Sn) : Bool := !tst54 x && (x.before ++ x.after).all okq

set_option maxHeartbeats 2000000 in
theorem few54_ok (x : Sn) (hps : x.net.power.length ≤ 9223372036854775807) : FnOK Tryz.prog 10 [.agg x.pv] ⟨bv (few54B x), none⟩ := by
 have hfe : FnOK Tryz.prog 24 [.agg x.net.pv] ⟨bv (few31B x.net.power x.net.links.length x.net.margin.length), none⟩ := by
  have h := few31_ok x.net.nodes x.net.noise x.net.thr x.net.power (x.net.links.map Lk.pv) (x.net.margin.map fun n => [ip n]) hps
  rw [List.length_map, List.length_map] at h
  exact h
 have hff : FnOK Tryz.prog 25 [.agg [ip x.len, ip x.offs, .sl 5 (x.cells.map Ce.pv)], .sl 7 (x.changes.map Ch.pv)] ⟨bv (few52B x.cells.length x.changes.length), none⟩ := by
  have h := few52_ok x.len x.offs (x.cells.map Ce.pv) (x.changes.map Ch.pv)
  rw [List.length_map, List.length_map] at h
  exact h
 refine fn_ok Tryz.func10 (by kernel_rfl) rfl (by rw [Tryz.ntmps10]; exact of_decide_eq_true rfl) (fun F hF => ?_)
 rw [Tryz.ntmps10] at hF
 rw [Tryz.results10]
 repeat (first
  | (with_reducible refine awp_cut (id := 1) (fun (_ : Unit) σ => ⟨(75, bv (tst54 x)) :: keepS [0, 1, 2] σ.slot, σ.box, [], σ.ext⟩) ?hxz ?hyz)
  | ((first | with_reducible refine sops_go ?_ | with_reducible refine sops_end ?_); simp only [go_sem, simprocAttr, hF])
  | with_reducible refine awp_seq_k fun _ _ => ?_
  | (with_reducible refine awp_region (id := 0) [] ?_)
  | (simp only [List.append_eq, List.cons_append, List.nil_append, go_sem, simprocAttr, hF])
  | go_step)
 case hxz =>
  intro R hR
  try simp only [go_sem, simprocAttr, hF]
  repeat (first
   | (with_reducible refine sops_go ?_; simp only [go_sem, simprocAttr, hF])
   | (with_reducible refine awp_region [] ?_))
  refine ⟨_, hfe, ?_⟩
  simp only [go_sem, simprocAttr, hF]
  all_goals (try (rcases Bool.eq_false_or_eq_true (few31B x.net.power x.net.links.length x.net.margin.length) with h0 | h0 <;> rw [h0]))
  all_goals (try simp only [go_sem, simprocAttr, hF])
  all_goals (repeat (first
   | ((first | with_reducible refine sops_go ?_ | with_reducible refine sops_end ?_); simp only [go_sem, simprocAttr, hF])
   | go_step))
  all_goals (try (refine ⟨_, hff, ?_⟩))
  all_goals (try simp only [go_sem, simprocAttr, hF])
  all_goals (try (rcases Bool.eq_false_or_eq_true (few52B x.cells.length x.changes.length) with h1 | h1 <;> rw [h1]))
  all_goals (try simp only [go_sem, simprocAttr, hF])
  all_goals (repeat (first
   | ((first | with_reducible refine sops_go ?_ | with_reducible refine sops_end ?_); simp only [go_sem, simprocAttr, hF])
   | go_step))
  all_goals (try (rcases Bool.eq_false_or_eq_true (decide (x.len > 48)) with h2 | h2 <;> rw [h2]))
  all_goals (try simp only [go_sem, simprocAttr, hF])
  all_goals (repeat ((with_reducible refine sops_go ?_; simp only [go_sem, simprocAttr, hF])))
  all_goals (try (rcases Bool.eq_false_or_eq_true (decide (x.len ≤ 512)) with h3 | h3 <;> rw [h3]))
  all_goals (try simp only [go_sem, simprocAttr, hF])
  all_goals (repeat (first
   | ((first | with_reducible refine sops_go ?_ | with_reducible refine sops_end ?_); simp only [go_sem, simprocAttr, hF])
   | go_step))
  all_goals (try (rcases Bool.eq_false_or_eq_true (decide (x.slots > 120)) with h4 | h4 <;> rw [h4]))
  all_goals (try simp only [go_sem, simprocAttr, hF])
  all_goals (repeat ((with_reducible refine sops_go ?_; simp only [go_sem, simprocAttr, hF])))
  all_goals (try (rcases Bool.eq_false_or_eq_true (decide (x.slots ≤ 4096)) with h5 | h5 <;> rw [h5]))
  all_goals (try simp only [go_sem, simprocAttr, hF])
  all_goals (repeat (first
   | ((first | with_reducible refine sops_go ?_ | with_reducible refine sops_end ?_); simp only [go_sem, simprocAttr, hF])
   | go_step))
  all_goals (try (rcases Bool.eq_false_or_eq_true (decide ((x.before.length : Int) > 20)) with h6 | h6 <;> rw [h6]))
  all_goals (try simp only [go_sem, simprocAttr, hF])
  all_goals (repeat (first
   | ((first | with_reducible refine sops_go ?_ | with_reducible refine sops_end ?_); simp only [go_sem, simprocAttr, hF])
   | go_step))
  all_goals (try (rcases Bool.eq_false_or_eq_true (decide ((x.after.length : Int) > 20)) with h7 | h7 <;> rw [h7]))
  all_goals (try simp only [go_sem, simprocAttr, hF])
  all_goals (repeat (first
   | ((first | with_reducible refine sops_go ?_ | with_reducible refine sops_end ?_); simp only [go_sem, simprocAttr, hF])
   | go_step))
  all_goals (try (rcases Bool.eq_false_or_eq_true (decide ((x.weak.length : Int) > 30)) with h8 | h8 <;> rw [h8]))
  all_goals (try simp only [go_sem, simprocAttr, hF])
  all_goals (repeat ((with_reducible refine sops_go ?_; simp only [go_sem, simprocAttr, hF])))
  all_goals (try (rcases Bool.eq_false_or_eq_true (decide ((x.weak.length : Int) ≤ 1024)) with h9 | h9 <;> rw [h9]))
  all_goals (try simp only [go_sem, simprocAttr, hF])
  all_goals (repeat (first
   | ((first | with_reducible refine sops_go ?_ | with_reducible refine sops_end ?_); simp only [go_sem, simprocAttr, hF])
   | go_step))
  all_goals (try (rcases Bool.eq_false_or_eq_true (decide ((x.outs.length : Int) > 30)) with h10 | h10 <;> rw [h10]))
  all_goals (try simp only [go_sem, simprocAttr, hF])
  all_goals (repeat (first
   | ((first | with_reducible refine sops_go ?_ | with_reducible refine sops_end ?_); simp only [go_sem, simprocAttr, hF])
   | go_step))
  all_goals (try (rcases Bool.eq_false_or_eq_true (decide ((x.outs.length : Int) ≤ 1024)) with h11 | h11 <;> rw [h11]))
  all_goals (try simp only [go_sem, simprocAttr, hF])
  all_goals (skip)
  all_goals ((try (first | refine hR () _ (sub_mk ?_) | refine sub_mk ?_)); first | rw [t54a h0] | rw [t54b h1] | rw [t54c h2 h3] | rw [t54d h4 h5] | rw [t54e h6] | rw [t54f h7] | rw [t54g h8 h9] | rw [t54h h10 h11] | rw [t54n h0 h1 (by first | rw [h2, Bool.false_and] | rw [h3, Bool.and_false]) (by first | rw [h4, Bool.false_and] | rw [h5, Bool.and_false]) h6 h7 (by first | rw [h8, Bool.false_and] | rw [h9, Bool.and_false]) (by first | rw [h10, Bool.false_and] | rw [h11, Bool.and_false])])
  all_goals simp only [go_sem, simprocAttr, hF]
  all_goals (first | rfl | (repeat' (first | rfl | refine ⟨?_, ?_⟩)))
 case hyz =>
  intro _
  dsimp only
  simp only [go_sem, simprocAttr, hF]

  cases hT : tst54 x with
  | true =>
   try simp only [go_sem, simprocAttr, hF, hT]
   repeat (first
    | ((first | with_reducible refine sops_go ?_ | with_reducible refine sops_end ?_ | with_reducible refine awp_if ?_ | with_reducible refine awp_ret ?_); simp only [go_sem, simprocAttr, hF, hT])
    | with_reducible refine awp_seq_k fun _ _ => ?_
    | (with_reducible refine awp_region [] ?_)
    | go_step)
   rw [few54B, hT]
   rfl
  | false =>
   have hlen : x.before.length ≤ 20 ∧ x.after.length ≤ 20 := by
    unfold tst54 at hT
    simp only [Bool.or_eq_false_iff, decide_eq_false_iff_not] at hT
    omega
   have hb1 : (x.before.length ≤ 100000000) = True := eq_true (by omega)
   have hb2 : (x.after.length ≤ 100000000) = True := eq_true (by omega)
   have hb3 : (x.before.length + x.after.length ≤ 100000000) = True := eq_true (by omega)
   try simp only [go_sem, simprocAttr, hF, hT]
   repeat (first
    | ((with_reducible refine sopsX_go ?_); simp only [go_sem, simprocAttr, hF, hT, hb1, hb2, hb3])
    | ((with_reducible refine sopsX_end ?_); refine And.intro (by kernel_rfl) ?_; (try simp only [go_sem, simprocAttr, hF, hT, hb1, hb2, hb3]))
    | ((first | with_reducible refine sops_go ?_ | with_reducible refine sops_end ?_ | with_reducible refine awp_if ?_ | with_reducible refine awp_skip ?_); simp only [go_sem, simprocAttr, hF, hT, hb1, hb2, hb3])
    | with_reducible refine awp_seq_k fun _ _ => ?_
    | (refine awp_any (id := 3) [] [] [] (by kernel_rfl) (by kernel_rfl) ?_)
    | with_reducible (first | refine awp_region [] ?_ | refine awp_block ?_)
    | (simp only [List.append_eq, List.cons_append, List.nil_append, go_sem, simprocAttr, hF, hT, hb1, hb2, hb3])
    | go_step)
   obtain ⟨al, hal⟩ : ∃ al, al = x.before ++ x.after := ⟨_, rfl⟩
   have hm : x.before.map Rq.pv ++ x.after.map Rq.pv = al.map Rq.pv := by rw [hal, List.map_append]
   have hal2 : al.length ≤ 40 := by rw [hal, List.length_append]; omega
   have hres : few54B x = al.all okq := by unfold few54B; rw [hT, hal]; rfl
   simp only [hm]
   clear hm hal
   refine awp_loop_by (ι := {k : Nat // k ≤ al.length ∧ ∀ q ∈ al.take k, okq q = true}) (fun k σ => ⟨(4, iv (k.1 : Int)) :: keepS [0, 1, 2, 3] σ.slot, σ.box, [], σ.ext⟩) (fun k => al.length - k.1) ⟨0, by omega, by simp⟩ (sub_mk ?_) (fun R hR k => ?_)
   · simp only [go_sem, simprocAttr, hF]
     repeat' (first | rfl | refine ⟨?_, ?_⟩)
   obtain ⟨k, hk, hK⟩ := k
   dsimp only
   simp only [go_sem, simprocAttr, hF]
   by_cases hlt : k < al.length
   case neg =>
    have hd : decide ((k : Int) < (al.length : Int)) = false := decide_eq_false (by omega)
    rw [List.take_of_length_le (by omega)] at hK
    have hall : al.all okq = true := List.all_eq_true.2 hK
    repeat (first
     | ((first | with_reducible refine sops_go ?_ | with_reducible refine sops_end ?_ | with_reducible refine awp_if ?_ | with_reducible refine awp_ret ?_ | with_reducible refine awp_exit ?_); simp only [go_sem, simprocAttr, hF, hd])
     | with_reducible refine awp_seq_k fun _ _ => ?_
     | (with_reducible refine awp_region [] ?_)
     | go_step)
    rw [hres, hall]
    all_goals (try rfl)
   obtain ⟨d, hdk⟩ := get_of_lt hlt
   have hd : decide ((k : Int) < (al.length : Int)) = true := decide_eq_true (by omega)
   have hw : IntKind.i64.wrap ((k : Int) + 1) = ((k + 1 : Nat) : Int) := by rw [IntKind.wrap_i64]; omega
   have hbad : okq d = false → al.all okq = false := fun h => by
    refine Bool.eq_false_iff.2 fun hh => ?_
    rw [List.all_eq_true.1 hh d (List.mem_of_getElem? hdk)] at h
    cases h
   by_cases h4 : d.rs.length ≤ 4
   case neg =>
    have he : decide ((d.rs.length : Int) > 4) = true := decide_eq_true (by omega)
    have hbd := hbad (by unfold okq; rw [decide_eq_false h4]; rfl)
    repeat (first
     | ((first | with_reducible refine sops_go ?_ | with_reducible refine sops_end ?_ | with_reducible refine awp_if ?_ | with_reducible refine awp_skip ?_ | with_reducible refine awp_ret ?_); simp only [go_sem, simprocAttr, hF, hd, hdk, he])
     | with_reducible (first | refine awp_seq_k fun _ _ => ?_ | refine awp_region [] ?_ | refine awp_block ?_)
     | go_step)
    rw [hres, hbd]
    all_goals (try rfl)
   have he : decide ((d.rs.length : Int) > 4) = false := decide_eq_false (by omega)
   repeat (first
    | ((first | with_reducible refine sops_go ?_ | with_reducible refine sops_end ?_ | with_reducible refine awp_if ?_ | with_reducible refine awp_skip ?_); simp only [go_sem, simprocAttr, hF, hd, hdk, he])
    | with_reducible (first | refine awp_seq_k fun _ _ => ?_ | refine awp_region [] ?_ | refine awp_block ?_)
    | go_step)
   refine awp_loop_by (ι := {j : Nat // j ≤ d.rs.length ∧ ∀ r ∈ d.rs.take j, r.length ≤ 20}) (fun j σ => ⟨(5, iv (j.1 : Int)) :: keepS [0, 1, 2, 3, 4] σ.slot, σ.box, [], σ.ext⟩) (fun j => d.rs.length - j.1) ⟨0, by omega, by simp⟩ (sub_mk ?_) (fun R2 hR2 j => ?_)
   · simp only [go_sem, simprocAttr, hF]
     repeat' (first | rfl | refine ⟨?_, ?_⟩)
   obtain ⟨j, hj, hJ⟩ := j
   dsimp only
   simp only [go_sem, simprocAttr, hF]
   by_cases hlj : j < d.rs.length
   case neg =>
    have hd2 : decide ((j : Int) < (d.rs.length : Int)) = false := decide_eq_false (by omega)
    rw [List.take_of_length_le (by omega)] at hJ
    have hok : okq d = true := by
     unfold okq
     rw [decide_eq_true h4, List.all_eq_true.2 fun r hr => decide_eq_true (hJ r hr)]
     rfl
    repeat (first
     | ((first | with_reducible refine sops_go ?_ | with_reducible refine sops_end ?_ | with_reducible refine awp_if ?_ | with_reducible refine awp_exit ?_); simp only [go_sem, simprocAttr, hF, hd, hdk, hd2])
     | with_reducible refine awp_seq_k fun _ _ => ?_
     | (with_reducible refine awp_region [] ?_)
     | go_step)
    refine ⟨⟨k + 1, by omega, fun q hq => by
     rw [List.take_add_one, hdk] at hq
     rcases List.mem_append.1 hq with hq | hq
     · exact hK q hq
     · simp at hq; subst hq; exact hok⟩, by dsimp only; omega, hR _ _ (sub_mk ?_)⟩
    simp only [go_sem, simprocAttr, hF, hw]
   obtain ⟨r, hrj⟩ := get_of_lt hlj
   have hd2 : decide ((j : Int) < (d.rs.length : Int)) = true := decide_eq_true (by omega)
   have hw2 : IntKind.i64.wrap ((j : Int) + 1) = ((j + 1 : Nat) : Int) := by rw [IntKind.wrap_i64]; omega
   by_cases h20 : r.length ≤ 20
   case neg =>
    have he2 : decide ((r.length : Int) > 20) = true := decide_eq_true (by omega)
    have hbd := hbad (by
     unfold okq
     rw [Bool.and_eq_false_iff]
     refine .inr (Bool.eq_false_iff.2 fun hh => h20 ?_)
     exact of_decide_eq_true (List.all_eq_true.1 hh r (List.mem_of_getElem? hrj)))
    repeat (first
     | ((first | with_reducible refine sops_go ?_ | with_reducible refine sops_end ?_ | with_reducible refine awp_if ?_ | with_reducible refine awp_skip ?_ | with_reducible refine awp_ret ?_); simp only [go_sem, simprocAttr, hF, hd, hdk, hd2, hrj, he2])
     | with_reducible (first | refine awp_seq_k fun _ _ => ?_ | refine awp_region [] ?_ | refine awp_block ?_)
     | go_step)
    rw [hres, hbd]
    all_goals (try rfl)
   have he2 : decide ((r.length : Int) > 20) = false := decide_eq_false (by omega)
   repeat (first
    | ((first | with_reducible refine sops_go ?_ | with_reducible refine sops_end ?_ | with_reducible refine awp_if ?_ | with_reducible refine awp_skip ?_); simp only [go_sem, simprocAttr, hF, hd, hdk, hd2, hrj, he2])
    | with_reducible (first | refine awp_seq_k fun _ _ => ?_ | refine awp_region [] ?_ | refine awp_block ?_)
    | go_step)
   refine ⟨⟨j + 1, by omega, fun l hl => by
    rw [List.take_add_one, hrj] at hl
    rcases List.mem_append.1 hl with hl | hl
    · exact hJ l hl
    · simp at hl; subst hl; exact h20⟩, by dsimp only; omega, hR2 _ _ (sub_mk ?_)⟩
   simp only [go_sem, simprocAttr, hF, hw2]
/- slices.Equal. -/
attribute [local go_sem] Sc.Ce.pv Sc.Ch.pv
set_option maxHeartbeats 2000000 in
theorem eqI_ok (a b : List Int) (ha : a.length ≤ 1000000) : FnOK Tryz.prog 19 [.sl 1 (a.map (fun x => [ip x])), .sl 1 (b.map (fun x => [ip x]))] ⟨bv (decide (a = b)), none⟩ := by
 refine fn_ok Tryz.func19 (by kernel_rfl) rfl (by rw [Tryz.ntmps19]; exact of_decide_eq_true rfl) (fun F hF => ?_)
 rw [Tryz.ntmps19] at hF
 rw [Tryz.results19]
 have hal : ((a.length : Int) != (b.length : Int)) = !decide (a.length = b.length) := by rw [Bool.eq_iff_iff]; simp; omega
 by_cases hl : a.length = b.length
 case neg =>
  have hn : decide (a.length = b.length) = false := decide_eq_false hl
  repeat (first
   | ((first | with_reducible refine sops_go ?_ | with_reducible refine sops_end ?_ | with_reducible refine awp_if ?_ | with_reducible refine awp_ret ?_); simp only [go_sem, simprocAttr, hF, hal, hn])
   | with_reducible refine awp_seq_k fun _ _ => ?_
   | (with_reducible refine awp_region [] ?_)
   | go_step)
  rw [decide_eq_false (fun h => hl (by rw [h]))]
 have hn : decide (a.length = b.length) = true := decide_eq_true hl
 repeat (first
  | ((first | with_reducible refine sops_go ?_ | with_reducible refine sops_end ?_ | with_reducible refine awp_if ?_ | with_reducible refine awp_skip ?_); simp only [go_sem, simprocAttr, hF, hal, hn])
  | with_reducible (first | refine awp_seq_k fun _ _ => ?_ | refine awp_region [] ?_ | refine awp_block ?_)
  | go_step)
 refine awp_loop_by (ι := {k : Nat // k ≤ a.length ∧ decide (a = b) = decide (a.drop k = b.drop k)}) (fun k σ => ⟨(13, iv (k.1 : Int)) :: keepS [0, 1, 4, 12] σ.slot, σ.box, [], σ.ext⟩) (fun k => a.length - k.1) ⟨0, by omega, rfl⟩ (sub_mk ?_) (fun R hR k => ?_)
 · simp only [go_sem, simprocAttr, hF]
   repeat' (first | rfl | refine ⟨?_, ?_⟩)
 obtain ⟨k, hk, hT⟩ := k
 dsimp only
 simp only [go_sem, simprocAttr, hF]
 by_cases hlt : k < a.length
 case neg =>
  have hd : decide ((k : Int) < (a.length : Int)) = false := decide_eq_false (by omega)
  repeat (first
   | ((first | with_reducible refine sops_go ?_ | with_reducible refine sops_end ?_ | with_reducible refine awp_if ?_ | with_reducible refine awp_ret ?_ | with_reducible refine awp_exit ?_); simp only [go_sem, simprocAttr, hF, hd])
   | with_reducible refine awp_seq_k fun _ _ => ?_
   | (with_reducible refine awp_region [] ?_)
   | go_step)
  rw [hT, List.drop_of_length_le (by omega), List.drop_of_length_le (by omega)]
  rfl
 obtain ⟨x, hxk⟩ := get_of_lt hlt
 obtain ⟨y, hyk⟩ := get_of_lt (l := b) (k := k) (by omega)
 have hd : decide ((k : Int) < (a.length : Int)) = true := decide_eq_true (by omega)
 have hw : IntKind.i64.wrap ((k : Int) + 1) = ((k + 1 : Nat) : Int) := by rw [IntKind.wrap_i64]; omega
 have hT' : decide (a = b) = ((x == y) && decide (a.drop (k + 1) = b.drop (k + 1))) := by
  rw [hT, drop_of_get hxk, drop_of_get hyk, Bool.eq_iff_iff]
  simp
 cases he : (x == y) with
 | false =>
  have hne : (x != y) = true := by rw [bne, he]; rfl
  repeat (first
   | ((first | with_reducible refine sops_go ?_ | with_reducible refine headW_end ?_ | with_reducible refine sops_end ?_ | with_reducible refine awp_if ?_ | with_reducible refine awp_skip ?_ | with_reducible refine awp_ret ?_); simp only [go_sem, simprocAttr, hF, hd, hxk, hyk, he, hne])
   | ((with_reducible refine headW_go ?_); simp only [go_sem, simprocAttr, hF, hd, hxk, hyk, he, hne, hbx])
   | with_reducible refine awp_seq_k fun _ _ => ?_
   | (refine awp_draw' (id := 6) [] 9 (by kernel_rfl) (by kernel_rfl) rfl rfl (fun bx0 hbx => ?_); try dsimp only [List.take, List.drop])
   | with_reducible (first | refine awp_region [] ?_ | refine awp_block ?_)
   | go_step)
  rw [hT', he]
  rfl
 | true =>
  have hne : (x != y) = false := by rw [bne, he]; rfl
  repeat (first
   | ((first | with_reducible refine sops_go ?_ | with_reducible refine headW_end ?_ | with_reducible refine sops_end ?_ | with_reducible refine awp_if ?_ | with_reducible refine awp_skip ?_); simp only [go_sem, simprocAttr, hF, hd, hxk, hyk, he, hne])
   | ((with_reducible refine headW_go ?_); simp only [go_sem, simprocAttr, hF, hd, hxk, hyk, he, hne, hbx])
   | with_reducible refine awp_seq_k fun _ _ => ?_
   | (refine awp_draw' (id := 6) [] 9 (by kernel_rfl) (by kernel_rfl) rfl rfl (fun bx0 hbx => ?_); try dsimp only [List.take, List.drop])
   | with_reducible (first | refine awp_region [] ?_ | refine awp_block ?_)
   | go_step)
  refine ⟨⟨k + 1, by omega, by rw [hT', he, Bool.true_and]⟩, by dsimp only; omega, hR _ _ (sub_mk ?_)⟩
  simp only [go_sem, simprocAttr, hF, hw]
end Go.Proofs.YtcloigoajohppaaGreatDoor
/- Scenarios of some size: the room that their texts take, and their numbers. -/
namespace Go.Proofs.YtcloigoajohppaaGreatDoor
open Go.RowKit
open Av
open Sc
set_option maxRecDepth 100000
set_option linter.unusedSimpArgs false
set_option linter.unusedVariables false

/-- All numbers are of 64 bits. -/
structure RgX (x : Sn) : Prop where
  no : r64 x.net.nodes
  ns : r64 x.net.noise
  th : r64 x.net.thr
  pl : x.net.power.length ≤ 9223372036854775807
  pr : ∀ r ∈ x.net.power, r.length ≤ 9223372036854775807 ∧ ∀ n ∈ r, r64 n
  lk : ∀ l ∈ x.net.links, r64 l.fr ∧ r64 l.to ∧ r64 l.ls
  mg : ∀ n ∈ x.net.margin, r64 n
  be : ∀ q ∈ x.before, (∀ n ∈ q.f.nums, r64 n) ∧ ∀ r ∈ q.rs, ∀ n ∈ r, r64 n
  af : ∀ q ∈ x.after, (∀ n ∈ q.f.nums, r64 n) ∧ ∀ r ∈ q.rs, ∀ n ∈ r, r64 n
  le : r64 x.len
  ofs : r64 x.offs
  ce : ∀ c ∈ x.cells, ∀ n ∈ c.nums, r64 n
  ch : ∀ c ∈ x.changes, ∀ n ∈ c.sl :: c.c.nums, r64 n
  wk : ∀ c ∈ x.weak, ∀ n ∈ [c.fr, c.to, c.fi, c.un, c.re], r64 n
  ou : ∀ c ∈ x.outs, ∀ n ∈ [c.nd, c.fi, c.un], r64 n
  sl : r64 x.slots
theorem lr_row {a : Nat} (ha : a ≤ 9223372036854775807) : ∀ (l : List Int) (b : Nat), b + l.length ≤ 9223372036854775807 → (∀ n ∈ l, r64 n) → Lr (rowL a b l)
  | [], _, _, _ => fun x hx => by cases hx
  | v :: l, b, hb, h => by
    rw [List.length_cons] at hb
    intro x hx
    unfold rowL at hx
    rcases List.mem_append.1 hx with hx | hx
    · split at hx
      · cases hx
      · rw [List.mem_singleton.1 hx]
        have hv := h v List.mem_cons_self
        intro n hn
        rcases List.mem_cons.1 hn with rfl | hn
        · omega
        rcases List.mem_cons.1 hn with rfl | hn
        · omega
        rw [List.mem_singleton.1 hn]
        exact hv
    · exact lr_row ha l (b + 1) (by omega) (fun n hn => h n (List.mem_cons_of_mem _ hn)) x hx
theorem lr_pow : ∀ (l : List (List Int)) (a : Nat), a + l.length ≤ 9223372036854775807 → (∀ r ∈ l, r.length ≤ 9223372036854775807 ∧ ∀ n ∈ r, r64 n) → Lr (powL a l)
  | [], _, _, _ => fun x hx => by cases hx
  | r :: l, a, ha, h => by
    rw [List.length_cons] at ha
    intro x hx
    unfold powL at hx
    have hr := h r List.mem_cons_self
    rcases List.mem_append.1 hx with hx | hx
    · exact lr_row (by omega) r 0 (by omega) hr.2 x hx
    · exact lr_pow l (a + 1) (by omega) (fun r hr => h r (List.mem_cons_of_mem _ hr)) x hx
theorem lr_req {w : ByteArray} {q : List Rq} (h : ∀ x ∈ q, (∀ n ∈ x.f.nums, r64 n) ∧ ∀ r ∈ x.rs, ∀ n ∈ r, r64 n) : Lr (reqL w q) := fun y hy => by
  obtain ⟨x, hx, hy⟩ := List.mem_flatMap.1 hy
  rcases List.mem_cons.1 hy with rfl | hy
  · exact (h x hx).1
  · obtain ⟨r, hr, rfl⟩ := List.mem_map.1 hy
    exact (h x hx).2 r hr
theorem lr_of {x : Sn} (h : RgX x) : Lr (linesOf x) := by
  intro y hy
  unfold linesOf at hy
  rcases List.mem_append.1 hy with hy | hy
  · unfold netL at hy
    rcases List.mem_cons.1 hy with rfl | hy
    · intro n hn
      rcases List.mem_cons.1 hn with rfl | hn
      · exact h.no
      rcases List.mem_cons.1 hn with rfl | hn
      · exact h.ns
      rw [List.mem_singleton.1 hn]
      exact h.th
    · rcases List.mem_append.1 hy with hy | hy
      · exact lr_pow x.net.power 0 (by have := h.pl; omega) h.pr y hy
      · obtain ⟨⟨l, m⟩, hz, rfl⟩ := List.mem_map.1 hy
        have h1 := h.lk l (List.of_mem_zip hz).1
        have h2 := h.mg m (List.of_mem_zip hz).2
        intro n hn
        rcases List.mem_cons.1 hn with rfl | hn
        · exact h1.1
        rcases List.mem_cons.1 hn with rfl | hn
        · exact h1.2.1
        rcases List.mem_cons.1 hn with rfl | hn
        · exact h1.2.2
        rw [List.mem_singleton.1 hn]
        exact h2
  rcases List.mem_append.1 hy with hy | hy
  · exact lr_req h.be y hy
  rcases List.mem_append.1 hy with hy | hy
  · exact lr_req h.af y hy
  unfold tailL at hy
  rcases List.mem_cons.1 hy with rfl | hy
  · intro n hn
    rcases List.mem_cons.1 hn with rfl | hn
    · exact h.le
    rw [List.mem_singleton.1 hn]
    exact h.ofs
  rcases List.mem_append.1 hy with hy | hy
  · obtain ⟨z, hz, rfl⟩ := List.mem_map.1 hy
    exact h.ce z hz
  rcases List.mem_append.1 hy with hy | hy
  · obtain ⟨z, hz, rfl⟩ := List.mem_map.1 hy
    exact h.ch z hz
  rcases List.mem_append.1 hy with hy | hy
  · obtain ⟨z, hz, rfl⟩ := List.mem_map.1 hy
    exact h.wk z hz
  rcases List.mem_append.1 hy with hy | hy
  · obtain ⟨z, hz, rfl⟩ := List.mem_map.1 hy
    exact h.ou z hz
  · rw [List.mem_singleton.1 hy]
    intro n hn
    rw [List.mem_singleton.1 hn]
    exact h.sl
/-! Room -/
theorem line_len {w : ByteArray} {ns : List Int} (h : ∀ n ∈ ns, -9223372036854775808 ≤ n ∧ n ≤ 9223372036854775807) : (lineB w ns).length ≤ w.size + 22 * ns.length := by
  unfold lineB
  rw [List.length_append, ← size_list]
  have key : ∀ l : List Int, (∀ n ∈ l, -9223372036854775808 ≤ n ∧ n ≤ 9223372036854775807) → (l.flatMap fun n => 32 :: Lib.itoa n).length ≤ 22 * l.length := fun l => by
    induction l with
    | nil => intro _; exact Nat.zero_le _
    | cons n l ih =>
      intro h
      have h1 := Lib.itoa_length_le n (h n List.mem_cons_self).1 (h n List.mem_cons_self).2
      have h2 := ih fun m hm => h m (List.mem_cons_of_mem _ hm)
      rw [List.flatMap_cons, List.length_append, List.length_cons, List.length_cons]
      omega
  have := key ns h
  omega
theorem txt_len {L : List Ln} (hr : Lr L) (h : ∀ y ∈ L, y.1.size ≤ 8 ∧ y.2.length ≤ 20) : (txt L).length ≤ 449 * L.length := by
  induction L with
  | nil => exact Nat.zero_le _
  | cons y L ih =>
    have h1 := line_len (w := y.1) (hr y List.mem_cons_self)
    have h2 := h y List.mem_cons_self
    have h3 := ih hr.tail fun z hz => h z (List.mem_cons_of_mem _ hz)
    rw [txt_cons, List.length_append, List.length_append, List.length_cons]
    simp only [List.length_cons, List.length_nil]
    omega
theorem row_count {a : Nat} : ∀ (l : List Int) (b : Nat), (rowL a b l).length ≤ l.length
  | [], _ => Nat.le_refl _
  | v :: l, b => by
    have := row_count (a := a) l (b + 1)
    unfold rowL
    rw [List.length_append, List.length_cons]
    split <;> simp only [List.length_cons, List.length_nil] <;> omega
theorem pow_count : ∀ (l : List (List Int)) (a : Nat), (∀ r ∈ l, r.length ≤ 40) → (powL a l).length ≤ 40 * l.length
  | [], _, _ => Nat.le_refl _
  | r :: l, a, h => by
    have h1 := row_count (a := a) r 0
    have h2 := pow_count l (a + 1) fun q hq => h q (List.mem_cons_of_mem _ hq)
    have h3 := h r List.mem_cons_self
    unfold powL
    rw [List.length_append, List.length_cons]
    omega
theorem req_count {w : ByteArray} : ∀ (q : List Rq), (∀ x ∈ q, x.rs.length ≤ 4) → (reqL w q).length ≤ 5 * q.length
  | [], _ => Nat.le_refl _
  | x :: q, h => by
    have h1 := req_count (w := w) q fun y hy => h y (List.mem_cons_of_mem _ hy)
    have h2 := h x List.mem_cons_self
    rw [reqL_cons, List.length_append, List.length_cons]
    have h3 : (reqL1 w x).length = x.rs.length + 1 := by unfold reqL1 rtL; rw [List.length_cons, List.length_map]
    omega
/-- What is small. -/
structure FewX (x : Sn) : Prop where
  p : x.net.power.length ≤ 8
  r : ∀ r ∈ x.net.power, r.length ≤ 40
  l : x.net.links.length ≤ 60
  m : x.net.margin.length ≤ 60
  b : x.before.length ≤ 20
  a : x.after.length ≤ 20
  bq : ∀ q ∈ x.before, q.rs.length ≤ 4 ∧ ∀ r ∈ q.rs, r.length ≤ 20
  aq : ∀ q ∈ x.after, q.rs.length ≤ 4 ∧ ∀ r ∈ q.rs, r.length ≤ 20
theorem few_of {x : Sn} (h : few54B x = true) : FewX x := by
  unfold few54B at h
  rw [Bool.and_eq_true, Bool.not_eq_true'] at h
  obtain ⟨h1, h2⟩ := h
  have hq : ∀ q ∈ x.before ++ x.after, q.rs.length ≤ 4 ∧ ∀ r ∈ q.rs, r.length ≤ 20 := fun q hq => by
    have := List.all_eq_true.1 h2 q hq
    unfold okq at this
    rw [Bool.and_eq_true] at this
    exact ⟨of_decide_eq_true this.1, fun r hr => of_decide_eq_true (List.all_eq_true.1 this.2 r hr)⟩
  unfold tst54 at h1
  simp only [Bool.or_eq_false_iff] at h1
  obtain ⟨⟨⟨⟨⟨⟨⟨g1, _⟩, _⟩, _⟩, g5⟩, g6⟩, _⟩, _⟩ := h1
  have g1 : few31B x.net.power x.net.links.length x.net.margin.length = true := by simpa using g1
  unfold few31B at g1
  simp only [Bool.and_eq_true] at g1
  obtain ⟨k1, k2, k3, k4⟩ := g1
  have k2 := of_decide_eq_true k2
  have k3 := of_decide_eq_true k3
  have k4 := of_decide_eq_true k4
  have g5 := of_decide_eq_false g5
  have g6 := of_decide_eq_false g6
  exact ⟨by omega, fun r hr => of_decide_eq_true (List.all_eq_true.1 k1 r hr), by omega, by omega, by omega, by omega, fun q h => hq q (List.mem_append_left _ h), fun q h => hq q (List.mem_append_right _ h)⟩
theorem room_of {x : Sn} (h : FewX x) (hl : longX x = false) (hr : RgX x) : (txt (linesOf x)).length ≤ 140737488355328 := by
  have hL := lng_of hl
  have h0 : ∀ y ∈ linesOf x, y.1.size ≤ 8 ∧ y.2.length ≤ 20 := by
    intro y hy
    have hq : ∀ {w : ByteArray} {q : List Rq}, w.size ≤ 8 → (∀ z ∈ q, z.rs.length ≤ 4 ∧ ∀ r ∈ z.rs, r.length ≤ 20) → y ∈ reqL w q → y.1.size ≤ 8 ∧ y.2.length ≤ 20 := fun hw hq hy => by
      obtain ⟨z, hz, hy⟩ := List.mem_flatMap.1 hy
      rcases List.mem_cons.1 hy with rfl | hy
      · exact ⟨hw, by show (6 : Nat) ≤ 20; decide⟩
      · obtain ⟨r, hr, rfl⟩ := List.mem_map.1 hy
        exact ⟨by show wRoute.size ≤ 8; decide, (hq z hz).2 r hr⟩
    unfold linesOf at hy
    rcases List.mem_append.1 hy with hy | hy
    · unfold netL at hy
      rcases List.mem_cons.1 hy with rfl | hy
      · exact ⟨by show wNetwork.size ≤ 8; decide, by show (3 : Nat) ≤ 20; decide⟩
      · rcases List.mem_append.1 hy with hy | hy
        · refine ⟨by rw [good_pows _ _ y hy]; decide, ?_⟩
          have hr3 : ∀ (l : List Int) (a b : Nat), ∀ y ∈ rowL a b l, y.2.length ≤ 20 := fun l => by
            induction l with
            | nil => intro a b y hy; cases hy
            | cons v l ih =>
              intro a b y hy
              unfold rowL at hy
              rcases List.mem_append.1 hy with hy | hy
              · split at hy
                · cases hy
                · rw [List.mem_singleton.1 hy]; show (3 : Nat) ≤ 20; decide
              · exact ih a (b + 1) y hy
          have hp3 : ∀ (l : List (List Int)) (a : Nat), ∀ y ∈ powL a l, y.2.length ≤ 20 := fun l => by
            induction l with
            | nil => intro a y hy; cases hy
            | cons v l ih =>
              intro a y hy
              unfold powL at hy
              rcases List.mem_append.1 hy with hy | hy
              · exact hr3 v a 0 y hy
              · exact ih (a + 1) y hy
          exact hp3 _ _ y hy
        · obtain ⟨z, _, rfl⟩ := List.mem_map.1 hy
          exact ⟨by show wLink.size ≤ 8; decide, by show (4 : Nat) ≤ 20; decide⟩
    rcases List.mem_append.1 hy with hy | hy
    · exact hq (by decide) h.bq hy
    rcases List.mem_append.1 hy with hy | hy
    · exact hq (by decide) h.aq hy
    unfold tailL at hy
    rcases List.mem_cons.1 hy with rfl | hy
    · exact ⟨by show wSchedule.size ≤ 8; decide, by show (2 : Nat) ≤ 20; decide⟩
    rcases List.mem_append.1 hy with hy | hy
    · obtain ⟨z, _, rfl⟩ := List.mem_map.1 hy
      exact ⟨by show wCell.size ≤ 8; decide, by show (5 : Nat) ≤ 20; decide⟩
    rcases List.mem_append.1 hy with hy | hy
    · obtain ⟨z, _, rfl⟩ := List.mem_map.1 hy
      refine ⟨?_, by show (6 : Nat) ≤ 20; decide⟩
      unfold chL
      cases z.ad
      · show wRemove.size ≤ 8; decide
      · show wAdd.size ≤ 8; decide
    rcases List.mem_append.1 hy with hy | hy
    · obtain ⟨z, _, rfl⟩ := List.mem_map.1 hy
      exact ⟨by show wWeak.size ≤ 8; decide, by show (5 : Nat) ≤ 20; decide⟩
    rcases List.mem_append.1 hy with hy | hy
    · obtain ⟨z, _, rfl⟩ := List.mem_map.1 hy
      exact ⟨by show wOutage.size ≤ 8; decide, by show (3 : Nat) ≤ 20; decide⟩
    · rw [List.mem_singleton.1 hy]
      exact ⟨by show wSlots.size ≤ 8; decide, by show (1 : Nat) ≤ 20; decide⟩
  have h1 := txt_len (lr_of hr) h0
  have h2 : (linesOf x).length ≤ 100000 := by
    unfold linesOf netL linkL tailL
    have e1 := pow_count x.net.power 0 h.r
    have e2 := req_count (w := wBefore) x.before fun q hq => (h.bq q hq).1
    have e3 := req_count (w := wAfter) x.after fun q hq => (h.aq q hq).1
    have e4 := h.p
    have e5 := h.l
    have e6 := h.b
    have e7 := h.a
    have e8 := hL.cells
    have e9 := hL.changes
    have e10 := hL.weak
    have e11 := hL.outs
    simp only [List.length_append, List.length_cons, List.length_map, List.length_zip, List.length_nil]
    omega
  omega
end Go.Proofs.YtcloigoajohppaaGreatDoor
/- Arguments of the laws of layer 59, opened; what the listed variables are. -/
namespace Go.Proofs.YtcloigoajohppaaGreatDoor
open Go.RowKit
open Av Sc
set_option maxRecDepth 100000
set_option linter.unusedSimpArgs false
open Go.ChangeShapes Go.WideShapes Go.ChangeAt

def cellR (w : World) : Reader := fun p => w.cell? p
theorem RepL.get {R : Reader} {ps : List PV} {us : List Value} (h : RepL R ps us) : us.length = ps.length ∧ ∀ (j : Nat) (p : PV), ps[j]? = some p → ∃ u, us[j]? = some u ∧ RepP R p u := by
  induction h with
  | nil => exact ⟨rfl, fun j p h => by simp at h⟩
  | cons h t ih =>
    refine ⟨by simp [ih.1], fun j p hj => ?_⟩
    cases j with
    | zero =>
      simp only [List.getElem?_cons_zero, Option.some.injEq] at hj
      subst hj
      exact ⟨_, rfl, h⟩
    | succ j => exact ih.2 j p (by simpa using hj)
/-- A slice, read by f. -/
theorem rep_of_slice {α : Type} {f : α → List PV} {w : World} {e : Ty} {A : Option Addr} {n c : Nat} (hz : 0 < e.cells) (hnc : n ≤ c) (hnil : A = none → n = 0) (hr : ∀ es, es.length = e.cells → e.holds w es → ∃ x, RepL (cellR w) (f x) es)
    (h : ∀ a, A = some a → ∀ i, i < n → ∃ es, es.length = e.cells ∧ e.holds w es ∧ ∀ j u, es[j]? = some u → w.cell? (a.add (i * e.cells + j)) = some u) :
    ∃ l : List α, l.length = n ∧ RepP (cellR w) (.sl e.cells (l.map f)) (.slice A n c) := by
  cases A with
  | none =>
    obtain rfl := hnil rfl
    exact ⟨[], rfl, .sl e.cells [] none c (fun _ _ => undef) (fun k row hk => by simp at hk) (.inl rfl) (fun k row j p hk => by simp at hk) (Nat.zero_le _)⟩
  | some a =>
    obtain ⟨l, hl, hq⟩ := list_of (Q := fun i x => ∃ es, es.length = e.cells ∧ RepL (cellR w) (f x) es ∧ ∀ j u, es[j]? = some u → w.cell? (a.add (i * e.cells + j)) = some u) n fun i hi => by
      obtain ⟨es, h1, h2, h3⟩ := h a rfl i hi
      obtain ⟨x, hx⟩ := hr es h1 h2
      exact ⟨x, es, h1, hx, h3⟩
    refine ⟨l, hl, ?_⟩
    have hrow : ∀ (k : Nat) (row : List PV), (l.map f)[k]? = some row → row.length = e.cells ∧ ∀ (j : Nat) (p : PV), row[j]? = some p → ∃ u, w.cell? (a.add (k * e.cells + j)) = some u ∧ RepP (cellR w) p u := fun k row hk => by
      rw [List.getElem?_map] at hk
      cases hx : l[k]? with
      | none => rw [hx] at hk; cases hk
      | some x =>
        rw [hx] at hk
        obtain rfl := Option.some.inj hk
        obtain ⟨es, h1, h2, h3⟩ := hq k x hx
        obtain ⟨g1, g2⟩ := RepL.get h2
        refine ⟨by rw [← g1, h1], fun j p hj => ?_⟩
        obtain ⟨u, hu, hp⟩ := g2 j p hj
        exact ⟨u, h3 j u hu, hp⟩
    have hlen : n = (l.map f).length := by rw [List.length_map, hl]
    rw [hlen]
    refine .sl e.cells (l.map f) (some a) c (fun k j => (w.cell? (a.add (k * e.cells + j))).getD undef) (fun k row hk => (hrow k row hk).1) ?_ (fun k row j p hk hj => ?_) (by rw [← hlen]; exact hnc)
    · by_cases hn : l = []
      · exact .inl (by rw [hn]; rfl)
      · right
        have h0 : 0 < l.length := by
          rcases Nat.eq_zero_or_pos l.length with h0 | h0
          · exact absurd (List.eq_nil_of_length_eq_zero h0) hn
          · exact h0
        obtain ⟨x0, hx0⟩ := get_of_lt h0
        obtain ⟨q1, q2⟩ := hrow 0 (f x0) (by rw [List.getElem?_map, hx0]; rfl)
        obtain ⟨p0, hp0⟩ := get_of_lt (l := f x0) (k := 0) (by rw [q1]; exact hz)
        obtain ⟨u0, hu0, _⟩ := q2 0 p0 hp0
        have ha0 : a.add 0 = a := by simp [Addr.add]
        rw [show 0 * e.cells + 0 = 0 by omega, ha0] at hu0
        obtain ⟨_, hsp⟩ := cell_lt hu0
        obtain ⟨b, off, sp⟩ := a
        dsimp only at hsp
        subst hsp
        have hadd : ∀ i : Nat, (⟨b, off, none⟩ : Addr).add i = ⟨b, off + i, none⟩ := fun i => by
          unfold Addr.add
          split
          · rename_i h0; rw [h0]; rfl
          · rfl
        refine ⟨b, off, rfl, fun k row j p hk hj => ?_⟩
        obtain ⟨u, hu, _⟩ := (hrow k row hk).2 j p hj
        rw [hu]
        rw [hadd, ← Nat.add_assoc] at hu
        exact hu
    · obtain ⟨u, hu, hp⟩ := (hrow k row hk).2 j p hj
      rw [hu]; exact hp
/-- A slice, read by f: what holds of all its elements. -/
theorem rep_of_sliceG {α : Type} {f : α → List PV} {G : α → Prop} {w : World} {e : Ty} {A : Option Addr} {n c : Nat} (hz : 0 < e.cells) (hnc : n ≤ c) (hnil : A = none → n = 0) (hr : ∀ es, es.length = e.cells → e.holds w es → ∃ x, RepL (cellR w) (f x) es ∧ G x)
    (h : ∀ a, A = some a → ∀ i, i < n → ∃ es, es.length = e.cells ∧ e.holds w es ∧ ∀ j u, es[j]? = some u → w.cell? (a.add (i * e.cells + j)) = some u) :
    ∃ l : List α, l.length = n ∧ RepP (cellR w) (.sl e.cells (l.map f)) (.slice A n c) ∧ ∀ x ∈ l, G x := by
  obtain ⟨l, h1, h2⟩ := rep_of_slice (α := { x : α // G x }) (f := fun x => f x.1) hz hnc hnil (fun es h1 h2 => by
    obtain ⟨x, h3, h4⟩ := hr es h1 h2
    exact ⟨⟨x, h4⟩, h3⟩) h
  refine ⟨l.map (·.1), by rw [List.length_map]; exact h1, by rw [List.map_map]; exact h2, fun x hx => ?_⟩
  obtain ⟨y, _, rfl⟩ := List.mem_map.1 hx
  exact y.2
theorem r64_wf {n : Int} (h : (Lit.int .i64 n).wf = true) : r64 n := by
  unfold Lit.wf at h
  rw [Bool.and_eq_true] at h
  have h1 := of_decide_eq_true h.1
  have h2 := of_decide_eq_true h.2
  exact ⟨h1, h2⟩
theorem max_len : maxLen = 9223372036854775807 := by decide
def Ty.qi : Ty := .int .i64
def Ty.qfw : Ty := .struct (.cons .qi (.cons .qi (.cons .qi (.cons .qi (.cons .qi (.cons .qi .nil))))))
def Ty.qrq : Ty := .struct (.cons .qfw (.cons (.slice (.slice .qi)) .nil))
def Ty.qce : Ty := .struct (.cons .qi (.cons .qi (.cons .qi (.cons .qi (.cons .qi .nil)))))
def Ty.qch : Ty := .struct (.cons .qi (.cons .bool (.cons .qce .nil)))
def Ty.qog : Ty := .struct (.cons .qi (.cons .qi (.cons .qi .nil)))
def Ty.qnt : Ty := .struct (.cons .qi (.cons (.slice (.slice .qi)) (.cons .qi (.cons .qi (.cons (.slice .qog) (.cons (.slice .qi) .nil))))))
def Ty.qsd : Ty := .struct (.cons .qi (.cons .qi (.cons (.slice .qce) .nil)))
def Ty.qsn : Ty := .struct (.cons .qnt (.cons (.slice .qrq) (.cons (.slice .qrq) (.cons .qsd (.cons (.slice .qch) (.cons (.slice .qce) (.cons (.slice .qog) (.cons .qi .nil))))))))
theorem Tryz.fitsQsn : Ty.qsn.fits Tryz.prog 35 = true := by kernel_rfl
section
variable {w : World}
theorem qint_of (es : List Value) (_hl : es.length = Ty.qi.cells) (h : Ty.qi.holds w es) : ∃ a : Int, RepL (cellR w) [ip a] es ∧ r64 a := by
  obtain ⟨n, rfl, h⟩ := h
  exact ⟨n, .cons (.v _ rfl) .nil, r64_wf h⟩
theorem qrow_of (es : List Value) (_hl : es.length = (Ty.slice .qi).cells) (h : (Ty.slice .qi).holds w es) : ∃ a : List Int, RepL (cellR w) [PV.sl 1 (a.map fun n => [ip n])] es ∧ a.length ≤ 9223372036854775807 ∧ ∀ n ∈ a, r64 n := by
  obtain ⟨A, n, c, rfl, hc, hm, hn, he⟩ := h
  obtain ⟨l, hl, hr, hg⟩ := rep_of_sliceG (f := fun n => [ip n]) (e := Ty.qi) (by decide) hc hn qint_of he
  have := max_len
  exact ⟨l, .cons hr .nil, by omega, hg⟩
theorem qce_of (es : List Value) (hl : es.length = Ty.qce.cells) (h : Ty.qce.holds w es) : ∃ a : Ce, RepL (cellR w) a.pv es ∧ ∀ n ∈ a.nums, r64 n := by
  match es, hl with
  | [c0, c1, c2, c3, c4], _ =>
    simp only [Ty.qce, Ty.qi, Ty.holds, Ty.cells, List.take, List.drop] at h
    obtain ⟨⟨n0, h0, g0⟩, ⟨n1, h1, g1⟩, ⟨n2, h2, g2⟩, ⟨n3, h3, g3⟩, ⟨n4, h4, g4⟩, _⟩ := h
    simp only [List.cons.injEq, and_true] at h0 h1 h2 h3 h4
    subst h0 h1 h2 h3 h4
    refine ⟨⟨n0, n1, n2, n3, n4⟩, .cons (.v _ rfl) (.cons (.v _ rfl) (.cons (.v _ rfl) (.cons (.v _ rfl) (.cons (.v _ rfl) .nil)))), fun n hn => ?_⟩
    unfold Ce.nums at hn
    simp only [List.mem_cons, List.not_mem_nil, or_false] at hn
    rcases hn with rfl | rfl | rfl | rfl | rfl
    · exact r64_wf g0
    · exact r64_wf g1
    · exact r64_wf g2
    · exact r64_wf g3
    · exact r64_wf g4
theorem qwk_of (es : List Value) (hl : es.length = Ty.qce.cells) (h : Ty.qce.holds w es) : ∃ a : Wk, RepL (cellR w) a.pv es ∧ ∀ n ∈ [a.fr, a.to, a.fi, a.un, a.re], r64 n := by
  obtain ⟨⟨a, b, c, d, e⟩, h, g⟩ := qce_of es hl h
  exact ⟨⟨a, b, c, d, e⟩, h, g⟩
theorem qog_of (es : List Value) (hl : es.length = Ty.qog.cells) (h : Ty.qog.holds w es) : ∃ a : Og, RepL (cellR w) a.pv es ∧ ∀ n ∈ [a.nd, a.fi, a.un], r64 n := by
  match es, hl with
  | [c0, c1, c2], _ =>
    simp only [Ty.qog, Ty.qi, Ty.holds, Ty.cells, List.take, List.drop] at h
    obtain ⟨⟨n0, h0, g0⟩, ⟨n1, h1, g1⟩, ⟨n2, h2, g2⟩, _⟩ := h
    simp only [List.cons.injEq, and_true] at h0 h1 h2
    subst h0 h1 h2
    refine ⟨⟨n0, n1, n2⟩, .cons (.v _ rfl) (.cons (.v _ rfl) (.cons (.v _ rfl) .nil)), fun n hn => ?_⟩
    simp only [List.mem_cons, List.not_mem_nil, or_false] at hn
    rcases hn with rfl | rfl | rfl
    · exact r64_wf g0
    · exact r64_wf g1
    · exact r64_wf g2
theorem qlk_of (es : List Value) (hl : es.length = Ty.qog.cells) (h : Ty.qog.holds w es) : ∃ a : Lk, RepL (cellR w) a.pv es ∧ (r64 a.fr ∧ r64 a.to ∧ r64 a.ls) := by
  obtain ⟨⟨a, b, c⟩, h, g⟩ := qog_of es hl h
  exact ⟨⟨a, b, c⟩, h, g a (by simp), g b (by simp), g c (by simp)⟩
theorem qch_of (es : List Value) (hl : es.length = Ty.qch.cells) (h : Ty.qch.holds w es) : ∃ a : Ch, RepL (cellR w) a.pv es ∧ ∀ n ∈ a.sl :: a.c.nums, r64 n := by
  match es, hl with
  | [c0, c1, c2, c3, c4, c5, c6], _ =>
    have h' : Ty.holds w .qi [c0] ∧ Ty.holds w .bool [c1] ∧ Ty.holds w .qce [c2, c3, c4, c5, c6] ∧ True := h
    obtain ⟨⟨n0, h0, g0⟩, ⟨b, h1⟩, h2, _⟩ := h'
    simp only [List.cons.injEq, and_true] at h0 h1
    subst h0 h1
    obtain ⟨c, hc, hg⟩ := qce_of _ rfl h2
    refine ⟨⟨n0, b, c⟩, .cons (.v _ rfl) (.cons (.v _ rfl) hc), fun n hn => ?_⟩
    rcases List.mem_cons.1 hn with rfl | hn
    · exact r64_wf g0
    · exact hg n hn
theorem qfw_of (es : List Value) (hl : es.length = Ty.qfw.cells) (h : Ty.qfw.holds w es) : ∃ a : Fw, es = a.nums.map (Value.int .i64) ∧ ∀ n ∈ a.nums, r64 n := by
  match es, hl with
  | [c0, c1, c2, c3, c4, c5], _ =>
    simp only [Ty.qfw, Ty.qi, Ty.holds, Ty.cells, List.take, List.drop] at h
    obtain ⟨⟨n0, h0, g0⟩, ⟨n1, h1, g1⟩, ⟨n2, h2, g2⟩, ⟨n3, h3, g3⟩, ⟨n4, h4, g4⟩, ⟨n5, h5, g5⟩, _⟩ := h
    simp only [List.cons.injEq, and_true] at h0 h1 h2 h3 h4 h5
    subst h0 h1 h2 h3 h4 h5
    refine ⟨⟨n0, n1, n2, n3, n4, n5⟩, rfl, fun n hn => ?_⟩
    unfold Fw.nums at hn
    simp only [List.mem_cons, List.not_mem_nil, or_false] at hn
    rcases hn with rfl | rfl | rfl | rfl | rfl | rfl
    · exact r64_wf g0
    · exact r64_wf g1
    · exact r64_wf g2
    · exact r64_wf g3
    · exact r64_wf g4
    · exact r64_wf g5
theorem qrq_of (es : List Value) (hl : es.length = Ty.qrq.cells) (h : Ty.qrq.holds w es) : ∃ a : Rq, RepL (cellR w) a.pv es ∧ ((∀ n ∈ a.f.nums, r64 n) ∧ ∀ r ∈ a.rs, ∀ n ∈ r, r64 n) := by
  match es, hl with
  | [c0, c1, c2, c3, c4, c5, c6], _ =>
    have h' : Ty.holds w .qfw [c0, c1, c2, c3, c4, c5] ∧ Ty.holds w (.slice (.slice .qi)) [c6] ∧ True := h
    obtain ⟨h0, ⟨A, n, c, h1, hc, hm, hn, he⟩, _⟩ := h'
    simp only [List.cons.injEq, and_true] at h1
    subst h1
    obtain ⟨f, hf, hg⟩ := qfw_of _ rfl h0
    obtain ⟨f0, f1, f2, f3, f4, f5⟩ := f
    have hf' : [c0, c1, c2, c3, c4, c5] = [.int .i64 f0, .int .i64 f1, .int .i64 f2, .int .i64 f3, .int .i64 f4, .int .i64 f5] := hf
    simp only [List.cons.injEq, and_true] at hf'
    obtain ⟨rfl, rfl, rfl, rfl, rfl, rfl⟩ := hf'
    obtain ⟨l, hl, hr, hg2⟩ := rep_of_sliceG (f := fun r : List Int => [PV.sl 1 (r.map fun n => [ip n])]) (e := Ty.slice .qi) (by decide) hc hn qrow_of he
    exact ⟨⟨⟨f0, f1, f2, f3, f4, f5⟩, l⟩, .cons (.v _ rfl) (.cons (.v _ rfl) (.cons (.v _ rfl) (.cons (.v _ rfl) (.cons (.v _ rfl) (.cons (.v _ rfl) (.cons hr .nil)))))), hg, fun r hr => (hg2 r hr).2⟩
end
section
variable {H : Type} {enc : TypeId × Value → H} {W : World} {base : Nat} {spare : Nat → Bool} {held : Bool} {r : Reach} {b0 : Nat} {v : Value} {d : DataW H} {p : List MemPlace}
theorem open_sn (hv : Value.okWide Tryz.prog W r b0 35 v) (h : DataW.Trod enc Tryz.prog W base spare held 35 v d p) : ∃ x : Sn, RgX x ∧ RepA (cellR W) (fun _ => 0) (.agg x.pv) v := by
  obtain ⟨cs, rfl, hsz⟩ := okWide_struct Tryz.underlying35 hv
  have hh := Ty.holds_trod (τ := Ty.qsn) Tryz.fitsQsn h
  obtain ⟨l⟩ := cs
  match l, hsz with
  | [c0, c1, c2, c3, c4, c5, c6, c7, c8, c9, c10, c11, c12, c13, c14], _ =>
    have hh' : (Ty.holds W .qi [c0] ∧ Ty.holds W (.slice (.slice .qi)) [c1] ∧ Ty.holds W .qi [c2] ∧ Ty.holds W .qi [c3] ∧ Ty.holds W (.slice .qog) [c4] ∧ Ty.holds W (.slice .qi) [c5] ∧ True) ∧ Ty.holds W (.slice .qrq) [c6] ∧ Ty.holds W (.slice .qrq) [c7] ∧
      (Ty.holds W .qi [c8] ∧ Ty.holds W .qi [c9] ∧ Ty.holds W (.slice .qce) [c10] ∧ True) ∧ Ty.holds W (.slice .qch) [c11] ∧ Ty.holds W (.slice .qce) [c12] ∧ Ty.holds W (.slice .qog) [c13] ∧ Ty.holds W .qi [c14] ∧ True := hh
    obtain ⟨⟨⟨n0, h0, g0⟩, ⟨A1, m1, k1, h1, hc1, hm1, hn1, he1⟩, ⟨n2, h2, g2⟩, ⟨n3, h3, g3⟩, ⟨A4, m4, k4, h4, hc4, hm4, hn4, he4⟩, ⟨A5, m5, k5, h5, hc5, hm5, hn5, he5⟩, _⟩, ⟨A6, m6, k6, h6, hc6, hm6, hn6, he6⟩, ⟨A7, m7, k7, h7, hc7, hm7, hn7, he7⟩,
      ⟨⟨n8, h8, g8⟩, ⟨n9, h9, g9⟩, ⟨A10, m10, k10, h10, hc10, hm10, hn10, he10⟩, _⟩, ⟨A11, m11, k11, h11, hc11, hm11, hn11, he11⟩, ⟨A12, m12, k12, h12, hc12, hm12, hn12, he12⟩, ⟨A13, m13, k13, h13, hc13, hm13, hn13, he13⟩, ⟨n14, h14, g14⟩, _⟩ := hh'
    simp only [List.cons.injEq, and_true] at h0 h1 h2 h3 h4 h5 h6 h7 h8 h9 h10 h11 h12 h13 h14
    subst h0 h1 h2 h3 h4 h5 h6 h7 h8 h9 h10 h11 h12 h13 h14
    obtain ⟨l1, e1, r1, q1⟩ := rep_of_sliceG (f := fun r : List Int => [PV.sl 1 (r.map fun n => [ip n])]) (e := Ty.slice .qi) (by decide) hc1 hn1 qrow_of he1
    obtain ⟨l4, e4, r4, q4⟩ := rep_of_sliceG (f := Lk.pv) (e := Ty.qog) (by decide) hc4 hn4 qlk_of he4
    obtain ⟨l5, e5, r5, q5⟩ := rep_of_sliceG (f := fun n => [ip n]) (e := Ty.qi) (by decide) hc5 hn5 qint_of he5
    obtain ⟨l6, e6, r6, q6⟩ := rep_of_sliceG (f := Rq.pv) (e := Ty.qrq) (by decide) hc6 hn6 qrq_of he6
    obtain ⟨l7, e7, r7, q7⟩ := rep_of_sliceG (f := Rq.pv) (e := Ty.qrq) (by decide) hc7 hn7 qrq_of he7
    obtain ⟨l10, e10, r10, q10⟩ := rep_of_sliceG (f := Ce.pv) (e := Ty.qce) (by decide) hc10 hn10 qce_of he10
    obtain ⟨l11, e11, r11, q11⟩ := rep_of_sliceG (f := Ch.pv) (e := Ty.qch) (by decide) hc11 hn11 qch_of he11
    obtain ⟨l12, e12, r12, q12⟩ := rep_of_sliceG (f := Wk.pv) (e := Ty.qce) (by decide) hc12 hn12 qwk_of he12
    obtain ⟨l13, e13, r13, q13⟩ := rep_of_sliceG (f := Og.pv) (e := Ty.qog) (by decide) hc13 hn13 qog_of he13
    have := max_len
    refine ⟨⟨⟨n0, l1, n2, n3, l4, l5⟩, l6, l7, n8, n9, l10, l11, l12, l13, n14⟩, ⟨r64_wf g0, r64_wf g2, r64_wf g3, by show l1.length ≤ _; omega, q1, q4, q5, q6, q7, r64_wf g8, r64_wf g9, q10, q11, q12, q13, r64_wf g14⟩, _, rfl, ?_⟩
    exact .cons (.v _ rfl) (.cons r1 (.cons (.v _ rfl) (.cons (.v _ rfl) (.cons r4 (.cons r5 (.cons r6 (.cons r7 (.cons (.v _ rfl) (.cons (.v _ rfl) (.cons r10 (.cons r11 (.cons r12 (.cons r13 (.cons (.v _ rfl) .nil))))))))))))))
end
/-- A law that returns true. -/
theorem calls_trueC {P : Program} {C : World → Prop} {f : FuncId} {args : List AV} (h : FnOKC P C f args ⟨bv true, none⟩) (W : World) (hC : C W) (us : List Value) (hus : RepAL (cellR W) args us) : Calls P f us.toArray W fun e W' => e = .returned (.bool true) ∧ Below W.heap.size W W' :=
  (h.2 W (cellR W) hC (fun _ _ h => h) us hus).mono fun e W' hq => by
    obtain ⟨u, rfl, hb, _, hr⟩ := hq
    exact ⟨by rw [show u = .bool true from hr], hb⟩
/-- The builder's lemma, with what the world's shape says. -/
theorem handed_and {H : Type} {enc : TypeId × Value → H} {a : Assume} {C : Checked} {os : Os} {f : FuncId} {fn : Func} {s : ChangeSpec} {conds : List PathCond} {apart fresh handsOn again : Bool} {X : World → Array Value → Prop} {Y : World → Prop} (hY : ∀ w : World, w.ShapedOpen C.prog → Y w)
    (hX : ∀ (w w' : World) (args : Array Value), w.heap = w'.heap → X w args → X w' args)
    (own : ownKnob C.prog.godebug = none) (started : os.Started) (noInit : C.prog.inits.idxOf? f = none) (hfn : C.prog.funcs[f]? = some fn)
    (witness : ∃ (w : World) (tape : Tape) (i : Input), w.os = os ∧ (w.forCall tape i).Shaped C.prog ∧ i.vars = [] ∧ Input.okWide C.prog (w.forCall tape i) .any w.heap.size f i ∧
      ((s.pre enc C.prog fn conds apart (w.forCall tape i).memory i.args ∧ X (w.forCall tape i).memory i.args) ∧ sizedMet enc C.prog fn (OpenSpec.ofChange s) apart (w.forCall tape i).memory i.args) ∧ a.holds C.prog (lone (Frame.enter C.prog f i.args .normal) [] (w.forCall tape i)))
    (contract : ∀ (W : World) (base : Nat) (args : Array Value) (ds gs : List (DataW H)) (before : List MemPlace),
      (∀ (j : Nat) t v, fn.params[j]? = some t → args[j]? = some v → Value.okWide C.prog W .any base t v) →
      DataW.Whole enc C.prog fn.params.toList s.vars apart W args.toList ds gs before →
      conds.all (PathCond.test C.prog ⟨fn.params.toList, ds, s.plain.varTypes C.prog, gs⟩) = true →
      (DataW.weightsEach C.prog (fn.params.toList ++ s.plain.varTypes C.prog) (ds ++ gs)).all (· ≤ reachBytes) = true → X W args →
      Y W → Calls C.prog f args W fun e W' => ∃ v, e = .returned v ∧ s.post enc C.prog fn apart fresh handsOn again W args v W') :
    ReturnsInHanded a C os f .any (fun w args => (s.pre enc C.prog fn conds apart w args ∧ X w args) ∧ sizedMet enc C.prog fn (OpenSpec.ofChange s) apart w args) (s.post enc C.prog fn apart fresh handsOn again) := by
  refine returnsInHanded_of_calls own started noInit witness ?_
  intro w tape i _ hsh _ hok hpre _
  obtain ⟨_, _, _, fn', hfn', _, _, _, _, hval⟩ := hok
  have e : fn' = fn := Option.some.inj (hfn'.symm.trans hfn)
  subst e
  obtain ⟨⟨⟨ds, gs, before, hw, hc⟩, hx⟩, hz⟩ := hpre
  have hw' := DataW.Whole.of_heap (w' := w.forCall tape i) (by rfl) hw
  refine (contract (w.forCall tape i) w.heap.size i.args ds gs before hval hw' hc (hz.weights hw) (hX _ _ _ (by rfl) hx) (hY _ hsh)).mono fun e W' ⟨v, he, hp⟩ => ?_
  subst he
  exact ChangeSpec.post_blind hp
theorem max_shaped (w : World) (h : w.ShapedOpen Tryz.prog) : MaxC w := Tryz.lays143.s1_3 w h
theorem Tryz.laidOut : laidOutB Tryz.prog = true := by kernel_rfl
theorem Tryz.own : ownKnob Tryz.prog.godebug = none := by kernel_rfl
def laid7 : List (String × DataW Unit) := [("math/bits.deBruijn32tab", Rows.laid_math_bits_deBruijn32tab), ("math/bits.deBruijn64tab", Rows.laid_math_bits_deBruijn64tab), ("internal/strconv.uint64pow10", Rows.laid_internal_strconv_uint64pow10), ("unicode/utf8.acceptRanges", Rows.laid_unicode_utf8_acceptRanges), ("strconv.ErrRange", Rows.laid_strconv_ErrRange), ("strconv.ErrSyntax", Rows.laid_strconv_ErrSyntax), ("unicode/utf8.first", Rows.laid_unicode_utf8_first)]
theorem door_met (os : Os) (args : Array Value) : laidMetH Tryz.prog laid7 ((World.laidAll Tryz.prog os laid7).forCall (fun _ _ => 0) ⟨#[], args, []⟩).memory := by
  rw [MakeChecks.laidMetH_plain _ _ _ (by kernel_rfl)]
  exact laidMet_laidAll _ (by kernel_rfl) (by kernel_rfl)

theorem plain_of_laid {W : World} (h : laidMetH Tryz.prog laid7 W) : laidMet Tryz.prog laid7 W := by
  rw [MakeChecks.laidMetH_plain _ _ _ (by kernel_rfl)] at h
  exact h
theorem tab_of_laid {W : World} (h : laidMetH Tryz.prog laid7 W) : TabC W := by
  have h1 := laidMet.tail (laidMet.tail (plain_of_laid h))
  have e : (Rows.laid_internal_strconv_uint64pow10 : DataW Unit) = Lib.tabData .u64 Lib.pow10Tab := by kernel_rfl
  rw [e] at h1
  exact Lib.tabIs_of_head (g := 5) (t := 219) (e := 199) (n := 20) (by kernel_rfl) (by kernel_rfl) Tryz.underlying219 Tryz.underlying199 (by kernel_rfl) (by kernel_rfl) h1
theorem star : "*" ++ "errors.errorString" = "*errors.errorString" := by decide
theorem err_row (u : TypeId) (h : Tryz.prog.typeName? 3 u = some "*errors.errorString") : u = 223 :=
  typeName_ptr_named (nm := "errors.errorString") (by rw [star]; kernel_rfl) (by kernel_rfl) (by decide) u (by rw [star]; exact h)

section
variable {H : Type} {enc : TypeId × Value → H} {P : Program}
/-- What the row asks behind a call that only made new memory. (After the guide's small lemmas.) -/
theorem post_of_below {f : Func} {s : ChangeSpec} {apart fresh handsOn again : Bool} {W W' : World} {args : Array Value} {v : Value} {ds gs : List (DataW H)} {before pa pv : List MemPlace}
    (hW : DataW.Whole enc P f.params.toList s.vars apart W args.toList ds gs before)
    (hres : ∀ (b : Nat) (sp : Nat → Bool) (hd : Bool), DataW.TrodAll enc P W' b sp hd f.resultTypes.toList (v.resultList f.resultTypes.size) (s.fn H (ds ++ gs)).results [])
    (hargs : ∀ sp : Nat → Bool, (∀ p ∈ before, sp p.block = true) → DataW.TrodAll enc P W' 0 sp true f.params.toList args.toList (s.fn H (ds ++ gs)).args pa)
    (hvars : ∀ sp : Nat → Bool, (∀ p ∈ before, sp p.block = true) → DataW.TrodVars enc P W' sp s.vars (s.fn H (ds ++ gs)).vars pv)
    (hps : before = pa ++ pv) (hb : Below W.heap.size W W')
    (hok : ∀ (j : Nat) (t : TypeId) (r : Value), f.resultTypes[j]? = some t → (v.resultList f.resultTypes.size)[j]? = some r → Value.okWide P W' .any 0 t r) :
    s.post enc P f apart fresh handsOn again W args v W' := by
  have hlt : ∀ p ∈ before, p.block < W.heap.size := fun p hp => hW.lt p hp
  have hold : ∀ p ∈ before, (fun b => decide (b < W.heap.size)) p.block = true := fun p hp => by simpa using hlt p hp
  refine ⟨ds, gs, before, [], pa, pv, hW, hres _ _ _, hargs _ hold, hvars _ hold, World.keptBut_mono (fun p hp => ⟨hp, ?_⟩) (hb.frame (· ∈ before)), fun _ => ?_⟩
  · rw [hps, List.mem_append] at hp
    exact Or.inr hp
  · obtain ⟨_, _, _, _, _, hz, hn⟩ := hW
    refine ⟨hok, _, _, ([] ++ pa) ++ pv, ⟨[] ++ pa, pv, trodAll_append (hargs _ (fun _ _ => rfl)) (hres _ _ _), hvars _ (fun _ _ => rfl), rfl, ?_, ?_⟩, ?_⟩
    · intro b off hp
      have hin : MemPlace.cell b off ∈ before := by rw [hps]; simpa using hp
      rw [hb.frozen (hlt _ hin)]
      exact hz b off hin
    · intro ha
      have := hn ha
      rw [hps] at this
      simpa using this
    · intro p hp _
      rw [hps]
      simpa using hp
end
/-- What the library asks of the world. -/
theorem lc_of {W : World} (h : laidMetH Tryz.prog laid7 W) (hM : MaxC W) : LC W := by
  refine ⟨tab_of_laid h, ?_, hM⟩
  have h1 := laidMet.tail (laidMet.tail (laidMet.tail (laidMet.tail (plain_of_laid h))))
  obtain ⟨a0, s0, hv0, -, -, -⟩ := laid_sentinel h1 (g := 4) (ti := 117) (te := 225) (by kernel_rfl) (by kernel_rfl) Tryz.underlying117 err_row Tryz.underlying223 Tryz.underlying225 rfl rfl Tryz.underlying9 (by kernel_rfl) (by kernel_rfl)
  obtain ⟨a1, s1, hv1, -, -, -⟩ := laid_sentinel (laidMet.tail h1) (g := 3) (ti := 117) (te := 225) (by kernel_rfl) (by kernel_rfl) Tryz.underlying117 err_row Tryz.underlying223 Tryz.underlying225 rfl rfl Tryz.underlying9 (by kernel_rfl) (by kernel_rfl)
  exact ⟨⟨_, _, hv1⟩, _, _, hv0⟩
end Go.Proofs.YtcloigoajohppaaGreatDoor
/- scenario.Format, where nothing is written. -/
namespace Go.Proofs.YtcloigoajohppaaGreatDoor
open Go.RowKit
open Av
open Sc
set_option maxRecDepth 100000
set_option linter.unusedSimpArgs false
attribute [local go_sem] Av.guardB Av.sop Av.hopx Av.hop Av.hopCall Av.hopF Av.hopB Av.evo Av.evos Av.avCells Av.loadK Av.bound Av.abin Av.aun Av.partsC Av.lfill Av.placesB Av.setAt Av.stl Av.takes Av.src Av.bxOf Av.ownOf Av.St.res Av.St.put Av.St.addBox Av.St.putOwn Av.delL Av.delS Av.look Av.lookL Av.storeSt Av.stealSt Av.St.setBox Av.keepL Av.hitB Av.snap Av.snaps Av.snapCaps Av.AV.lit Av.AV.refs Av.capRefs Av.PV.av Av.CV.av Av.startSt Av.steals Av.athen Av.ablock Av.appK Av.AllS Av.AllO Av.AllR Av.keepS Av.St.avAt Av.RetOK Av.retAll Av.retOne Av.intsOf Av.ptrB TypeDesc.isRow List.range_zero Option.some.injEq exists_eq_left' exists_eq_left exists_eq' exists_and_left exists_and_right exists_const true_and and_true and_self false_and and_false or_false false_or or_true true_or if_true if_false Bool.false_eq_true List.zipIdx_cons List.zipIdx_nil List.map_cons List.map_nil List.filter_cons List.filter_nil List.contains_cons List.contains_nil List.drop_succ_cons List.drop_zero List.take_succ_cons List.take_zero List.take_nil List.drop_nil List.length_cons List.length_nil List.cons_append List.nil_append List.append_nil List.getElem?_cons_zero List.getElem?_cons_succ List.getElem?_nil Option.bind_some Option.bind_none Option.map_some Option.map_none Option.isNone_none Option.isNone_some Option.isSome_some Option.isSome_none Bool.and_true Bool.true_and Bool.and_false Bool.false_and Bool.or_false Bool.false_or Bool.not_true Bool.not_false beq_true beq_false Bool.true_beq Bool.false_beq Loc.s.injEq Loc.b.injEq decide_true decide_false beq_self_eq_true Nat.zero_add Nat.add_zero List.getElem?_toArray List.toList_toArray List.size_toArray Value.oneCell' List.all_cons List.all_nil Value.int.injEq AV.v.injEq AV.sl.injEq AV.agg.injEq AV.ref.injEq AV.ept.injEq AV.tup.injEq Value.bool.injEq PV.v.injEq PV.sl.injEq List.isEmpty_nil List.isEmpty_cons forall_const not_true_eq_false not_false_eq_true true_implies false_implies Value.string.injEq List.length_map List.getElem?_map Int.toNat_natCast Int.natCast_nonneg List.length_append Value.cells implies_true TypeDesc.struct.injEq TypeDesc.slice.injEq TypeDesc.array.injEq List.getElem?_toArray Prod.mk.injEq and_assoc exists_false List.cons.injEq Operand.tmp.injEq ite_self AV.fnv.injEq AV.clo.injEq ne_eq eq_self Tryz.sz3 Tryz.zr3 Tryz.by3 Tryz.pl3 Tryz.is3 Tryz.underlying3 Tryz.sz4 Tryz.zr4 Tryz.by4 Tryz.pl4 Tryz.is4 Tryz.underlying4 Tryz.sz9 Tryz.zr9 Tryz.by9 Tryz.pl9 Tryz.is9 Tryz.underlying9 Tryz.sz5 Tryz.zr5 Tryz.by5 Tryz.pl5 Tryz.is5 Tryz.underlying5 Tryz.sz56 Tryz.zr56 Tryz.by56 Tryz.pl56 Tryz.is56 Tryz.underlying56 Tryz.sz24 Tryz.zr24 Tryz.by24 Tryz.pl24 Tryz.is24 Tryz.underlying24 Tryz.sz70 Tryz.zr70 Tryz.by70 Tryz.pl70 Tryz.is70 Tryz.underlying70 Tryz.sz69 Tryz.zr69 Tryz.by69 Tryz.pl69 Tryz.is69 Tryz.underlying69 Tryz.sz72 Tryz.zr72 Tryz.by72 Tryz.pl72 Tryz.is72 Tryz.underlying72 Tryz.sz74 Tryz.zr74 Tryz.by74 Tryz.pl74 Tryz.is74 Tryz.underlying74 Tryz.sz117 Tryz.zr117 Tryz.by117 Tryz.pl117 Tryz.is117 Tryz.underlying117 Tryz.sz182 Tryz.zr182 Tryz.by182 Tryz.pl182 Tryz.is182 Tryz.underlying182 Tryz.sz64 Tryz.zr64 Tryz.by64 Tryz.pl64 Tryz.is64 Tryz.underlying64 Tryz.sz67 Tryz.zr67 Tryz.by67 Tryz.pl67 Tryz.is67 Tryz.underlying67 Tryz.sz26 Tryz.zr26 Tryz.by26 Tryz.pl26 Tryz.is26 Tryz.underlying26 Tryz.sz30 Tryz.zr30 Tryz.by30 Tryz.pl30 Tryz.is30 Tryz.underlying30 Tryz.sz126 Tryz.zr126 Tryz.by126 Tryz.pl126 Tryz.is126 Tryz.underlying126 Tryz.sz79 Tryz.zr79 Tryz.by79 Tryz.pl79 Tryz.is79 Tryz.underlying79 Tryz.sz81 Tryz.zr81 Tryz.by81 Tryz.pl81 Tryz.is81 Tryz.underlying81 Tryz.sz83 Tryz.zr83 Tryz.by83 Tryz.pl83 Tryz.is83 Tryz.underlying83 Tryz.sz85 Tryz.zr85 Tryz.by85 Tryz.pl85 Tryz.is85 Tryz.underlying85 Tryz.sz35 Tryz.zr35 Tryz.by35 Tryz.pl35 Tryz.is35 Tryz.underlying35 Tryz.sz88 Tryz.zr88 Tryz.by88 Tryz.pl88 Tryz.is88 Tryz.underlying88 Tryz.sz22 Tryz.zr22 Tryz.by22 Tryz.pl22 Tryz.is22 Tryz.underlying22 Tryz.sz23 Tryz.zr23 Tryz.by23 Tryz.pl23 Tryz.is23 Tryz.underlying23 Tryz.sz27 Tryz.zr27 Tryz.by27 Tryz.pl27 Tryz.is27 Tryz.underlying27 Tryz.sz28 Tryz.zr28 Tryz.by28 Tryz.pl28 Tryz.is28 Tryz.underlying28 Tryz.sz31 Tryz.zr31 Tryz.by31 Tryz.pl31 Tryz.is31 Tryz.underlying31 Tryz.sz32 Tryz.zr32 Tryz.by32 Tryz.pl32 Tryz.is32 Tryz.underlying32 Tryz.sz33 Tryz.zr33 Tryz.by33 Tryz.pl33 Tryz.is33 Tryz.underlying33 Tryz.sz65 Tryz.zr65 Tryz.by65 Tryz.pl65 Tryz.is65 Tryz.underlying65 Tryz.sz68 Tryz.zr68 Tryz.by68 Tryz.pl68 Tryz.is68 Tryz.underlying68 Tryz.sz46 Tryz.zr46 Tryz.by46 Tryz.pl46 Tryz.is46 Tryz.underlying46 Tryz.sz38 Tryz.zr38 Tryz.by38 Tryz.pl38 Tryz.is38 Tryz.underlying38 Tryz.sz94 Tryz.zr94 Tryz.by94 Tryz.pl94 Tryz.is94 Tryz.underlying94 Tryz.sz91 Tryz.zr91 Tryz.by91 Tryz.pl91 Tryz.is91 Tryz.underlying91 Tryz.sz86 Tryz.zr86 Tryz.by86 Tryz.pl86 Tryz.is86 Tryz.underlying86 all_arr loc_ss loc_sb loc_bs loc_bb arr_two arr_one rg1 rg2 rg3 rg4 rg5 rg6 rg7 rg8 ResultVar.tmp.injEq Bool.not_true Bool.not_false undef Fn.func.injEq List.set_cons_zero Av.startStC Sc.Fw.pv Sc.Rq.pv Sc.Ce.pv Sc.Ch.pv Sc.Wk.pv Sc.Og.pv Sc.Lk.pv Sc.Nt.pv Sc.Sn.pv Sc.rsR
set_option maxHeartbeats 2000000 in
theorem format_earlyC (x : Sn) (hP : x.net.power.length ≤ 1000000) (hE : shaped x.net = false ∨ longX x = true) : FnOKC Tryz.prog TabC 11 [.agg x.pv] ⟨.tup [.c (.v (.string (fmt x).1)), .c (ip (fmt x).2)], none⟩ := by
 refine fn_okC (C := TabC) Tryz.func11 (by kernel_rfl) rfl (by rw [Tryz.ntmps11]; exact of_decide_eq_true rfl) (fun F hF => ?_)
 rw [Tryz.ntmps11] at hF
 rw [Tryz.results11]
 repeat (first
  | ((first | with_reducible refine sops_go ?_ | with_reducible refine sops_end ?_); simp only [go_sem, simprocAttr, hF])
  | with_reducible refine awp_seq_k fun _ _ => ?_
  | (with_reducible refine awp_region [1000032, 1000036, 1000040, 1000044, 1000048, 1000057, 1000078, 1000109, 1000130, 1000147, 1000153, 1000156, 1000157, 1000160, 1000161] ?_)
  | go_step)
 refine ⟨_, shaped_ok x.net hP, ?_⟩
 simp only [go_sem, simprocAttr, hF]
 repeat ((with_reducible refine sops_go ?_; simp only [go_sem, simprocAttr, hF]))
 cases hS : shaped x.net with
 | false =>
  try simp only [go_sem, simprocAttr, hF, hS, Bool.not_false]
  repeat (first
   | ((first | with_reducible refine sops_go ?_ | with_reducible refine sops_end ?_ | with_reducible refine awp_if ?_ | with_reducible refine awp_ret ?_); simp only [go_sem, simprocAttr, hF, hS])
   | with_reducible refine awp_seq_k fun _ _ => ?_
   | (with_reducible refine awp_region [1000032, 1000036, 1000040, 1000044, 1000048, 1000057, 1000078, 1000109, 1000130, 1000147, 1000153, 1000156, 1000157, 1000160, 1000161] ?_)
   | go_step)
  all_goals (try (unfold fmt; simp only [hS, Bool.not_false, Bool.true_or, if_true]))
  all_goals (try rfl)
 | true =>
  have hL0 : longX x = true := by
   rcases hE with h | h
   · rw [h] at hS; cases hS
   · exact h
  have hmx : mx (mx (mx (x.cells.length : Int) x.changes.length) x.weak.length) x.outs.length = max (max (max (x.cells.length : Int) x.changes.length) x.weak.length) x.outs.length := by
   simp only [mx, Int.max_def]
   repeat (first | rfl | omega | split)
  have hlx : decide (max (max (max (x.cells.length : Int) x.changes.length) x.weak.length) x.outs.length > 1024) = true := hL0
  try simp only [go_sem, simprocAttr, hF, hS]
  repeat ((with_reducible refine sops_go ?_; simp only [go_sem, simprocAttr, hF, hS]))
  refine hand_max4 rfl rfl (by decide) rfl rfl rfl rfl ?_
  simp only [go_sem, simprocAttr, hF, hmx, hlx]
  repeat (first
   | ((first | with_reducible refine sops_go ?_ | with_reducible refine sops_end ?_ | with_reducible refine awp_if ?_ | with_reducible refine awp_ret ?_); simp only [go_sem, simprocAttr, hF, hS, hmx, hlx])
   | with_reducible refine awp_seq_k fun _ _ => ?_
   | (with_reducible refine awp_region [1000032, 1000036, 1000040, 1000044, 1000048, 1000057, 1000078, 1000109, 1000130, 1000147, 1000153, 1000156, 1000157, 1000160, 1000161] ?_)
   | go_step)
  all_goals (try (unfold fmt; simp only [hS, hL0, Bool.not_true, Bool.or_true, Bool.true_or, Bool.false_or, if_true]))
  all_goals (try rfl)

theorem format_fewC (x : Sn) (h : few54B x = true) (hr : RgX x) : FnOKC Tryz.prog TabC 11 [.agg x.pv] ⟨.tup [.c (.v (.string (fmt x).1)), .c (ip (fmt x).2)], none⟩ := by
 have hf := few_of h
 have hp := hf.p
 cases hS : shaped x.net with
 | false => exact format_earlyC x (by omega) (.inl hS)
 | true =>
  cases hL : longX x with
  | true => exact format_earlyC x (by omega) (.inr hL)
  | false => exact format_okC x (by omega) (lr_of hr) (room_of hf hL hr)
/- The example holds. -/
theorem example_ok : FnOK Tryz.prog 22 [] ⟨.v (.string exB), none⟩ := by
 refine fn_ok Tryz.func22 (by kernel_rfl) rfl (by rw [Tryz.ntmps22]; exact of_decide_eq_true rfl) (fun F hF => ?_)
 rw [Tryz.ntmps22] at hF
 rw [Tryz.results22]
 repeat (first
  | ((first | with_reducible refine sops_go ?_ | with_reducible refine sops_end ?_ | with_reducible refine awp_ret ?_); simp only [go_sem, simprocAttr, hF])
  | with_reducible refine awp_seq_k fun _ _ => ?_
  | (with_reducible refine awp_region [] ?_)
  | go_step)
 all_goals (try rfl)

set_option maxHeartbeats 2000000 in
theorem awake_ok : FnOKC Tryz.prog LC 9 [] ⟨bv true, none⟩ := by
 have hp1 : FnOKC Tryz.prog LC 13 [.v (.string exB)] ⟨.tup [.g exX.pv, .c (ip 0), .c (ip 0)], none⟩ := by
  have h := parse_okC exB
  rw [parse_exB] at h
  exact h
 have hp2 : FnOKC Tryz.prog LC 13 [.v (.string exC)] ⟨.tup [.g snZ.pv, .c (ip 5), .c (ip 5)], none⟩ := by
  have h := parse_okC exC
  rw [parse_exC] at h
  exact h
 have hf : FnOKC Tryz.prog LC 11 [.agg exX.pv] ⟨.tup [.c (.v (.string exB)), .c (ip 0)], none⟩ := by
  have h := format_okC exX (by decide) (by show ∀ x ∈ linesOf exX, ∀ n ∈ x.2, _ ∧ _; decide) (Nat.le_of_ble_eq_true (by kernel_rfl))
  rw [fmt_exB] at h
  exact ⟨h.1, fun w R hC => h.2 w R hC.1⟩
 have hl : FnOKC Tryz.prog LC 23 [.v (.string ⟨#[119, 101, 97, 107, 32, 49, 32, 45, 50, 32, 51, 48]⟩)] ⟨.tup [.c (.v (.string ⟨#[119, 101, 97, 107]⟩)), .c (.sl 1 [[ip 1], [ip (-2)], [ip 30]]), .c (.v (.bool true))], none⟩ := by
  have h := line_okC ⟨#[119, 101, 97, 107, 32, 49, 32, 45, 50, 32, 51, 48]⟩ (by decide)
  rw [line_exW] at h
  exact h
 have e1 : exX.pv = [ip 2, .sl 1 (rsR exX.net.power), ip 1, ip 2000, .sl 3 [Lk.pv ⟨0, 1, 0⟩], .sl 1 [[ip 20]], .sl 7 [], .sl 7 [], ip 4, ip 1, .sl 5 [], .sl 7 [], .sl 5 [], .sl 3 [], ip 8] := rfl
 have e2 : snZ.pv = [ip 0, .sl 1 [], ip 0, ip 0, .sl 3 [], .sl 1 [], .sl 7 [], .sl 7 [], ip 0, ip 0, .sl 5 [], .sl 7 [], .sl 5 [], .sl 3 [], ip 0] := rfl
 rw [e1] at hp1 hf
 rw [e2] at hp2
 generalize rsR exX.net.power = pw at hp1 hf
 generalize Lk.pv ⟨0, 1, 0⟩ = lk at hp1 hf
 have he : decide ([1, -2, 30] = ([1, -2, 30] : List Int)) = true := rfl
 have hs : (exB.toList == exB.toList) = true := beq_self_eq_true _
 have hex := example_ok
 generalize exB = exb at hp1 hf hs hex
 refine fn_okC (C := LC) Tryz.func9 (by kernel_rfl) rfl (by rw [Tryz.ntmps9]; exact of_decide_eq_true rfl) (fun F hF => ?_)
 rw [Tryz.ntmps9] at hF
 rw [Tryz.results9]
 repeat (first
  | ((first | refine hand_fnC (C := LC) LC.below rfl rfl (by decide) rfl rfl rfl hp1 rfl ?_ | refine hand_fnC (C := LC) LC.below rfl rfl (by decide) rfl rfl rfl hf rfl ?_ | refine hand_fnC (C := LC) LC.below rfl rfl (by decide) rfl rfl rfl hp2 rfl ?_ | refine hand_fnC (C := LC) LC.below rfl rfl (by decide) rfl rfl rfl hl rfl ?_ | refine ⟨_, hex, ?_⟩ | refine ⟨_, eqI_ok [1, -2, 30] [1, -2, 30] (by decide), ?_⟩); simp only [go_sem, simprocAttr, hF, he, hs])
  | ((first | with_reducible refine sops_go ?_ | with_reducible refine sops_end ?_ | with_reducible refine awp_ret ?_); simp only [go_sem, simprocAttr, hF, he, hs])
  | with_reducible refine awp_seq_k fun _ _ => ?_
  | (with_reducible refine awp_region [1000014, 1000020, 1000024, 1000029] ?_)
  | go_step)
 all_goals (try rfl)
/- The reference: numerals, lines. -/
theorem txt1 {n : Nat} (h : n < 10) : txtI (n : Int) = ⟨#[UInt8.ofNat (48 + n)]⟩ := by
 unfold txtI
 rw [Lib.itoa_nonneg, Lib.decDigits, dif_pos h]
theorem dec_small {n : Nat} (h : n < 10) : txtI (n : Int) = strOfNums [((48 + n : Nat) : Int)] := by
 rw [txt1 h]
 unfold strOfNums
 simp only [List.map_cons, List.map_nil, Int.toNat_natCast]
theorem dec_big {n : Nat} (h : 10 ≤ n) : txtI (n : Int) = txtI ((n / 10 : Nat) : Int) ++ txtI ((n % 10 : Nat) : Int) := by
 have h1 := txt1 (n := n % 10) (by omega)
 rw [h1]
 unfold txtI
 rw [Lib.itoa_nonneg, Lib.itoa_nonneg, Lib.decDigits, dif_neg (by omega)]
 apply ByteArray.ext
 simp
theorem dec_neg {n : Nat} (h : 1 ≤ n) : txtI (-(n : Int)) = ⟨#[45]⟩ ++ txtI (n : Int) := by
 unfold txtI
 rw [Lib.itoa_neg n h, Lib.itoa_nonneg]
 apply ByteArray.ext
 simp
theorem txtI_size {x : Int} (h : -9223372036854775808 ≤ x ∧ x ≤ 9223372036854775807) : (txtI x).size ≤ 21 := by
 show (Lib.itoa x).toArray.size ≤ 21
 rw [List.size_toArray]
 exact Lib.itoa_length_le x h.1 h.2
theorem ba_ext {a b : ByteArray} (h : a.data.toList = b.data.toList) : a = b := ByteArray.ext (Array.toList_inj.1 h)
theorem ba_app (a b : ByteArray) : (a ++ b).data.toList = a.data.toList ++ b.data.toList := by simp
section
variable {n d : Nat} {σ : St} {o : Oper} {K : St → Prop}
theorem hand_bytes {x : Operand} {S D e : TypeId} {zs : List Int} (ho : o.op = .convert S D x) (hd : o.dst = some d) (hdn : d < n) (hx : evo (Av.look σ.slot) x = some (.sl 1 (zs.map fun z => [.v (.int .u8 z)]))) (hne : zs ≠ []) (hS : Tryz.prog.underlying S = some (.slice e)) (he : Tryz.prog.underlying e = some (.int .u8)) (hD : Tryz.prog.underlying D = some .string)
 (h : K (σ.put d (.v (.string (strOfNums zs))))) : Hand Tryz.prog n σ o K := by
 refine hand_value hd hdn fun F γ a w hF hr => ⟨.v (.string (strOfNums zs)), .string (strOfNums zs), w, σ.ext, ?_, Turn.same hr.exth (fun _ h => h) (fun _ h => .inr h), rfl, fun k hk => (by cases hk), h⟩
 have hrow : (zs.map fun z => [PV.v (.int .u8 z)]) = (zs.map fun z => [Value.int .u8 z]).map fun row => row.map PV.v := by rw [List.map_map]; rfl
 obtain ⟨A, cap, e1, hA⟩ := lies_of_rep (fun p v hp => hr.cell hp) (by decide) (show RepP _ (.sl 1 ((zs.map fun z => [Value.int .u8 z]).map fun row => row.map PV.v)) (a.eval x) from hrow ▸ (evo_ok hr (fun _ _ _ hy => hy) hx).1)
 rw [List.length_map] at e1
 obtain ⟨b, off, rfl, _, hc⟩ := hA (by simpa using hne)
 have hrun := run_convert_bytes_arg (P := Tryz.prog) w S e hS he b off zs.length cap zs rfl (fun i hi => by
  have hz : zs[i]? = some (zs.getD i 0) := by rw [List.getD_eq_getElem?_getD, List.getElem?_eq_getElem hi]; rfl
  have h1 := hc i [Value.int .u8 (zs.getD i 0)] (by rw [List.getElem?_map, hz]; rfl) 0 _ rfl
  simpa using h1) D hD
 simp [execOp, ho, e1, hrun]
end

set_option maxHeartbeats 2000000 in
theorem digN_ok (n : Nat) (hn : n ≤ 1099511627776) : FnOK Tryz.prog 105 [iv (n : Int)] ⟨.v (.string (txtI (n : Int))), none⟩ := by
 induction n using Nat.strongRecOn with
 | _ n ih =>
  have e0 : decide ((n : Int) < 0) = false := decide_eq_false (by omega)
  by_cases h10 : n < 10
  case pos =>
   have e1 : decide ((n : Int) < 10) = true := decide_eq_true (by omega)
   have w1 : IntKind.i64.wrap (48 + (n : Int)) = ((48 + n : Nat) : Int) := by rw [IntKind.wrap_i64]; omega
   have w2 : IntKind.u8.wrap ((48 + n : Nat) : Int) = ((48 + n : Nat) : Int) := by rw [IntKind.wrap_u8]; omega
   rw [dec_small h10]
   refine fn_ok Tryz.func105 (by kernel_rfl) rfl (by rw [Tryz.ntmps105]; exact of_decide_eq_true rfl) (fun F hF => ?_)
   rw [Tryz.ntmps105] at hF
   rw [Tryz.results105]
   repeat (first
    | ((first | with_reducible refine sops_go ?_ | with_reducible refine sops_end ?_ | with_reducible refine awp_if ?_ | with_reducible refine awp_skip ?_); simp only [go_sem, simprocAttr, hF, e0, e1, w1, w2])
    | with_reducible refine awp_seq_k fun _ _ => ?_
    | (with_reducible refine awp_region [1000015] ?_)
    | go_step)
   refine hand_bytes (d := 15) (e := 5) (zs := [((48 + n : Nat) : Int)]) rfl rfl (by decide) ?_ (by simp) Tryz.underlying56 Tryz.underlying5 Tryz.underlying9 ?_
   · simp only [go_sem, simprocAttr, hF]
   simp only [go_sem, simprocAttr, hF]
   repeat (first
    | ((first | with_reducible refine sops_go ?_ | with_reducible refine sops_end ?_ | with_reducible refine awp_ret ?_); simp only [go_sem, simprocAttr, hF])
    | go_step)
   all_goals (try rfl)
  have e1 : decide ((n : Int) < 10) = false := decide_eq_false (by omega)
  have i1 := ih (n / 10) (by omega) (by omega)
  have i2 := ih (n % 10) (by omega) (by omega)
  have q1 : (n : Int).tdiv 10 = ((n / 10 : Nat) : Int) := by rw [Int.tdiv_eq_ediv_of_nonneg (by omega)]; omega
  have q2 : (n : Int).tmod 10 = ((n % 10 : Nat) : Int) := by rw [Int.tmod_eq_emod_of_nonneg (by omega)]; omega
  have w1 : IntKind.i64.wrap ((n / 10 : Nat) : Int) = ((n / 10 : Nat) : Int) := by rw [IntKind.wrap_i64]; omega
  have s1 := txtI_size (x := ((n / 10 : Nat) : Int)) (by omega)
  have s2 := txtI_size (x := ((n % 10 : Nat) : Int)) (by omega)
  have hs : (txtI ((n / 10 : Nat) : Int)).size + (txtI ((n % 10 : Nat) : Int)).size ≤ 9223372036854775807 := by omega
  rw [dec_big (by omega)]
  refine fn_ok Tryz.func105 (by kernel_rfl) rfl (by rw [Tryz.ntmps105]; exact of_decide_eq_true rfl) (fun F hF => ?_)
  rw [Tryz.ntmps105] at hF
  rw [Tryz.results105]
  repeat (first
   | ((first | with_reducible refine sops_go ?_ | with_reducible refine sops_end ?_ | with_reducible refine awp_if ?_ | with_reducible refine awp_skip ?_); simp only [go_sem, simprocAttr, hF, e0, e1, q1, q2, w1])
   | with_reducible refine awp_seq_k fun _ _ => ?_
   | (with_reducible refine awp_region [1000015] ?_)
   | go_step)
  refine ⟨_, i1, ?_⟩
  simp only [go_sem, simprocAttr, hF, e1, q1, q2, w1]
  repeat ((with_reducible refine sops_go ?_; simp only [go_sem, simprocAttr, hF, q1, q2, w1]))
  refine ⟨_, i2, ?_⟩
  simp only [go_sem, simprocAttr, hF, hs]
  repeat (first
   | ((first | with_reducible refine sops_go ?_ | with_reducible refine sops_end ?_ | with_reducible refine awp_ret ?_); simp only [go_sem, simprocAttr, hF, hs])
   | go_step)
  all_goals (try rfl)

set_option maxHeartbeats 2000000 in
theorem dig_ok (x : Int) (h : -1099511627776 ≤ x ∧ x ≤ 1099511627776) : FnOK Tryz.prog 105 [iv x] ⟨.v (.string (txtI x)), none⟩ := by
 by_cases h0 : x < 0
 case neg =>
  have := digN_ok x.toNat (by omega)
  rwa [Int.toNat_of_nonneg (by omega)] at this
 obtain ⟨m, hm⟩ : ∃ m : Nat, x = -(m : Int) := ⟨(-x).toNat, by omega⟩
 subst hm
 have e0 : decide (-(m : Int) < 0) = true := decide_eq_true h0
 have w1 : IntKind.i64.wrap (0 - -(m : Int)) = (m : Int) := by rw [IntKind.wrap_i64]; omega
 have w2 : IntKind.i64.wrap (m : Int) = (m : Int) := by rw [IntKind.wrap_i64]; omega
 have s1 := txtI_size (x := (m : Int)) (by omega)
 have hs : 1 + (txtI (m : Int)).size ≤ 9223372036854775807 := by omega
 have hz : (⟨#[45]⟩ : ByteArray).size = 1 := rfl
 rw [dec_neg (by omega)]
 refine fn_ok Tryz.func105 (by kernel_rfl) rfl (by rw [Tryz.ntmps105]; exact of_decide_eq_true rfl) (fun F hF => ?_)
 rw [Tryz.ntmps105] at hF
 rw [Tryz.results105]
 repeat (first
  | ((first | with_reducible refine sops_go ?_ | with_reducible refine sops_end ?_ | with_reducible refine awp_if ?_); simp only [go_sem, simprocAttr, hF, e0, w1, w2, Int.neg_neg])
  | with_reducible refine awp_seq_k fun _ _ => ?_
  | (with_reducible refine awp_region [1000015] ?_)
  | go_step)
 refine ⟨_, digN_ok m (by omega), ?_⟩
 simp only [go_sem, simprocAttr, hF, hs]
 repeat (first
  | ((first | with_reducible refine sops_go ?_ | with_reducible refine sops_end ?_ | with_reducible refine awp_ret ?_); simp only [go_sem, simprocAttr, hF, hs])
  | go_step)
 all_goals (try rfl)

def rowP (w : ByteArray) (l : List Int) : ByteArray := l.foldl (fun o n => o ++ (⟨#[32]⟩ ++ txtI n)) w
theorem rowP_succ {w : ByteArray} {l : List Int} {k : Nat} {d : Int} (h : l[k]? = some d) : rowP w (l.take (k + 1)) = rowP w (l.take k) ++ (⟨#[32]⟩ ++ txtI d) := by
 unfold rowP
 rw [List.take_add_one, h, Option.toList_some, List.foldl_append]
 rfl
theorem rowP_data (l : List Int) : ∀ w : ByteArray, (rowP w l).data.toList = lineB w l := by
 induction l with
 | nil => intro w; simp [rowP, lineB]
 | cons d l ih =>
  intro w
  have e : rowP w (d :: l) = rowP (w ++ (⟨#[32]⟩ ++ txtI d)) l := rfl
  rw [e, ih]
  unfold lineB txtI
  simp
theorem rowP_size (w : ByteArray) (l : List Int) : (rowP w l).size = (lineB w l).length := by rw [ba_size, rowP_data]
theorem rowP_end (w : ByteArray) (l : List Int) : rowP w l ++ ⟨#[10]⟩ = ⟨(lineB w l ++ [10]).toArray⟩ := by
 apply ba_ext
 rw [ba_app, rowP_data]
theorem far_f {n : Int} (h : farB n = false) : -1099511627776 ≤ n ∧ n ≤ 1099511627776 := by
 unfold farB at h
 rw [Bool.or_eq_false_iff, decide_eq_false_iff_not, decide_eq_false_iff_not] at h
 omega

set_option maxHeartbeats 2000000 in
theorem row_ok (word : ByteArray) (ns : List Int) (hn : ns.any farB = false) (hlen : (lineB word ns).length + 1 ≤ 140737488355328) : FnOK Tryz.prog 62 [.v (.string word), .sl 1 (ns.map fun n => [ip n])] ⟨.v (.string ⟨(lineB word ns ++ [10]).toArray⟩), none⟩ := by
 refine fn_ok Tryz.func62 (by kernel_rfl) rfl (by rw [Tryz.ntmps62]; exact of_decide_eq_true rfl) (fun F hF => ?_)
 rw [Tryz.ntmps62] at hF
 rw [Tryz.results62]
 repeat (first
  | ((first | with_reducible refine sops_go ?_ | with_reducible refine sops_end ?_); simp only [go_sem, simprocAttr, hF])
  | with_reducible (first | refine awp_seq_k fun _ _ => ?_ | refine awp_region [] ?_ | refine awp_block ?_)
  | go_step)
 refine awp_loop_by (ι := {k : Nat // k ≤ ns.length}) (fun k σ => ⟨(5, iv (k.1 : Int)) :: (0, .v (.string (rowP word (ns.take k.1)))) :: keepS [1] σ.slot, σ.box, [], σ.ext⟩) (fun k => ns.length - k.1) ⟨0, Nat.zero_le _⟩ (sub_mk ?_) (fun R hR k => ?_)
 · simp only [go_sem, simprocAttr, hF]
   repeat' (first | rfl | refine ⟨?_, ?_⟩)
 obtain ⟨k, hk⟩ := k
 dsimp only
 simp only [go_sem, simprocAttr, hF]
 have hge := lineB_ge word ns
 by_cases hlt : k < ns.length
 case neg =>
  have hd : decide ((k : Int) < (ns.length : Int)) = false := decide_eq_false (by omega)
  obtain rfl : k = ns.length := by omega
  have hz : ((rowP word ns).size + 1 ≤ 9223372036854775807) = True := eq_true (by rw [rowP_size]; omega)
  rw [List.take_length]
  repeat (first
   | ((first | with_reducible refine sops_go ?_ | with_reducible refine sops_end ?_ | with_reducible refine awp_if ?_ | with_reducible refine awp_ret ?_ | with_reducible refine awp_exit ?_); simp only [go_sem, simprocAttr, hF, hd, hz])
   | with_reducible refine awp_seq_k fun _ _ => ?_
   | (with_reducible refine awp_region [] ?_)
   | go_step)
  rw [← rowP_end]
 obtain ⟨d, hdk⟩ := get_of_lt hlt
 have hd : decide ((k : Int) < (ns.length : Int)) = true := decide_eq_true (by omega)
 have hw : IntKind.i64.wrap ((k : Int) + 1) = ((k + 1 : Nat) : Int) := by rw [IntKind.wrap_i64]; omega
 have hdr := far_f (Bool.eq_false_iff.2 (List.any_eq_false.1 hn d (List.mem_of_getElem? hdk)))
 have hsz := txtI_size (x := d) (by omega)
 have h5 := lineB_len_succ (word := word) hdk
 have h7 : (⟨#[32]⟩ ++ txtI d : ByteArray).size = 1 + (txtI d).size := by rw [ByteArray.size_append]; rfl
 have hz1 : (1 + (txtI d).size ≤ 9223372036854775807) = True := eq_true (by omega)
 have hz2 : ((rowP word (ns.take k)).size + (1 + (txtI d).size) ≤ 9223372036854775807) = True := eq_true (by rw [rowP_size]; omega)
 repeat (first
  | ((first | with_reducible refine sops_go ?_ | with_reducible refine sops_end ?_ | with_reducible refine awp_if ?_ | with_reducible refine awp_skip ?_); simp only [go_sem, simprocAttr, hF, hd, hdk, hz1, hz2])
  | with_reducible (first | refine awp_seq_k fun _ _ => ?_ | refine awp_region [] ?_ | refine awp_block ?_)
  | go_step)
 refine ⟨_, dig_ok d hdr, ?_⟩
 simp only [go_sem, simprocAttr, hF, hd, hdk, hz1, hz2]
 repeat (first
  | ((first | with_reducible refine sops_go ?_ | with_reducible refine sops_end ?_); simp only [go_sem, simprocAttr, hF, hd, hdk, hz1, hz2, hw, h7])
  | (with_reducible refine awp_region [] ?_)
  | go_step)
 refine ⟨⟨k + 1, hlt⟩, by dsimp only; omega, hR _ _ (sub_mk ?_)⟩
 simp only [go_sem, simprocAttr, hF, rowP_succ hdk]

set_option maxHeartbeats 2000000 in
theorem big_ok (ns : List Int) (hl : ns.length ≤ 140737488355328) : FnOK Tryz.prog 61 [.sl 1 (ns.map fun n => [ip n])] ⟨bv (ns.any farB), none⟩ := by
 refine fn_ok Tryz.func61 (by kernel_rfl) rfl (by rw [Tryz.ntmps61]; exact of_decide_eq_true rfl) (fun F hF => ?_)
 rw [Tryz.ntmps61] at hF
 rw [Tryz.results61]
 repeat (first
  | ((first | with_reducible refine sops_go ?_ | with_reducible refine sops_end ?_); simp only [go_sem, simprocAttr, hF])
  | with_reducible (first | refine awp_seq_k fun _ _ => ?_ | refine awp_region [] ?_ | refine awp_block ?_)
  | go_step)
 refine awp_loop_by (ι := {k : Nat // k ≤ ns.length ∧ (ns.take k).any farB = false}) (fun k σ => ⟨(3, iv (k.1 : Int)) :: keepS [0] σ.slot, σ.box, [], σ.ext⟩) (fun k => ns.length - k.1) ⟨0, Nat.zero_le _, rfl⟩ (sub_mk ?_) (fun R hR k => ?_)
 · simp only [go_sem, simprocAttr, hF]
   repeat' (first | rfl | refine ⟨?_, ?_⟩)
 obtain ⟨k, hk, hT⟩ := k
 dsimp only
 simp only [go_sem, simprocAttr, hF]
 by_cases hlt : k < ns.length
 case neg =>
  have hd : decide ((k : Int) < (ns.length : Int)) = false := decide_eq_false (by omega)
  obtain rfl : k = ns.length := by omega
  rw [List.take_length] at hT
  repeat (first
   | ((first | with_reducible refine sops_go ?_ | with_reducible refine sops_end ?_ | with_reducible refine awp_if ?_ | with_reducible refine awp_ret ?_ | with_reducible refine awp_exit ?_); simp only [go_sem, simprocAttr, hF, hd])
   | with_reducible refine awp_seq_k fun _ _ => ?_
   | (with_reducible refine awp_region [] ?_)
   | go_step)
  rw [hT]
 obtain ⟨d, hdk⟩ := get_of_lt hlt
 have hd : decide ((k : Int) < (ns.length : Int)) = true := decide_eq_true (by omega)
 have hw : IntKind.i64.wrap ((k : Int) + 1) = ((k + 1 : Nat) : Int) := by rw [IntKind.wrap_i64]; omega
 have hany : farB d = true → ns.any farB = true := fun h => List.any_eq_true.2 ⟨d, List.mem_of_getElem? hdk, h⟩
 cases hc1 : decide (d < -1099511627776) with
 | true =>
  have hx := hany (by unfold farB; rw [hc1]; rfl)
  repeat (first
   | ((first | with_reducible refine sops_go ?_ | with_reducible refine sops_end ?_ | with_reducible refine awp_if ?_ | with_reducible refine awp_skip ?_ | with_reducible refine awp_ret ?_); simp only [go_sem, simprocAttr, hF, hd, hdk, hc1])
   | with_reducible (first | refine awp_seq_k fun _ _ => ?_ | refine awp_region [] ?_ | refine awp_block ?_)
   | go_step)
  rw [hx]
 | false =>
  cases hc2 : decide (d > 1099511627776) with
  | true =>
   have hx := hany (by unfold farB; rw [hc1, hc2]; rfl)
   repeat (first
    | ((first | with_reducible refine sops_go ?_ | with_reducible refine sops_end ?_ | with_reducible refine awp_if ?_ | with_reducible refine awp_skip ?_ | with_reducible refine awp_ret ?_); simp only [go_sem, simprocAttr, hF, hd, hdk, hc1, hc2])
    | with_reducible (first | refine awp_seq_k fun _ _ => ?_ | refine awp_region [] ?_ | refine awp_block ?_)
    | go_step)
   rw [hx]
  | false =>
   repeat (first
    | ((first | with_reducible refine sops_go ?_ | with_reducible refine sops_end ?_ | with_reducible refine awp_if ?_ | with_reducible refine awp_skip ?_); simp only [go_sem, simprocAttr, hF, hd, hdk, hc1, hc2, hw])
    | with_reducible (first | refine awp_seq_k fun _ _ => ?_ | refine awp_region [] ?_ | refine awp_block ?_)
    | go_step)
   refine ⟨⟨k + 1, hlt, by rw [any_take_succ hdk, hT]; unfold farB; rw [hc1, hc2]; rfl⟩, by dsimp only; omega, hR _ _ (sub_mk ?_)⟩
   simp only [go_sem, simprocAttr, hF]

set_option maxHeartbeats 2000000 in
theorem rflow_ok (q : Fw) : FnOK Tryz.prog 60 [.agg q.pv] ⟨.sl 1 (q.nums.map fun n => [ip n]), none⟩ := by
 refine fn_ok Tryz.func60 (by kernel_rfl) rfl (by rw [Tryz.ntmps60]; exact of_decide_eq_true rfl) (fun F hF => ?_)
 rw [Tryz.ntmps60] at hF
 rw [Tryz.results60]
 repeat (first
  | ((first | with_reducible refine sops_go ?_ | with_reducible refine sops_end ?_ | with_reducible refine awp_ret ?_); simp only [go_sem, simprocAttr, hF, Sc.Fw.nums])
  | with_reducible refine awp_seq_k fun _ _ => ?_
  | (with_reducible refine awp_region [] ?_)
  | go_step)
 all_goals (try rfl)

set_option maxHeartbeats 2000000 in
theorem rcell_ok (q : Ce) : FnOK Tryz.prog 34 [.agg q.pv] ⟨.sl 1 (q.nums.map fun n => [ip n]), none⟩ := by
 refine fn_ok Tryz.func34 (by kernel_rfl) rfl (by rw [Tryz.ntmps34]; exact of_decide_eq_true rfl) (fun F hF => ?_)
 rw [Tryz.ntmps34] at hF
 rw [Tryz.results34]
 repeat (first
  | ((first | with_reducible refine sops_go ?_ | with_reducible refine sops_end ?_ | with_reducible refine awp_ret ?_); simp only [go_sem, simprocAttr, hF, Sc.Ce.nums])
  | with_reducible refine awp_seq_k fun _ _ => ?_
  | (with_reducible refine awp_region [] ?_)
  | go_step)
 all_goals (try rfl)
/- The reference: a line is written. -/
attribute [local go_sem] Av.extSt Av.RetX List.zipIdx List.getD_cons_zero List.getD_cons_succ List.set_cons_succ
/-- The reference's writer at block b. -/
abbrev rfE (b : Nat) (s : ByteArray × Bool) : Ext := rawE 88 b [.string s.1, .bool s.2]
/-- What it holds: bad just if B; if not, this text. -/
structure Gd (T : List UInt8) (B : Bool) (s : ByteArray × Bool) : Prop where
 ok : s.2 = false → B = false ∧ s.1.data.toList = T
 no : s.2 = true → B = true
theorem Gd.size {T : List UInt8} {B : Bool} {s : ByteArray × Bool} (h : Gd T B s) (h2 : s.2 = false) : s.1.size = T.length := by rw [ba_size, (h.ok h2).2]
theorem Gd.bad {T : List UInt8} {B : Bool} {s : ByteArray × Bool} (h2 : s.2 = true) (hB : B = true) : Gd T B s := ⟨fun h => (by rw [h2] at h; cases h), fun _ => hB⟩
/-- The states of which that holds. -/
abbrev GdS (T : List UInt8) (B : Bool) := { s : ByteArray × Bool // Gd T B s }

set_option maxHeartbeats 2000000 in
theorem put_okX (C : World → Prop) (b : Nat) (T : List UInt8) (B : Bool) (s : ByteArray × Bool) (hg : Gd T B s) (word : ByteArray) (ns : List Int) (hlen : T.length + (lineB word ns).length + 1 ≤ 140737488355328) :
 FnX Tryz.prog C 33 [.v (wrP b), .v (.string word), .sl 1 (ns.map fun n => [ip n])] (rfE b s) (.tup []) (fun i : GdS (T ++ lineB word ns ++ [10]) (B || ns.any farB) => rfE b i.1) := by
 refine fn_okX Tryz.func33 (by kernel_rfl) rfl (by rw [Tryz.ntmps33]; exact of_decide_eq_true rfl) (fun F E hF hC => ?_)
 rw [Tryz.ntmps33] at hF
 rw [Tryz.results33]
 simp only [go_sem, simprocAttr, hF]
 cases hs : s.2 with
 | true =>
  repeat (first
   | ((first | refine hand_rawField rfl rfl (by decide) Tryz.underlying88 rfl (m := 0) rfl rfl ?_ | refine hand_rawLoad (dd := .bool) rfl rfl (by decide) rfl rfl rfl Tryz.underlying4 rfl ?_); simp only [go_sem, simprocAttr, hF, hs, Av.sopJ])
   | ((refine hand_rawStore rfl rfl rfl rfl rfl (by dsimp only [List.length_cons]; omega) rfl rfl Tryz.sz4 ?_); simp only [go_sem, simprocAttr, hF, hs, Av.sopJ])
   | ((with_reducible refine sopsJ_go ?_); simp only [go_sem, simprocAttr, hF, hs, Av.sopJ])
   | ((with_reducible refine sopsJ_end ?_); simp only [go_sem, simprocAttr, hF, hs, Av.sopJ])
   | ((first | refine awp_regionJ (id := 0) [1000008, 1000009, 1000016, 1000019, 1000020, 1000026] ?_ | refine awp_regionJ (id := 1) [1000008, 1000009, 1000016, 1000019, 1000020, 1000026] ?_); simp only [go_sem, simprocAttr, hF, hs, Av.sopJ])
   | ((first | with_reducible refine awp_if ?_ | with_reducible refine awp_ret ?_); simp only [go_sem, simprocAttr, hF, hs])
   | with_reducible refine awp_seq_k fun _ _ => ?_
   | go_step)
  exact ⟨⟨(s.1, true), Gd.bad rfl (by rw [hg.no hs]; rfl)⟩, rfl⟩
 | false =>
  obtain ⟨hB, hT⟩ := hg.ok hs
  have hsz := hg.size hs
  repeat (first
   | ((first | refine hand_rawField rfl rfl (by decide) Tryz.underlying88 rfl (m := 0) rfl rfl ?_ | refine hand_rawLoad (dd := .bool) rfl rfl (by decide) rfl rfl rfl Tryz.underlying4 rfl ?_); simp only [go_sem, simprocAttr, hF, hs, Av.sopJ])
   | ((with_reducible refine sopsJ_go ?_); simp only [go_sem, simprocAttr, hF, hs, Av.sopJ])
   | ((refine awp_regionJ (id := 0) [1000008, 1000009, 1000016, 1000019, 1000020, 1000026] ?_); simp only [go_sem, simprocAttr, hF, hs, Av.sopJ])
   | with_reducible refine awp_seq_k fun _ _ => ?_)
  refine ⟨_, big_ok ns (by have := lineB_ge word ns; omega), ?_⟩
  simp only [go_sem, simprocAttr, hF, Av.sopJ]
  cases hf : ns.any farB with
  | true =>
   try simp only [go_sem, simprocAttr, hF, hs, hf, Av.sopJ]
   repeat (first
    | ((refine hand_rawField rfl rfl (by decide) Tryz.underlying88 rfl (m := 0) rfl rfl ?_); simp only [go_sem, simprocAttr, hF, hs, hf, Av.sopJ])
    | ((refine hand_rawStore rfl rfl rfl rfl rfl (by dsimp only [List.length_cons]; omega) rfl rfl Tryz.sz4 ?_); simp only [go_sem, simprocAttr, hF, hs, hf, Av.sopJ])
    | ((with_reducible refine sopsJ_go ?_); simp only [go_sem, simprocAttr, hF, hs, hf, Av.sopJ])
    | ((with_reducible refine sopsJ_end ?_); simp only [go_sem, simprocAttr, hF, hs, hf, Av.sopJ])
    | ((refine awp_regionJ (id := 1) [1000008, 1000009, 1000016, 1000019, 1000020, 1000026] ?_); simp only [go_sem, simprocAttr, hF, hs, hf, Av.sopJ])
    | ((first | with_reducible refine awp_if ?_ | with_reducible refine awp_ret ?_); simp only [go_sem, simprocAttr, hF, hs, hf])
    | with_reducible refine awp_seq_k fun _ _ => ?_
    | go_step)
   exact ⟨⟨(s.1, true), Gd.bad rfl (by rw [hf]; exact Bool.or_true _)⟩, rfl⟩
  | false =>
   have hz : (s.1.size + ((lineB word ns).length + 1) ≤ 9223372036854775807) = True := eq_true (by omega)
   try simp only [go_sem, simprocAttr, hF, hs, hf, Av.sopJ]
   repeat (first
    | ((with_reducible refine sopsJ_go ?_); simp only [go_sem, simprocAttr, hF, hs, hf, hz, Av.sopJ])
    | ((with_reducible refine sopsJ_end ?_); simp only [go_sem, simprocAttr, hF, hs, hf, hz, Av.sopJ])
    | (refine awp_drawJ (id := 2) [1000008, 1000009, 1000016, 1000019, 1000020, 1000026] 10 (by kernel_rfl) (by kernel_rfl) rfl rfl (fun bx0 hbx => ?_); try dsimp only [List.take, List.drop])
    | ((first | refine ⟨_, handq_rawField rfl rfl (by decide) Tryz.underlying88 rfl (m := 0) rfl rfl, rfl, ?_⟩ | refine ⟨_, handq_rawLoad (dd := .string) rfl rfl (by decide) rfl rfl rfl Tryz.underlying9 rfl, rfl, ?_⟩); simp only [go_sem, simprocAttr, hF, hs, hf, hz, hbx])
    | ((with_reducible refine headW_go ?_); simp only [go_sem, simprocAttr, hF, hs, hf, hz, hbx])
    | ((first | with_reducible refine awp_if ?_ | with_reducible refine awp_skip ?_); simp only [go_sem, simprocAttr, hF, hs, hf, hz])
    | go_step)
   refine ⟨_, row_ok word ns hf (by omega), ?_⟩
   simp only [go_sem, simprocAttr, hF, Av.sopJ, hbx, hz]
   repeat (first
    | ((refine hand_rawStore rfl rfl rfl rfl rfl (by dsimp only [List.length_cons]; omega) rfl rfl Tryz.sz4 ?_); simp only [go_sem, simprocAttr, hF, hs, hf, hz, Av.sopJ])
    | ((with_reducible refine sopsJ_end ?_); simp only [go_sem, simprocAttr, hF, hs, hf, hz, Av.sopJ])
    | ((refine ⟨_, handq_rawField rfl rfl (by decide) Tryz.underlying88 rfl (m := 0) rfl rfl, rfl, ?_⟩); simp only [go_sem, simprocAttr, hF, hs, hf, hz, hbx])
    | ((with_reducible refine headW_go ?_); simp only [go_sem, simprocAttr, hF, hs, hf, hz, hbx]))
   refine ⟨⟨(s.1 ++ ⟨(lineB word ns ++ [10]).toArray⟩, false), ⟨fun _ => ⟨by rw [hB, hf]; rfl, ?_⟩, fun h => (by cases h)⟩⟩, rfl⟩
   dsimp only
   rw [ba_app, hT]
   simp only [List.append_assoc]
/- The reference: requests are written. -/
theorem Gd.or {T : List UInt8} {B c : Bool} {s : ByteArray × Bool} (h : Gd T B s) (h2 : s.2 = false) : Gd T (B || c) (s.1, c) :=
 ⟨fun hc => ⟨by rw [(h.ok h2).1]; exact hc, (h.ok h2).2⟩, fun hc => by have hc : c = true := hc; rw [hc]; exact Bool.or_true _⟩
theorem Gd.orT {T : List UInt8} {B c : Bool} {s : ByteArray × Bool} (h : Gd T B s) (h2 : s.2 = true) : Gd T (B || c) (s.1, true) :=
 Gd.bad rfl (by rw [h.no h2]; rfl)
theorem Gd.to {T T' : List UInt8} {B B' : Bool} {s : ByteArray × Bool} (h : Gd T B s) (hT : T = T') (hB : B = B') : Gd T' B' s := by subst hT; subst hB; exact h
theorem any_mono {α : Type} {l : List α} {k : Nat} {p : α → Bool} {B : Bool} (h : (B || (l.take k).any p) = true) : (B || l.any p) = true := by
 rw [Bool.or_eq_true] at h ⊢
 rcases h with h | h
 · exact .inl h
 · right
   rw [List.any_eq_true] at h ⊢
   obtain ⟨x, hx, hp⟩ := h
   exact ⟨x, List.mem_of_mem_take hx, hp⟩
set_option maxHeartbeats 2000000 in
theorem rreq_okX (b : Nat) (T : List UInt8) (B : Bool) (s : ByteArray × Bool) (hg : Gd T B s) (word : ByteArray) (q : List Rq) (hlen : T.length + (txt (reqL word q)).length ≤ 140737488355328) :
 FnX Tryz.prog (fun _ => True) 32 [.v (wrP b), .v (.string word), .sl 7 (q.map Rq.pv)] (rfE b s) (.tup []) (fun i : GdS (T ++ txt (reqL word q)) (B || qsBad q) => rfE b i.1) := by
 refine fn_okX Tryz.func32 (by kernel_rfl) rfl (by rw [Tryz.ntmps32]; exact of_decide_eq_true rfl) (fun F E hF hC => ?_)
 rw [Tryz.ntmps32] at hF
 rw [Tryz.results32]
 simp only [go_sem, simprocAttr, hF]
 (with_reducible refine awp_cut (id := 0) (fun (i : GdS (T) (B || decide ((q.length : Int) > 1024))) σ => ⟨keepS [0, 1, 2] σ.slot, [], [], E.and (rfE b i.1)⟩) ?hx ?hy)
 case hx =>
  intro R hR
  cases hs : s.2 with
  | true =>
   try simp only [go_sem, simprocAttr, hF, hs]
   repeat (first
    | ((first | refine hand_rawField rfl rfl (by decide) Tryz.underlying88 rfl (m := 0) rfl rfl ?_ | refine hand_rawLoad (dd := .bool) rfl rfl (by decide) rfl rfl rfl Tryz.underlying4 rfl ?_); simp only [go_sem, simprocAttr, hF, hs, Av.sopJ])
    | ((refine hand_rawStore rfl rfl rfl rfl rfl (by dsimp only [List.length_cons]; omega) rfl rfl Tryz.sz4 ?_); simp only [go_sem, simprocAttr, hF, hs, Av.sopJ])
    | ((with_reducible refine sopsJ_go ?_); simp only [go_sem, simprocAttr, hF, hs, Av.sopJ])
    | ((with_reducible refine sopsJ_end ?_); simp only [go_sem, simprocAttr, hF, hs, Av.sopJ])
    | ((refine awp_regionJ (id := 0) [1000011, 1000012, 1000019, 1000027, 1000028, 1000041, 1000045, 1000046, 1000057, 1000069, 1000070, 1000099, 1000109] ?_); simp only [go_sem, simprocAttr, hF, hs, Av.sopJ]))
   refine hR ⟨(s.1, true), Gd.orT hg hs⟩ _ (sub_mk ?_)
   simp only [go_sem, simprocAttr, hF]
   all_goals (first | rfl | (repeat' (first | rfl | refine ⟨?_, ?_⟩)))
  | false =>
   try simp only [go_sem, simprocAttr, hF, hs]
   repeat (first
    | ((first | refine hand_rawField rfl rfl (by decide) Tryz.underlying88 rfl (m := 0) rfl rfl ?_ | refine hand_rawLoad (dd := .bool) rfl rfl (by decide) rfl rfl rfl Tryz.underlying4 rfl ?_); simp only [go_sem, simprocAttr, hF, hs, Av.sopJ])
    | ((refine hand_rawStore rfl rfl rfl rfl rfl (by dsimp only [List.length_cons]; omega) rfl rfl Tryz.sz4 ?_); simp only [go_sem, simprocAttr, hF, hs, Av.sopJ])
    | ((with_reducible refine sopsJ_go ?_); simp only [go_sem, simprocAttr, hF, hs, Av.sopJ])
    | ((with_reducible refine sopsJ_end ?_); simp only [go_sem, simprocAttr, hF, hs, Av.sopJ])
    | ((refine awp_regionJ (id := 0) [1000011, 1000012, 1000019, 1000027, 1000028, 1000041, 1000045, 1000046, 1000057, 1000069, 1000070, 1000099, 1000109] ?_); simp only [go_sem, simprocAttr, hF, hs, Av.sopJ]))
   refine hR ⟨(s.1, decide ((q.length : Int) > 1024)), Gd.or hg hs⟩ _ (sub_mk ?_)
   simp only [go_sem, simprocAttr, hF]
   all_goals (first | rfl | (repeat' (first | rfl | refine ⟨?_, ?_⟩)))
 case hy =>
  intro i
  obtain ⟨s0, hg0⟩ := i
  obtain ⟨B0, hB0⟩ : ∃ B0, (B || decide ((q.length : Int) > 1024)) = B0 := ⟨_, rfl⟩
  rw [hB0] at hg0
  dsimp only
  simp only [go_sem, simprocAttr, hF]
  repeat (first
   | ((first | with_reducible refine sops_go ?_ | with_reducible refine sops_end ?_); simp only [go_sem, simprocAttr, hF])
   | with_reducible (first | refine awp_seq_k fun _ _ => ?_ | refine awp_region [1000011, 1000012, 1000019, 1000027, 1000028, 1000041, 1000045, 1000046, 1000057, 1000069, 1000070, 1000099, 1000109] ?_ | refine awp_block ?_)
   | go_step)
  refine awp_loop_by (ι := (k : {k : Nat // k ≤ q.length}) × GdS (T ++ txt (reqL word (q.take k.1))) (B0 || (q.take k.1).any qBad)) (fun i σ => ⟨(6, iv (i.1.1 : Int)) :: keepS [0, 1, 2] σ.slot, σ.box, [], E.and (rfE b i.2.1)⟩) (fun i => q.length - i.1.1) ⟨⟨0, Nat.zero_le _⟩, ⟨s0, hg0.to (by simp [reqL]) (by simp)⟩⟩ (sub_mk ?_) (fun R hR i => ?_)
  · simp only [go_sem, simprocAttr, hF]
    repeat' (first | rfl | refine ⟨?_, ?_⟩)
  obtain ⟨⟨k, hk⟩, ⟨s1, hg1⟩⟩ := i
  dsimp only at hg1
  dsimp only
  simp only [go_sem, simprocAttr, hF]
  by_cases hlt : k < q.length
  case neg =>
   have hd : decide ((k : Int) < (q.length : Int)) = false := decide_eq_false (by omega)
   obtain rfl : k = q.length := by omega
   rw [List.take_length] at hg1
   repeat (first
    | ((first | with_reducible refine sops_go ?_ | with_reducible refine sops_end ?_ | with_reducible refine awp_if ?_ | with_reducible refine awp_exit ?_); simp only [go_sem, simprocAttr, hF, hd])
    | with_reducible refine awp_seq_k fun _ _ => ?_
    | (with_reducible refine awp_region [1000011, 1000012, 1000019, 1000027, 1000028, 1000041, 1000045, 1000046, 1000057, 1000069, 1000070, 1000099, 1000109] ?_)
    | go_step)
   exact ⟨⟨s1, hg1.to rfl (by rw [← hB0, Bool.or_assoc]; rfl)⟩, rfl⟩
  obtain ⟨x, hdk⟩ := get_of_lt hlt
  have hd : decide ((k : Int) < (q.length : Int)) = true := decide_eq_true (by omega)
  cases hs1 : s1.2 with
  | true =>
   repeat (first
    | ((first | refine hand_rawField rfl rfl (by decide) Tryz.underlying88 rfl (m := 0) rfl rfl ?_ | refine hand_rawLoad (dd := .bool) rfl rfl (by decide) rfl rfl rfl Tryz.underlying4 rfl ?_); simp only [go_sem, simprocAttr, hF, hd, hs1])
    | ((first | with_reducible refine sops_go ?_ | with_reducible refine sops_end ?_ | with_reducible refine awp_if ?_ | with_reducible refine awp_exit ?_); simp only [go_sem, simprocAttr, hF, hd, hs1])
    | with_reducible refine awp_seq_k fun _ _ => ?_
    | (with_reducible refine awp_region [1000011, 1000012, 1000019, 1000027, 1000028, 1000041, 1000045, 1000046, 1000057, 1000069, 1000070, 1000099, 1000109] ?_)
    | go_step)
   exact ⟨⟨s1, Gd.bad hs1 (by have := any_mono (hg1.no hs1); rw [← hB0, Bool.or_assoc] at this; exact this)⟩, rfl⟩
  | false =>
   have hm := req_room hdk hlen
   have hge := reqL_ge word q
   have hge2 := rtL_ge x.rs
   have hw : IntKind.i64.wrap ((k : Int) + 1) = ((k + 1 : Nat) : Int) := by rw [IntKind.wrap_i64]; omega
   obtain ⟨T1, hT1⟩ : ∃ T1, T ++ txt (reqL word (q.take k)) = T1 := ⟨_, rfl⟩
   obtain ⟨B1, hB1⟩ : ∃ B1, (B0 || (q.take k).any qBad) = B1 := ⟨_, rfl⟩
   rw [hT1] at hm
   rw [hT1, hB1] at hg1
   have hl1 : T1.length + (lineB word x.f.nums).length + 1 ≤ 140737488355328 := by
    have hm := hm
    rw [reqL1, txt_cons] at hm
    simp only [List.length_append, List.length_cons, List.length_nil] at hm
    omega
   repeat (first
    | ((first | refine hand_rawField rfl rfl (by decide) Tryz.underlying88 rfl (m := 0) rfl rfl ?_ | refine hand_rawLoad (dd := .bool) rfl rfl (by decide) rfl rfl rfl Tryz.underlying4 rfl ?_); simp only [go_sem, simprocAttr, hF, hd, hdk, hs1])
    | ((first | with_reducible refine sops_go ?_ | with_reducible refine sops_end ?_ | with_reducible refine awp_if ?_ | with_reducible refine awp_skip ?_); simp only [go_sem, simprocAttr, hF, hd, hdk, hs1])
    | with_reducible (first | refine awp_seq_k fun _ _ => ?_ | refine awp_region [1000011, 1000012, 1000019, 1000027, 1000028, 1000041, 1000045, 1000046, 1000057, 1000069, 1000070, 1000099, 1000109] ?_ | refine awp_block ?_)
    | go_step)
   refine ⟨_, rflow_ok x.f, ?_⟩
   simp only [go_sem, simprocAttr, hF, hd, hdk, hs1]
   repeat ((with_reducible refine sops_go ?_; simp only [go_sem, simprocAttr, hF, hd, hdk]))
   refine hand_callX (put_okX (fun _ => True) b T1 B1 s1 hg1 word x.f.nums hl1) E rfl (fun _ _ => trivial) rfl rfl (by decide) rfl rfl (fun s2 => ?_)
   obtain ⟨s2, hg2⟩ := s2
   simp only [go_sem, simprocAttr, hF]
   obtain ⟨B2, hB2⟩ : ∃ B2, (B1 || x.f.nums.any farB) = B2 := ⟨_, rfl⟩
   rw [hB2] at hg2
   repeat (first
    | (with_reducible refine awp_cut (id := 5) (fun (i : GdS (T1 ++ lineB word x.f.nums ++ [10]) (B2 || decide ((x.rs.length : Int) > 1024))) σ => ⟨keepS [0, 1, 2, 6] σ.slot, [], [], E.and (rfE b i.1)⟩) ?hx ?hy)
    | (with_reducible refine sops_end ?_; simp only [go_sem, simprocAttr, hF, hdk])
    | go_step)
   case hx =>
    intro R hR
    cases hs : s2.2 with
    | true =>
     try simp only [go_sem, simprocAttr, hF, hdk, hs]
     repeat (first
      | ((first | refine hand_rawField rfl rfl (by decide) Tryz.underlying88 rfl (m := 0) rfl rfl ?_ | refine hand_rawLoad (dd := .bool) rfl rfl (by decide) rfl rfl rfl Tryz.underlying4 rfl ?_); simp only [go_sem, simprocAttr, hF, hdk, hs, Av.sopJ])
      | ((refine hand_rawStore rfl rfl rfl rfl rfl (by dsimp only [List.length_cons]; omega) rfl rfl Tryz.sz4 ?_); simp only [go_sem, simprocAttr, hF, hdk, hs, Av.sopJ])
      | ((with_reducible refine sopsJ_go ?_); simp only [go_sem, simprocAttr, hF, hdk, hs, Av.sopJ])
      | ((with_reducible refine sopsJ_end ?_); simp only [go_sem, simprocAttr, hF, hdk, hs, Av.sopJ])
      | ((refine awp_regionJ (id := 5) [1000011, 1000012, 1000019, 1000027, 1000028, 1000041, 1000045, 1000046, 1000057, 1000069, 1000070, 1000099, 1000109] ?_); simp only [go_sem, simprocAttr, hF, hdk, hs, Av.sopJ]))
     refine hR ⟨(s2.1, true), Gd.orT hg2 hs⟩ _ (sub_mk ?_)
     simp only [go_sem, simprocAttr, hF, hdk]
     all_goals (first | rfl | (repeat' (first | rfl | refine ⟨?_, ?_⟩)))
    | false =>
     try simp only [go_sem, simprocAttr, hF, hdk, hs]
     repeat (first
      | ((first | refine hand_rawField rfl rfl (by decide) Tryz.underlying88 rfl (m := 0) rfl rfl ?_ | refine hand_rawLoad (dd := .bool) rfl rfl (by decide) rfl rfl rfl Tryz.underlying4 rfl ?_); simp only [go_sem, simprocAttr, hF, hdk, hs, Av.sopJ])
      | ((refine hand_rawStore rfl rfl rfl rfl rfl (by dsimp only [List.length_cons]; omega) rfl rfl Tryz.sz4 ?_); simp only [go_sem, simprocAttr, hF, hdk, hs, Av.sopJ])
      | ((with_reducible refine sopsJ_go ?_); simp only [go_sem, simprocAttr, hF, hdk, hs, Av.sopJ])
      | ((with_reducible refine sopsJ_end ?_); simp only [go_sem, simprocAttr, hF, hdk, hs, Av.sopJ])
      | ((refine awp_regionJ (id := 5) [1000011, 1000012, 1000019, 1000027, 1000028, 1000041, 1000045, 1000046, 1000057, 1000069, 1000070, 1000099, 1000109] ?_); simp only [go_sem, simprocAttr, hF, hdk, hs, Av.sopJ]))
     refine hR ⟨(s2.1, decide ((x.rs.length : Int) > 1024)), Gd.or hg2 hs⟩ _ (sub_mk ?_)
     simp only [go_sem, simprocAttr, hF, hdk]
     all_goals (first | rfl | (repeat' (first | rfl | refine ⟨?_, ?_⟩)))
   case hy =>
    intro i
    obtain ⟨s3, hg3⟩ := i
    obtain ⟨B3, hB3⟩ : ∃ B3, (B2 || decide ((x.rs.length : Int) > 1024)) = B3 := ⟨_, rfl⟩
    rw [hB3] at hg3
    dsimp only
    simp only [go_sem, simprocAttr, hF]
    repeat (first
     | ((first | with_reducible refine sops_go ?_ | with_reducible refine sops_end ?_); simp only [go_sem, simprocAttr, hF])
     | with_reducible (first | refine awp_seq_k fun _ _ => ?_ | refine awp_region [1000011, 1000012, 1000019, 1000027, 1000028, 1000041, 1000045, 1000046, 1000057, 1000069, 1000070, 1000099, 1000109] ?_ | refine awp_block ?_)
     | go_step)
    refine awp_loop_by (ι := (j : {j : Nat // j ≤ x.rs.length}) × GdS (T1 ++ txt ((word, x.f.nums) :: rtL (x.rs.take j.1))) (B3 || (x.rs.take j.1).any rtBad)) (fun i σ => ⟨(7, iv (i.1.1 : Int)) :: keepS [0, 1, 2, 6] σ.slot, [], [], E.and (rfE b i.2.1)⟩) (fun i => x.rs.length - i.1.1) ⟨⟨0, Nat.zero_le _⟩, ⟨s3, hg3.to (by simp [rtL, txt_cons]) (by simp)⟩⟩ (sub_mk ?_) (fun R2 hR2 i => ?_)
    · simp only [go_sem, simprocAttr, hF]
      repeat' (first | rfl | refine ⟨?_, ?_⟩)
    obtain ⟨⟨j, hj⟩, ⟨s4, hg4⟩⟩ := i
    dsimp only at hg4
    dsimp only
    simp only [go_sem, simprocAttr, hF]
    have hfin : (B3 || x.rs.any rtBad) = (B0 || (q.take (k + 1)).any qBad) := by
     rw [any_succ hdk, ← Bool.or_assoc, hB1, ← hB3, ← hB2]
     simp only [qBad, Bool.or_assoc]
    by_cases hlj : j < x.rs.length
    case neg =>
     have hd2 : decide ((j : Int) < (x.rs.length : Int)) = false := decide_eq_false (by omega)
     obtain rfl : j = x.rs.length := by omega
     rw [List.take_length] at hg4
     repeat (first
      | ((first | with_reducible refine sops_go ?_ | with_reducible refine sops_end ?_ | with_reducible refine awp_if ?_ | with_reducible refine awp_exit ?_); simp only [go_sem, simprocAttr, hF, hdk, hd2, hw])
      | with_reducible refine awp_seq_k fun _ _ => ?_
      | (with_reducible refine awp_region [1000011, 1000012, 1000019, 1000027, 1000028, 1000041, 1000045, 1000046, 1000057, 1000069, 1000070, 1000099, 1000109] ?_)
      | go_step)
     refine ⟨⟨⟨k + 1, hlt⟩, ⟨s4, hg4.to (by rw [reqL_take_succ hdk, txt_append, ← List.append_assoc, hT1]; rfl) hfin⟩⟩, by dsimp only; omega, hR _ _ (sub_mk ?_)⟩
     simp only [go_sem, simprocAttr, hF]
    obtain ⟨r, hdj⟩ := get_of_lt hlj
    have hd2 : decide ((j : Int) < (x.rs.length : Int)) = true := decide_eq_true (by omega)
    cases hs4 : s4.2 with
    | true =>
     repeat (first
      | ((first | refine hand_rawField rfl rfl (by decide) Tryz.underlying88 rfl (m := 0) rfl rfl ?_ | refine hand_rawLoad (dd := .bool) rfl rfl (by decide) rfl rfl rfl Tryz.underlying4 rfl ?_); simp only [go_sem, simprocAttr, hF, hdk, hd2, hs4, hw])
      | ((first | with_reducible refine sops_go ?_ | with_reducible refine sops_end ?_ | with_reducible refine awp_if ?_ | with_reducible refine awp_exit ?_); simp only [go_sem, simprocAttr, hF, hdk, hd2, hs4, hw])
      | with_reducible refine awp_seq_k fun _ _ => ?_
      | (with_reducible refine awp_region [1000011, 1000012, 1000019, 1000027, 1000028, 1000041, 1000045, 1000046, 1000057, 1000069, 1000070, 1000099, 1000109] ?_)
      | go_step)
     refine ⟨⟨⟨k + 1, hlt⟩, ⟨s4, Gd.bad hs4 (by rw [← hfin]; exact any_mono (hg4.no hs4))⟩⟩, by dsimp only; omega, hR _ _ (sub_mk ?_)⟩
     simp only [go_sem, simprocAttr, hF]
    | false =>
     have hw2 : IntKind.i64.wrap ((j : Int) + 1) = ((j + 1 : Nat) : Int) := by rw [IntKind.wrap_i64]; have hm3 := hm; rw [reqL1, txt_cons, List.length_append] at hm3; omega
     have hm2 := rt_room hdj hm
     obtain ⟨T2, hT2⟩ : ∃ T2, T1 ++ txt ((word, x.f.nums) :: rtL (x.rs.take j)) = T2 := ⟨_, rfl⟩
     obtain ⟨B4, hB4⟩ : ∃ B4, (B3 || (x.rs.take j).any rtBad) = B4 := ⟨_, rfl⟩
     rw [hT2] at hm2
     rw [hT2, hB4] at hg4
     have hB40 := (hg4.ok hs4).1
     repeat (first
      | (with_reducible refine awp_cut (id := 9) (fun (i : GdS T2 (B4 || ((r.length : Int) == 0) || decide ((r.length : Int) > 1024))) σ => ⟨keepS [0, 1, 2, 6, 7] σ.slot, [], [], E.and (rfE b i.1)⟩) ?hx ?hy)
      | ((first | refine hand_rawField rfl rfl (by decide) Tryz.underlying88 rfl (m := 0) rfl rfl ?_ | refine hand_rawLoad (dd := .bool) rfl rfl (by decide) rfl rfl rfl Tryz.underlying4 rfl ?_); simp only [go_sem, simprocAttr, hF, hdk, hd2, hs4, hdj])
      | ((first | with_reducible refine sops_go ?_ | with_reducible refine sops_end ?_ | with_reducible refine awp_if ?_ | with_reducible refine awp_skip ?_); simp only [go_sem, simprocAttr, hF, hdk, hd2, hs4, hdj])
      | with_reducible (first | refine awp_seq_k fun _ _ => ?_ | refine awp_region [1000011, 1000012, 1000019, 1000027, 1000028, 1000041, 1000045, 1000046, 1000057, 1000069, 1000070, 1000099, 1000109] ?_ | refine awp_block ?_)
      | go_step)
     case hx =>
      intro R hR
      cases hc : ((r.length : Int) == 0) with
      | true =>
       try simp only [go_sem, simprocAttr, hF, hdk, hd2, hs4, hdj, hc]
       repeat (first
        | ((refine hand_rawField rfl rfl (by decide) Tryz.underlying88 rfl (m := 0) rfl rfl ?_); simp only [go_sem, simprocAttr, hF, hdk, hd2, hs4, hdj, hc, Av.sopJ])
        | ((refine hand_rawStore rfl rfl rfl rfl rfl (by dsimp only [List.length_cons]; omega) rfl rfl Tryz.sz4 ?_); simp only [go_sem, simprocAttr, hF, hdk, hd2, hs4, hdj, hc, Av.sopJ])
        | ((with_reducible refine sopsJ_go ?_); simp only [go_sem, simprocAttr, hF, hdk, hd2, hs4, hdj, hc, Av.sopJ])
        | ((with_reducible refine sopsJ_end ?_); simp only [go_sem, simprocAttr, hF, hdk, hd2, hs4, hdj, hc, Av.sopJ])
        | ((refine awp_regionJ (id := 9) [1000011, 1000012, 1000019, 1000027, 1000028, 1000041, 1000045, 1000046, 1000057, 1000069, 1000070, 1000099, 1000109] ?_); simp only [go_sem, simprocAttr, hF, hdk, hd2, hs4, hdj, hc, Av.sopJ]))
       refine hR ⟨(s4.1, true), Gd.bad rfl (by rw [hc, Bool.or_true]; rfl)⟩ _ (sub_mk ?_)
       simp only [go_sem, simprocAttr, hF, hdk, hd2, hs4, hdj]
       all_goals (first | rfl | (repeat' (first | rfl | refine ⟨?_, ?_⟩)))
      | false =>
       try simp only [go_sem, simprocAttr, hF, hdk, hd2, hs4, hdj, hc]
       repeat (first
        | ((refine hand_rawField rfl rfl (by decide) Tryz.underlying88 rfl (m := 0) rfl rfl ?_); simp only [go_sem, simprocAttr, hF, hdk, hd2, hs4, hdj, hc, Av.sopJ])
        | ((refine hand_rawStore rfl rfl rfl rfl rfl (by dsimp only [List.length_cons]; omega) rfl rfl Tryz.sz4 ?_); simp only [go_sem, simprocAttr, hF, hdk, hd2, hs4, hdj, hc, Av.sopJ])
        | ((with_reducible refine sopsJ_go ?_); simp only [go_sem, simprocAttr, hF, hdk, hd2, hs4, hdj, hc, Av.sopJ])
        | ((with_reducible refine sopsJ_end ?_); simp only [go_sem, simprocAttr, hF, hdk, hd2, hs4, hdj, hc, Av.sopJ])
        | ((refine awp_regionJ (id := 9) [1000011, 1000012, 1000019, 1000027, 1000028, 1000041, 1000045, 1000046, 1000057, 1000069, 1000070, 1000099, 1000109] ?_); simp only [go_sem, simprocAttr, hF, hdk, hd2, hs4, hdj, hc, Av.sopJ]))
       refine hR ⟨(s4.1, decide ((r.length : Int) > 1024)), by rw [hc, Bool.or_false]; exact hg4.or hs4⟩ _ (sub_mk ?_)
       simp only [go_sem, simprocAttr, hF, hdk, hd2, hs4, hdj]
       all_goals (first | rfl | (repeat' (first | rfl | refine ⟨?_, ?_⟩)))
     case hy =>
      intro i
      obtain ⟨s5, hg5⟩ := i
      dsimp only
      simp only [go_sem, simprocAttr, hF]
      repeat (first
       | (with_reducible refine sops_go ?_; simp only [go_sem, simprocAttr, hF, hdk, hdj])
       | (with_reducible refine awp_region [1000011, 1000012, 1000019, 1000027, 1000028, 1000041, 1000045, 1000046, 1000057, 1000069, 1000070, 1000099, 1000109] ?_))
      refine hand_callX (put_okX (fun _ => True) b T2 _ s5 hg5 wRoute r hm2) E rfl (fun _ _ => trivial) rfl rfl (by decide) rfl rfl (fun s6 => ?_)
      obtain ⟨s6, hg6⟩ := s6
      simp only [go_sem, simprocAttr, hF]
      repeat (first
       | ((first | with_reducible refine sops_go ?_ | with_reducible refine sops_end ?_); simp only [go_sem, simprocAttr, hF, hw2])
       | (with_reducible refine awp_region [1000011, 1000012, 1000019, 1000027, 1000028, 1000041, 1000045, 1000046, 1000057, 1000069, 1000070, 1000099, 1000109] ?_)
       | go_step)
      refine ⟨⟨⟨j + 1, hlj⟩, ⟨s6, hg6.to (by rw [rt_succ hdj, ← List.append_assoc, hT2]; simp only [List.append_assoc]) (by rw [any_succ hdj, ← Bool.or_assoc, hB4]; simp only [rtBad, Bool.or_assoc])⟩⟩, by dsimp only; omega, hR2 _ _ (sub_mk ?_)⟩
      simp only [go_sem, simprocAttr, hF]
end Go.Proofs.YtcloigoajohppaaGreatDoor

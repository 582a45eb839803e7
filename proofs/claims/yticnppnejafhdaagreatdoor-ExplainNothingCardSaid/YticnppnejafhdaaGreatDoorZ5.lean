import Derived.Lib.SliceRun
import Derived.Lib.LaidTab
import Derived.Shelf.LaysM
import Derived.Shelf.Strings.OnBuilder
import Derived.Shelf.Strconv.Itoa3
import Derived.Lib.ItoaLen
import Derived.Lib.Join
import Derived.WalkKit
import Derived.ProofKit
import Derived.OpenShut
import Derived.Carry
import Derived.ChangeSame
import Derived.Deep.Slices
import Derived.LaidMore
import Derived.Stop.Joined
import Derived.Below
import Derived.Test.YticnppnejafhdaaGreatDoorZ4
import Derived.Test.YticnppnejafhdaaGreatDoorProg
import Derived.Test.YticnppnejafhdaaGreatDoorRows
set_option linter.unusedVariables false
set_option linter.unusedSimpArgs false
/- A list that the frame holds alone: cloned, and written by index: by hand. -/
namespace Go.Proofs.YticnppnejafhdaaGreatDoor
open Go.RowKit
open Nd Rc Mo
open Av
theorem flatA_one (l : List Att) : ∀ u ∈ flatA l, u.oneCell' = true := fun u hu => by
  obtain ⟨a, _, h⟩ := List.mem_flatMap.1 hu
  simp only [Att.row, List.mem_cons, List.not_mem_nil, or_false] at h
  rcases h with rfl | rfl | rfl | rfl | rfl | rfl | rfl | rfl <;> rfl

set_option maxRecDepth 100000 in
set_option maxHeartbeats 4000000 in
theorem cloneA_any (l : List Att) (A : Option Addr) (c : Nat) (w : World) (hA : LiesA w w.heap.size A l) (hl : l.length ≤ 1000000) (hnil : A = none → l = []) :
    Calls Tryz.prog 26 #[.slice A l.length c] w fun e w' => Below w.heap.size w w' ∧ ∃ v, e = .returned v ∧ w'.ownsRow w.heap.size 66 8 v l.length (flatA l) := by
  obtain ⟨i0, hi, hz0, hz1, hz2⟩ := info_parts Tryz.infoAtt
  have hsn := fun (W : World) (a : Option Addr) (n k : Nat) => Lib.run_eql_slice_nil (P := Tryz.prog) W 30 66 a n k 0 0 Tryz.underlying30
  cases A with
  | none =>
    have h0 := hnil rfl
    subst h0
    go_enter Tryz.func26, Tryz.ntmps26
    go_wp2_with fail
    go_ret
    exact ⟨Below.refl _ _, _, rfl, World.ownsRow_nil _ _ _ _⟩
  | some ad =>
    obtain ⟨n, hn⟩ : ∃ n, n = l.length := ⟨_, rfl⟩
    rw [← hn] at hl ⊢
    have hfl : Hid ((flatA l).length = n * 8) := Lib.hid (by rw [hn]; exact flat_len (f := Att.row) row_len_A l)
    have hnews : Hid (∀ (o : Obj) j u, (flatA l)[j]? = some u → (w.alloc o).cell? (ad.add j) = some u) := Lib.hid fun o => Lies.news (f := Att.row) row_len_A (by decide) (w := w.alloc o) (hA.below ((Below.refl _ _).alloc (Nat.le_refl _) _))
    have HN := Lib.hid hn
    clear hn hA hnil
    have hown : Hid ((w.alloc (.cells #[] 66)).ownsRow w.heap.size 66 8 (.slice (some ⟨w.heap.size, 0, none⟩) 0 0) 0 []) := Lib.hid ⟨rfl, .inr ⟨w.heap.size, 0, #[], rfl, Nat.le_refl _, heap_alloc_new w _, Nat.le_refl _, by unfold maxLen; omega, rfl, rfl⟩⟩
    go_enter Tryz.func26, Tryz.ntmps26
    go_wp2_with (at_builtin; refine wpList_append_own_at _ rfl (.tmp 5) (.tmp 6) 30 rfl w.heap.size 66 i0 (.agg #[.int .i64 0, .int .i64 0, .int .i64 0, .int .i64 0, .int .i64 0, .int .i64 0, .int .i64 0, .int .i64 0]) 8 64 Tryz.underlying30 hi hz0 hz1 hz2 rfl (by decide) (.slice (some ⟨w.heap.size, 0, none⟩) 0 0) 0 [] rfl hown.out ad n c (flatA l) rfl hfl.out (hnews.out _) (flatA_one l) ?e2 ?e3 ?e4 ?_)
    case e2 => unfold maxLen; omega
    case e3 => omega
    case e4 => simp
    intro v3 w3 ho3 hg3 hnil3 hat3
    have hb3 : Below w.heap.size w w3 := ((Below.refl _ _).alloc (Nat.le_refl _) _).grown hg3 (by simp) (by intro g hg; simp [Value.ownBlock] at hg; omega)
    have ho : w3.ownsRow w.heap.size 66 8 v3 n (flatA l) := by simpa using ho3
    clear hnil3 hat3 hg3 ho3
    go_wp2_with fail
    go_ret
    exact ⟨hb3, v3, rfl, ho⟩

theorem own_cell {w : World} {base : Nat} {e : TypeId} {sz g n c : Nat} {xs : List Value} (h : w.ownsRow base e sz (.slice (some ⟨g, 0, none⟩) n c) n xs) {j : Nat} {x : Value} (hx : xs[j]? = some x) : w.cell? ⟨g, j, none⟩ = some x := by
  rcases h.2 with ⟨h1, _⟩ | ⟨g', cap, cur, h1, _, hg, _, _, _, ht⟩
  · cases h1
  · cases h1
    rw [← ht, List.getElem?_take] at hx
    split at hx
    · rw [cell_of_row w g j cur e (0, 0) hg, ← Array.getElem?_toList]
      exact hx
    · cases hx
theorem own_write {w : World} {base : Nat} {e : TypeId} {sz g n c : Nat} {xs : List Value} (h : w.ownsRow base e sz (.slice (some ⟨g, 0, none⟩) n c) n xs) (j : Nat) (x : Value) : (w.setCell ⟨g, j, none⟩ x).ownsRow base e sz (.slice (some ⟨g, 0, none⟩) n c) n (xs.set j x) := by
  obtain ⟨h0, h⟩ := h
  rcases h with ⟨h1, _⟩ | ⟨g', cap, cur, h1, hb, hg, h2, h3, h4, ht⟩
  · cases h1
  · cases h1
    refine ⟨by rw [List.length_set]; exact h0, .inr ⟨g, c, cur.setIfInBounds j x, rfl, hb, heap_setCell_same w g j cur e x hg, h2, h3, by rw [Array.size_setIfInBounds]; exact h4, ?_⟩⟩
    rw [Array.toList_setIfInBounds, List.take_set, ht]
namespace Av
section
variable {n d : Nat} {σ : St} {o : Oper} {K : St → Prop}
/-- A clone of attempts, as a list that nothing else reads. -/
theorem hand_clone {x : Operand} {ats : Array TypeId} (l : List Att) (hl : l.length ≤ 1000000) (ho : o.op = .call { callee := .value (.func 26), args := #[x], argTypes := ats }) (hd : o.dst = some d) (hdn : d < n)
    (hx : evo (look σ.slot) x = some (.sl 8 (l.map Att.pv)))
    (h : ∀ A c, (l = [] ∨ ∃ g, A = some ⟨g, 0, none⟩) → K (({ σ with ext := σ.ext.and (ownE 66 8 (.slice A l.length c) l.length (flatA l)) } : St).put d (.v (.slice A l.length c)))) : Hand Tryz.prog n σ o K := by
  refine hand_call hd fun F γ a w hF hr => ?_
  obtain ⟨A, c, e1, hA⟩ := lies_of_rep (fun p v hp => hr.cell hp) (by decide) (show RepP _ (.sl 8 ((l.map Att.row).map fun row => row.map PV.v)) (a.eval x) from att_pv l ▸ (evo_ok hr (fun _ _ _ hy => hy) hx).1)
  rw [List.length_map] at e1
  refine ⟨26, #[a.eval x], ?_, ?_⟩
  · have henter : Enters Tryz.prog 26 := ⟨Tryz.f26, _, Tryz.func26, by kernel_rfl, rfl⟩
    have hf : a.eval (.func 26) = .func (.func 26) #[] #[] := rfl
    simp [execOp, ho, resolve, hf, Deferred.ofValue, invoke, run_callFunc henter]
  rw [e1]
  refine (cloneA_any l A c w hA hl (fun hn => ?_)).mono ?_
  · cases l with
    | nil => rfl
    | cons y l =>
      obtain ⟨b, off, e, _⟩ := hA (by simp)
      rw [hn] at e
      cases e
  rintro e w1 ⟨hb, va, rfl, hown⟩
  have hlow := own_low hown
  obtain ⟨A', c', rfl, hA'⟩ : ∃ A' c', va = .slice A' l.length c' ∧ (l = [] ∨ ∃ g, A' = some ⟨g, 0, none⟩) := by
    rcases hown.2 with ⟨h1, h2⟩ | ⟨g, cap, cur, h1, _⟩
    · exact ⟨none, 0, by rw [h1, h2], .inl (List.eq_nil_of_length_eq_zero h2)⟩
    · exact ⟨_, _, h1, .inr ⟨g, rfl⟩⟩
  refine ⟨_, _, γ, rfl, h A' c' hA', (hr.turn (Turn.more (fun b hb => (hr.extf b hb).2.1) hr.exth (Turn.below (E := ownE 66 8 (.slice A' l.length c') l.length (flatA l)) hb hlow (fun b hb' => .inr ?_) (fun b (hf : False) => hf.elim)))).put (by rw [hF]; exact hdn) rfl (fun k hk => by cases hk)⟩
  rcases hown.2 with ⟨h1, _⟩ | ⟨g, cap, cur, h1, hg, hh, _⟩
  · injection h1 with q1 _ _
    rw [q1] at hb'
    cases hb'
  · cases h1
    simp only [ownE, Value.ownBlock, Option.some.injEq] at hb'
    subst hb'
    exact ⟨hg, (Array.getElem?_eq_some_iff.1 hh).1⟩
/-- A row's address. -/
theorem hand_at {P : Program} {T e : TypeId} {x ix : Operand} {g c m sz i : Nat} (ho : o.op = .indexAddr T x ix) (hd : o.dst = some d) (hdn : d < n) (hx : evo (look σ.slot) x = some (.v (.slice (some ⟨g, 0, none⟩) m c))) (hi : evo (look σ.slot) ix = some (iv (i : Int))) (him : i < m)
    (hu : P.underlying T = some (.slice e)) (hs : (P.info? e).map (·.size) = some sz) (h : K (σ.put d (.v (.pointer (some ⟨g, i * sz, none⟩))))) : Hand P n σ o K := by
  refine hand_value hd hdn fun F γ a w hF hr => ⟨.v (.pointer (some ⟨g, i * sz, none⟩)), _, w, σ.ext, ?_, Turn.same hr.exth (fun _ h => h) (fun _ h => .inr h), rfl, (fun k hk => by cases hk), h⟩
  have e1 := eval_raw hr hx
  have e2 : a.eval ix = .int .i64 (i : Int) := eval_raw hr hi
  obtain ⟨j, hj, hs⟩ := info_some hs
  simp [execOp, ho, e1, e2, Instr.indexAt, run_underlying hu, asIntOf, him, sizeOf, typeInfo, hj, hs, Addr.add_lit]
/-- A field's address. -/
theorem hand_fieldAt {P : Program} {T : TypeId} {x : Operand} {g q i m : Nat} {fs : Array Field} {f : Field} (ho : o.op = .fieldAddr T x i) (hd : o.dst = some d) (hdn : d < n) (hx : evo (look σ.slot) x = some (.v (.pointer (some ⟨g, q, none⟩)))) (hu : P.underlying T = some (.struct fs)) (hf : fs[i]? = some f) (hs : (P.info? f.type).map (·.size) = some (m + 1))
    (h : K (σ.put d (.v (.pointer (some ⟨g, q + f.offset, none⟩))))) : Hand P n σ o K := by
  refine hand_value hd hdn fun F γ a w hF hr => ⟨.v (.pointer (some ⟨g, q + f.offset, none⟩)), _, w, σ.ext, ?_, Turn.same hr.exth (fun _ h => h) (fun _ h => .inr h), rfl, (fun k hk => by cases hk), h⟩
  have e1 := eval_raw hr hx
  simp [execOp, ho, e1, run_field_at w T fs f i m g q hu hf hs]
/-- A row is loaded. -/
theorem hand_row {x : Operand} {l : List Att} {E0 : Ext} {g c i nn : Nat} {y : Att} {dd : TypeDesc} (ho : o.op = .load 66 x) (hd : o.dst = some d) (hdn : d < n) (hE : σ.ext = E0.and (ownE 66 8 (.slice (some ⟨g, 0, none⟩) nn c) nn (flatA l)))
    (hx : evo (look σ.slot) x = some (.v (.pointer (some ⟨g, i * 8, none⟩)))) (hi : l[i]? = some y) (hu : Tryz.prog.underlying 66 = some dd) (hdd : dd.isRow = true) (hs : (Tryz.prog.info? 66).map (·.size) = some 8) (h : K (σ.put d (.agg y.pv))) : Hand Tryz.prog n σ o K := by
  refine hand_value hd hdn fun F γ a w hF hr => ⟨.agg y.pv, .agg y.row.toArray, w, σ.ext, ?_, Turn.same hr.exth (fun _ h => h) (fun _ h => .inr h), ⟨y.row, rfl, rep_of_ints (xs := y.row) (by intro u hu; simp only [Att.row, List.mem_cons, List.not_mem_nil, or_false] at hu; rcases hu with rfl | rfl | rfl | rfl | rfl | rfl | rfl | rfl <;> rfl)⟩, (fun k hk => by cases hk), h⟩
  have e1 := eval_raw hr hx
  have hext := hr.exth
  rw [hE] at hext
  have hrun := run_loadAt_mid (P := Tryz.prog) w g (i * 8) 66 y.row dd (fun j v hv => own_cell hext.2.1 (by
    have hj : j < 8 := (List.getElem?_eq_some_iff.1 hv).1
    rw [← hv]
    exact flat_get Att.row 8 row_len_A l i j y hi hj)) hu hdd hs
  simp [execOp, ho, e1, hrun]
/-- A row's last cell is written. -/
theorem hand_put {x v : Operand} {T : TypeId} {l : List Att} {E0 : Ext} {g c i nn : Nat} {u : Int} {y : Att} (ho : o.op = .store T x v) (hd : o.dst = none) (hE : σ.ext = E0.and (ownE 66 8 (.slice (some ⟨g, 0, none⟩) nn c) nn (flatA l)))
    (hx : evo (look σ.slot) x = some (.v (.pointer (some ⟨g, i * 8 + 7, none⟩)))) (hv : evo (look σ.slot) v = some (iv u)) (hs : (Tryz.prog.info? T).map (·.size) = some 1) (hi : l[i]? = some y)
    (h : K { σ with ext := E0.and (ownE 66 8 (.slice (some ⟨g, 0, none⟩) nn c) nn (flatA (l.set i { y with o := u }))) }) : Hand Tryz.prog n σ o K := by
  refine hand_skip hd fun F γ a w hF hr => ?_
  have e1 := eval_raw hr hx
  have e2 : a.eval v = .int .i64 u := eval_raw hr hv
  have hext := hr.exth
  rw [hE] at hext
  have hown := hext.2.1
  have hcell : w.cell? ⟨g, i * 8 + 7, none⟩ = some (.int .i64 y.o) := own_cell hown (by show (l.flatMap Att.row)[i * 8 + 7]? = _; rw [flat_get Att.row 8 row_len_A l i 7 y hi (by decide)]; rfl)
  obtain ⟨cur, hg⟩ : ∃ cur, w.heap[g]? = some (.cells cur 66 (0, 0)) := by
    rcases hown.2 with ⟨h1, _⟩ | ⟨g', cap, cur, h1, _, hg, _⟩
    · cases h1
    · cases h1
      exact ⟨cur, hg⟩
  obtain ⟨r1, r2, r3, r4⟩ := setCells_rest g [Value.int .i64 u] (i * 8 + 7) w
  refine ⟨w.setCells g (i * 8 + 7) [.int .i64 u], _, ?_, ?_, h⟩
  · obtain ⟨j, hj, hs⟩ := info_some hs
    have hst := run_storeCells_cells (P := Tryz.prog) g (i * 8 + 7) [Value.int .i64 u] 0 w (fun j hj => by
        obtain rfl : j = 0 := by simpa using hj
        rw [Nat.add_zero, Nat.add_zero, hcell]
        rfl) (fun j hj => by
        unfold World.frozen?
        rw [show (⟨g, i * 8 + 7 + 0 + j, none⟩ : Addr).block = g from rfl, hg]
        simp) (by intro z hz; rw [List.mem_singleton.1 hz]; rfl)
    simp only [Nat.add_zero] at hst
    simp [execOp, ho, e1, e2, Instr.storeAt, Instr.sureAddr, storeVar, sizeOf, typeInfo, hj, hs, Value.cells, hst]
  · rw [hE]
    refine Turn.right (fun b hb => (hr.extf b (by rw [hE]; exact hb.elim (fun h => .inl (.inl h)) (fun h => .inr (.inl h)))).2.1) hext ⟨r1, r2, r3, Nat.le_of_eq r4.symm, fun k hk hn => setCells_other g _ _ _ k (fun e => hn (by rw [e]; rfl)), ?_, fun b hb => .inl hb, fun b hb => hb.elim, fun _ h => h⟩
    rw [flatA_put u hi]
    exact own_write hown _ _
/-- A list that was held alone becomes a datum. -/
theorem awp_read {F : Fr} {P : Program} {cd : Code} {Q : AX → St → Prop} {k off : Nat} {cs : List PV} {E0 : Ext} {nn : Nat} {V : Value} (l : List Att) (hn : l.length = nn) (hk : look σ.box k = some cs) (hE : σ.ext = E0.and (ownE 66 8 V nn (flatA l))) (hc : cs[off]? = some (.v V))
    (h : AWp P F cd Q { slot := σ.slot, box := (k, cs.set off (.sl 8 (l.map Att.pv))) :: σ.box, own := [], ext := E0 }) : AWp P F cd Q σ := fun γ a w hr => by
  subst hn
  have hext := hr.exth
  rw [hE] at hext
  obtain ⟨h0, hown, hdis⟩ := hext
  have hfoot : ∀ b, V.ownBlock = some b → F.w0.heap.size ≤ b ∧ b < w.heap.size ∧ (∀ k, (look σ.box k).isSome → γ.bx k ≠ b) ∧ (∀ L, (lookL σ.own L).isSome → γ.rw L ≠ some b) := fun b hb => hr.extf b (.inl (by rw [hE]; exact .inr hb))
  have hr1 := hr.turn (E := E0) (Turn.same h0 (fun b hb => by rw [hE]; exact .inl hb) (fun b hb => by rw [hE]; exact .inr (.inl hb)) (fun w0 h => by rw [hE] at h; exact h.1))
  obtain ⟨us, ty, h1, h2, h3⟩ := hr1.boxes k cs hk
  obtain ⟨u, hu, hp⟩ := h3.get hc
  obtain rfl : u = V := by cases hp; rfl
  have hlen : l.length = (l.map Att.row).length := (List.length_map _).symm
  have hfl : flatA l = (l.map Att.row).flatten := by unfold flatA; rw [List.flatMap_def]
  rw [hlen, hfl] at hown
  have hrep : RepP (rdr F.R0 F.w0.heap.size { σ with ext := E0 } γ w) (.sl 8 (l.map Att.pv)) u := by
    rw [att_pv]
    refine own_repR hown (fun row hr => by obtain ⟨x, _, rfl⟩ := List.mem_map.1 hr; rfl) (fun row hr x hx => by obtain ⟨y, _, rfl⟩ := List.mem_map.1 hr; simp only [Att.row, List.mem_cons, List.not_mem_nil, or_false] at hx; rcases hx with rfl | rfl | rfl | rfl | rfl | rfl | rfl | rfl <;> rfl) (fun g hgb q x hq hcx => ?_)
    obtain ⟨f1, f2, f3, f4⟩ := hfoot g hgb
    unfold rdr
    rw [if_neg (by omega), if_neg]
    · exact hcx
    · rintro (⟨k, cs, hk, hpk⟩ | ⟨L, e, sz, rows, q1, q2, q3, q4⟩ | hx)
      · exact f3 k (by rw [show look σ.box k = some cs from hk]; rfl) (by rw [← hpk, hq])
      · exact f4 L (by rw [show lookL σ.own L = some (e, sz) from q1]; rfl) (by rw [q3, hq])
      · exact hdis g (.inl (by rw [← hq]; exact hx)) (.inl hgb)
  have hset : us.set off u = us := by
    obtain ⟨g1, g2⟩ := List.getElem?_eq_some_iff.1 hu
    rw [← g2, List.set_getElem_self]
  have h4 := h3.set hrep off
  rw [hset] at h4
  exact h γ a w (hr1.rebox (own' := []) hk h1 h1 (fun _ _ => rfl) rfl rfl rfl rfl h4 (fun L x hL => by cases hL))
/-- One operation, a store by hand. -/
def sopH (P : Program) (n : Nat) (st : List Nat) (σ : St) (o : Oper) (K : St → Prop) : Prop :=
  match o.op, o.dst with
  | .store _ _ _, none => Hand P n σ o K
  | _, _ => sop P n st σ o K
def sopsH (P : Program) (n : Nat) (st : List Nat) (ops : Array Oper) : List Oper → St → (St → Prop) → Prop
  | [], σ, K => K σ
  | o :: l, σ, K => match guardB ops (look σ.slot) o with
    | some true => sopH P n st σ o fun σ' => sopsH P n st ops l σ' K
    | some false => ∃ d, o.dst = some d ∧ d < n ∧ sopsH P n st ops l (σ.put d (.v undef)) K
    | none => False
theorem sopsH_go {P : Program} {st : List Nat} {ops : Array Oper} {l : List Oper} {K : St → Prop} (h : match guardB ops (look σ.slot) o with
    | some true => sopH P n st σ o fun σ' => sopsH P n st ops l σ' K
    | some false => ∃ d, o.dst = some d ∧ d < n ∧ sopsH P n st ops l (σ.put d (.v undef)) K
    | none => False) : sopsH P n st ops (o :: l) σ K := h
theorem sopsH_end {P : Program} {st : List Nat} {ops : Array Oper} {K : St → Prop} (h : K σ) : sopsH P n st ops [] σ K := h
theorem sopH_ok {F : Fr} {P : Program} {st : List Nat} {γ : Gh} {a : Act} {w : World} (h : Rel F σ γ a w) (hs : sopH P F.n st σ o K) (Q : Exit → Act → World → Prop) : o.wp P a w (fun a' w' => ∃ σ' γ', K σ' ∧ Rel F σ' γ' a' w') Q := by
  unfold sopH at hs
  split at hs
  · exact hs F γ a w rfl h Q
  · exact sop_ok h hs Q
theorem sopsH_ok {F : Fr} {P : Program} {st : List Nat} {ops : Array Oper} {Q : Exit → Act → World → Prop} (hQ : ∀ σ γ a w, K σ → Rel F σ γ a w → Q .normal a w) : ∀ (l : List Oper) (σ : St) (γ : Gh) (a : Act) (w : World), Rel F σ γ a w → sopsH P F.n st ops l σ K → wpList P ops Q l a w
  | [], σ, γ, a, w, h, hs => hQ σ γ a w hs h
  | o :: l, σ, γ, a, w, h, hs => by
    unfold sopsH at hs
    unfold wpList
    split at hs
    · rename_i hg
      rw [guard_ok h (fun j want t y _ _ hy => hy) hg, if_pos rfl]
      refine .inl (Oper.wp_mono (fun a2 w2 hst => ?_) (sopH_ok h hs Q))
      obtain ⟨σ', γ', h1, h2⟩ := hst
      exact sopsH_ok hQ l σ' γ' a2 w2 h2 h1
    · rename_i hg
      obtain ⟨d, hd, hdn, hs⟩ := hs
      rw [guard_ok h (fun j want t y _ _ hy => hy) hg, if_neg (by simp), hd]
      exact sopsH_ok hQ l _ γ _ w (h.put hdn (x := .v undef) (u := undef) rfl (fun k hk => by cases hk)) hs
    · cases hs
theorem awp_regionH {F : Fr} {P : Program} {id : Nat} {l : List Oper} {Q : AX → St → Prop} (st : List Nat) (h : sopsH P F.n st l.toArray l σ (Q .normal)) : AWp P F (Code.region id l.toArray false) Q σ := fun γ a w hr =>
  wp_region_lit (sopsH_ok (fun σ' γ' _ _ hq hr' => ⟨.normal, σ', γ', rfl, hq, hr'⟩) l σ γ a w hr h)
end
end Av
end Go.Proofs.YticnppnejafhdaaGreatDoor
/- Functions whose contract asks something of the world: package-level tables. Generic. -/
namespace Go.Proofs.YticnppnejafhdaaGreatDoor
open Go.RowKit
namespace Av
/-- What held of the first world. -/
def laidE (C : World → Prop) : Ext where
  foot _ := False
  froz _ := False
  holds _ := True
  stable _ _ := trivial
  laid := C
def startStC (C : World → Prop) (args : List AV) : St := { startSt args with ext := laidE C }
def FnOKC (P : Program) (C : World → Prop) (f : FuncId) (args : List AV) (res : FRes) : Prop :=
  Enters P f ∧ ∀ (w : World) (R : Reader), C w → (∀ p v, R p = some v → w.cell? p = some v) → ∀ us, RepAL R args us →
    Calls P f us.toArray w fun e w' => ∃ u, e = .returned u ∧ Below w.heap.size w w' ∧ ResRep R w w' res u
theorem FnOK.c {P : Program} {C : World → Prop} {f : FuncId} {args : List AV} {res : FRes} (h : FnOK P f args res) : FnOKC P C f args res := ⟨h.1, fun w R _ hR us hus => h.2 w R hR us hus⟩
theorem FnOKC.plain {P : Program} {f : FuncId} {args : List AV} {res : FRes} (h : FnOKC P (fun _ => True) f args res) : FnOK P f args res := ⟨h.1, fun w R hR us hus => h.2 w R trivial hR us hus⟩
section
variable {P : Program}
/-- A function, in worlds of which something holds. -/
theorem fn_okC {C : World → Prop} {f : FuncId} {fn : Func} {c : Code} {args : List AV} {res : FRes} (hf : P.funcs[f]? = some fn) (hname : (fn.name == "runtime.NumGoroutine") = false) (hb : fn.body = some c) (hn : args.length ≤ fn.ntmps ∧ fn.ntmps ≤ 1000000)
    (h : ∀ F : Fr, F.n = fn.ntmps → AWp P F c (fun x σ => (match x with | .exit _ => False | _ => True) ∧ RetOK P fn.results σ res) (startStC C args)) : FnOKC P C f args res := by
  refine ⟨⟨fn, c, hf, hname, hb⟩, fun w R hC hR us hus => calls_of_wp hf hb ?_⟩
  have hlen := hus.length
  let F : Fr := ⟨R, w, fn.ntmps⟩
  have hmut : ∀ γ p, ¬ (startStC C args).mut γ p := fun γ p => by
    rintro (⟨k, cs, h1, _⟩ | ⟨L, e, sz, rows, h1, _⟩ | h1) <;> cases h1
  let γ0 : Gh := ⟨fun _ => 0, fun _ => none⟩
  have hR0 : ∀ p v, R p = some v → rdr R w.heap.size (startStC C args) γ0 w p = some v := fun p v hp => by
    have := Rel.cell_lt (hR p v hp)
    unfold rdr
    rw [if_pos this]; exact hp
  have hrel : Rel F (startStC C args) γ0 { tmps := us.toArray ++ Array.replicate (fn.ntmps - us.toArray.size) undef, defers := [] } w := by
    refine ⟨rfl, ?_, Below.refl _ _, hR, fun t x hx => ?_, fun k cs hk => (by cases hk), fun k k' hk => (by cases hk), fun L e sz hL => (by cases hL), fun L L' g hL => (by cases hL), fun L k g hL => (by cases hL), trivial, fun b hb => hb.elim (fun (h : False) => h.elim) (fun (h : False) => h.elim), hn.2, fun k hk => (by cases hk), hC⟩
    · show _ = fn.ntmps
      simp; omega
    · have hx' : args[t]? = some x := by
        have := hx
        unfold startStC startSt at this
        rw [look_start] at this
        simpa using this
      obtain ⟨u, h1, h2, h3⟩ := hus.get hx'
      have ht : t < us.length := (List.getElem?_eq_some_iff.1 h1).1
      refine ⟨?_, fun k hk => by rw [h3] at hk; cases hk⟩
      have : (us.toArray ++ Array.replicate (fn.ntmps - us.toArray.size) undef).getD t undef = u := by
        rw [Array.getD_eq_getD_getElem?, Array.getElem?_append_left (by simpa using ht)]
        simp [h1]
      rw [this]
      exact h2.mono hR0 (fun k _ => rfl)
  refine wp_mono (h F rfl γ0 _ w hrel) ?_
  rintro e a' w' ⟨x, σ', γ', rfl, ⟨hx, hret⟩, hr'⟩
  have hbody : ∀ v, (results fn a'.tmps).run P w' = .ok v w' ∧ ResRep R w w' res v → bodyPost P fn (fun e w' => ∃ u, e = .returned u ∧ Below w.heap.size w w' ∧ ResRep R w w' res u) x.exit_ a' w' := fun v hv => by
    cases x with
    | normal => exact ⟨hr'.defers, v, hv.1, v, rfl, hr'.below, hv.2⟩
    | exit id => exact hx.elim
    | ret => exact ⟨hr'.defers, v, hv.1, v, rfl, hr'.below, hv.2⟩
  rcases hret with ⟨t, sz, rows, e, h1, h2, h3, rfl⟩ | hret
  · refine hbody (a'.tmps.getD t undef) ⟨by simp [results_eq, h1, resOne], ?_⟩
    obtain ⟨rows', v, h4, h5, h6⟩ := hr'.owns _ _ _ h3
    have h7 : look σ'.slot t = some (.sl sz rows') := h4
    rw [h2] at h7
    cases h7
    have h8 : v = a'.tmps.getD t undef := by simpa [valAt] using h5.symm
    subst h8
    refine ⟨γ'.rw (.s t), h6, RepP.mono (fun p v hp => ?_) (hr'.slots t _ h2).1⟩
    unfold fresh
    unfold rdr at hp
    by_cases hB : p.block < w.heap.size
    · rw [if_pos hB]; rw [if_pos hB] at hp; exact hp
    · rw [if_neg hB] at hp ⊢
      by_cases hm : σ'.mut γ' p
      · rw [if_pos hm] at hp; cases hp
      · rw [if_neg hm] at hp
        rw [if_neg]
        · exact hp
        · rintro ⟨h9, h10⟩
          exact hm (.inr (.inl ⟨.s t, e, sz, rows, h3, h2, h9, h10⟩))
  · obtain ⟨cs, vs, h1, h2, h3⟩ := retAll_ok hr' hret
    have hrun : (results fn a'.tmps).run P w' = .ok (if h : vs.toArray.size = 1 then vs.toArray[0] else .tuple vs.toArray) w' := by
      rw [results_eq, Array.mapM_eq_mapM_toList, Sem.run_bind, Sem.run_map, h3]
      rfl
    have hmono : ∀ {c : CV} {u : Value}, RepC (rdr R w.heap.size σ' γ' w') c u → RepA (fresh R w w' none 0) (fun _ => 0) c.av u := fun hc => (hc.mono rdr_fresh).av
    refine hbody _ ⟨hrun, ?_⟩
    subst h1
    cases h2 with
    | nil => exact ⟨rfl, [], by simp, .nil⟩
    | cons hc ht =>
      cases ht with
      | nil =>
        refine ⟨?_, by simpa using hmono hc⟩
        rename_i c _
        cases c with
        | c p => cases p <;> rfl
        | g xs => rfl
      | cons hc' ht' =>
        exact ⟨rfl, _, by simp, .cons (hc.mono rdr_fresh) (.cons (hc'.mono rdr_fresh) (ht'.mono rdr_fresh))⟩

/-- The call of such a function. -/
theorem hand_fnC {C : World → Prop} {n d fid : Nat} {σ : St} {o : Oper} {K : St → Prop} {args : Array Operand} {ats : Array TypeId} {avs avs' : List AV} {res : FRes} (hst : ∀ {w w' : World}, Below w.heap.size w w' → C w → C w') (ho : o.op = .call { callee := .value (.func fid), args := args, argTypes := ats }) (hd : o.dst = some d) (hdn : d < n) (he : σ.ext = laidE C)
    (h3 : evos (look σ.slot) args.toList = some avs) (h4 : snaps (look σ.box) avs = some avs') (h5 : FnOKC P C fid avs' res) (h6 : (avs.all fun x => x.refs.isEmpty) = true) (h : K (σ.res d ⟨res.av, none, res.own⟩)) : Hand P n σ o K := by
  refine hand_call hd fun F γ a w hF hr => ?_
  have hC0 : C F.w0 := by have := hr.laid; rw [he] at this; exact this
  have hC : C w := hst hr.below hC0
  obtain ⟨henter, hcall⟩ := h5
  have gA := evos_ok hr (fun t y _ hy => hy) h3
  obtain ⟨_, g7⟩ := snaps_ok hr (fun _ _ h => h) gA h4
  have hf : a.eval (.func fid) = .func (.func fid) #[] #[] := rfl
  refine ⟨fid, args.map a.eval, ?_, ?_⟩
  · simp [execOp, ho, resolve, hf, Deferred.ofValue, invoke, run_callFunc henter]
  · have hargs : args.map a.eval = (args.toList.map a.eval).toArray := by
      obtain ⟨l⟩ := args
      simp
    rw [hargs]
    refine (hcall w _ hC (fun p v hp => hr.cell hp) _ (g7 h6)).mono ?_
    rintro e w1 ⟨u, rfl, hb, hres⟩
    obtain ⟨γ', _, hrel⟩ := hr.call hb (by rw [hF]; exact hdn) hres
    exact ⟨u, _, γ', rfl, h, hrel⟩
end
end Av
theorem tab_below {P : Program} {w w' : World} {name : String} {k : IntKind} {zs : List Int} (hb : Below w.heap.size w w') (h : Lib.TabIs P w name k zs) : Lib.TabIs P w' name k zs := by
  unfold Lib.TabIs World.var? at h ⊢
  cases hg : P.globalNamed name with
  | none => rw [hg] at h; cases h
  | some g =>
    rw [hg] at h
    simp only [Option.bind_some] at h ⊢
    have hlt : g < w.heap.size := by
      refine Classical.byContradiction fun hn => ?_
      rw [Array.getElem?_eq_none (by omega)] at h
      cases h
    rw [hb.block g hlt]
    exact h
end Go.Proofs.YticnppnejafhdaaGreatDoor
/- The library's contracts that this claim uses, laid for its program: written by a tool of the kit. -/
namespace Go.Proofs.YticnppnejafhdaaGreatDoor
open Go.Shelf
def Tryz.lays156_ren : Go.Shelf.Ren := ⟨fun | 156 => 89 | 165 => 124 | 166 => 125 | 169 => 126 | 240 => 158 | 241 => 159 | 276 => 175 | 277 => 176 | n => n, fun | 31 => 132 | 9 => 9 | 3 => 3 | 4 => 4 | 0 => 0 | 20 => 20 | 72 => 162 | 76 => 166 | 70 => 160 | 37 => 134 | 75 => 165 | 127 => 193 | 164 => 208 | 5 => 5 | 80 => 168 | n => n, fun | n => n⟩
theorem Tryz.lays156 : Go.Proofs.Lays.n156 Tryz.prog Tryz.lays156_ren := {
  mixed := by kernel_rfl
  f156 := Tryz.func89.trans (congrArg some (by kernel_rfl))
  f165 := Tryz.func124.trans (congrArg some (by kernel_rfl))
  f166 := Tryz.func125.trans (congrArg some (by kernel_rfl))
  f169 := Tryz.func126.trans (congrArg some (by kernel_rfl))
  f240 := Tryz.func158.trans (congrArg some (by kernel_rfl))
  f241 := Tryz.func159.trans (congrArg some (by kernel_rfl))
  f276 := Tryz.func175.trans (congrArg some (by kernel_rfl))
  f277 := Tryz.func176.trans (congrArg some (by kernel_rfl))
  t0 := Tryz.underlying0
  a0 := Tryz.isAgg0
  z0 := Tryz.sizeOf0
  v0 := Tryz.zeroValue0
  t3 := Tryz.underlying3
  a3 := Tryz.isAgg3
  z3 := Tryz.sizeOf3
  v3 := Tryz.zeroValue3
  t4 := Tryz.underlying4
  a4 := Tryz.isAgg4
  z4 := Tryz.sizeOf4
  v4 := Tryz.zeroValue4
  t9 := Tryz.underlying9
  a9 := Tryz.isAgg9
  z9 := Tryz.sizeOf9
  v9 := Tryz.zeroValue9
  t20 := Tryz.underlying20
  a20 := Tryz.isAgg20
  z20 := Tryz.sizeOf20
  v20 := Tryz.zeroValue20
  t31 := Tryz.underlying132
  a31 := Tryz.isAgg132
  z31 := Tryz.sizeOf132
  v31 := Tryz.zeroValue132
  t37 := Tryz.underlying134
  a37 := Tryz.isAgg134
  z37 := Tryz.sizeOf134
  v37 := Tryz.zeroValue134
  t70 := Tryz.underlying160
  a70 := Tryz.isAgg160
  z70 := Tryz.sizeOf160
  v70 := Tryz.zeroValue160
  t72 := Tryz.underlying162
  a72 := Tryz.isAgg162
  z72 := Tryz.sizeOf162
  v72 := Tryz.zeroValue162
  t75 := Tryz.underlying165
  a75 := Tryz.isAgg165
  z75 := Tryz.sizeOf165
  v75 := Tryz.zeroValue165
  t76 := Tryz.underlying166
  a76 := Tryz.isAgg166
  z76 := Tryz.sizeOf166
  v76 := Tryz.zeroValue166
  t127 := Tryz.underlying193
  a127 := Tryz.isAgg193
  z127 := Tryz.sizeOf193
  v127 := Tryz.zeroValue193
  t164 := Tryz.underlying208
  a164 := Tryz.isAgg208
  z164 := Tryz.sizeOf208
  v164 := Tryz.zeroValue208 }
theorem Tryz.Builder_Extra_156 : Builder.Extra Tryz.prog Tryz.lays156_ren := {
  sizeBuilder := by kernel_rfl
  liesBuilder := by kernel_rfl
  t5 := Tryz.underlying5
  a5 := Tryz.isAgg5
  z5 := Tryz.sizeOf5
  v5 := Tryz.zeroValue5
  infoByte := by kernel_rfl
  cellsByte := by kernel_rfl
  sizeByte := by kernel_rfl
  neB5 := by decide }
def Tryz.lays171_ren : Go.Shelf.Ren := ⟨fun | 171 => 88 | 243 => 123 | 246 => 157 | 283 => 171 | 284 => 172 | 285 => 173 | 286 => 174 | 129 => 147 | 317 => 179 | 318 => 180 | 319 => 181 | 320 => 182 | 337 => 183 | 338 => 184 | n => n, fun | 3 => 3 | 9 => 9 | 2 => 2 | 4 => 4 | 171 => 204 | 0 => 0 | 53 => 184 | 37 => 134 | 5 => 5 | 173 => 206 | 212 => 215 | 51 => 172 | 20 => 20 | 213 => 216 | 46 => 141 | 232 => 217 | 233 => 218 | n => n, fun | 17 => 1 | 18 => 2 | 19 => 3 | n => n⟩
theorem Tryz.lays171 : Go.Proofs.Lays.n171 Tryz.prog Tryz.lays171_ren := {
  mixed := by kernel_rfl
  f129 := Tryz.func147.trans (congrArg some (by kernel_rfl))
  f171 := Tryz.func88.trans (congrArg some (by kernel_rfl))
  f243 := Tryz.func123.trans (congrArg some (by kernel_rfl))
  f246 := Tryz.func157.trans (congrArg some (by kernel_rfl))
  f283 := Tryz.func171.trans (congrArg some (by kernel_rfl))
  f284 := Tryz.func172.trans (congrArg some (by kernel_rfl))
  f285 := Tryz.func173.trans (congrArg some (by kernel_rfl))
  f286 := Tryz.func174.trans (congrArg some (by kernel_rfl))
  f317 := Tryz.func179.trans (congrArg some (by kernel_rfl))
  f318 := Tryz.func180.trans (congrArg some (by kernel_rfl))
  f319 := Tryz.func181.trans (congrArg some (by kernel_rfl))
  f320 := Tryz.func182.trans (congrArg some (by kernel_rfl))
  f337 := Tryz.func183.trans (congrArg some (by kernel_rfl))
  f338 := Tryz.func184.trans (congrArg some (by kernel_rfl))
  t0 := Tryz.underlying0
  a0 := Tryz.isAgg0
  z0 := Tryz.sizeOf0
  v0 := Tryz.zeroValue0
  t2 := Tryz.underlying2
  a2 := Tryz.isAgg2
  z2 := Tryz.sizeOf2
  v2 := Tryz.zeroValue2
  t3 := Tryz.underlying3
  a3 := Tryz.isAgg3
  z3 := Tryz.sizeOf3
  v3 := Tryz.zeroValue3
  t4 := Tryz.underlying4
  a4 := Tryz.isAgg4
  z4 := Tryz.sizeOf4
  v4 := Tryz.zeroValue4
  t5 := Tryz.underlying5
  a5 := Tryz.isAgg5
  z5 := Tryz.sizeOf5
  v5 := Tryz.zeroValue5
  t9 := Tryz.underlying9
  a9 := Tryz.isAgg9
  z9 := Tryz.sizeOf9
  v9 := Tryz.zeroValue9
  t20 := Tryz.underlying20
  a20 := Tryz.isAgg20
  z20 := Tryz.sizeOf20
  v20 := Tryz.zeroValue20
  t37 := Tryz.underlying134
  a37 := Tryz.isAgg134
  z37 := Tryz.sizeOf134
  v37 := Tryz.zeroValue134
  t46 := Tryz.underlying141
  a46 := Tryz.isAgg141
  z46 := Tryz.sizeOf141
  v46 := Tryz.zeroValue141
  t51 := Tryz.underlying172
  a51 := Tryz.isAgg172
  z51 := Tryz.sizeOf172
  v51 := Tryz.zeroValue172
  t53 := Tryz.underlying184
  a53 := Tryz.isAgg184
  z53 := Tryz.sizeOf184
  v53 := Tryz.zeroValue184
  t171 := Tryz.underlying204
  a171 := Tryz.isAgg204
  z171 := Tryz.sizeOf204
  v171 := Tryz.zeroValue204
  t173 := Tryz.underlying206
  a173 := Tryz.isAgg206
  z173 := Tryz.sizeOf206
  v173 := Tryz.zeroValue206
  t212 := Tryz.underlying215
  a212 := Tryz.isAgg215
  z212 := Tryz.sizeOf215
  v212 := Tryz.zeroValue215
  t213 := Tryz.underlying216
  a213 := Tryz.isAgg216
  z213 := Tryz.sizeOf216
  t232 := Tryz.underlying217
  a232 := Tryz.isAgg217
  z232 := Tryz.sizeOf217
  v232 := Tryz.zeroValue217
  t233 := Tryz.underlying218
  a233 := Tryz.isAgg218
  z233 := Tryz.sizeOf218
  v233 := Tryz.zeroValue218
  g17 := by kernel_rfl
  g18 := by kernel_rfl
  g19 := by kernel_rfl }
end Go.Proofs.YticnppnejafhdaaGreatDoor
/- Sizes and zero values of types. -/
namespace Go.Proofs.YticnppnejafhdaaGreatDoor
open Go.RowKit
open Nd Rc Mo
open Av
set_option maxRecDepth 100000
set_option linter.unusedSimpArgs false
theorem all_arr {α : Type} {l : List α} {p : α → Bool} {n : Nat} (h : n = l.length) : l.toArray.all p 0 n = l.all p := by subst h; simp
theorem loc_ss (a b : Nat) : (Loc.s a == Loc.s b) = (a == b) := by rw [Bool.eq_iff_iff, beq_iff_eq, beq_iff_eq, Loc.s.injEq]
theorem loc_sb (a b c : Nat) : (Loc.s a == Loc.b b c) = false := by rw [beq_eq_false_iff_ne]; exact fun h => by cases h
theorem loc_bs (a b c : Nat) : (Loc.b b c == Loc.s a) = false := by rw [beq_eq_false_iff_ne]; exact fun h => by cases h
theorem loc_bb (a b c d : Nat) : (Loc.b a b == Loc.b c d) = (a == c && b == d) := by rw [Bool.eq_iff_iff, Bool.and_eq_true, beq_iff_eq, beq_iff_eq, beq_iff_eq, Loc.b.injEq]
theorem arr_two {α : Type} (a b c : α) : ((#[a, b] : Array α) = #[c]) = False := eq_false fun h => by have := congrArg Array.size h; simp at this
theorem rg1 : List.range 1 = [0] := by decide
theorem rg2 : List.range 2 = [0, 1] := by decide
theorem rg3 : List.range 3 = [0, 1, 2] := by decide
theorem rg4 : List.range 4 = [0, 1, 2, 3] := by decide
theorem rg5 : List.range 5 = [0, 1, 2, 3, 4] := by decide
theorem rg6 : List.range 6 = [0, 1, 2, 3, 4, 5] := by decide
theorem rg7 : List.range 7 = [0, 1, 2, 3, 4, 5, 6] := by decide
theorem rg8 : List.range 8 = [0, 1, 2, 3, 4, 5, 6, 7] := by decide
theorem arr_one {α : Type} (a b : α) : ((#[a] : Array α) = #[b]) = (a = b) := by simp
theorem Tryz.sz3 : (Tryz.prog.info? 3).map (·.size) = some 1 := by kernel_rfl
theorem Tryz.zr3 : (Tryz.prog.info? 3).map (·.zero) = some (some (.int .i64 0)) := by kernel_rfl
theorem Tryz.pl3 (k : Nat) : (Tryz.prog.info? 3).map (fun t => (k, t.size)) = some (k, 1) := by
  have h := Tryz.sz3
  cases hi : Tryz.prog.info? 3 with
  | none => rw [hi] at h; cases h
  | some i => rw [hi] at h; simp only [Option.map_some, Option.some.injEq] at h ⊢; rw [h]
theorem Tryz.is3 : (Tryz.prog.info? 3).isSome = true := by kernel_rfl
theorem Tryz.by3 : (Tryz.prog.info? 3).map (fun j => decide (j.bytes ≤ 1000000)) = some true := by kernel_rfl
theorem Tryz.sz4 : (Tryz.prog.info? 4).map (·.size) = some 1 := by kernel_rfl
theorem Tryz.zr4 : (Tryz.prog.info? 4).map (·.zero) = some (some (.bool false)) := by kernel_rfl
theorem Tryz.pl4 (k : Nat) : (Tryz.prog.info? 4).map (fun t => (k, t.size)) = some (k, 1) := by
  have h := Tryz.sz4
  cases hi : Tryz.prog.info? 4 with
  | none => rw [hi] at h; cases h
  | some i => rw [hi] at h; simp only [Option.map_some, Option.some.injEq] at h ⊢; rw [h]
theorem Tryz.is4 : (Tryz.prog.info? 4).isSome = true := by kernel_rfl
theorem Tryz.by4 : (Tryz.prog.info? 4).map (fun j => decide (j.bytes ≤ 1000000)) = some true := by kernel_rfl
theorem Tryz.sz43 : (Tryz.prog.info? 43).map (·.size) = some 1 := by kernel_rfl
theorem Tryz.zr43 : (Tryz.prog.info? 43).map (·.zero) = some (some (.int .i64 0)) := by kernel_rfl
theorem Tryz.pl43 (k : Nat) : (Tryz.prog.info? 43).map (fun t => (k, t.size)) = some (k, 1) := by
  have h := Tryz.sz43
  cases hi : Tryz.prog.info? 43 with
  | none => rw [hi] at h; cases h
  | some i => rw [hi] at h; simp only [Option.map_some, Option.some.injEq] at h ⊢; rw [h]
theorem Tryz.is43 : (Tryz.prog.info? 43).isSome = true := by kernel_rfl
theorem Tryz.by43 : (Tryz.prog.info? 43).map (fun j => decide (j.bytes ≤ 1000000)) = some true := by kernel_rfl
theorem Tryz.sz35 : (Tryz.prog.info? 35).map (·.size) = some 3 := by kernel_rfl
theorem Tryz.zr35 : (Tryz.prog.info? 35).map (·.zero) = some (some (.agg #[.int .i64 0, .slice none 0 0, .slice none 0 0])) := by kernel_rfl
theorem Tryz.pl35 (k : Nat) : (Tryz.prog.info? 35).map (fun t => (k, t.size)) = some (k, 3) := by
  have h := Tryz.sz35
  cases hi : Tryz.prog.info? 35 with
  | none => rw [hi] at h; cases h
  | some i => rw [hi] at h; simp only [Option.map_some, Option.some.injEq] at h ⊢; rw [h]
theorem Tryz.is35 : (Tryz.prog.info? 35).isSome = true := by kernel_rfl
theorem Tryz.by35 : (Tryz.prog.info? 35).map (fun j => decide (j.bytes ≤ 1000000)) = some true := by kernel_rfl
theorem Tryz.sz33 : (Tryz.prog.info? 33).map (·.size) = some 2 := by kernel_rfl
theorem Tryz.zr33 : (Tryz.prog.info? 33).map (·.zero) = some (some (.agg #[.slice none 0 0, .slice none 0 0])) := by kernel_rfl
theorem Tryz.pl33 (k : Nat) : (Tryz.prog.info? 33).map (fun t => (k, t.size)) = some (k, 2) := by
  have h := Tryz.sz33
  cases hi : Tryz.prog.info? 33 with
  | none => rw [hi] at h; cases h
  | some i => rw [hi] at h; simp only [Option.map_some, Option.some.injEq] at h ⊢; rw [h]
theorem Tryz.is33 : (Tryz.prog.info? 33).isSome = true := by kernel_rfl
theorem Tryz.by33 : (Tryz.prog.info? 33).map (fun j => decide (j.bytes ≤ 1000000)) = some true := by kernel_rfl
theorem Tryz.sz28 : (Tryz.prog.info? 28).map (·.size) = some 6 := by kernel_rfl
theorem Tryz.zr28 : (Tryz.prog.info? 28).map (·.zero) = some (some (.agg #[.int .i64 0, .int .i64 0, .int .i64 0, .int .i64 0, .int .i64 0, .int .i64 0])) := by kernel_rfl
theorem Tryz.pl28 (k : Nat) : (Tryz.prog.info? 28).map (fun t => (k, t.size)) = some (k, 6) := by
  have h := Tryz.sz28
  cases hi : Tryz.prog.info? 28 with
  | none => rw [hi] at h; cases h
  | some i => rw [hi] at h; simp only [Option.map_some, Option.some.injEq] at h ⊢; rw [h]
theorem Tryz.is28 : (Tryz.prog.info? 28).isSome = true := by kernel_rfl
theorem Tryz.by28 : (Tryz.prog.info? 28).map (fun j => decide (j.bytes ≤ 1000000)) = some true := by kernel_rfl
theorem Tryz.sz39 : (Tryz.prog.info? 39).map (·.size) = some 3 := by kernel_rfl
theorem Tryz.zr39 : (Tryz.prog.info? 39).map (·.zero) = some (some (.agg #[.int .i64 0, .int .i64 0, .int .i64 0])) := by kernel_rfl
theorem Tryz.pl39 (k : Nat) : (Tryz.prog.info? 39).map (fun t => (k, t.size)) = some (k, 3) := by
  have h := Tryz.sz39
  cases hi : Tryz.prog.info? 39 with
  | none => rw [hi] at h; cases h
  | some i => rw [hi] at h; simp only [Option.map_some, Option.some.injEq] at h ⊢; rw [h]
theorem Tryz.is39 : (Tryz.prog.info? 39).isSome = true := by kernel_rfl
theorem Tryz.by39 : (Tryz.prog.info? 39).map (fun j => decide (j.bytes ≤ 1000000)) = some true := by kernel_rfl
theorem Tryz.sz57 : (Tryz.prog.info? 57).map (·.size) = some 5 := by kernel_rfl
theorem Tryz.zr57 : (Tryz.prog.info? 57).map (·.zero) = some (some (.agg #[.int .i64 0, .int .i64 0, .int .i64 0, .int .i64 0, .slice none 0 0])) := by kernel_rfl
theorem Tryz.pl57 (k : Nat) : (Tryz.prog.info? 57).map (fun t => (k, t.size)) = some (k, 5) := by
  have h := Tryz.sz57
  cases hi : Tryz.prog.info? 57 with
  | none => rw [hi] at h; cases h
  | some i => rw [hi] at h; simp only [Option.map_some, Option.some.injEq] at h ⊢; rw [h]
theorem Tryz.is57 : (Tryz.prog.info? 57).isSome = true := by kernel_rfl
theorem Tryz.by57 : (Tryz.prog.info? 57).map (fun j => decide (j.bytes ≤ 1000000)) = some true := by kernel_rfl
theorem Tryz.sz137 : (Tryz.prog.info? 137).map (·.size) = some 3 := by kernel_rfl
theorem Tryz.zr137 : (Tryz.prog.info? 137).map (·.zero) = some (some (.agg #[.int .i64 0, .int .i64 0, .int .i64 0])) := by kernel_rfl
theorem Tryz.pl137 (k : Nat) : (Tryz.prog.info? 137).map (fun t => (k, t.size)) = some (k, 3) := by
  have h := Tryz.sz137
  cases hi : Tryz.prog.info? 137 with
  | none => rw [hi] at h; cases h
  | some i => rw [hi] at h; simp only [Option.map_some, Option.some.injEq] at h ⊢; rw [h]
theorem Tryz.is137 : (Tryz.prog.info? 137).isSome = true := by kernel_rfl
theorem Tryz.by137 : (Tryz.prog.info? 137).map (fun j => decide (j.bytes ≤ 1000000)) = some true := by kernel_rfl
theorem Tryz.sz66 : (Tryz.prog.info? 66).map (·.size) = some 8 := by kernel_rfl
theorem Tryz.zr66 : (Tryz.prog.info? 66).map (·.zero) = some (some (.agg #[.int .i64 0, .int .i64 0, .int .i64 0, .int .i64 0, .int .i64 0, .int .i64 0, .int .i64 0, .int .i64 0])) := by kernel_rfl
theorem Tryz.pl66 (k : Nat) : (Tryz.prog.info? 66).map (fun t => (k, t.size)) = some (k, 8) := by
  have h := Tryz.sz66
  cases hi : Tryz.prog.info? 66 with
  | none => rw [hi] at h; cases h
  | some i => rw [hi] at h; simp only [Option.map_some, Option.some.injEq] at h ⊢; rw [h]
theorem Tryz.is66 : (Tryz.prog.info? 66).isSome = true := by kernel_rfl
theorem Tryz.by66 : (Tryz.prog.info? 66).map (fun j => decide (j.bytes ≤ 1000000)) = some true := by kernel_rfl
theorem Tryz.sz64 : (Tryz.prog.info? 64).map (·.size) = some 5 := by kernel_rfl
theorem Tryz.zr64 : (Tryz.prog.info? 64).map (·.zero) = some (some (.agg #[.int .i64 0, .int .i64 0, .int .i64 0, .int .i64 0, .int .i64 0])) := by kernel_rfl
theorem Tryz.pl64 (k : Nat) : (Tryz.prog.info? 64).map (fun t => (k, t.size)) = some (k, 5) := by
  have h := Tryz.sz64
  cases hi : Tryz.prog.info? 64 with
  | none => rw [hi] at h; cases h
  | some i => rw [hi] at h; simp only [Option.map_some, Option.some.injEq] at h ⊢; rw [h]
theorem Tryz.is64 : (Tryz.prog.info? 64).isSome = true := by kernel_rfl
theorem Tryz.by64 : (Tryz.prog.info? 64).map (fun j => decide (j.bytes ≤ 1000000)) = some true := by kernel_rfl
theorem Tryz.sz60 : (Tryz.prog.info? 60).map (·.size) = some 3 := by kernel_rfl
theorem Tryz.zr60 : (Tryz.prog.info? 60).map (·.zero) = some (some (.agg #[.int .i64 0, .int .i64 0, .int .i64 0])) := by kernel_rfl
theorem Tryz.pl60 (k : Nat) : (Tryz.prog.info? 60).map (fun t => (k, t.size)) = some (k, 3) := by
  have h := Tryz.sz60
  cases hi : Tryz.prog.info? 60 with
  | none => rw [hi] at h; cases h
  | some i => rw [hi] at h; simp only [Option.map_some, Option.some.injEq] at h ⊢; rw [h]
theorem Tryz.is60 : (Tryz.prog.info? 60).isSome = true := by kernel_rfl
theorem Tryz.by60 : (Tryz.prog.info? 60).map (fun j => decide (j.bytes ≤ 1000000)) = some true := by kernel_rfl
theorem Tryz.sz100 : (Tryz.prog.info? 100).map (·.size) = some 2 := by kernel_rfl
theorem Tryz.zr100 : (Tryz.prog.info? 100).map (·.zero) = some (some (.agg #[.int .i64 0, .int .i64 0])) := by kernel_rfl
theorem Tryz.pl100 (k : Nat) : (Tryz.prog.info? 100).map (fun t => (k, t.size)) = some (k, 2) := by
  have h := Tryz.sz100
  cases hi : Tryz.prog.info? 100 with
  | none => rw [hi] at h; cases h
  | some i => rw [hi] at h; simp only [Option.map_some, Option.some.injEq] at h ⊢; rw [h]
theorem Tryz.is100 : (Tryz.prog.info? 100).isSome = true := by kernel_rfl
theorem Tryz.by100 : (Tryz.prog.info? 100).map (fun j => decide (j.bytes ≤ 1000000)) = some true := by kernel_rfl
theorem Tryz.sz103 : (Tryz.prog.info? 103).map (·.size) = some 4 := by kernel_rfl
theorem Tryz.zr103 : (Tryz.prog.info? 103).map (·.zero) = some (some (.agg #[.int .i64 0, .int .i64 0, .int .i64 0, .int .i64 0])) := by kernel_rfl
theorem Tryz.pl103 (k : Nat) : (Tryz.prog.info? 103).map (fun t => (k, t.size)) = some (k, 4) := by
  have h := Tryz.sz103
  cases hi : Tryz.prog.info? 103 with
  | none => rw [hi] at h; cases h
  | some i => rw [hi] at h; simp only [Option.map_some, Option.some.injEq] at h ⊢; rw [h]
theorem Tryz.is103 : (Tryz.prog.info? 103).isSome = true := by kernel_rfl
theorem Tryz.by103 : (Tryz.prog.info? 103).map (fun j => decide (j.bytes ≤ 1000000)) = some true := by kernel_rfl
theorem Tryz.sz26 : (Tryz.prog.info? 26).map (·.size) = some 6 := by kernel_rfl
theorem Tryz.zr26 : (Tryz.prog.info? 26).map (·.zero) = some (some (.agg #[.int .i64 0, .slice none 0 0, .int .i64 0, .int .i64 0, .slice none 0 0, .slice none 0 0])) := by kernel_rfl
theorem Tryz.pl26 (k : Nat) : (Tryz.prog.info? 26).map (fun t => (k, t.size)) = some (k, 6) := by
  have h := Tryz.sz26
  cases hi : Tryz.prog.info? 26 with
  | none => rw [hi] at h; cases h
  | some i => rw [hi] at h; simp only [Option.map_some, Option.some.injEq] at h ⊢; rw [h]
theorem Tryz.is26 : (Tryz.prog.info? 26).isSome = true := by kernel_rfl
theorem Tryz.by26 : (Tryz.prog.info? 26).map (fun j => decide (j.bytes ≤ 1000000)) = some true := by kernel_rfl
theorem Tryz.sz120 : (Tryz.prog.info? 120).map (·.size) = some 1 := by kernel_rfl
theorem Tryz.zr120 : (Tryz.prog.info? 120).map (·.zero) = some (some (.slice none 0 0)) := by kernel_rfl
theorem Tryz.pl120 (k : Nat) : (Tryz.prog.info? 120).map (fun t => (k, t.size)) = some (k, 1) := by
  have h := Tryz.sz120
  cases hi : Tryz.prog.info? 120 with
  | none => rw [hi] at h; cases h
  | some i => rw [hi] at h; simp only [Option.map_some, Option.some.injEq] at h ⊢; rw [h]
theorem Tryz.is120 : (Tryz.prog.info? 120).isSome = true := by kernel_rfl
theorem Tryz.by120 : (Tryz.prog.info? 120).map (fun j => decide (j.bytes ≤ 1000000)) = some true := by kernel_rfl
theorem Tryz.sz117 : (Tryz.prog.info? 117).map (·.size) = some 1 := by kernel_rfl
theorem Tryz.zr117 : (Tryz.prog.info? 117).map (·.zero) = some (some (.slice none 0 0)) := by kernel_rfl
theorem Tryz.pl117 (k : Nat) : (Tryz.prog.info? 117).map (fun t => (k, t.size)) = some (k, 1) := by
  have h := Tryz.sz117
  cases hi : Tryz.prog.info? 117 with
  | none => rw [hi] at h; cases h
  | some i => rw [hi] at h; simp only [Option.map_some, Option.some.injEq] at h ⊢; rw [h]
theorem Tryz.is117 : (Tryz.prog.info? 117).isSome = true := by kernel_rfl
theorem Tryz.by117 : (Tryz.prog.info? 117).map (fun j => decide (j.bytes ≤ 1000000)) = some true := by kernel_rfl
theorem Tryz.sz30 : (Tryz.prog.info? 30).map (·.size) = some 1 := by kernel_rfl
theorem Tryz.zr30 : (Tryz.prog.info? 30).map (·.zero) = some (some (.slice none 0 0)) := by kernel_rfl
theorem Tryz.pl30 (k : Nat) : (Tryz.prog.info? 30).map (fun t => (k, t.size)) = some (k, 1) := by
  have h := Tryz.sz30
  cases hi : Tryz.prog.info? 30 with
  | none => rw [hi] at h; cases h
  | some i => rw [hi] at h; simp only [Option.map_some, Option.some.injEq] at h ⊢; rw [h]
theorem Tryz.is30 : (Tryz.prog.info? 30).isSome = true := by kernel_rfl
theorem Tryz.by30 : (Tryz.prog.info? 30).map (fun j => decide (j.bytes ≤ 1000000)) = some true := by kernel_rfl
theorem Tryz.sz31 : (Tryz.prog.info? 31).map (·.size) = some 1 := by kernel_rfl
theorem Tryz.zr31 : (Tryz.prog.info? 31).map (·.zero) = some (some (.slice none 0 0)) := by kernel_rfl
theorem Tryz.pl31 (k : Nat) : (Tryz.prog.info? 31).map (fun t => (k, t.size)) = some (k, 1) := by
  have h := Tryz.sz31
  cases hi : Tryz.prog.info? 31 with
  | none => rw [hi] at h; cases h
  | some i => rw [hi] at h; simp only [Option.map_some, Option.some.injEq] at h ⊢; rw [h]
theorem Tryz.is31 : (Tryz.prog.info? 31).isSome = true := by kernel_rfl
theorem Tryz.by31 : (Tryz.prog.info? 31).map (fun j => decide (j.bytes ≤ 1000000)) = some true := by kernel_rfl
theorem Tryz.sz40 : (Tryz.prog.info? 40).map (·.size) = some 1 := by kernel_rfl
theorem Tryz.zr40 : (Tryz.prog.info? 40).map (·.zero) = some (some (.slice none 0 0)) := by kernel_rfl
theorem Tryz.pl40 (k : Nat) : (Tryz.prog.info? 40).map (fun t => (k, t.size)) = some (k, 1) := by
  have h := Tryz.sz40
  cases hi : Tryz.prog.info? 40 with
  | none => rw [hi] at h; cases h
  | some i => rw [hi] at h; simp only [Option.map_some, Option.some.injEq] at h ⊢; rw [h]
theorem Tryz.is40 : (Tryz.prog.info? 40).isSome = true := by kernel_rfl
theorem Tryz.by40 : (Tryz.prog.info? 40).map (fun j => decide (j.bytes ≤ 1000000)) = some true := by kernel_rfl
theorem Tryz.sz23 : (Tryz.prog.info? 23).map (·.size) = some 1 := by kernel_rfl
theorem Tryz.zr23 : (Tryz.prog.info? 23).map (·.zero) = some (some (.slice none 0 0)) := by kernel_rfl
theorem Tryz.pl23 (k : Nat) : (Tryz.prog.info? 23).map (fun t => (k, t.size)) = some (k, 1) := by
  have h := Tryz.sz23
  cases hi : Tryz.prog.info? 23 with
  | none => rw [hi] at h; cases h
  | some i => rw [hi] at h; simp only [Option.map_some, Option.some.injEq] at h ⊢; rw [h]
theorem Tryz.is23 : (Tryz.prog.info? 23).isSome = true := by kernel_rfl
theorem Tryz.by23 : (Tryz.prog.info? 23).map (fun j => decide (j.bytes ≤ 1000000)) = some true := by kernel_rfl
theorem Tryz.sz24 : (Tryz.prog.info? 24).map (·.size) = some 1 := by kernel_rfl
theorem Tryz.zr24 : (Tryz.prog.info? 24).map (·.zero) = some (some (.slice none 0 0)) := by kernel_rfl
theorem Tryz.pl24 (k : Nat) : (Tryz.prog.info? 24).map (fun t => (k, t.size)) = some (k, 1) := by
  have h := Tryz.sz24
  cases hi : Tryz.prog.info? 24 with
  | none => rw [hi] at h; cases h
  | some i => rw [hi] at h; simp only [Option.map_some, Option.some.injEq] at h ⊢; rw [h]
theorem Tryz.is24 : (Tryz.prog.info? 24).isSome = true := by kernel_rfl
theorem Tryz.by24 : (Tryz.prog.info? 24).map (fun j => decide (j.bytes ≤ 1000000)) = some true := by kernel_rfl
theorem Tryz.sz22 : (Tryz.prog.info? 22).map (·.size) = some 1 := by kernel_rfl
theorem Tryz.zr22 : (Tryz.prog.info? 22).map (·.zero) = some (some (.slice none 0 0)) := by kernel_rfl
theorem Tryz.pl22 (k : Nat) : (Tryz.prog.info? 22).map (fun t => (k, t.size)) = some (k, 1) := by
  have h := Tryz.sz22
  cases hi : Tryz.prog.info? 22 with
  | none => rw [hi] at h; cases h
  | some i => rw [hi] at h; simp only [Option.map_some, Option.some.injEq] at h ⊢; rw [h]
theorem Tryz.is22 : (Tryz.prog.info? 22).isSome = true := by kernel_rfl
theorem Tryz.by22 : (Tryz.prog.info? 22).map (fun j => decide (j.bytes ≤ 1000000)) = some true := by kernel_rfl
theorem Tryz.sz141 : (Tryz.prog.info? 141).map (·.size) = some 1 := by kernel_rfl
theorem Tryz.zr141 : (Tryz.prog.info? 141).map (·.zero) = some (some (.int .u64 0)) := by kernel_rfl
theorem Tryz.pl141 (k : Nat) : (Tryz.prog.info? 141).map (fun t => (k, t.size)) = some (k, 1) := by
  have h := Tryz.sz141
  cases hi : Tryz.prog.info? 141 with
  | none => rw [hi] at h; cases h
  | some i => rw [hi] at h; simp only [Option.map_some, Option.some.injEq] at h ⊢; rw [h]
theorem Tryz.is141 : (Tryz.prog.info? 141).isSome = true := by kernel_rfl
theorem Tryz.by141 : (Tryz.prog.info? 141).map (fun j => decide (j.bytes ≤ 1000000)) = some true := by kernel_rfl
theorem Tryz.sz42 : (Tryz.prog.info? 42).map (·.size) = some 4 := by kernel_rfl
theorem Tryz.zr42 : (Tryz.prog.info? 42).map (·.zero) = some (some (.agg #[.int .i64 0, .int .i64 0, .int .i64 0, .slice none 0 0])) := by kernel_rfl
theorem Tryz.pl42 (k : Nat) : (Tryz.prog.info? 42).map (fun t => (k, t.size)) = some (k, 4) := by
  have h := Tryz.sz42
  cases hi : Tryz.prog.info? 42 with
  | none => rw [hi] at h; cases h
  | some i => rw [hi] at h; simp only [Option.map_some, Option.some.injEq] at h ⊢; rw [h]
theorem Tryz.is42 : (Tryz.prog.info? 42).isSome = true := by kernel_rfl
theorem Tryz.by42 : (Tryz.prog.info? 42).map (fun j => decide (j.bytes ≤ 1000000)) = some true := by kernel_rfl
theorem Tryz.sz29 : (Tryz.prog.info? 29).map (·.size) = some 1 := by kernel_rfl
theorem Tryz.zr29 : (Tryz.prog.info? 29).map (·.zero) = some (some (.slice none 0 0)) := by kernel_rfl
theorem Tryz.pl29 (k : Nat) : (Tryz.prog.info? 29).map (fun t => (k, t.size)) = some (k, 1) := by
  have h := Tryz.sz29
  cases hi : Tryz.prog.info? 29 with
  | none => rw [hi] at h; cases h
  | some i => rw [hi] at h; simp only [Option.map_some, Option.some.injEq] at h ⊢; rw [h]
theorem Tryz.is29 : (Tryz.prog.info? 29).isSome = true := by kernel_rfl
theorem Tryz.by29 : (Tryz.prog.info? 29).map (fun j => decide (j.bytes ≤ 1000000)) = some true := by kernel_rfl
theorem Tryz.sz83 : (Tryz.prog.info? 83).map (·.size) = some 1 := by kernel_rfl
theorem Tryz.zr83 : (Tryz.prog.info? 83).map (·.zero) = some (some (.slice none 0 0)) := by kernel_rfl
theorem Tryz.pl83 (k : Nat) : (Tryz.prog.info? 83).map (fun t => (k, t.size)) = some (k, 1) := by
  have h := Tryz.sz83
  cases hi : Tryz.prog.info? 83 with
  | none => rw [hi] at h; cases h
  | some i => rw [hi] at h; simp only [Option.map_some, Option.some.injEq] at h ⊢; rw [h]
theorem Tryz.is83 : (Tryz.prog.info? 83).isSome = true := by kernel_rfl
theorem Tryz.by83 : (Tryz.prog.info? 83).map (fun j => decide (j.bytes ≤ 1000000)) = some true := by kernel_rfl
theorem Tryz.sz67 : (Tryz.prog.info? 67).map (·.size) = some 1 := by kernel_rfl
theorem Tryz.zr67 : (Tryz.prog.info? 67).map (·.zero) = some (some (.nilFunc)) := by kernel_rfl
theorem Tryz.pl67 (k : Nat) : (Tryz.prog.info? 67).map (fun t => (k, t.size)) = some (k, 1) := by
  have h := Tryz.sz67
  cases hi : Tryz.prog.info? 67 with
  | none => rw [hi] at h; cases h
  | some i => rw [hi] at h; simp only [Option.map_some, Option.some.injEq] at h ⊢; rw [h]
theorem Tryz.is67 : (Tryz.prog.info? 67).isSome = true := by kernel_rfl
theorem Tryz.by67 : (Tryz.prog.info? 67).map (fun j => decide (j.bytes ≤ 1000000)) = some true := by kernel_rfl
theorem Tryz.sz20 : (Tryz.prog.info? 20).map (·.size) = some 1 := by kernel_rfl
theorem Tryz.zr20 : (Tryz.prog.info? 20).map (·.zero) = some (some (.nilIface)) := by kernel_rfl
theorem Tryz.pl20 (k : Nat) : (Tryz.prog.info? 20).map (fun t => (k, t.size)) = some (k, 1) := by
  have h := Tryz.sz20
  cases hi : Tryz.prog.info? 20 with
  | none => rw [hi] at h; cases h
  | some i => rw [hi] at h; simp only [Option.map_some, Option.some.injEq] at h ⊢; rw [h]
theorem Tryz.is20 : (Tryz.prog.info? 20).isSome = true := by kernel_rfl
theorem Tryz.by20 : (Tryz.prog.info? 20).map (fun j => decide (j.bytes ≤ 1000000)) = some true := by kernel_rfl
theorem Tryz.sz89 : (Tryz.prog.info? 89).map (·.size) = some 1 := by kernel_rfl
theorem Tryz.zr89 : (Tryz.prog.info? 89).map (·.zero) = some (some (.slice none 0 0)) := by kernel_rfl
theorem Tryz.pl89 (k : Nat) : (Tryz.prog.info? 89).map (fun t => (k, t.size)) = some (k, 1) := by
  have h := Tryz.sz89
  cases hi : Tryz.prog.info? 89 with
  | none => rw [hi] at h; cases h
  | some i => rw [hi] at h; simp only [Option.map_some, Option.some.injEq] at h ⊢; rw [h]
theorem Tryz.is89 : (Tryz.prog.info? 89).isSome = true := by kernel_rfl
theorem Tryz.by89 : (Tryz.prog.info? 89).map (fun j => decide (j.bytes ≤ 1000000)) = some true := by kernel_rfl
theorem Tryz.sz132 : (Tryz.prog.info? 132).map (·.size) = some 1 := by kernel_rfl
theorem Tryz.zr132 : (Tryz.prog.info? 132).map (·.zero) = some (some (.slice none 0 0)) := by kernel_rfl
theorem Tryz.pl132 (k : Nat) : (Tryz.prog.info? 132).map (fun t => (k, t.size)) = some (k, 1) := by
  have h := Tryz.sz132
  cases hi : Tryz.prog.info? 132 with
  | none => rw [hi] at h; cases h
  | some i => rw [hi] at h; simp only [Option.map_some, Option.some.injEq] at h ⊢; rw [h]
theorem Tryz.is132 : (Tryz.prog.info? 132).isSome = true := by kernel_rfl
theorem Tryz.by132 : (Tryz.prog.info? 132).map (fun j => decide (j.bytes ≤ 1000000)) = some true := by kernel_rfl
theorem Tryz.sz113 : (Tryz.prog.info? 113).map (·.size) = some 1 := by kernel_rfl
theorem Tryz.zr113 : (Tryz.prog.info? 113).map (·.zero) = some (some (.slice none 0 0)) := by kernel_rfl
theorem Tryz.pl113 (k : Nat) : (Tryz.prog.info? 113).map (fun t => (k, t.size)) = some (k, 1) := by
  have h := Tryz.sz113
  cases hi : Tryz.prog.info? 113 with
  | none => rw [hi] at h; cases h
  | some i => rw [hi] at h; simp only [Option.map_some, Option.some.injEq] at h ⊢; rw [h]
theorem Tryz.is113 : (Tryz.prog.info? 113).isSome = true := by kernel_rfl
theorem Tryz.by113 : (Tryz.prog.info? 113).map (fun j => decide (j.bytes ≤ 1000000)) = some true := by kernel_rfl
theorem Tryz.sz9 : (Tryz.prog.info? 9).map (·.size) = some 1 := by kernel_rfl
theorem Tryz.zr9 : (Tryz.prog.info? 9).map (·.zero) = some (some (.string ⟨#[]⟩)) := by kernel_rfl
theorem Tryz.pl9 (k : Nat) : (Tryz.prog.info? 9).map (fun t => (k, t.size)) = some (k, 1) := by
  have h := Tryz.sz9
  cases hi : Tryz.prog.info? 9 with
  | none => rw [hi] at h; cases h
  | some i => rw [hi] at h; simp only [Option.map_some, Option.some.injEq] at h ⊢; rw [h]
theorem Tryz.is9 : (Tryz.prog.info? 9).isSome = true := by kernel_rfl
theorem Tryz.by9 : (Tryz.prog.info? 9).map (fun j => decide (j.bytes ≤ 1000000)) = some true := by kernel_rfl
theorem Tryz.it39 : Av.intT Tryz.prog 8 39 = some 3 := by kernel_rfl
theorem Tryz.eg39 : Tryz.prog.eqGuardType Tryz.prog.depth 39 = false := by kernel_rfl
theorem Tryz.it137 : Av.intT Tryz.prog 8 137 = some 3 := by kernel_rfl
theorem Tryz.eg137 : Tryz.prog.eqGuardType Tryz.prog.depth 137 = false := by kernel_rfl
theorem Tryz.it66 : Av.intT Tryz.prog 8 66 = some 8 := by kernel_rfl
theorem Tryz.eg66 : Tryz.prog.eqGuardType Tryz.prog.depth 66 = false := by kernel_rfl
theorem Tryz.it28 : Av.intT Tryz.prog 8 28 = some 6 := by kernel_rfl
theorem Tryz.eg28 : Tryz.prog.eqGuardType Tryz.prog.depth 28 = false := by kernel_rfl
theorem Tryz.it60 : Av.intT Tryz.prog 8 60 = some 3 := by kernel_rfl
theorem Tryz.eg60 : Tryz.prog.eqGuardType Tryz.prog.depth 60 = false := by kernel_rfl
end Go.Proofs.YticnppnejafhdaaGreatDoor
/- Texts: strconv.Itoa, strings.Join, and asking an interface for its type: by abstract states. -/
namespace Go.Proofs.YticnppnejafhdaaGreatDoor
open Go.RowKit
open Nd Rc Mo
open Av
def txtI (n : Int) : ByteArray := ⟨(Lib.itoa n).toArray⟩
/-- The table of the powers of ten. -/
def TabC (w : World) : Prop := Lib.TabIs Tryz.prog w "internal/strconv.uint64pow10" .u64 Lib.pow10Tab
theorem TabC.below {w w' : World} (hb : Below w.heap.size w w') (h : TabC w) : TabC w' := tab_below hb h
theorem itoaS_ok (i : Nat) (hi : i < 100) : FnOK Tryz.prog 88 [iv (i : Int)] ⟨.v (.string (txtI (i : Int))), none⟩ := fn_of ⟨Tryz.f88, _, Tryz.func88, by kernel_rfl, rfl⟩ fun w R hR us hus => by
  cases hus with | cons h0 _ hus =>
  cases hus
  rw [h0]
  refine (Any.strconv_Itoa_small Tryz.lays171 i hi w).mono ?_
  rintro e w' ⟨rfl, rfl⟩
  exact ⟨_, rfl, Below.refl _ _, rfl, by unfold txtI; rw [Lib.itoa_nonneg]; rfl⟩
def strRow (s : ByteArray) : List PV := [.v (.string s)]
def joinT (xs : List ByteArray) (sep : ByteArray) : ByteArray := ⟨(Lib.join (xs.map (·.data.toList)) sep.data.toList).toArray⟩
theorem join_ok (xs : List ByteArray) (sep : ByteArray) (hN : xs.length ≤ 140737488355328) (hlen : (Lib.join (xs.map (·.data.toList)) sep.data.toList).length ≤ 140737488355328) :
    FnOK Tryz.prog 89 [.sl 1 (xs.map strRow), .v (.string sep)] ⟨.v (.string (joinT xs sep)), none⟩ := fn_of ⟨Tryz.f89, _, Tryz.func89, by kernel_rfl, rfl⟩ fun w R hR us hus => by
  cases hus with | cons h0 _ hus =>
  cases hus with | cons h1 _ hus =>
  cases hus
  rw [h1]
  have h0' : RepP R (.sl 1 (xs.map strRow)) _ := h0
  generalize hp : PV.sl 1 (xs.map strRow) = p at h0'
  cases h0' with
  | v => cases hp
  | sl sz rows A cap f hsz hA hf hc =>
    injection hp with hsz1 hrows
    subst hsz1
    subst hrows
    rw [List.length_map] at hc ⊢
    refine Calls.mono (R := fun e w' => e = .returned (.string (joinT xs sep)) ∧ Below w.heap.size w w') ?_ (fun e w' h2 => ⟨_, h2.1, h2.2, rfl, rfl⟩)
    have hcells : ∀ (b off : Nat), (∀ (k : Nat) (row : List PV) (j : Nat) (p : PV), (xs.map strRow)[k]? = some row → row[j]? = some p → R ⟨b, off + k * 1 + j, none⟩ = some (f k j)) → ∀ (j : Nat) x, xs[j]? = some x → w.cell? ⟨b, off + j, none⟩ = some (.string x) := fun b off h j x hx => by
      have g1 : (xs.map strRow)[j]? = some (strRow x) := by rw [List.getElem?_map, hx]; rfl
      have g2 := hR _ _ (h j _ 0 _ g1 rfl)
      have g3 := hf j _ 0 _ g1 rfl
      cases hq : f j 0 with
      | string y =>
        rw [hq] at g3 g2
        cases g3
        simpa using g2
      | _ => rw [hq] at g3; cases g3
    match xs, hA, hcells, hN, hc, hlen with
    | [], _, _, _, _, _ =>
      refine (Any.strings_Join_none Tryz.lays156 Tryz.Builder_Extra_156 A cap sep w).mono fun e w' h2 => ⟨?_, h2.2 ▸ Below.refl _ _⟩
      rw [h2.1]; rfl
    | x :: xs, hA, hcells, hN, hc, hlen =>
      rcases hA with hA | ⟨b, off, rfl, hA2⟩
      · cases hA
      · have hc1 := hcells b off hA2
        exact Any.strings_Join Tryz.lays156 Tryz.Builder_Extra_156 b off cap (x :: xs) sep w hc1 (World.block_lt_of_cell? w _ (hc1 0 x rfl)) hN hc hlen
section
variable {n d : Nat} {σ : St} {o : Oper} {K : St → Prop}
theorem hand_assert {x : Operand} {T U t : TypeId} {u z : Value} {ty : TypeDesc} (ho : o.op = .typeAssert x T U true) (hd : o.dst = some d) (hdn : d < n) (hx : evo (Av.look σ.slot) x = some (.v (.iface t u))) (hU : Tryz.prog.underlying U = some ty) (hty : ∀ ms, ty ≠ .interface ms) (hz : (Tryz.prog.info? U).map (·.zero) = some (some z)) (h1 : z.oneCell' = true) (hu1 : u.oneCell' = true)
    (h : K (σ.put d (.tup [.c (.v (if t = U then u else z)), .c (.v (.bool (decide (t = U))))]))) : Hand Tryz.prog n σ o K := by
  refine hand_value hd hdn fun F γ a w hF hr => ⟨.tup [.c (.v (if t = U then u else z)), .c (.v (.bool (decide (t = U))))], .tuple #[if t = U then u else z, .bool (decide (t = U))], w, σ.ext, ?_, Turn.same hr.exth (fun _ h => h) (fun _ h => .inr h), ⟨[_, _], rfl, .cons (.c (.v _ ?_)) (.cons (.c (.v _ rfl)) .nil)⟩, fun k hk => (by cases hk), h⟩
  · have e1 : a.eval x = .iface t u := (evo_ok hr (fun _ _ _ hy => hy) hx).1
    have hzv : (zeroValue U).run Tryz.prog w = .ok z w := by
      cases hi : Tryz.prog.info? U with
      | none => rw [hi] at hz; cases hz
      | some i =>
        rw [hi] at hz
        simp only [Option.map_some, Option.some.injEq] at hz
        simp [zeroValue, typeInfo, hi, hz]
    have hund : (underlying U).run Tryz.prog w = .ok ty w := by
      simp [underlying, hU]
    by_cases ht : t = U
    · subst ht
      simp [execOp, ho, e1, Instr.typeAssert, hund]
    · simp [execOp, ho, e1, Instr.typeAssert, hund, hzv, ht]
  · split
    · exact hu1
    · exact h1
end
end Go.Proofs.YticnppnejafhdaaGreatDoor
/- Lines: plain. -/
namespace Go.Proofs.YticnppnejafhdaaGreatDoor
open Go.RowKit
open Nd Rc Mo
open Av
set_option maxRecDepth 100000
set_option linter.unusedSimpArgs false

inductive Pt where
  | n (i : Int)
  | s (t : ByteArray)
def Pt.pv : Pt → PV
  | .n i => .v (.iface 3 (.int .i64 i))
  | .s t => .v (.iface 9 (.string t))
def Pt.row (p : Pt) : List PV := [p.pv]
def Pt.txt : Pt → ByteArray
  | .n i => txtI i
  | .s t => t
def lineT (l : List Pt) : ByteArray := joinT (l.map Pt.txt) ⟨#[32]⟩ ++ ⟨#[10]⟩
/-- The bytes that some parts take at most. -/
def lensT (l : List Pt) : Nat := (l.map fun p => p.txt.size + 1).foldr (· + ·) 0
theorem ba_size (s : ByteArray) : s.size = s.data.toList.length := (Array.length_toList (xs := s.data)).symm
theorem lens_map : ∀ (l : List Pt), Lib.lens ((l.map Pt.txt).map (·.data.toList)) + l.length = lensT l
  | [] => rfl
  | p :: l => by
    have := lens_map l
    have h := ba_size p.txt
    have e : lensT (p :: l) = p.txt.size + 1 + lensT l := rfl
    have e2 : Lib.lens (((p :: l).map Pt.txt).map (·.data.toList)) = p.txt.data.toList.length + Lib.lens ((l.map Pt.txt).map (·.data.toList)) := rfl
    rw [e, e2, List.length_cons]
    omega
theorem joinT_len (l : List Pt) : (Lib.join ((l.map Pt.txt).map (·.data.toList)) [32]).length ≤ lensT l := by
  have h := lens_map l
  cases l with
  | nil => rw [List.map_nil, List.map_nil, Lib.join_nil]; exact Nat.zero_le _
  | cons p l =>
    rw [List.map_cons, List.map_cons] at h ⊢
    rw [Lib.join_length]
    simp only [List.length_map, List.length_cons, List.length_nil] at h ⊢
    omega
theorem lineT_size (l : List Pt) : (lineT l).size ≤ lensT l + 1 := by
  have h := joinT_len l
  unfold lineT joinT
  rw [ByteArray.size_append]
  have e1 : (⟨(Lib.join ((l.map Pt.txt).map (·.data.toList)) [32]).toArray⟩ : ByteArray).size = (Lib.join ((l.map Pt.txt).map (·.data.toList)) [32]).length := List.size_toArray
  have e2 : (⟨#[10]⟩ : ByteArray).size = 1 := rfl
  have e3 : ((⟨#[32]⟩ : ByteArray).data.toList) = [32] := rfl
  rw [e3, e1, e2]
  omega
end Go.Proofs.YticnppnejafhdaaGreatDoor
/- Plain facts about late frames and routes. -/
namespace Go.Proofs.YticnppnejafhdaaGreatDoor
open Go.RowKit
open Nd Rc Mo
open Av
theorem find_idx {α : Type} (p : α → Bool) : ∀ (l : List α) (k : Int), (l.find? p = none ∧ idxP p l k = -1) ∨ ∃ (i : Nat) (x : α), l[i]? = some x ∧ l.find? p = some x ∧ idxP p l k = k + (i : Int) ∧ p x = true
  | [], _ => .inl ⟨rfl, rfl⟩
  | a :: l, k => by
    by_cases h : p a = true
    · exact .inr ⟨0, a, rfl, by rw [List.find?_cons_of_pos h], by rw [idxP, if_pos h]; simp, h⟩
    · rcases find_idx p l (k + 1) with ⟨h1, h2⟩ | ⟨i, x, h1, h2, h3, h4⟩
      · exact .inl ⟨by rw [List.find?_cons_of_neg (by simpa using h), h1], by rw [idxP, if_neg h, h2]⟩
      · exact .inr ⟨i + 1, x, by simpa using h1, by rw [List.find?_cons_of_neg (by simpa using h), h2], by rw [idxP, if_neg h, h3]; push_cast; omega, h4⟩
theorem right_invX {fs : List Fl} {r : Rec} (h : right fs r = true) : (∀ f ∈ fs, fault f = 0) ∧ fs.length ≤ 1000000 ∧ good r = true ∧ r.slots ≤ 4096 := by
  simp only [right, Bool.and_eq_true, decide_eq_true_eq] at h
  obtain ⟨h1, _, h3⟩ := chkF_ok h.1
  have h4 : r.slots ≤ 4096 := by
    have := h.2
    simp only [good, Bool.and_eq_true, decide_eq_true_eq] at this
    omega
  exact ⟨h1, by omega, h.2, h4⟩
theorem late_boundX (fs : List Fl) (r : Rec) : (late fs r).1.length ≤ 1000000 := by
  unfold late
  split
  · rename_i h
    simp only [right, Bool.and_eq_true, decide_eq_true_eq] at h
    obtain ⟨h1, _, h3⟩ := chkF_ok h.1
    have h4 : r.slots ≤ 4096 := by
      have := h.2
      simp only [good, Bool.and_eq_true, decide_eq_true_eq] at this
      omega
    have := late_len h4 fs h1
    dsimp only
    omega
  · exact Nat.zero_le _
theorem late_memX {f : Fl} {r : Rec} {x : Lt} (hx : x ∈ (late [f] r).1) : x.fl = f.id ∧ 0 ≤ x.fr ∧ x.fr < 1048576 := by
  unfold late at hx
  split at hx
  · rename_i h
    obtain ⟨h1, _, _, h4⟩ := right_invX h
    obtain ⟨g, hg, hx1⟩ := List.mem_flatMap.1 hx
    obtain rfl : g = f := by simpa using hg
    obtain ⟨n, hn, hx2⟩ := List.mem_flatMap.1 hx1
    clear hx
    have hx := hx2
    have hc := complete_bounds (h1 _ hg) h4
    have hn' := List.mem_range.1 hn
    unfold lateN at hx
    split at hx
    · cases hx
    · obtain rfl := List.mem_singleton.1 hx
      refine ⟨rfl, ?_, ?_⟩
      · show (0 : Int) ≤ (n : Int); omega
      · show (n : Int) < 1048576; omega
  · cases hx
structure LateOK (n : Net) (f : Fl) (ps : List (List Int)) (r : Rec) (fr : Int) : Prop where
  base : basicB n f r = true
  l1 : 1 ≤ ps.length
  l2 : ps.length ≤ 2
  rt : ∀ p ∈ ps, routeE n f.fr f.tn p = 0
  fr0 : 0 ≤ fr
  fr1 : fr < 1048576
  mem : (lateX n f ps r fr).1 ∈ (late [f] r).1
  id : (lateX n f ps r fr).1.fl = f.id
  num : (lateX n f ps r fr).1.fr = fr
theorem lateX_ok {n : Net} {f : Fl} {ps : List (List Int)} {r : Rec} {fr : Int} (h : (lateX n f ps r fr).2 = 0) : LateOK n f ps r fr := by
  have key : ∀ x : Lt × Int, x = lateX n f ps r fr → x.2 = 0 → LateOK n f ps r fr := by
    intro x hx h0
    unfold lateX at hx
    split at hx
    · subst hx; cases h0
    rename_i h1
    split at hx
    · subst hx; cases h0
    rename_i h2
    split at hx
    · subst hx; cases h0
    rename_i y hy
    have hL : lateX n f ps r fr = (y, 0) := by unfold lateX; rw [if_neg h1, if_neg h2, hy]
    have hmem := List.mem_of_find?_eq_some hy
    have hfr : y.fr = fr := by have := List.find?_some hy; simpa using this
    have hq := late_memX hmem
    have hps : ¬ (ps.length < 1) ∧ ¬ (2 < ps.length) := ⟨fun h => h1 (.inr (.inl h)), fun h => h1 (.inr (.inr h))⟩
    refine ⟨?_, by omega, by omega, fun p hp => ?_, by omega, by omega, by rw [hL]; exact hmem, by rw [hL]; exact hq.1, by rw [hL]; exact hfr⟩
    · cases hb : basicB n f r with
      | true => rfl
      | false => exact absurd (.inl hb) h1
    · refine Classical.byContradiction fun hne => h2 (List.any_eq_true.2 ⟨p, hp, ?_⟩)
      simpa using hne
  exact key _ rfl h
theorem route_inv {n : Net} {a b : Int} {p : List Int} (h : routeE n a b p = 0) : 2 ≤ p.length ∧ p.length ≤ 9 ∧ ∀ (i : Nat) (x y : Int), p[i]? = some x → p[i + 1]? = some y → 0 ≤ idxL n x y := by
  unfold routeE at h
  split at h
  · cases h
  rename_i h1
  split at h
  · cases h
  rename_i h2
  split at h
  · cases h
  split at h
  · cases h
  split at h
  · cases h
  split at h
  · cases h
  rename_i h6
  refine ⟨by omega, by omega, fun i x y hx hy => ?_⟩
  have hi := (List.getElem?_eq_some_iff.1 hy).1
  have hg : gapAt n p i = false := by
    cases hq : gapAt n p i with
    | false => rfl
    | true => exact absurd (List.any_eq_true.2 ⟨i, List.mem_range.2 (by omega), hq⟩) h6
  unfold gapAt goodL at hg
  rw [List.getD_eq_getElem?_getD, List.getD_eq_getElem?_getD, hx, hy] at hg
  simp only [Option.getD_some, Bool.not_eq_false', Bool.and_eq_true, decide_eq_true_eq] at hg
  exact hg.1
end Go.Proofs.YticnppnejafhdaaGreatDoor
/- What stands for a list may be nil where the list is empty. -/
namespace Go.Proofs.YticnppnejafhdaaGreatDoor
open Go.RowKit
open Nd Rc Mo
open Av
set_option maxRecDepth 100000
set_option linter.unusedSimpArgs false
namespace Av

/-- What stands for a list may be nil where the list is empty. -/
inductive PVLe : PV → PV → Prop
  | refl (p : PV) : PVLe p p
  | nil (sz : Nat) : PVLe (.v (.slice none 0 0)) (.sl sz [])
inductive PVsLe : List PV → List PV → Prop
  | nil : PVsLe [] []
  | cons {x y : PV} {xs ys : List PV} (h : PVLe x y) (t : PVsLe xs ys) : PVsLe (x :: xs) (y :: ys)
inductive AVLe : AV → AV → Prop
  | refl (x : AV) : AVLe x x
  | nil (sz : Nat) : AVLe (.v (.slice none 0 0)) (.sl sz [])
  | agg {xs ys : List PV} (h : PVsLe xs ys) : AVLe (.agg xs) (.agg ys)
inductive AVsLe : List AV → List AV → Prop
  | nil : AVsLe [] []
  | cons {x y : AV} {xs ys : List AV} (h : AVLe x y) (t : AVsLe xs ys) : AVsLe (x :: xs) (y :: ys)
theorem rep_nilS {R : Reader} {sz : Nat} : RepP R (.sl sz []) (.slice none 0 0) := .sl sz [] none 0 (fun _ _ => undef) (fun k row hk => by cases hk) (.inl rfl) (fun k row j p hk => by cases hk) (Nat.le_refl _)
theorem PVLe.rep {R : Reader} {x y : PV} {u : Value} (h : PVLe x y) (hr : RepP R x u) : RepP R y u := by
  cases h with
  | refl => exact hr
  | nil sz => cases hr; exact rep_nilS
theorem PVsLe.rep {R : Reader} {xs ys : List PV} (h : PVsLe xs ys) : ∀ {us : List Value}, RepL R xs us → RepL R ys us := by
  induction h with
  | nil => exact fun h => h
  | cons h t ih =>
    intro us hr
    cases hr with | cons g0 g1 => exact .cons (h.rep g0) (ih g1)
theorem AVLe.rep {R : Reader} {bx : Nat → Nat} {x y : AV} {u : Value} (h : AVLe x y) (hr : RepA R bx x u) : RepA R bx y u := by
  cases h with
  | refl => exact hr
  | nil sz => cases hr; exact rep_nilS
  | agg h =>
    obtain ⟨vs, e, hv⟩ := hr
    exact ⟨vs, e, h.rep hv⟩
theorem AVLe.refs {x y : AV} (h : AVLe x y) (hr : x.refs = []) : y.refs = [] := by
  cases h with
  | refl => exact hr
  | nil sz => rfl
  | agg h => rfl
theorem fnOK_le {P : Program} {f : FuncId} {args args' : List AV} {res : FRes} (h : FnOK P f args' res) (hl : AVsLe args args') : FnOK P f args res :=
  ⟨h.1, fun w R hR us hus => h.2 w R hR us (by
    clear h hR
    induction hl generalizing us with
    | nil => exact hus
    | cons h t ih =>
      cases hus with
      | cons g0 g1 g2 => exact .cons (h.rep g0) (h.refs g1) (ih _ g2))⟩
end Av
end Go.Proofs.YticnppnejafhdaaGreatDoor
/- Abstract states: regions that draw their order and store one result late. Generic. -/
namespace Go.Proofs.YticnppnejafhdaaGreatDoor
open Go.RowKit
namespace Av
section
variable {P : Program} {ops : Array Oper} {Q : Exit → Act → World → Prop}
end
section
variable {P : Program} {F : Fr}
def stored (σ : St) (k : Nat) (cs xs : List PV) : St := { slot := σ.slot, box := (k, setAt cs 0 xs) :: σ.box, own := keepL σ.own k 0 xs.length, ext := σ.ext }
end
end Av
end Go.Proofs.YticnppnejafhdaaGreatDoor
/- Slots of a frame, for whatever frame can be recorded. -/
namespace Go.Proofs.YticnppnejafhdaaGreatDoor
open Go.RowKit
open Nd Rc Mo
open Av
set_option maxRecDepth 100000
set_option linter.unusedSimpArgs false

set_option maxHeartbeats 1000000 in
theorem releaseW_any (f : Fl) (n : Int) (hf : fault f = 0) (h0 : 0 ≤ n) (h1 : n ≤ 1048576) (w : World) :
    Calls Tryz.prog 106 #[.agg #[.int .i64 f.id, .int .i64 f.fr, .int .i64 f.tn, .int .i64 f.pe, .int .i64 f.ph, .int .i64 f.dl], .int .i64 n] w fun e w' => e = .returned (.tuple #[.int .i64 (rel f n), .int .i64 0]) ∧ Below w.heap.size w w' := by
  have con := fun W => alone_any f W
  rw [hf] at con
  obtain ⟨_, _, _, hp, hq, hdl, _⟩ := fault_zero hf
  have hm0 : 0 ≤ n * f.pe := Int.mul_nonneg h0 (by omega)
  have hm1 : n * f.pe ≤ 1048576 * f.pe := Int.mul_le_mul_of_nonneg_right h1 (by omega)
  unfold rel
  obtain ⟨m, hmm⟩ : ∃ m, m = n * f.pe := ⟨_, rfl⟩
  have hw1 : IntKind.i64.wrap (n * f.pe) = m := by rw [← hmm, IntKind.wrap_i64]; omega
  rw [← hmm] at hm0 hm1 ⊢
  have hw2 : IntKind.i64.wrap (f.ph + m) = f.ph + m := by rw [IntKind.wrap_i64]; omega
  have d0 : decide (n < 0) = false := decide_eq_false (by omega)
  have d1 : decide (1099511627776 < n) = false := decide_eq_false (by omega)
  have d2 : decide (1099511627776 < f.ph + m) = false := decide_eq_false (by omega)
  clear hf
  obtain ⟨id, fr, tn, pe, ph, dl⟩ := f
  dsimp only at *
  have HMM := Lib.hid hmm.symm
  have Con := Lib.hid con
  clear con hmm
  go_enter Tryz.func106, Tryz.ntmps106
  go_wp2_with (first | (go_at_call 152; (with_reducible refine (Con.out _).mono ?_); rintro e w2 ⟨rfl, hb2⟩; have r2 := (Row.new w [.int .i64 id, .int .i64 fr, .int .i64 tn, .int .i64 pe, .int .i64 ph, .int .i64 dl] 28).below hb2 (by simp); unfold Row at r2) | fail)
  go_ret2
  exact ⟨by first | rfl | (rw [HMM.out]; done) | simp [HMM.out], ((Below.refl _ _).alloc (Nat.le_refl _) _).trans (hb2.mono (by simp))⟩

set_option maxHeartbeats 1000000 in
theorem WindowW_any (f : Fl) (n : Int) (hf : fault f = 0) (h0 : 0 ≤ n) (h1 : n ≤ 1048576) (w : World) :
    Calls Tryz.prog 70 #[.agg #[.int .i64 f.id, .int .i64 f.fr, .int .i64 f.tn, .int .i64 f.pe, .int .i64 f.ph, .int .i64 f.dl], .int .i64 n] w fun e w' => e = .returned (.tuple #[.int .i64 (rel f n), .int .i64 (rel f n + f.pe - 1), .int .i64 0]) ∧ Below w.heap.size w w' := by
  have con := fun W => releaseW_any f n hf h0 h1 W
  obtain ⟨_, _, _, hp, hq, hdl, _⟩ := fault_zero hf
  have hm0 : 0 ≤ n * f.pe := Int.mul_nonneg h0 (by omega)
  have hm1 : n * f.pe ≤ 1048576 * f.pe := Int.mul_le_mul_of_nonneg_right h1 (by omega)
  unfold rel at con ⊢
  generalize hmm : n * f.pe = m at *
  clear hmm
  clear hf
  obtain ⟨id, fr, tn, pe, ph, dl⟩ := f
  dsimp only at *
  have Con := Lib.hid con
  clear con
  have hw1 : IntKind.i64.wrap (ph + m + pe - 1) = ph + m + pe - 1 := by rw [IntKind.wrap_i64]; omega
  have hw2 : IntKind.i64.wrap (ph + m + pe) = ph + m + pe := by rw [IntKind.wrap_i64]; omega
  go_enter Tryz.func70, Tryz.ntmps70
  go_wp2_with (first | (go_at_call 106; (with_reducible refine (Con.out _).mono ?_); rintro e w2 ⟨rfl, hb2⟩; have r2 := (Row.new w [.int .i64 id, .int .i64 fr, .int .i64 tn, .int .i64 pe, .int .i64 ph, .int .i64 dl] 28).below hb2 (by simp); unfold Row at r2) | fail)
  go_quiet (fail)
  go_wp2_with fail
  go_ret3
  exact ⟨rfl, below_drewN (((Below.refl _ _).alloc (Nat.le_refl _) _).trans (hb2.mono (by simp))) _⟩

set_option maxHeartbeats 1000000 in
theorem DueW_any (f : Fl) (n : Int) (hf : fault f = 0) (h0 : 0 ≤ n) (h1 : n ≤ 1048576) (w : World) :
    Calls Tryz.prog 71 #[.agg #[.int .i64 f.id, .int .i64 f.fr, .int .i64 f.tn, .int .i64 f.pe, .int .i64 f.ph, .int .i64 f.dl], .int .i64 n] w fun e w' => e = .returned (.tuple #[.int .i64 (rel f n + f.dl - 1), .int .i64 0]) ∧ Below w.heap.size w w' := by
  have con := fun W => releaseW_any f n hf h0 h1 W
  obtain ⟨_, _, _, hp, hq, hdl, _⟩ := fault_zero hf
  have hm0 : 0 ≤ n * f.pe := Int.mul_nonneg h0 (by omega)
  have hm1 : n * f.pe ≤ 1048576 * f.pe := Int.mul_le_mul_of_nonneg_right h1 (by omega)
  unfold rel at con ⊢
  generalize hmm : n * f.pe = m at *
  clear hmm
  clear hf
  obtain ⟨id, fr, tn, pe, ph, dl⟩ := f
  dsimp only at *
  have Con := Lib.hid con
  clear con
  have hw1 : IntKind.i64.wrap (ph + m + dl - 1) = ph + m + dl - 1 := by rw [IntKind.wrap_i64]; omega
  have hw2 : IntKind.i64.wrap (ph + m + dl) = ph + m + dl := by rw [IntKind.wrap_i64]; omega
  go_enter Tryz.func71, Tryz.ntmps71
  go_wp2_with (first | (go_at_call 106; (with_reducible refine (Con.out _).mono ?_); rintro e w2 ⟨rfl, hb2⟩; have r2 := (Row.new w [.int .i64 id, .int .i64 fr, .int .i64 tn, .int .i64 pe, .int .i64 ph, .int .i64 dl] 28).below hb2 (by simp); unfold Row at r2) | fail)
  go_ret2
  exact ⟨rfl, ((Below.refl _ _).alloc (Nat.le_refl _) _).trans (hb2.mono (by simp))⟩

theorem window_okW (f : Fl) (n : Int) (hf : fault f = 0) (h0n : 0 ≤ n) (h1n : n ≤ 1048576) : FnOK Tryz.prog 70 [.agg f.pv, iv n] ⟨.tup [.c (ip (rel f n)), .c (ip (rel f n + f.pe - 1)), .c (ip 0)], none⟩ := fn_of ⟨Tryz.f70, _, Tryz.func70, by kernel_rfl, rfl⟩ fun w R hR us hus => by
  cases hus with | cons h0 _ hus =>
  cases hus with | cons h1 _ hus =>
  cases hus
  rw [fl_rep h0, h1]
  refine (WindowW_any f n hf h0n h1n w).mono ?_
  rintro e w' ⟨rfl, hb⟩
  exact ⟨_, rfl, hb, rfl, _, rfl, .cons (.c (.v _ rfl)) (.cons (.c (.v _ rfl)) (.cons (.c (.v _ rfl)) .nil))⟩

theorem due_okW (f : Fl) (n : Int) (hf : fault f = 0) (h0n : 0 ≤ n) (h1n : n ≤ 1048576) : FnOK Tryz.prog 71 [.agg f.pv, iv n] ⟨.tup [.c (ip (rel f n + f.dl - 1)), .c (ip 0)], none⟩ := fn_of ⟨Tryz.f71, _, Tryz.func71, by kernel_rfl, rfl⟩ fun w R hR us hus => by
  cases hus with | cons h0 _ hus =>
  cases hus with | cons h1 _ hus =>
  cases hus
  rw [fl_rep h0, h1]
  refine (DueW_any f n hf h0n h1n w).mono ?_
  rintro e w' ⟨rfl, hb⟩
  exact ⟨_, rfl, hb, res_vv rfl rfl⟩

end Go.Proofs.YticnppnejafhdaaGreatDoor
/- Plain facts about what a check of an explanation asks. -/
namespace Go.Proofs.YticnppnejafhdaaGreatDoor
open Go.RowKit
open Nd Rc Mo
open Av

theorem att_len (al : List Att) (fl fr a b : Int) : (onLk al fl fr a b).length ≤ al.length := by
  unfold onLk ofFrame
  exact Nat.le_trans (List.length_filter_le _ _) (List.length_filter_le _ _)

theorem onB_iff {x y : Int} : ∀ {p : List Int}, onB p x y = true ↔ ∃ i : Nat, p[i]? = some x ∧ p[i + 1]? = some y
  | [] => by simp [onB]
  | [a] => by simp [onB]
  | a :: b :: p => by
    rw [onB, Bool.or_eq_true, Bool.and_eq_true, beq_iff_eq, beq_iff_eq, onB_iff]
    constructor
    · rintro (⟨rfl, rfl⟩ | ⟨i, h1, h2⟩)
      · exact ⟨0, rfl, rfl⟩
      · exact ⟨i + 1, h1, h2⟩
    · rintro ⟨i, h1, h2⟩
      cases i with
      | zero => simp at h1 h2; exact .inl ⟨h1, h2⟩
      | succ i => exact .inr ⟨i, by simpa using h1, by simpa using h2⟩
theorem dup_lt {p : List Int} (h : dupB p = false) {i j : Nat} {x : Int} (hi : p[i]? = some x) (hj : p[j]? = some x) : ¬ j < i := by
  intro hlt
  have : dupB p = true := by
    refine List.any_eq_true.2 ⟨i, List.mem_range.2 (List.getElem?_eq_some_iff.1 hi).1, ?_⟩
    unfold dupAt
    refine List.any_eq_true.2 ⟨x, List.mem_of_getElem? (i := j) (by rw [List.getElem?_take_of_lt hlt, hj]), ?_⟩
    rw [List.getD_eq_getElem?_getD, hi]
    simp
  rw [h] at this
  cases this
theorem route_dup {n : Net} {a b : Int} {p : List Int} (h : routeE n a b p = 0) : dupB p = false := by
  cases hq : dupB p with
  | false => rfl
  | true =>
    exfalso
    unfold routeE at h
    rw [if_pos hq] at h
    split at h
    · cases h
    split at h
    · cases h
    split at h
    · cases h
    split at h
    · cases h
    cases h
theorem onB_at {n : Net} {a b : Int} {p : List Int} (h : routeE n a b p = 0) {i : Nat} {x y : Int} (hi : p[i]? = some x) : onB p x y = true ↔ p[i + 1]? = some y := by
  rw [onB_iff]
  constructor
  · rintro ⟨j, h1, h2⟩
    have g1 := dup_lt (route_dup h) hi h1
    have g2 := dup_lt (route_dup h) h1 hi
    obtain rfl : j = i := by omega
    exact h2
  · exact fun h2 => ⟨i, hi, h2⟩
theorem mem_causesX {n : Net} {f : Fl} {r : Rec} {fr a b : Int} {y : Br} (h : y ∈ causesX n f r fr a b) : y = ⟨f.id, fr, a, b, y.sl⟩ := by
  unfold causesX causesK at h
  obtain ⟨i, _, h⟩ := List.mem_flatMap.1 h
  unfold causeAt at h
  split at h
  · rw [List.mem_singleton.1 h]
  · cases h
theorem causesX_len {n : Net} {f : Fl} {r : Rec} {fr a b : Int} : (causesX n f r fr a b).length ≤ r.al.length := by
  unfold causesX
  refine Nat.le_trans (causesK_len _ _ _ _ _ _ _ _ _) ?_
  have := att_len r.al f.id fr a b
  omega
theorem contains_X {n : Net} {f : Fl} {r : Rec} {fr : Int} {c : Br} : (causesX n f r fr c.fm c.tt).contains c = (c.fl == f.id && (c.fr == fr && (causesX n f r fr c.fm c.tt).any fun y => decide (y.sl = c.sl))) := by
  rw [Bool.eq_iff_iff, List.contains_iff_mem, Bool.and_eq_true, Bool.and_eq_true, beq_iff_eq, beq_iff_eq, List.any_eq_true]
  constructor
  · intro h
    have h1 := mem_causesX h
    refine ⟨by rw [h1], by rw [h1], c, h, by simp⟩
  · rintro ⟨h1, h2, y, hy, h3⟩
    have h4 := mem_causesX hy
    have h5 : y = c := by
      rw [h4, ← h1, ← h2, of_decide_eq_true h3]
    rw [← h5, h5] at hy
    exact hy
theorem zip_all {α β : Type} {q : α × β → Bool} {l : List α} {m : List β} (h : ∀ (j : Nat) x y, l[j]? = some x → m[j]? = some y → q (x, y) = true) : (List.zip l m).all q = true := by
  rw [List.all_eq_true]
  rintro ⟨x, y⟩ hz
  obtain ⟨j, hj⟩ := List.mem_iff_getElem?.1 hz
  rw [List.getElem?_zip_eq_some] at hj
  exact h j x y hj.1 hj.2
theorem zip_not {α β : Type} {q : α × β → Bool} {l : List α} {m : List β} {j : Nat} {x : α} {y : β} (hx : l[j]? = some x) (hy : m[j]? = some y) (h : q (x, y) = false) : (List.zip l m).all q = false := by
  rw [Bool.eq_false_iff]
  intro h2
  have : (x, y) ∈ List.zip l m := List.mem_of_getElem? (i := j) (List.getElem?_zip_eq_some.2 ⟨hx, hy⟩)
  rw [List.all_eq_true] at h2
  rw [h2 _ this] at h
  cases h

theorem sl_len {n : Net} {f : Fl} {r : Rec} {fr a b : Int} {y : Br} (h : y ∈ causesX n f r fr a b) : y.sl.length ≤ r.al.length := by
  have hl := att_len r.al f.id fr a b
  unfold causesX causesK at h
  obtain ⟨i, _, h⟩ := List.mem_flatMap.1 h
  unfold causeAt at h
  split at h
  · rw [List.mem_singleton.1 h]
    simp only [List.length_map, List.length_take, List.length_drop]
    omega
  · cases h
end Go.Proofs.YticnppnejafhdaaGreatDoor
/- What an argument's reading says of its cells, for types made of integers, bools, strings, structs and slices. Generic: no program's numbers. -/
namespace Go.Proofs.YticnppnejafhdaaGreatDoor
open Go.RowKit Go.ChangeShapes Go.WideShapes Go.Deep

/-- Shapes of types; the fields of a struct by 'nil' and 'cons'. -/
inductive Ty where
  | int (k : IntKind)
  | bool
  | str
  | slice (e : Ty)
  | struct (l : Ty)
  | nil
  | cons (a l : Ty)

def Ty.cells : Ty → Nat
  | .int _ | .bool | .str | .slice _ => 1
  | .struct l => l.cells
  | .nil => 0
  | .cons a l => a.cells + l.cells

mutual
def Ty.fits (P : Program) : Ty → TypeId → Bool
  | .int k, t => match P.underlying t with
    | some (.int k') => decide (k = k')
    | _ => false
  | .bool, t => match P.underlying t with
    | some .bool => true
    | _ => false
  | .str, t => match P.underlying t with
    | some .string => true
    | _ => false
  | .slice e, t => match P.underlying t with
    | some (.slice u) => e.fits P u && P.cellsOf u == e.cells
    | _ => false
  | .struct l, t => match P.underlying t with
    | some (.struct fs) => l.fitsF P fs.toList 0
    | _ => false
  | .nil, _ => false
  | .cons _ _, _ => false
def Ty.fitsF (P : Program) : Ty → List Field → Nat → Bool
  | .nil, [], _ => true
  | .cons a l, f :: fs, off => f.offset == off && (P.cellsOf f.type == a.cells && (a.fits P f.type && l.fitsF P fs (off + a.cells)))
  | _, _, _ => false
end

/-- The cells cs hold a value of that shape. -/
def Ty.holds (w : World) : Ty → List Value → Prop
  | .int k, cs => ∃ n, cs = [.int k n] ∧ (Lit.int k n).wf = true
  | .bool, cs => ∃ b, cs = [.bool b]
  | .str, cs => ∃ s : ByteArray, cs = [.string s] ∧ s.size ≤ maxLen
  | .slice e, cs => ∃ A n c, cs = [.slice A n c] ∧ n ≤ c ∧ c ≤ maxLen ∧ (A = none → n = 0) ∧ ∀ a, A = some a → ∀ i, i < n → ∃ es, es.length = e.cells ∧ e.holds w es ∧ ∀ j u, es[j]? = some u → w.cell? (a.add (i * e.cells + j)) = some u
  | .struct l, cs => l.holds w cs
  | .nil, _ => True
  | .cons a l, cs => a.holds w (cs.take a.cells) ∧ l.holds w (cs.drop a.cells)

section
variable {H : Type} {enc : TypeId × Value → H} {P : Program} {w : World} {base : Nat} {spare : Nat → Bool} {held : Bool}

theorem add_add_ (a : Addr) (i j : Nat) : (a.add i).add j = a.add (i + j) := (Go.Deep.add_add a i j)

mutual
theorem Ty.holds_of : ∀ (τ : Ty) (t : TypeId) (fuel : Nat) (cs : List Value) (x : DataW H × List MemPlace), τ.fits P t = true → DataW.trod enc P w base spare held fuel t cs = some x → τ.holds w cs
  | .int k, t, fuel, cs, x, hf, h => by
    simp only [Ty.fits] at hf
    split at hf
    · rename_i k' hu
      obtain rfl : k = k' := by simpa using hf
      obtain ⟨n, e, _, hw⟩ := DataW.trod_int hu h
      exact ⟨n, e, hw⟩
    · cases hf
  | .bool, t, fuel, cs, x, hf, h => by
    simp only [Ty.fits] at hf
    split at hf
    · rename_i hu
      obtain ⟨n, e, _⟩ := DataW.trod_bool hu h
      exact ⟨n, e⟩
    · cases hf
  | .str, t, fuel, cs, x, hf, h => by
    simp only [Ty.fits] at hf
    split at hf
    · rename_i hu
      obtain ⟨n, e, _, hl⟩ := DataW.trod_string hu h
      exact ⟨n, e, hl⟩
    · cases hf
  | .slice e, t, fuel, cs, x, hf, h => by
    simp only [Ty.fits] at hf
    split at hf
    · rename_i u hu
      simp only [Bool.and_eq_true, beq_iff_eq] at hf
      obtain ⟨hfe, hce⟩ := hf
      rcases open_slice hu h with ⟨rfl, _⟩ | ⟨a, len, cap, m, n, D, Pl, rfl, hb, hl, hm, hmm, _, hel⟩
      · exact ⟨none, 0, 0, rfl, Nat.le_refl _, Nat.zero_le _, fun _ => rfl, fun a ha => by cases ha⟩
      · refine ⟨some a, len, cap, rfl, hl, hm, fun h0 => (by cases h0), fun a' ha i hi => ?_⟩
        cases ha
        have him : i < m := by rw [hmm]; split <;> omega
        obtain ⟨cs', hc, ht⟩ := hel i him
        rw [hce] at hc
        obtain ⟨_, hlen, hat⟩ := World.cells?_some hc
        refine ⟨cs', hlen, Ty.holds_of e u n cs' _ hfe ht, fun j v hv => ?_⟩
        have hj : j < e.cells := by rw [← hlen]; exact (List.getElem?_eq_some_iff.1 hv).1
        have := hat j hj
        rw [add_add_] at this
        rw [this, hv]
    · cases hf
  | .struct l, t, fuel, cs, x, hf, h => by
    simp only [Ty.fits] at hf
    split at hf
    · rename_i fs hu
      obtain ⟨xs, n, _, _, _, hlen, hff⟩ := DataW.trod_struct hu h
      have := Ty.holds_ofF l fs.toList 0 cs n hf (fun f hm => by
        obtain ⟨i, hi, e⟩ := List.getElem_of_mem hm
        have hi' : i < fs.size := by simpa using hi
        have h1 : fs[i]? = some f := by rw [Array.getElem?_eq_getElem hi']; simpa using e
        have h2 := hff i f h1
        rw [List.getElem?_eq_getElem (by omega)] at h2
        exact ⟨_, h2⟩)
      simpa [Ty.holds] using this
    · cases hf
  | .nil, _, _, _, _, hf, _ => by simp [Ty.fits] at hf
  | .cons _ _, _, _, _, _, hf, _ => by simp [Ty.fits] at hf
theorem Ty.holds_ofF : ∀ (l : Ty) (fs : List Field) (off : Nat) (cs : List Value) (n : Nat), l.fitsF P fs off = true → (∀ f ∈ fs, ∃ y, DataW.trod enc P w base spare held n f.type ((cs.drop f.offset).take (P.cellsOf f.type)) = some y) → l.holds w (cs.drop off)
  | .nil, _, _, _, _, _, _ => by simp [Ty.holds]
  | .cons a l, [], _, _, _, hf, _ => by simp [Ty.fitsF] at hf
  | .cons a l, f :: fs, off, cs, n, hf, h => by
    simp only [Ty.fitsF, Bool.and_eq_true, beq_iff_eq] at hf
    obtain ⟨h1, h2, h3, h4⟩ := hf
    obtain ⟨y, hy⟩ := h f List.mem_cons_self
    rw [h1, h2] at hy
    refine ⟨Ty.holds_of a f.type n _ _ h3 hy, ?_⟩
    rw [List.drop_drop]
    exact Ty.holds_ofF l fs (off + a.cells) cs n h4 fun g hg => h g (List.mem_cons_of_mem _ hg)
  | .int _, _, _, _, _, hf, _ => by simp [Ty.fitsF] at hf
  | .bool, _, _, _, _, hf, _ => by simp [Ty.fitsF] at hf
  | .str, _, _, _, _, hf, _ => by simp [Ty.fitsF] at hf
  | .slice _, _, _, _, _, hf, _ => by simp [Ty.fitsF] at hf
  | .struct _, _, _, _, _, hf, _ => by simp [Ty.fitsF] at hf
end

theorem Ty.holds_trod {τ : Ty} {t : TypeId} {v : Value} {d : DataW H} {p : List MemPlace} (hf : τ.fits P t = true) (h : DataW.Trod enc P w base spare held t v d p) : τ.holds w v.cells.toList := by
  obtain ⟨fuel, h⟩ := h
  exact Ty.holds_of τ t fuel _ _ hf h
end

theorem cell_lt {w : World} {a : Addr} {u : Value} (h : w.cell? a = some u) : a.block < w.heap.size ∧ a.spot = none := by
  unfold World.cell? at h
  split at h
  · rename_i c t fr hh
    refine ⟨?_, ?_⟩
    · rcases Nat.lt_or_ge a.block w.heap.size with h' | h'
      · exact h'
      · rw [Array.getElem?_eq_none h'] at hh; cases hh
    · split at h
      · cases h
      · rename_i hs
        cases hsp : a.spot with
        | none => rfl
        | some s => rw [hsp] at hs; simp at hs
  · cases h

/-- A list out of what is known of each index. -/
theorem list_of {α : Type} {Q : Nat → α → Prop} : ∀ (n : Nat), (∀ i, i < n → ∃ x, Q i x) → ∃ l : List α, l.length = n ∧ ∀ i x, l[i]? = some x → Q i x
  | 0, _ => ⟨[], rfl, fun i x h => by simp at h⟩
  | n + 1, h => by
    obtain ⟨l, hl, hq⟩ := list_of n fun i hi => h i (by omega)
    obtain ⟨x, hx⟩ := h n (by omega)
    refine ⟨l ++ [x], by simp [hl], fun i y hy => ?_⟩
    rcases Nat.lt_or_ge i n with hi | hi
    · rw [List.getElem?_append_left (by omega)] at hy
      exact hq i y hy
    · rw [List.getElem?_append_right (by omega)] at hy
      obtain rfl : i = n := by
        rcases Nat.lt_or_ge (i - l.length) 1 with h1 | h1
        · omega
        · rw [List.getElem?_eq_none (by simpa using h1)] at hy; cases hy
      rw [hl, Nat.sub_self] at hy
      simp at hy
      subst hy
      exact hx

end Go.Proofs.YticnppnejafhdaaGreatDoor
/- Arguments of the laws of the monitor, opened. -/
namespace Go.Proofs.YticnppnejafhdaaGreatDoor
open Go.RowKit
open Nd Rc Mo
open Av
set_option maxRecDepth 100000
set_option linter.unusedSimpArgs false
open Go.ChangeShapes Go.WideShapes Go.ChangeAt

def cellR (w : World) : Reader := fun p => w.cell? p
theorem RepL.get {R : Reader} {ps : List PV} {us : List Value} (h : RepL R ps us) : us.length = ps.length ∧ ∀ (j : Nat) (p : PV), ps[j]? = some p → ∃ u, us[j]? = some u ∧ RepP R p u := by
  induction h with
  | nil => exact ⟨rfl, fun j p h => by simp at h⟩
  | cons h t ih =>
    refine ⟨by simp [ih.1], fun j p hj => ?_⟩
    cases j with
    | zero =>
      simp only [List.getElem?_cons_zero, Option.some.injEq] at hj
      subst hj
      exact ⟨_, rfl, h⟩
    | succ j => exact ih.2 j p (by simpa using hj)
/-- A slice, read by f. -/
theorem rep_of_slice {α : Type} {f : α → List PV} {w : World} {e : Ty} {A : Option Addr} {n c : Nat} (hz : 0 < e.cells) (hnc : n ≤ c) (hnil : A = none → n = 0) (hr : ∀ es, es.length = e.cells → e.holds w es → ∃ x, RepL (cellR w) (f x) es)
    (h : ∀ a, A = some a → ∀ i, i < n → ∃ es, es.length = e.cells ∧ e.holds w es ∧ ∀ j u, es[j]? = some u → w.cell? (a.add (i * e.cells + j)) = some u) :
    ∃ l : List α, l.length = n ∧ RepP (cellR w) (.sl e.cells (l.map f)) (.slice A n c) := by
  cases A with
  | none =>
    obtain rfl := hnil rfl
    exact ⟨[], rfl, .sl e.cells [] none c (fun _ _ => undef) (fun k row hk => by simp at hk) (.inl rfl) (fun k row j p hk => by simp at hk) (Nat.zero_le _)⟩
  | some a =>
    obtain ⟨l, hl, hq⟩ := list_of (Q := fun i x => ∃ es, es.length = e.cells ∧ RepL (cellR w) (f x) es ∧ ∀ j u, es[j]? = some u → w.cell? (a.add (i * e.cells + j)) = some u) n fun i hi => by
      obtain ⟨es, h1, h2, h3⟩ := h a rfl i hi
      obtain ⟨x, hx⟩ := hr es h1 h2
      exact ⟨x, es, h1, hx, h3⟩
    refine ⟨l, hl, ?_⟩
    have hrow : ∀ (k : Nat) (row : List PV), (l.map f)[k]? = some row → row.length = e.cells ∧ ∀ (j : Nat) (p : PV), row[j]? = some p → ∃ u, w.cell? (a.add (k * e.cells + j)) = some u ∧ RepP (cellR w) p u := fun k row hk => by
      rw [List.getElem?_map] at hk
      cases hx : l[k]? with
      | none => rw [hx] at hk; cases hk
      | some x =>
        rw [hx] at hk
        obtain rfl := Option.some.inj hk
        obtain ⟨es, h1, h2, h3⟩ := hq k x hx
        obtain ⟨g1, g2⟩ := RepL.get h2
        refine ⟨by rw [← g1, h1], fun j p hj => ?_⟩
        obtain ⟨u, hu, hp⟩ := g2 j p hj
        exact ⟨u, h3 j u hu, hp⟩
    have hlen : n = (l.map f).length := by rw [List.length_map, hl]
    rw [hlen]
    refine .sl e.cells (l.map f) (some a) c (fun k j => (w.cell? (a.add (k * e.cells + j))).getD undef) (fun k row hk => (hrow k row hk).1) ?_ (fun k row j p hk hj => ?_) (by rw [← hlen]; exact hnc)
    · by_cases hn : l = []
      · exact .inl (by rw [hn]; rfl)
      · right
        have h0 : 0 < l.length := by
          rcases Nat.eq_zero_or_pos l.length with h0 | h0
          · exact absurd (List.eq_nil_of_length_eq_zero h0) hn
          · exact h0
        obtain ⟨x0, hx0⟩ := get_of_lt h0
        obtain ⟨q1, q2⟩ := hrow 0 (f x0) (by rw [List.getElem?_map, hx0]; rfl)
        obtain ⟨p0, hp0⟩ := get_of_lt (l := f x0) (k := 0) (by rw [q1]; exact hz)
        obtain ⟨u0, hu0, _⟩ := q2 0 p0 hp0
        have ha0 : a.add 0 = a := by simp [Addr.add]
        rw [show 0 * e.cells + 0 = 0 by omega, ha0] at hu0
        obtain ⟨_, hsp⟩ := cell_lt hu0
        obtain ⟨b, off, sp⟩ := a
        dsimp only at hsp
        subst hsp
        have hadd : ∀ i : Nat, (⟨b, off, none⟩ : Addr).add i = ⟨b, off + i, none⟩ := fun i => by
          unfold Addr.add
          split
          · rename_i h0; rw [h0]; rfl
          · rfl
        refine ⟨b, off, rfl, fun k row j p hk hj => ?_⟩
        obtain ⟨u, hu, _⟩ := (hrow k row hk).2 j p hj
        rw [hu]
        rw [hadd, ← Nat.add_assoc] at hu
        exact hu
    · obtain ⟨u, hu, hp⟩ := (hrow k row hk).2 j p hj
      rw [hu]; exact hp
def Ty.qi : Ty := .int .i64
def Ty.qatt : Ty := .struct (.cons .qi (.cons .qi (.cons (.struct (.cons .qi (.cons .qi (.cons .qi (.cons .qi (.cons .qi .nil)))))) (.cons .qi .nil))))
def Ty.qdlv : Ty := .struct (.cons .qi (.cons .qi (.cons .qi .nil)))
def Ty.qrec : Ty := .struct (.cons .qi (.cons (.struct (.cons (.slice .qatt) (.cons (.slice .qdlv) .nil))) .nil))
def Ty.qflow : Ty := .struct (.cons .qi (.cons .qi (.cons .qi (.cons .qi (.cons .qi (.cons .qi .nil))))))
def Ty.qnet : Ty := .struct (.cons .qi (.cons (.slice (.slice .qi)) (.cons .qi (.cons .qi (.cons (.slice .qdlv) (.cons (.slice .qi) .nil))))))
theorem Tryz.fitsQrec : Ty.qrec.fits Tryz.prog 35 = true := by kernel_rfl
theorem Tryz.fitsQnet : Ty.qnet.fits Tryz.prog 26 = true := by kernel_rfl
theorem Tryz.fitsQflow1 : Ty.qflow.fits Tryz.prog 28 = true := by kernel_rfl
theorem Tryz.fitsQroutes : (Ty.slice (.slice .qi)).fits Tryz.prog 29 = true := by kernel_rfl
theorem qatt_of {w : World} (es : List Value) (hl : es.length = Ty.qatt.cells) (h : Ty.qatt.holds w es) : ∃ a : Att, RepL (cellR w) a.pv es := by
  match es, hl with
  | [c0, c1, c2, c3, c4, c5, c6, c7], _ =>
    simp only [Ty.qatt, Ty.qi, Ty.holds, Ty.cells, List.take, List.drop] at h
    obtain ⟨⟨n0, h0, _⟩, ⟨n1, h1, _⟩, ⟨⟨n2, h2, _⟩, ⟨n3, h3, _⟩, ⟨n4, h4, _⟩, ⟨n5, h5, _⟩, ⟨n6, h6, _⟩, _⟩, ⟨n7, h7, _⟩, _⟩ := h
    simp only [List.cons.injEq, and_true] at h0 h1 h2 h3 h4 h5 h6 h7
    subst h0 h1 h2 h3 h4 h5 h6 h7
    exact ⟨⟨n0, n1, n2, n3, n4, n5, n6, n7⟩, .cons (.v _ rfl) (.cons (.v _ rfl) (.cons (.v _ rfl) (.cons (.v _ rfl) (.cons (.v _ rfl) (.cons (.v _ rfl) (.cons (.v _ rfl) (.cons (.v _ rfl) .nil)))))))⟩
theorem qdlv_of {w : World} (es : List Value) (hl : es.length = Ty.qdlv.cells) (h : Ty.qdlv.holds w es) : ∃ a : Dlv, RepL (cellR w) a.pv es := by
  match es, hl with
  | [c0, c1, c2], _ =>
    simp only [Ty.qdlv, Ty.qi, Ty.holds, Ty.cells, List.take, List.drop] at h
    obtain ⟨⟨n0, h0, _⟩, ⟨n1, h1, _⟩, ⟨n2, h2, _⟩, _⟩ := h
    simp only [List.cons.injEq, and_true] at h0 h1 h2
    subst h0 h1 h2
    exact ⟨⟨n0, n1, n2⟩, .cons (.v _ rfl) (.cons (.v _ rfl) (.cons (.v _ rfl) .nil))⟩
theorem qlk_of {w : World} (es : List Value) (hl : es.length = Ty.qdlv.cells) (h : Ty.qdlv.holds w es) : ∃ a : Lk, RepL (cellR w) a.pv es := by
  obtain ⟨⟨x, y, z⟩, h⟩ := qdlv_of es hl h
  exact ⟨⟨x, y, z⟩, h⟩
theorem qint_of {w : World} (es : List Value) (_hl : es.length = Ty.qi.cells) (h : Ty.qi.holds w es) : ∃ a : Int, RepL (cellR w) (irow_pv a) es := by
  obtain ⟨n, rfl, _⟩ := h
  exact ⟨n, .cons (.v _ rfl) .nil⟩
theorem qflow_of {w : World} (es : List Value) (hl : es.length = Ty.qflow.cells) (h : Ty.qflow.holds w es) : ∃ a : Fl, RepL (cellR w) a.pv es := by
  match es, hl with
  | [c0, c1, c2, c3, c4, c5], _ =>
    simp only [Ty.qflow, Ty.qi, Ty.holds, Ty.cells, List.take, List.drop] at h
    obtain ⟨⟨n0, h0, _⟩, ⟨n1, h1, _⟩, ⟨n2, h2, _⟩, ⟨n3, h3, _⟩, ⟨n4, h4, _⟩, ⟨n5, h5, _⟩, _⟩ := h
    simp only [List.cons.injEq, and_true] at h0 h1 h2 h3 h4 h5
    subst h0 h1 h2 h3 h4 h5
    exact ⟨⟨n0, n1, n2, n3, n4, n5⟩, .cons (.v _ rfl) (.cons (.v _ rfl) (.cons (.v _ rfl) (.cons (.v _ rfl) (.cons (.v _ rfl) (.cons (.v _ rfl) .nil)))))⟩
theorem qpow_of {w : World} (es : List Value) (_hl : es.length = (Ty.slice .qi).cells) (h : (Ty.slice .qi).holds w es) : ∃ a : List Int, RepL (cellR w) (prow_pv a) es := by
  obtain ⟨A, n, c, rfl, hc, hm, hn, he⟩ := h
  obtain ⟨l, _, hr⟩ := rep_of_slice (f := irow_pv) (e := Ty.qi) (by decide) hc hn qint_of he
  exact ⟨l, .cons hr .nil⟩
section
variable {H : Type} {enc : TypeId × Value → H} {W : World} {base : Nat} {spare : Nat → Bool} {held : Bool} {r : Reach} {b0 : Nat} {v : Value} {d : DataW H} {p : List MemPlace}
theorem open_recP (hv : Value.okWide Tryz.prog W r b0 35 v) (h : DataW.Trod enc Tryz.prog W base spare held 35 v d p) : ∃ q : Rec, RepA (cellR W) (fun _ => 0) (.agg q.pv) v := by
  obtain ⟨cs, rfl, hsz⟩ := okWide_struct Tryz.underlying35 hv
  have hh := Ty.holds_trod (τ := Ty.qrec) Tryz.fitsQrec h
  obtain ⟨l⟩ := cs
  match l, hsz with
  | [c0, c1, c2], _ =>
    simp only [Value.cells, Ty.qrec, Ty.qi, Ty.holds, Ty.cells, List.take, List.drop] at hh
    obtain ⟨⟨n0, h0, w0⟩, ⟨⟨A, n, ca, h1, hc1, hm1, hn1, he1⟩, ⟨D, m, cd, h2, hc2, hm2, hn2, he2⟩, _⟩, _⟩ := hh
    simp only [List.cons.injEq, and_true] at h0 h1 h2
    subst h0 h1 h2
    obtain ⟨la, _, lA⟩ := rep_of_slice (f := Att.pv) (e := Ty.qatt) (by decide) hc1 hn1 qatt_of he1
    obtain ⟨ld, _, lD⟩ := rep_of_slice (f := Dlv.pv) (e := Ty.qdlv) (by decide) hc2 hn2 qdlv_of he2
    exact ⟨⟨n0, la, ld⟩, _, rfl, .cons (.v _ rfl) (.cons lA (.cons lD .nil))⟩
theorem open_netP (hv : Value.okWide Tryz.prog W r b0 26 v) (h : DataW.Trod enc Tryz.prog W base spare held 26 v d p) : ∃ q : Net, q.pow.length ≤ 9223372036854775807 ∧ RepA (cellR W) (fun _ => 0) (.agg q.pv) v := by
  obtain ⟨cs, rfl, hsz⟩ := okWide_struct Tryz.underlying26 hv
  have hh := Ty.holds_trod (τ := Ty.qnet) Tryz.fitsQnet h
  obtain ⟨l⟩ := cs
  match l, hsz with
  | [c0, c1, c2, c3, c4, c5], _ =>
    have hh' : Ty.holds W .qi [c0] ∧ Ty.holds W (.slice (.slice .qi)) [c1] ∧ Ty.holds W .qi [c2] ∧ Ty.holds W .qi [c3] ∧ Ty.holds W (.slice .qdlv) [c4] ∧ Ty.holds W (.slice .qi) [c5] ∧ True := hh
    obtain ⟨⟨n0, h0, _⟩, ⟨P, n, cp, h1, hc1, hm1, hn1, he1⟩, ⟨n2, h2, _⟩, ⟨n3, h3, _⟩, ⟨L, m, cl, h4, hc4, hm4, hn4, he4⟩, ⟨G, k, cg, h5, hc5, hm5, hn5, he5⟩, _⟩ := hh'
    simp only [List.cons.injEq, and_true] at h0 h1 h2 h3 h4 h5
    subst h0 h1 h2 h3 h4 h5
    obtain ⟨lp, ep, lP⟩ := rep_of_slice (f := prow_pv) (e := Ty.slice .qi) (by decide) hc1 hn1 qpow_of he1
    obtain ⟨ll, _, lL⟩ := rep_of_slice (f := Lk.pv) (e := Ty.qdlv) (by decide) hc4 hn4 qlk_of he4
    obtain ⟨lg, _, lG⟩ := rep_of_slice (f := irow_pv) (e := Ty.qi) (by decide) hc5 hn5 qint_of he5
    have hmx : maxLen = 9223372036854775807 := by decide
    exact ⟨⟨n0, n2, n3, lp, ll, lg⟩, (by show lp.length ≤ _; rw [ep]; omega), _, rfl, .cons (.v _ rfl) (.cons lP (.cons (.v _ rfl) (.cons (.v _ rfl) (.cons lL (.cons lG .nil)))))⟩
theorem open_flowP (hv : Value.okWide Tryz.prog W r b0 28 v) (h : DataW.Trod enc Tryz.prog W base spare held 28 v d p) : ∃ q : Fl, RepA (cellR W) (fun _ => 0) (.agg q.pv) v := by
  obtain ⟨cs, rfl, hsz⟩ := okWide_struct Tryz.underlying28 hv
  have hh := Ty.holds_trod (τ := Ty.qflow) Tryz.fitsQflow1 h
  obtain ⟨l⟩ := cs
  obtain ⟨q, hq⟩ := qflow_of l hsz hh
  exact ⟨q, l, rfl, hq⟩
theorem open_routesP (hv : Value.okWide Tryz.prog W r b0 29 v) (h : DataW.Trod enc Tryz.prog W base spare held 29 v d p) : ∃ ps : List (List Int), ps.length ≤ 9223372036854775807 ∧ RepA (cellR W) (fun _ => 0) (.sl 1 (ps.map prow_pv)) v := by
  obtain ⟨a, len, cap, rfl⟩ := okWide_slice Tryz.underlying29 hv
  have hh := Ty.holds_trod (τ := .slice (.slice .qi)) Tryz.fitsQroutes h
  obtain ⟨A, n, c, h1, hc, hm, hn, he⟩ := hh
  simp only [Value.cells, List.cons.injEq, and_true, Value.slice.injEq] at h1
  obtain ⟨rfl, rfl, rfl⟩ := h1
  obtain ⟨l, el, hr⟩ := rep_of_slice (f := prow_pv) (e := Ty.slice .qi) (by decide) hc hn qpow_of he
  have hmx : maxLen = 9223372036854775807 := by decide
  exact ⟨l, by rw [el]; omega, hr⟩
end
/-- A law that returns true. -/
theorem calls_true {P : Program} {f : FuncId} {args : List AV} (h : FnOK P f args ⟨bv true, none⟩) (W : World) (us : List Value) (hus : RepAL (cellR W) args us) : Calls P f us.toArray W fun e W' => e = .returned (.bool true) ∧ Below W.heap.size W W' :=
  (h.2 W (cellR W) (fun _ _ h => h) us hus).mono fun e W' hq => by
    obtain ⟨u, rfl, hb, _, hr⟩ := hq
    exact ⟨by rw [show u = .bool true from hr], hb⟩
theorem Tryz.laidOut : laidOutB Tryz.prog = true := by kernel_rfl
theorem Tryz.own : ownKnob Tryz.prog.godebug = none := by kernel_rfl
def laid3 : List (String × DataW Unit) := [("math/bits.deBruijn32tab", Rows.laid_math_bits_deBruijn32tab), ("math/bits.deBruijn64tab", Rows.laid_math_bits_deBruijn64tab), ("internal/strconv.uint64pow10", Rows.laid_internal_strconv_uint64pow10)]
theorem door_met (os : Os) (args : Array Value) : laidMetH Tryz.prog laid3 ((World.doorLaid Tryz.prog 400 os).forCall (fun _ _ => 0) ⟨#[], args, []⟩).memory :=
  laidMetH_of_parts3 (fuel := 8) (laidMet_of_run' 8 (by kernel_rfl) (by kernel_rfl)) (by kernel_rfl) (by kernel_rfl)

section
variable {H : Type} {enc : TypeId × Value → H} {P : Program}
/-- What the row asks behind a call that only made new memory. (After the guide's small lemmas.) -/
theorem post_of_below {f : Func} {s : ChangeSpec} {apart fresh handsOn again : Bool} {W W' : World} {args : Array Value} {v : Value} {ds gs : List (DataW H)} {before pa pv : List MemPlace}
    (hW : DataW.Whole enc P f.params.toList s.vars apart W args.toList ds gs before)
    (hres : ∀ (b : Nat) (sp : Nat → Bool) (hd : Bool), DataW.TrodAll enc P W' b sp hd f.resultTypes.toList (v.resultList f.resultTypes.size) (s.fn H (ds ++ gs)).results [])
    (hargs : ∀ sp : Nat → Bool, (∀ p ∈ before, sp p.block = true) → DataW.TrodAll enc P W' 0 sp true f.params.toList args.toList (s.fn H (ds ++ gs)).args pa)
    (hvars : ∀ sp : Nat → Bool, (∀ p ∈ before, sp p.block = true) → DataW.TrodVars enc P W' sp s.vars (s.fn H (ds ++ gs)).vars pv)
    (hps : before = pa ++ pv) (hb : Below W.heap.size W W')
    (hok : ∀ (j : Nat) (t : TypeId) (r : Value), f.resultTypes[j]? = some t → (v.resultList f.resultTypes.size)[j]? = some r → Value.okWide P W' .any 0 t r) :
    s.post enc P f apart fresh handsOn again W args v W' := by
  have hlt : ∀ p ∈ before, p.block < W.heap.size := fun p hp => hW.lt p hp
  have hold : ∀ p ∈ before, (fun b => decide (b < W.heap.size)) p.block = true := fun p hp => by simpa using hlt p hp
  refine ⟨ds, gs, before, [], pa, pv, hW, hres _ _ _, hargs _ hold, hvars _ hold, World.keptBut_mono (fun p hp => ⟨hp, ?_⟩) (hb.frame (· ∈ before)), fun _ => ?_⟩
  · rw [hps, List.mem_append] at hp
    exact Or.inr hp
  · obtain ⟨_, _, _, _, _, hz, hn⟩ := hW
    refine ⟨hok, _, _, ([] ++ pa) ++ pv, ⟨[] ++ pa, pv, trodAll_append (hargs _ (fun _ _ => rfl)) (hres _ _ _), hvars _ (fun _ _ => rfl), rfl, ?_, ?_⟩, ?_⟩
    · intro b off hp
      have hin : MemPlace.cell b off ∈ before := by rw [hps]; simpa using hp
      rw [hb.frozen (hlt _ hin)]
      exact hz b off hin
    · intro ha
      have := hn ha
      rw [hps] at this
      simpa using this
    · intro p hp _
      rw [hps]
      simpa using hp
end
end Go.Proofs.YticnppnejafhdaaGreatDoor
/- IndexFunc and ContainsFunc by abstract states, at whatever closure. -/
namespace Go.Proofs.YticnppnejafhdaaGreatDoor
open Go.RowKit
open Nd Rc Mo
open Av
set_option maxRecDepth 100000
set_option linter.unusedSimpArgs false
attribute [local go_sem] Av.guardB Av.sop Av.hopx Av.hop Av.hopCall Av.hopF Av.hopB Av.evo Av.evos Av.avCells Av.loadK Av.bound Av.abin Av.aun Av.partsC Av.lfill Av.placesB Av.setAt Av.stl Av.takes Av.src Av.bxOf Av.ownOf Av.St.res Av.St.put Av.St.addBox Av.St.putOwn Av.delL Av.delS Av.look Av.lookL Av.storeSt Av.stealSt Av.St.setBox Av.keepL Av.hitB Av.snap Av.snaps Av.snapCaps Av.AV.lit Av.AV.refs Av.capRefs Av.PV.av Av.CV.av Av.startSt Av.steals Av.athen Av.ablock Av.appK Av.AllS Av.AllO Av.AllR Av.keepS Av.St.avAt Av.RetOK Av.retAll Av.retOne Av.intsOf Av.ptrB TypeDesc.isRow List.range_zero Option.some.injEq exists_eq_left' exists_eq_left exists_eq' exists_and_left exists_and_right exists_const true_and and_true and_self false_and and_false or_false false_or or_true true_or if_true if_false Bool.false_eq_true List.zipIdx_cons List.zipIdx_nil List.map_cons List.map_nil List.filter_cons List.filter_nil List.contains_cons List.contains_nil List.drop_succ_cons List.drop_zero List.take_succ_cons List.take_zero List.take_nil List.drop_nil List.length_cons List.length_nil List.cons_append List.nil_append List.append_nil List.getElem?_cons_zero List.getElem?_cons_succ List.getElem?_nil Option.bind_some Option.bind_none Option.map_some Option.map_none Option.isNone_none Option.isNone_some Option.isSome_some Option.isSome_none Bool.and_true Bool.true_and Bool.and_false Bool.false_and Bool.or_false Bool.false_or Bool.not_true Bool.not_false beq_true beq_false Bool.true_beq Bool.false_beq Loc.s.injEq Loc.b.injEq decide_true decide_false beq_self_eq_true Nat.zero_add Nat.add_zero List.getElem?_toArray List.toList_toArray List.size_toArray Value.oneCell' List.all_cons List.all_nil Value.int.injEq AV.v.injEq AV.sl.injEq AV.agg.injEq AV.ref.injEq AV.ept.injEq AV.tup.injEq Value.bool.injEq PV.v.injEq PV.sl.injEq List.isEmpty_nil List.isEmpty_cons forall_const not_true_eq_false not_false_eq_true true_implies false_implies Value.string.injEq List.length_map List.getElem?_map Int.toNat_natCast Int.natCast_nonneg List.length_append Value.cells implies_true TypeDesc.struct.injEq TypeDesc.slice.injEq TypeDesc.array.injEq List.getElem?_toArray Prod.mk.injEq and_assoc exists_false List.cons.injEq Operand.tmp.injEq ite_self AV.fnv.injEq AV.clo.injEq ne_eq eq_self Tryz.sz3 Tryz.zr3 Tryz.by3 Tryz.pl3 Tryz.is3 Tryz.underlying3 Tryz.sz4 Tryz.zr4 Tryz.by4 Tryz.pl4 Tryz.is4 Tryz.underlying4 Tryz.sz43 Tryz.zr43 Tryz.by43 Tryz.pl43 Tryz.is43 Tryz.underlying43 Tryz.sz35 Tryz.zr35 Tryz.by35 Tryz.pl35 Tryz.is35 Tryz.underlying35 Tryz.sz33 Tryz.zr33 Tryz.by33 Tryz.pl33 Tryz.is33 Tryz.underlying33 Tryz.sz28 Tryz.zr28 Tryz.by28 Tryz.pl28 Tryz.is28 Tryz.underlying28 Tryz.sz39 Tryz.zr39 Tryz.by39 Tryz.pl39 Tryz.is39 Tryz.underlying39 Tryz.sz57 Tryz.zr57 Tryz.by57 Tryz.pl57 Tryz.is57 Tryz.underlying57 Tryz.sz137 Tryz.zr137 Tryz.by137 Tryz.pl137 Tryz.is137 Tryz.underlying137 Tryz.sz66 Tryz.zr66 Tryz.by66 Tryz.pl66 Tryz.is66 Tryz.underlying66 Tryz.sz64 Tryz.zr64 Tryz.by64 Tryz.pl64 Tryz.is64 Tryz.underlying64 Tryz.sz60 Tryz.zr60 Tryz.by60 Tryz.pl60 Tryz.is60 Tryz.underlying60 Tryz.sz100 Tryz.zr100 Tryz.by100 Tryz.pl100 Tryz.is100 Tryz.underlying100 Tryz.sz103 Tryz.zr103 Tryz.by103 Tryz.pl103 Tryz.is103 Tryz.underlying103 Tryz.sz26 Tryz.zr26 Tryz.by26 Tryz.pl26 Tryz.is26 Tryz.underlying26 Tryz.sz120 Tryz.zr120 Tryz.by120 Tryz.pl120 Tryz.is120 Tryz.underlying120 Tryz.sz117 Tryz.zr117 Tryz.by117 Tryz.pl117 Tryz.is117 Tryz.underlying117 Tryz.sz30 Tryz.zr30 Tryz.by30 Tryz.pl30 Tryz.is30 Tryz.underlying30 Tryz.sz31 Tryz.zr31 Tryz.by31 Tryz.pl31 Tryz.is31 Tryz.underlying31 Tryz.sz40 Tryz.zr40 Tryz.by40 Tryz.pl40 Tryz.is40 Tryz.underlying40 Tryz.sz23 Tryz.zr23 Tryz.by23 Tryz.pl23 Tryz.is23 Tryz.underlying23 Tryz.sz24 Tryz.zr24 Tryz.by24 Tryz.pl24 Tryz.is24 Tryz.underlying24 Tryz.sz22 Tryz.zr22 Tryz.by22 Tryz.pl22 Tryz.is22 Tryz.underlying22 Tryz.sz141 Tryz.zr141 Tryz.by141 Tryz.pl141 Tryz.is141 Tryz.underlying141 Tryz.sz42 Tryz.zr42 Tryz.by42 Tryz.pl42 Tryz.is42 Tryz.underlying42 Tryz.sz29 Tryz.zr29 Tryz.by29 Tryz.pl29 Tryz.is29 Tryz.underlying29 Tryz.sz83 Tryz.zr83 Tryz.by83 Tryz.pl83 Tryz.is83 Tryz.underlying83 Tryz.it39 Tryz.eg39 Tryz.it137 Tryz.eg137 Tryz.it66 Tryz.eg66 Tryz.it28 Tryz.eg28 Tryz.it60 Tryz.eg60 all_arr loc_ss loc_sb loc_bs loc_bb arr_two arr_one rg1 rg2 rg3 rg4 rg5 rg6 rg7 rg8 ResultVar.tmp.injEq Bool.not_true Bool.not_false undef Rc.Rec.pv Nd.Fl.pv Rc.Dlv.pv Rc.Att.pv Mo.Lt.pv Fn.func.injEq Mo.Net.pv Mo.Lk.pv prow_pv irow_pv Br.pv
set_option maxHeartbeats 2000000 in
theorem idxB_ok (c : FuncId) (caps : List (List PV)) (p : Br → Bool) (l : List Br) (hl : l.length ≤ 1000000) (hc : ∀ y ∈ l, FnOK Tryz.prog c (.agg y.pv :: caps.map AV.ept) ⟨bv (p y), none⟩) : FnOK Tryz.prog 63 [.sl 5 (l.map Br.pv), .fnv c caps] ⟨iv (idxP p l 0), none⟩ := by
  refine fn_ok Tryz.func63 (by kernel_rfl) rfl (by rw [Tryz.ntmps63]; exact of_decide_eq_true rfl) (fun F hF => ?_)
  rw [Tryz.ntmps63] at hF
  rw [Tryz.results63]
  repeat (first
    | (with_reducible (first | refine sops_go ?_ | refine headW_end ?_ | refine sops_end ?_ | refine awp_if ?_ | refine awp_skip ?_ | refine awp_ret ?_ | refine awp_exit ?_); simp only [go_sem, simprocAttr, hF])
    | with_reducible (first | refine awp_seq_k fun _ _ => ?_ | refine awp_region [] ?_ | refine awp_block ?_)
    | go_step)
  refine awp_loop_by (ι := {k : Nat // k ≤ l.length ∧ idxP p l 0 = idxP p (l.drop k) (k : Int)}) (fun k σ => ⟨(8, iv (k.1 : Int)) :: keepS [0, 1, 4, 7] σ.slot, σ.box, [], σ.ext⟩) (fun k => l.length - k.1) ⟨0, by omega, rfl⟩ (sub_mk ?_) (fun R hR k => ?_)
  · simp only [go_sem, simprocAttr, hF]
    repeat' (first | rfl | refine ⟨?_, ?_⟩)
  obtain ⟨k, hk, hT⟩ := k
  dsimp only
  simp only [go_sem, simprocAttr, hF]
  by_cases hlt : k < l.length
  case neg =>
    have hd : decide ((k : Int) < (l.length : Int)) = false := decide_eq_false (by omega)
    repeat (first
      | (with_reducible (first | refine sops_go ?_ | refine headW_end ?_ | refine sops_end ?_ | refine awp_if ?_ | refine awp_skip ?_ | refine awp_ret ?_ | refine awp_exit ?_); simp only [go_sem, simprocAttr, hF, hd])
      | with_reducible (first | refine awp_seq_k fun _ _ => ?_ | refine awp_region [] ?_ | refine awp_block ?_)
      | go_step)
    rw [hT, List.drop_of_length_le (by omega)]
    rfl
  obtain ⟨y, hyk⟩ := get_of_lt hlt
  have hd : decide ((k : Int) < (l.length : Int)) = true := decide_eq_true (by omega)
  have hw : IntKind.i64.wrap ((k : Int) + 1) = ((k + 1 : Nat) : Int) := by rw [IntKind.wrap_i64]; omega
  have hT' : idxP p l 0 = if p y = true then (k : Int) else idxP p (l.drop (k + 1)) ((k + 1 : Nat) : Int) := by rw [hT, drop_of_get hyk, idxP]; rfl
  repeat (first
    | (with_reducible (first | refine sops_go ?_ | refine headW_end ?_ | refine sops_end ?_ | refine awp_if ?_ | refine awp_skip ?_ | refine awp_ret ?_ | refine awp_exit ?_); simp only [go_sem, simprocAttr, hF, hd, hyk])
    | with_reducible (first | refine awp_seq_k fun _ _ => ?_ | refine awp_region [] ?_ | refine awp_block ?_)
    | go_step)
  refine ⟨_, hc y (List.mem_of_getElem? hyk), ?_⟩
  simp only [go_sem, simprocAttr, hF]
  cases he : p y with
  | true =>
    try simp only [go_sem, simprocAttr, hF, he]
    repeat (first
      | (with_reducible (first | refine sops_go ?_ | refine headW_end ?_ | refine sops_end ?_ | refine awp_if ?_ | refine awp_skip ?_ | refine awp_ret ?_ | refine awp_exit ?_); simp only [go_sem, simprocAttr, hF, he])
      | with_reducible (first | refine awp_seq_k fun _ _ => ?_ | refine awp_region [] ?_ | refine awp_block ?_)
      | go_step)
    rw [hT', if_pos he]
  | false =>
    try simp only [go_sem, simprocAttr, hF, he]
    repeat (first
      | (with_reducible (first | refine sops_go ?_ | refine headW_end ?_ | refine sops_end ?_ | refine awp_if ?_ | refine awp_skip ?_ | refine awp_ret ?_ | refine awp_exit ?_); simp only [go_sem, simprocAttr, hF, he])
      | with_reducible (first | refine awp_seq_k fun _ _ => ?_ | refine awp_region [] ?_ | refine awp_block ?_)
      | go_step)
    refine ⟨⟨k + 1, by omega, by rw [hT', if_neg (by rw [he]; decide)]⟩, by dsimp only; omega, hR _ _ (sub_mk ?_)⟩
    simp only [go_sem, simprocAttr, hF, hw]

set_option maxHeartbeats 2000000 in
theorem contB_ok (c : FuncId) (caps : List (List PV)) (p : Br → Bool) (l : List Br) (hl : l.length ≤ 1000000) (hc : ∀ y ∈ l, FnOK Tryz.prog c (.agg y.pv :: caps.map AV.ept) ⟨bv (p y), none⟩) : FnOK Tryz.prog 29 [.sl 5 (l.map Br.pv), .fnv c caps] ⟨bv (l.any p), none⟩ := by
  have hx := idx_any p l
  refine fn_ok Tryz.func29 (by kernel_rfl) rfl (by rw [Tryz.ntmps29]; exact of_decide_eq_true rfl) (fun F hF => ?_)
  rw [Tryz.ntmps29] at hF
  rw [Tryz.results29]
  repeat (first
    | (with_reducible (first | refine sops_go ?_ | refine headW_end ?_ | refine sops_end ?_ | refine awp_if ?_ | refine awp_skip ?_ | refine awp_ret ?_ | refine awp_exit ?_); simp only [go_sem, simprocAttr, hF])
    | with_reducible (first | refine awp_seq_k fun _ _ => ?_ | refine awp_region [] ?_ | refine awp_block ?_)
    | go_step)
  refine ⟨_, idxB_ok c caps p l hl hc, ?_⟩
  simp only [go_sem, simprocAttr, hF]
  repeat (first
    | (with_reducible (first | refine sops_go ?_ | refine headW_end ?_ | refine sops_end ?_ | refine awp_if ?_ | refine awp_skip ?_ | refine awp_ret ?_ | refine awp_exit ?_); simp only [go_sem, simprocAttr, hF, hx])
    | with_reducible (first | refine awp_seq_k fun _ _ => ?_ | refine awp_region [] ?_ | refine awp_block ?_)
    | go_step)
  all_goals (try rfl)

set_option maxHeartbeats 2000000 in
theorem idxR_ok (c : FuncId) (caps : List (List PV)) (p : (List Int) → Bool) (l : List (List Int)) (hl : l.length ≤ 1000000) (hc : ∀ y ∈ l, FnOK Tryz.prog c (.sl 1 (y.map irow_pv) :: caps.map AV.ept) ⟨bv (p y), none⟩) : FnOK Tryz.prog 99 [.sl 1 (l.map prow_pv), .fnv c caps] ⟨iv (idxP p l 0), none⟩ := by
  refine fn_ok Tryz.func99 (by kernel_rfl) rfl (by rw [Tryz.ntmps99]; exact of_decide_eq_true rfl) (fun F hF => ?_)
  rw [Tryz.ntmps99] at hF
  rw [Tryz.results99]
  repeat (first
    | (with_reducible (first | refine sops_go ?_ | refine headW_end ?_ | refine sops_end ?_ | refine awp_if ?_ | refine awp_skip ?_ | refine awp_ret ?_ | refine awp_exit ?_); simp only [go_sem, simprocAttr, hF])
    | with_reducible (first | refine awp_seq_k fun _ _ => ?_ | refine awp_region [] ?_ | refine awp_block ?_)
    | go_step)
  refine awp_loop_by (ι := {k : Nat // k ≤ l.length ∧ idxP p l 0 = idxP p (l.drop k) (k : Int)}) (fun k σ => ⟨(8, iv (k.1 : Int)) :: keepS [0, 1, 4, 7] σ.slot, σ.box, [], σ.ext⟩) (fun k => l.length - k.1) ⟨0, by omega, rfl⟩ (sub_mk ?_) (fun R hR k => ?_)
  · simp only [go_sem, simprocAttr, hF]
    repeat' (first | rfl | refine ⟨?_, ?_⟩)
  obtain ⟨k, hk, hT⟩ := k
  dsimp only
  simp only [go_sem, simprocAttr, hF]
  by_cases hlt : k < l.length
  case neg =>
    have hd : decide ((k : Int) < (l.length : Int)) = false := decide_eq_false (by omega)
    repeat (first
      | (with_reducible (first | refine sops_go ?_ | refine headW_end ?_ | refine sops_end ?_ | refine awp_if ?_ | refine awp_skip ?_ | refine awp_ret ?_ | refine awp_exit ?_); simp only [go_sem, simprocAttr, hF, hd])
      | with_reducible (first | refine awp_seq_k fun _ _ => ?_ | refine awp_region [] ?_ | refine awp_block ?_)
      | go_step)
    rw [hT, List.drop_of_length_le (by omega)]
    rfl
  obtain ⟨y, hyk⟩ := get_of_lt hlt
  have hd : decide ((k : Int) < (l.length : Int)) = true := decide_eq_true (by omega)
  have hw : IntKind.i64.wrap ((k : Int) + 1) = ((k + 1 : Nat) : Int) := by rw [IntKind.wrap_i64]; omega
  have hT' : idxP p l 0 = if p y = true then (k : Int) else idxP p (l.drop (k + 1)) ((k + 1 : Nat) : Int) := by rw [hT, drop_of_get hyk, idxP]; rfl
  repeat (first
    | (with_reducible (first | refine sops_go ?_ | refine headW_end ?_ | refine sops_end ?_ | refine awp_if ?_ | refine awp_skip ?_ | refine awp_ret ?_ | refine awp_exit ?_); simp only [go_sem, simprocAttr, hF, hd, hyk])
    | with_reducible (first | refine awp_seq_k fun _ _ => ?_ | refine awp_region [] ?_ | refine awp_block ?_)
    | go_step)
  refine ⟨_, hc y (List.mem_of_getElem? hyk), ?_⟩
  simp only [go_sem, simprocAttr, hF]
  cases he : p y with
  | true =>
    try simp only [go_sem, simprocAttr, hF, he]
    repeat (first
      | (with_reducible (first | refine sops_go ?_ | refine headW_end ?_ | refine sops_end ?_ | refine awp_if ?_ | refine awp_skip ?_ | refine awp_ret ?_ | refine awp_exit ?_); simp only [go_sem, simprocAttr, hF, he])
      | with_reducible (first | refine awp_seq_k fun _ _ => ?_ | refine awp_region [] ?_ | refine awp_block ?_)
      | go_step)
    rw [hT', if_pos he]
  | false =>
    try simp only [go_sem, simprocAttr, hF, he]
    repeat (first
      | (with_reducible (first | refine sops_go ?_ | refine headW_end ?_ | refine sops_end ?_ | refine awp_if ?_ | refine awp_skip ?_ | refine awp_ret ?_ | refine awp_exit ?_); simp only [go_sem, simprocAttr, hF, he])
      | with_reducible (first | refine awp_seq_k fun _ _ => ?_ | refine awp_region [] ?_ | refine awp_block ?_)
      | go_step)
    refine ⟨⟨k + 1, by omega, by rw [hT', if_neg (by rw [he]; decide)]⟩, by dsimp only; omega, hR _ _ (sub_mk ?_)⟩
    simp only [go_sem, simprocAttr, hF, hw]

set_option maxHeartbeats 2000000 in
theorem contR_ok (c : FuncId) (caps : List (List PV)) (p : (List Int) → Bool) (l : List (List Int)) (hl : l.length ≤ 1000000) (hc : ∀ y ∈ l, FnOK Tryz.prog c (.sl 1 (y.map irow_pv) :: caps.map AV.ept) ⟨bv (p y), none⟩) : FnOK Tryz.prog 64 [.sl 1 (l.map prow_pv), .fnv c caps] ⟨bv (l.any p), none⟩ := by
  have hx := idx_any p l
  refine fn_ok Tryz.func64 (by kernel_rfl) rfl (by rw [Tryz.ntmps64]; exact of_decide_eq_true rfl) (fun F hF => ?_)
  rw [Tryz.ntmps64] at hF
  rw [Tryz.results64]
  repeat (first
    | (with_reducible (first | refine sops_go ?_ | refine headW_end ?_ | refine sops_end ?_ | refine awp_if ?_ | refine awp_skip ?_ | refine awp_ret ?_ | refine awp_exit ?_); simp only [go_sem, simprocAttr, hF])
    | with_reducible (first | refine awp_seq_k fun _ _ => ?_ | refine awp_region [] ?_ | refine awp_block ?_)
    | go_step)
  refine ⟨_, idxR_ok c caps p l hl hc, ?_⟩
  simp only [go_sem, simprocAttr, hF]
  repeat (first
    | (with_reducible (first | refine sops_go ?_ | refine headW_end ?_ | refine sops_end ?_ | refine awp_if ?_ | refine awp_skip ?_ | refine awp_ret ?_ | refine awp_exit ?_); simp only [go_sem, simprocAttr, hF, hx])
    | with_reducible (first | refine awp_seq_k fun _ _ => ?_ | refine awp_region [] ?_ | refine awp_block ?_)
    | go_step)
  all_goals (try rfl)

set_option maxHeartbeats 2000000 in
theorem idxT_ok (c : FuncId) (caps : List (List PV)) (p : Lt → Bool) (l : List Lt) (hl : l.length ≤ 1000000) (hc : ∀ y ∈ l, FnOK Tryz.prog c (.agg y.pv :: caps.map AV.ept) ⟨bv (p y), none⟩) : FnOK Tryz.prog 68 [.sl 3 (l.map Lt.pv), .fnv c caps] ⟨iv (idxP p l 0), none⟩ := by
  refine fn_ok Tryz.func68 (by kernel_rfl) rfl (by rw [Tryz.ntmps68]; exact of_decide_eq_true rfl) (fun F hF => ?_)
  rw [Tryz.ntmps68] at hF
  rw [Tryz.results68]
  repeat (first
    | (with_reducible (first | refine sops_go ?_ | refine headW_end ?_ | refine sops_end ?_ | refine awp_if ?_ | refine awp_skip ?_ | refine awp_ret ?_ | refine awp_exit ?_); simp only [go_sem, simprocAttr, hF])
    | with_reducible (first | refine awp_seq_k fun _ _ => ?_ | refine awp_region [] ?_ | refine awp_block ?_)
    | go_step)
  refine awp_loop_by (ι := {k : Nat // k ≤ l.length ∧ idxP p l 0 = idxP p (l.drop k) (k : Int)}) (fun k σ => ⟨(8, iv (k.1 : Int)) :: keepS [0, 1, 4, 7] σ.slot, σ.box, [], σ.ext⟩) (fun k => l.length - k.1) ⟨0, by omega, rfl⟩ (sub_mk ?_) (fun R hR k => ?_)
  · simp only [go_sem, simprocAttr, hF]
    repeat' (first | rfl | refine ⟨?_, ?_⟩)
  obtain ⟨k, hk, hT⟩ := k
  dsimp only
  simp only [go_sem, simprocAttr, hF]
  by_cases hlt : k < l.length
  case neg =>
    have hd : decide ((k : Int) < (l.length : Int)) = false := decide_eq_false (by omega)
    repeat (first
      | (with_reducible (first | refine sops_go ?_ | refine headW_end ?_ | refine sops_end ?_ | refine awp_if ?_ | refine awp_skip ?_ | refine awp_ret ?_ | refine awp_exit ?_); simp only [go_sem, simprocAttr, hF, hd])
      | with_reducible (first | refine awp_seq_k fun _ _ => ?_ | refine awp_region [] ?_ | refine awp_block ?_)
      | go_step)
    rw [hT, List.drop_of_length_le (by omega)]
    rfl
  obtain ⟨y, hyk⟩ := get_of_lt hlt
  have hd : decide ((k : Int) < (l.length : Int)) = true := decide_eq_true (by omega)
  have hw : IntKind.i64.wrap ((k : Int) + 1) = ((k + 1 : Nat) : Int) := by rw [IntKind.wrap_i64]; omega
  have hT' : idxP p l 0 = if p y = true then (k : Int) else idxP p (l.drop (k + 1)) ((k + 1 : Nat) : Int) := by rw [hT, drop_of_get hyk, idxP]; rfl
  repeat (first
    | (with_reducible (first | refine sops_go ?_ | refine headW_end ?_ | refine sops_end ?_ | refine awp_if ?_ | refine awp_skip ?_ | refine awp_ret ?_ | refine awp_exit ?_); simp only [go_sem, simprocAttr, hF, hd, hyk])
    | with_reducible (first | refine awp_seq_k fun _ _ => ?_ | refine awp_region [] ?_ | refine awp_block ?_)
    | go_step)
  refine ⟨_, hc y (List.mem_of_getElem? hyk), ?_⟩
  simp only [go_sem, simprocAttr, hF]
  cases he : p y with
  | true =>
    try simp only [go_sem, simprocAttr, hF, he]
    repeat (first
      | (with_reducible (first | refine sops_go ?_ | refine headW_end ?_ | refine sops_end ?_ | refine awp_if ?_ | refine awp_skip ?_ | refine awp_ret ?_ | refine awp_exit ?_); simp only [go_sem, simprocAttr, hF, he])
      | with_reducible (first | refine awp_seq_k fun _ _ => ?_ | refine awp_region [] ?_ | refine awp_block ?_)
      | go_step)
    rw [hT', if_pos he]
  | false =>
    try simp only [go_sem, simprocAttr, hF, he]
    repeat (first
      | (with_reducible (first | refine sops_go ?_ | refine headW_end ?_ | refine sops_end ?_ | refine awp_if ?_ | refine awp_skip ?_ | refine awp_ret ?_ | refine awp_exit ?_); simp only [go_sem, simprocAttr, hF, he])
      | with_reducible (first | refine awp_seq_k fun _ _ => ?_ | refine awp_region [] ?_ | refine awp_block ?_)
      | go_step)
    refine ⟨⟨k + 1, by omega, by rw [hT', if_neg (by rw [he]; decide)]⟩, by dsimp only; omega, hR _ _ (sub_mk ?_)⟩
    simp only [go_sem, simprocAttr, hF, hw]

set_option maxHeartbeats 2000000 in
theorem idxI_ok (c : FuncId) (caps : List (List PV)) (p : Int → Bool) (l : List Int) (hl : l.length ≤ 1000000) (hc : ∀ y ∈ l, FnOK Tryz.prog c (iv y :: caps.map AV.ept) ⟨bv (p y), none⟩) : FnOK Tryz.prog 168 [.sl 1 (l.map irow_pv), .fnv c caps] ⟨iv (idxP p l 0), none⟩ := by
  refine fn_ok Tryz.func168 (by kernel_rfl) rfl (by rw [Tryz.ntmps168]; exact of_decide_eq_true rfl) (fun F hF => ?_)
  rw [Tryz.ntmps168] at hF
  rw [Tryz.results168]
  repeat (first
    | (with_reducible (first | refine sops_go ?_ | refine headW_end ?_ | refine sops_end ?_ | refine awp_if ?_ | refine awp_skip ?_ | refine awp_ret ?_ | refine awp_exit ?_); simp only [go_sem, simprocAttr, hF])
    | with_reducible (first | refine awp_seq_k fun _ _ => ?_ | refine awp_region [] ?_ | refine awp_block ?_)
    | go_step)
  refine awp_loop_by (ι := {k : Nat // k ≤ l.length ∧ idxP p l 0 = idxP p (l.drop k) (k : Int)}) (fun k σ => ⟨(8, iv (k.1 : Int)) :: keepS [0, 1, 4, 7] σ.slot, σ.box, [], σ.ext⟩) (fun k => l.length - k.1) ⟨0, by omega, rfl⟩ (sub_mk ?_) (fun R hR k => ?_)
  · simp only [go_sem, simprocAttr, hF]
    repeat' (first | rfl | refine ⟨?_, ?_⟩)
  obtain ⟨k, hk, hT⟩ := k
  dsimp only
  simp only [go_sem, simprocAttr, hF]
  by_cases hlt : k < l.length
  case neg =>
    have hd : decide ((k : Int) < (l.length : Int)) = false := decide_eq_false (by omega)
    repeat (first
      | (with_reducible (first | refine sops_go ?_ | refine headW_end ?_ | refine sops_end ?_ | refine awp_if ?_ | refine awp_skip ?_ | refine awp_ret ?_ | refine awp_exit ?_); simp only [go_sem, simprocAttr, hF, hd])
      | with_reducible (first | refine awp_seq_k fun _ _ => ?_ | refine awp_region [] ?_ | refine awp_block ?_)
      | go_step)
    rw [hT, List.drop_of_length_le (by omega)]
    rfl
  obtain ⟨y, hyk⟩ := get_of_lt hlt
  have hd : decide ((k : Int) < (l.length : Int)) = true := decide_eq_true (by omega)
  have hw : IntKind.i64.wrap ((k : Int) + 1) = ((k + 1 : Nat) : Int) := by rw [IntKind.wrap_i64]; omega
  have hT' : idxP p l 0 = if p y = true then (k : Int) else idxP p (l.drop (k + 1)) ((k + 1 : Nat) : Int) := by rw [hT, drop_of_get hyk, idxP]; rfl
  repeat (first
    | (with_reducible (first | refine sops_go ?_ | refine headW_end ?_ | refine sops_end ?_ | refine awp_if ?_ | refine awp_skip ?_ | refine awp_ret ?_ | refine awp_exit ?_); simp only [go_sem, simprocAttr, hF, hd, hyk])
    | with_reducible (first | refine awp_seq_k fun _ _ => ?_ | refine awp_region [] ?_ | refine awp_block ?_)
    | go_step)
  refine ⟨_, hc y (List.mem_of_getElem? hyk), ?_⟩
  simp only [go_sem, simprocAttr, hF]
  cases he : p y with
  | true =>
    try simp only [go_sem, simprocAttr, hF, he]
    repeat (first
      | (with_reducible (first | refine sops_go ?_ | refine headW_end ?_ | refine sops_end ?_ | refine awp_if ?_ | refine awp_skip ?_ | refine awp_ret ?_ | refine awp_exit ?_); simp only [go_sem, simprocAttr, hF, he])
      | with_reducible (first | refine awp_seq_k fun _ _ => ?_ | refine awp_region [] ?_ | refine awp_block ?_)
      | go_step)
    rw [hT', if_pos he]
  | false =>
    try simp only [go_sem, simprocAttr, hF, he]
    repeat (first
      | (with_reducible (first | refine sops_go ?_ | refine headW_end ?_ | refine sops_end ?_ | refine awp_if ?_ | refine awp_skip ?_ | refine awp_ret ?_ | refine awp_exit ?_); simp only [go_sem, simprocAttr, hF, he])
      | with_reducible (first | refine awp_seq_k fun _ _ => ?_ | refine awp_region [] ?_ | refine awp_block ?_)
      | go_step)
    refine ⟨⟨k + 1, by omega, by rw [hT', if_neg (by rw [he]; decide)]⟩, by dsimp only; omega, hR _ _ (sub_mk ?_)⟩
    simp only [go_sem, simprocAttr, hF, hw]

set_option maxHeartbeats 2000000 in
theorem contI_ok (c : FuncId) (caps : List (List PV)) (p : Int → Bool) (l : List Int) (hl : l.length ≤ 1000000) (hc : ∀ y ∈ l, FnOK Tryz.prog c (iv y :: caps.map AV.ept) ⟨bv (p y), none⟩) : FnOK Tryz.prog 148 [.sl 1 (l.map irow_pv), .fnv c caps] ⟨bv (l.any p), none⟩ := by
  have hx := idx_any p l
  refine fn_ok Tryz.func148 (by kernel_rfl) rfl (by rw [Tryz.ntmps148]; exact of_decide_eq_true rfl) (fun F hF => ?_)
  rw [Tryz.ntmps148] at hF
  rw [Tryz.results148]
  repeat (first
    | (with_reducible (first | refine sops_go ?_ | refine headW_end ?_ | refine sops_end ?_ | refine awp_if ?_ | refine awp_skip ?_ | refine awp_ret ?_ | refine awp_exit ?_); simp only [go_sem, simprocAttr, hF])
    | with_reducible (first | refine awp_seq_k fun _ _ => ?_ | refine awp_region [] ?_ | refine awp_block ?_)
    | go_step)
  refine ⟨_, idxI_ok c caps p l hl hc, ?_⟩
  simp only [go_sem, simprocAttr, hF]
  repeat (first
    | (with_reducible (first | refine sops_go ?_ | refine headW_end ?_ | refine sops_end ?_ | refine awp_if ?_ | refine awp_skip ?_ | refine awp_ret ?_ | refine awp_exit ?_); simp only [go_sem, simprocAttr, hF, hx])
    | with_reducible (first | refine awp_seq_k fun _ _ => ?_ | refine awp_region [] ?_ | refine awp_block ?_)
    | go_step)
  all_goals (try rfl)

set_option maxHeartbeats 2000000 in
theorem idxN_ok (c : FuncId) (caps : List (List PV)) (p : Int → Bool) (l : List Int) (hl : l.length ≤ 1000000) (hc : ∀ y ∈ l, FnOK Tryz.prog c (iv y :: caps.map AV.ept) ⟨bv (p y), none⟩) : FnOK Tryz.prog 122 [.sl 1 (l.map irow_pv), .fnv c caps] ⟨iv (idxP p l 0), none⟩ := by
  refine fn_ok Tryz.func122 (by kernel_rfl) rfl (by rw [Tryz.ntmps122]; exact of_decide_eq_true rfl) (fun F hF => ?_)
  rw [Tryz.ntmps122] at hF
  rw [Tryz.results122]
  repeat (first
    | (with_reducible (first | refine sops_go ?_ | refine headW_end ?_ | refine sops_end ?_ | refine awp_if ?_ | refine awp_skip ?_ | refine awp_ret ?_ | refine awp_exit ?_); simp only [go_sem, simprocAttr, hF])
    | with_reducible (first | refine awp_seq_k fun _ _ => ?_ | refine awp_region [] ?_ | refine awp_block ?_)
    | go_step)
  refine awp_loop_by (ι := {k : Nat // k ≤ l.length ∧ idxP p l 0 = idxP p (l.drop k) (k : Int)}) (fun k σ => ⟨(8, iv (k.1 : Int)) :: keepS [0, 1, 4, 7] σ.slot, σ.box, [], σ.ext⟩) (fun k => l.length - k.1) ⟨0, by omega, rfl⟩ (sub_mk ?_) (fun R hR k => ?_)
  · simp only [go_sem, simprocAttr, hF]
    repeat' (first | rfl | refine ⟨?_, ?_⟩)
  obtain ⟨k, hk, hT⟩ := k
  dsimp only
  simp only [go_sem, simprocAttr, hF]
  by_cases hlt : k < l.length
  case neg =>
    have hd : decide ((k : Int) < (l.length : Int)) = false := decide_eq_false (by omega)
    repeat (first
      | (with_reducible (first | refine sops_go ?_ | refine headW_end ?_ | refine sops_end ?_ | refine awp_if ?_ | refine awp_skip ?_ | refine awp_ret ?_ | refine awp_exit ?_); simp only [go_sem, simprocAttr, hF, hd])
      | with_reducible (first | refine awp_seq_k fun _ _ => ?_ | refine awp_region [] ?_ | refine awp_block ?_)
      | go_step)
    rw [hT, List.drop_of_length_le (by omega)]
    rfl
  obtain ⟨y, hyk⟩ := get_of_lt hlt
  have hd : decide ((k : Int) < (l.length : Int)) = true := decide_eq_true (by omega)
  have hw : IntKind.i64.wrap ((k : Int) + 1) = ((k + 1 : Nat) : Int) := by rw [IntKind.wrap_i64]; omega
  have hT' : idxP p l 0 = if p y = true then (k : Int) else idxP p (l.drop (k + 1)) ((k + 1 : Nat) : Int) := by rw [hT, drop_of_get hyk, idxP]; rfl
  repeat (first
    | (with_reducible (first | refine sops_go ?_ | refine headW_end ?_ | refine sops_end ?_ | refine awp_if ?_ | refine awp_skip ?_ | refine awp_ret ?_ | refine awp_exit ?_); simp only [go_sem, simprocAttr, hF, hd, hyk])
    | with_reducible (first | refine awp_seq_k fun _ _ => ?_ | refine awp_region [] ?_ | refine awp_block ?_)
    | go_step)
  refine ⟨_, hc y (List.mem_of_getElem? hyk), ?_⟩
  simp only [go_sem, simprocAttr, hF]
  cases he : p y with
  | true =>
    try simp only [go_sem, simprocAttr, hF, he]
    repeat (first
      | (with_reducible (first | refine sops_go ?_ | refine headW_end ?_ | refine sops_end ?_ | refine awp_if ?_ | refine awp_skip ?_ | refine awp_ret ?_ | refine awp_exit ?_); simp only [go_sem, simprocAttr, hF, he])
      | with_reducible (first | refine awp_seq_k fun _ _ => ?_ | refine awp_region [] ?_ | refine awp_block ?_)
      | go_step)
    rw [hT', if_pos he]
  | false =>
    try simp only [go_sem, simprocAttr, hF, he]
    repeat (first
      | (with_reducible (first | refine sops_go ?_ | refine headW_end ?_ | refine sops_end ?_ | refine awp_if ?_ | refine awp_skip ?_ | refine awp_ret ?_ | refine awp_exit ?_); simp only [go_sem, simprocAttr, hF, he])
      | with_reducible (first | refine awp_seq_k fun _ _ => ?_ | refine awp_region [] ?_ | refine awp_block ?_)
      | go_step)
    refine ⟨⟨k + 1, by omega, by rw [hT', if_neg (by rw [he]; decide)]⟩, by dsimp only; omega, hR _ _ (sub_mk ?_)⟩
    simp only [go_sem, simprocAttr, hF, hw]

set_option maxHeartbeats 2000000 in
theorem contN_ok (c : FuncId) (caps : List (List PV)) (p : Int → Bool) (l : List Int) (hl : l.length ≤ 1000000) (hc : ∀ y ∈ l, FnOK Tryz.prog c (iv y :: caps.map AV.ept) ⟨bv (p y), none⟩) : FnOK Tryz.prog 86 [.sl 1 (l.map irow_pv), .fnv c caps] ⟨bv (l.any p), none⟩ := by
  have hx := idx_any p l
  refine fn_ok Tryz.func86 (by kernel_rfl) rfl (by rw [Tryz.ntmps86]; exact of_decide_eq_true rfl) (fun F hF => ?_)
  rw [Tryz.ntmps86] at hF
  rw [Tryz.results86]
  repeat (first
    | (with_reducible (first | refine sops_go ?_ | refine headW_end ?_ | refine sops_end ?_ | refine awp_if ?_ | refine awp_skip ?_ | refine awp_ret ?_ | refine awp_exit ?_); simp only [go_sem, simprocAttr, hF])
    | with_reducible (first | refine awp_seq_k fun _ _ => ?_ | refine awp_region [] ?_ | refine awp_block ?_)
    | go_step)
  refine ⟨_, idxN_ok c caps p l hl hc, ?_⟩
  simp only [go_sem, simprocAttr, hF]
  repeat (first
    | (with_reducible (first | refine sops_go ?_ | refine headW_end ?_ | refine sops_end ?_ | refine awp_if ?_ | refine awp_skip ?_ | refine awp_ret ?_ | refine awp_exit ?_); simp only [go_sem, simprocAttr, hF, hx])
    | with_reducible (first | refine awp_seq_k fun _ _ => ?_ | refine awp_region [] ?_ | refine awp_block ?_)
    | go_step)
  all_goals (try rfl)
end Go.Proofs.YticnppnejafhdaaGreatDoor

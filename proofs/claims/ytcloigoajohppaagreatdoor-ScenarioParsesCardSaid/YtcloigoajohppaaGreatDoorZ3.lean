import Derived.Shelf.LaysM
import Derived.Shelf.LaysC
import Derived.Shelf.Small.Wraps
import Derived.Shelf.Strings.SlTrimAscii
import Derived.Shelf.Strings.SplitShaped
import Derived.Shelf.Strings.Shaped
import Derived.Shelf.Strconv.ErrVarAll
import Derived.Shelf.Abstract
import Derived.Laws.Externs
import Derived.WalkKit
import Derived.RangeFuncNested
import Derived.RangeFuncBound
import Derived.RangeFuncCalls
import Derived.RangeFuncLeaves
import Derived.OrdersIn
import Derived.ProofKit
import Derived.OpenShut
import Derived.Carry
import Derived.ChangeSame
import Derived.Deep.Slices
import Derived.Test.YtcloigoajohppaaGreatDoorZ2
import Derived.Test.YtcloigoajohppaaGreatDoorProg
import Derived.Test.YtcloigoajohppaaGreatDoorRows
set_option linter.unusedVariables false
set_option linter.unusedSimpArgs false
set_option maxHeartbeats 4000000
/- Lists of rows of raw values that the frame holds as pieces; calls of a closure, and of a function's value. Generic. -/
namespace Go.Proofs.YtcloigoajohppaaGreatDoor
open Go.RowKit
namespace Av
theorem flat_get {α : Type} {sz : Nat} : ∀ {l : List (List α)} {k c : Nat} {row : List α} {v : α}, (∀ r ∈ l, r.length = sz) → l[k]? = some row → row[c]? = some v → l.flatten[k * sz + c]? = some v
  | [], _, _, _, _, _, h, _ => by simp at h
  | r :: l, 0, c, row, v, hl, h, hv => by
    simp at h
    subst h
    rw [Nat.zero_mul, Nat.zero_add, List.flatten_cons, List.getElem?_append_left (List.getElem?_eq_some_iff.1 hv).1]
    exact hv
  | r :: l, k + 1, c, row, v, hl, h, hv => by
    rw [List.flatten_cons, List.getElem?_append_right (by rw [hl r List.mem_cons_self, Nat.succ_mul]; omega), hl r List.mem_cons_self, Nat.succ_mul, show k * sz + sz + c - sz = k * sz + c by omega]
    exact flat_get (fun x hx => hl x (List.mem_cons_of_mem _ hx)) (by simpa using h) hv
theorem flat_set {α : Type} {sz : Nat} : ∀ {l : List (List α)} {k c : Nat} {row : List α} {v : α}, (∀ r ∈ l, r.length = sz) → l[k]? = some row → c < sz → (l.set k (row.set c v)).flatten = l.flatten.set (k * sz + c) v
  | [], _, _, _, _, _, h, _ => by simp at h
  | r :: l, 0, c, row, v, hl, h, hc => by
    simp at h
    subst h
    rw [Nat.zero_mul, Nat.zero_add, List.set_cons_zero, List.flatten_cons, List.flatten_cons, List.set_append_left _ _ (by rw [hl r List.mem_cons_self]; exact hc)]
  | r :: l, k + 1, c, row, v, hl, h, hc => by
    rw [List.set_cons_succ, List.flatten_cons, List.flatten_cons, List.set_append_right _ _ (by rw [hl r List.mem_cons_self, Nat.succ_mul]; omega), hl r List.mem_cons_self, Nat.succ_mul, show k * sz + sz + c - sz = k * sz + c by omega]
    rw [flat_set (fun x hx => hl x (List.mem_cons_of_mem _ hx)) (by simpa using h) hc]
def rawR (e : TypeId) (sz : Nat) (q : Option Nat) (V : Value) (rvs : List (List Value)) : Ext := rowsE e sz q V rvs.flatten (rvs.map fun r => r.map PV.v)
section
variable {P : Program} {n d : Nat} {σ : St} {o : Oper} {K : St → Prop} {E : Ext} {l : List Ext} {i sz g k c : Nat} {e : TypeId} {V : Value} {rvs : List (List Value)} {row : List Value} {q : Option Nat}
theorem hand_vLoad {Tv : TypeId} {x : Operand} {v : Value} {dd : TypeDesc} (ho : o.op = .load Tv x) (hd : o.dst = some d) (hdn : d < n) (hE : σ.ext = E.and (exts l)) (hi : l[i]? = some (rawR e sz (some g) V rvs)) (hl : ∀ r ∈ rvs, r.length = sz) (hk : rvs[k]? = some row) (hv : row[c]? = some v)
    (hx : evo (look σ.slot) x = some (.v (.pointer (some ⟨g, k * sz + c, none⟩)))) (hu : P.underlying Tv = some dd) (hdd : dd.isRow = false) (h : K (σ.put d (.v v))) : Hand P n σ o K :=
  hand_rLoad ho hd hdn hE hi hx (flat_get hl hk hv) hu hdd h
theorem handq_vLoad {bx0 : Nat → Option (List PV)} {Tv : TypeId} {x : Operand} {v : Value} {dd : TypeDesc} (ho : o.op = .load Tv x) (hd : o.dst = some d) (hdn : d < n) (hE : σ.ext = E.and (exts l)) (hi : l[i]? = some (rawR e sz (some g) V rvs)) (hl : ∀ r ∈ rvs, r.length = sz) (hk : rvs[k]? = some row) (hv : row[c]? = some v)
    (hx : evo (look σ.slot) x = some (.v (.pointer (some ⟨g, k * sz + c, none⟩)))) (hu : P.underlying Tv = some dd) (hdd : dd.isRow = false) : HandQ P n bx0 σ o d ⟨.v v, none, none⟩ :=
  handq_rLoad ho hd hdn hE hi hx (flat_get hl hk hv) hu hdd
theorem hand_vStore {Tv : TypeId} {x y : Operand} {u : Value} (ho : o.op = .store Tv x y) (hd : o.dst = none) (hE : σ.ext = E.and (exts l)) (hi : l[i]? = some (rawR e sz (some g) V rvs)) (hl : ∀ r ∈ rvs, r.length = sz) (hk : rvs[k]? = some row) (hc : c < sz)
    (hx : evo (look σ.slot) x = some (.v (.pointer (some ⟨g, k * sz + c, none⟩)))) (hy : evo (look σ.slot) y = some (.v u)) (hc1 : u.cells = #[u]) (ho1 : u.oneCell' = true) (hn : (P.info? Tv).map (·.size) = some 1)
    (h : K { σ with ext := E.and (exts (l.set i (rawR e sz (some g) V (rvs.set k (row.set c u))))) }) : Hand P n σ o K := by
  refine hand_rStore (row := row.map PV.v) ho hd hE hi hx hy (by rw [List.getElem?_map, hk]; rfl) hc hc1 ho1 hn ?_
  have e1 : rowsE e sz (some g) V (rvs.flatten.set (k * sz + c) u) ((rvs.map fun r => r.map PV.v).set k ((row.map PV.v).set c (.v u))) = rawR e sz (some g) V (rvs.set k (row.set c u)) := by
    unfold rawR
    rw [flat_set hl hk hc, List.map_set, List.map_set]
  rw [e1]
  exact h
theorem hand_vIndex {T e' : TypeId} {x ix : Operand} {j : Nat} (ho : o.op = .indexAddr T x ix) (hd : o.dst = some d) (hdn : d < n) (hE : σ.ext = E.and (exts l)) (hi : l[i]? = some (rawR e sz (some g) V rvs)) (hx : evo (look σ.slot) x = some (.v V)) (hix : evo (look σ.slot) ix = some (.v (.int .i64 (j : Int)))) (hj : j < rvs.length)
    (hu : P.underlying T = some (.slice e')) (hs : (P.info? e').map (·.size) = some sz) (h : K (σ.put d (.v (.pointer (some ⟨g, j * sz, none⟩))))) : Hand P n σ o K :=
  hand_rIndex ho hd hdn hE hi hx hix (by rw [List.length_map]; exact hj) hu hs h
theorem handq_vIndex {bx0 : Nat → Option (List PV)} {T e' : TypeId} {x ix : Operand} {j : Nat} (ho : o.op = .indexAddr T x ix) (hd : o.dst = some d) (hdn : d < n) (hE : σ.ext = E.and (exts l)) (hi : l[i]? = some (rawR e sz (some g) V rvs)) (hx : evo (look σ.slot) x = some (.v V)) (hix : evo (look σ.slot) ix = some (.v (.int .i64 (j : Int)))) (hj : j < rvs.length)
    (hu : P.underlying T = some (.slice e')) (hs : (P.info? e').map (·.size) = some sz) : HandQ P n bx0 σ o d ⟨.v (.pointer (some ⟨g, j * sz, none⟩)), none, none⟩ :=
  handq_rIndex ho hd hdn hE hi hx hix (by rw [List.length_map]; exact hj) hu hs
theorem hand_vLen {x : Operand} {t et : TypeId} (ho : o.op = .call { callee := .builtin .len, args := #[x], argTypes := #[t] }) (hd : o.dst = some d) (hdn : d < n) (ht : P.underlying t = some (.slice et)) (hE : σ.ext = E.and (exts l)) (hi : l[i]? = some (rawR e sz q V rvs))
    (hx : evo (look σ.slot) x = some (.v V)) (h : K (σ.put d (.v (.int .i64 (rvs.length : Int))))) : Hand P n σ o K :=
  hand_eLen ho hd hdn ht hE hi hx (by rw [List.length_map]; exact h)
theorem handq_vLen {bx0 : Nat → Option (List PV)} {x : Operand} {t et : TypeId} (ho : o.op = .call { callee := .builtin .len, args := #[x], argTypes := #[t] }) (hd : o.dst = some d) (hdn : d < n) (ht : P.underlying t = some (.slice et)) (hE : σ.ext = E.and (exts l)) (hi : l[i]? = some (rawR e sz q V rvs))
    (hx : evo (look σ.slot) x = some (.v V)) : HandQ P n bx0 σ o d ⟨.v (.int .i64 (rvs.length : Int)), none, none⟩ := by
  have := handq_eLen (bx0 := bx0) (P := P) ho hd hdn ht hE hi hx
  rwa [List.length_map] at this
theorem hand_vApp {s x : Operand} {t : TypeId} {vs : List Value}
    (ho : o.op = .call { callee := .builtin .append, args := #[s, x], argTypes := #[t, t] }) (hd : o.dst = some d) (hdn : d < n) (ht : P.underlying t = some (.slice e)) (hinf : infoB P e sz = true)
    (hE : σ.ext = E.and (exts l)) (hi : l[i]? = some (rawR e sz q V rvs)) (hs : evo (look σ.slot) s = some (.v V)) (hx : evo (look σ.slot) x = some (.sl sz [vs.map PV.v])) (hvs : vs.length = sz) (hnm : rvs.length + 1 ≤ 100000000)
    (h : ∀ (g' : Nat) (V' : Value), V'.cells = #[V'] → V'.oneCell' = true → K (({ σ with ext := E.and (exts (l.set i (rawR e sz (some g') V' (rvs ++ [vs])))) } : St).put d (.v V'))) : Hand P n σ o K := by
  obtain ⟨r, h1, h2⟩ := perm_one hi
  have he : EqE σ.ext ((E.and (exts r)).and (rawR e sz q V rvs)) := by
    rw [hE]
    refine (EqE.foc (l2 := [rawR e sz q V rvs]) h1 E).trans ((EqE.refl _).congr ?_)
    exact (EqE.comm _ _).trans (EqE.nil_right _)
  have hfin : ∀ (F : Fr) (γ : Gh) (a : Act) (w : World) (g' : Nat) (V' : Value), Rel F (({ σ with ext := (E.and (exts r)).and (rawR e sz (some g') V' (rvs ++ [vs])) } : St).put d (.v V')) γ a w → ∃ E'', EqE ((E.and (exts r)).and (rawR e sz (some g') V' (rvs ++ [vs]))) E'' ∧ K (({ σ with ext := E'' } : St).put d (.v V')) := fun F γ a w g' V' hr => by
    have hrow : RowsOK w e sz (some g') V' (rvs ++ [vs]).flatten ((rvs ++ [vs]).map fun r => r.map PV.v).length := hr.exth.2.1
    obtain ⟨g1, g2⟩ := ownV_cell hrow.own
    refine ⟨E.and (exts (l.set i (rawR e sz (some g') V' (rvs ++ [vs])))), EqE.symm ?_, h g' V' g1 g2⟩
    refine (EqE.foc (l2 := [rawR e sz (some g') V' (rvs ++ [vs])]) (h2 _) E).trans ((EqE.refl _).congr ?_)
    exact (EqE.comm _ _).trans (EqE.nil_right _)
  refine hand_eqE he (hand_postR (K' := fun σ' => ∃ g' V', σ' = (({ σ with ext := (E.and (exts r)).and (rawR e sz (some g') V' (rvs ++ [vs])) } : St).put d (.v V'))) ?_ ?_)
  rotate_left
  · rintro F γ a w σ' hr ⟨g', V', rfl⟩
    exact hfin F γ a w g' V' hr
  unfold infoB at hinf
  cases h3 : P.info? e with
  | none => rw [h3] at hinf; cases hinf
  | some ti =>
    rw [h3] at hinf
    dsimp only at hinf
    cases h4 : ti.zero with
    | none => rw [h4] at hinf; cases hinf
    | some z =>
      rw [h4] at hinf
      simp only [Bool.and_eq_true, decide_eq_true_eq] at hinf
      obtain ⟨⟨⟨h5, h6⟩, h7⟩, h8⟩ := hinf
      subst h5
      intro F γ a w hF hr Q
      have hext := hr.exth
      obtain ⟨h0, hrow, hdis⟩ := hext
      have hrow : RowsOK w e ti.size q V rvs.flatten (rvs.map fun r => r.map PV.v).length := hrow
      have hrd := hr.extr
      have eV : a.eval s = V := eval_raw hr hs
      obtain ⟨A2, cap2, news, e2, hc2, hl2, hsz2, hz2, h12, hA2⟩ := rows_flat h7 (show RepP _ (.sl ti.size [vs.map PV.v]) (a.eval x) from (evo_ok hr (fun _ _ _ hy => hy) hx).1)
      have hnews : news = vs := by
        apply List.ext_getElem?
        intro j
        rcases Nat.lt_or_ge j vs.length with hj | hj
        · obtain ⟨y, hy, hp⟩ := hz2 0 (vs.map PV.v) j (.v vs[j]) rfl (by rw [List.getElem?_map, List.getElem?_eq_getElem hj]; rfl)
          rw [Nat.zero_mul, Nat.zero_add] at hy
          cases hp
          rw [hy, List.getElem?_eq_getElem hj]
        · rw [List.getElem?_eq_none (by rw [hl2]; simp; omega), List.getElem?_eq_none hj]
      subst hnews
      rw [List.length_map] at hrow
      obtain ⟨v, w1, q', r1, r2, r3, r4, r5, r6, r7, r8, r9, r10⟩ := run_append_av (P := P) w 0 t o.type e ti z ht h3 h4 h6 h7 h8 V rvs.length rvs.flatten q hrow.own hrow.len hrow.at_ A2 1 cap2 news hl2 (by
        rcases hA2 with h1 | ⟨b, off, h1, h2⟩
        · exact .inl (by simp at h1)
        · exact .inr ⟨b, off, h1, fun j x hx => hr.cell (h2 j x hx)⟩) h12 hnm (Nat.zero_le _)
      obtain ⟨g', rfl⟩ : ∃ g', q' = some g' := by
        cases q' with
        | none => have := r2.2; omega
        | some g' => exact ⟨g', rfl⟩
      have hlen : ((rvs ++ [news]).map fun r => r.map PV.v).length = rvs.length + 1 := by simp
      unfold Oper.wp execOp
      have e2' : a.eval x = .slice A2 1 cap2 := e2
      simp only [ho, resolve, invoke, builtin, Sem.run_bind, Sem.run_pure, Result.andThen_ok, List.map_toArray, List.map_cons, List.map_nil, eV, e2', r1]
      show ∃ σ' γ', _ ∧ Rel F σ' γ' (a.put o.dst v) w1
      rw [hd]
      have hfl : (rvs ++ [news]).flatten = rvs.flatten ++ news := by simp
      have hturn : Turn ((E.and (exts r)).and (rawR e ti.size q V rvs)) w w1 ((E.and (exts r)).and (rawR e ti.size (some g') v (rvs ++ [news]))).mute := by
        refine Turn.mute_right (Turn.right (fun b hb => (hr.extf b (hb.elim (fun h => .inl (.inl h)) (fun h => .inr (.inl h)))).2.1) ⟨h0, (show RowsOK w e ti.size q V rvs.flatten (rvs.map fun r => r.map PV.v).length by rw [List.length_map]; exact hrow), hdis⟩ ⟨r7, r8, r9, r10, fun k hk hn => r4 k hk (fun e => hn e), ?_, fun b hb => ?_, fun b hb => hb.elim, fun _ h => h, fun _ _ => trivial, fun p h => h.elim⟩)
        · show RowsOK w1 e ti.size (some g') v (rvs ++ [news]).flatten ((rvs ++ [news]).map fun r => r.map PV.v).length
          rw [hlen, hfl]
          exact ⟨r2, by rw [List.length_append, hrow.len, hvs, Nat.succ_mul], r3⟩
        · rcases r6 with r6 | r6
          · exact .inl (by show q = some b; rw [← r6]; exact hb)
          · have hb' : some g' = some b := hb
            cases hb'
            cases r6
            have : w.heap.size < w1.heap.size := r2.lt.2
            exact .inr ⟨Nat.le_refl _, this⟩
      refine ⟨_, γ, ⟨g', v, rfl⟩, (hr.turnR hturn fun R hR hrdR => ?_).put (by rw [hF]; exact hdn) rfl (fun k hk => by cases hk)⟩
      have hrd2 : RowsRd R ti.size rvs.flatten (rvs.map fun r => r.map PV.v) := hrdR.2
      refine ⟨hrdR.1, fun k row hk => ?_, fun k row j p hk hj => ?_⟩
      · rw [List.map_append] at hk
        rcases Nat.lt_or_ge k rvs.length with hlt | hge
        · rw [List.getElem?_append_left (by simpa using hlt)] at hk; exact hrd2.len k row hk
        · rw [List.getElem?_append_right (by simpa using hge)] at hk
          have hk0 : k - (rvs.map fun r => r.map PV.v).length = 0 := by
            have := (List.getElem?_eq_some_iff.1 hk).1
            simpa using this
          rw [hk0] at hk
          cases hk
          rw [List.length_map]; exact hvs
      · rw [List.map_append] at hk
        rw [hfl]
        rcases Nat.lt_or_ge k rvs.length with hlt | hge
        · rw [List.getElem?_append_left (by simpa using hlt)] at hk
          obtain ⟨x, hx, h1⟩ := hrd2.rd k row j p hk hj
          exact ⟨x, by rw [List.getElem?_append_left (List.getElem?_eq_some_iff.1 hx).1]; exact hx, h1⟩
        · rw [List.getElem?_append_right (by simpa using hge)] at hk
          have hk0 : k - (rvs.map fun r => r.map PV.v).length = 0 := by
            have := (List.getElem?_eq_some_iff.1 hk).1
            simpa using this
          have hkl : k = rvs.length := by rw [List.length_map] at hk0; omega
          rw [hk0] at hk
          cases hk
          rw [List.getElem?_map] at hj
          cases hq : news[j]? with
          | none => rw [hq] at hj; cases hj
          | some y =>
            rw [hq] at hj
            cases hj
            refine ⟨y, ?_, .v y (h12 y (List.mem_of_getElem? hq))⟩
            rw [hkl, ← hrow.len, List.getElem?_append_right (by omega), show rvs.flatten.length + j - rvs.flatten.length = j by omega]
            exact hq
end
section
variable {P : Program} {n d : Nat} {σ : St} {o : Oper} {K : St → Prop}
theorem hand_callClo {x y : Operand} {ats : Array TypeId} {f k : Nat} {u c v : Value} (he : Enters P f) (ho : o.op = .call { callee := .value x, args := #[y], argTypes := ats }) (hd : o.dst = some d) (hdn : d < n) (hx : evo (look σ.slot) x = some (.clo f [(k, 0)])) (hy : evo (look σ.slot) y = some (.v u)) (hk : look σ.box k = some [.v c])
    (hc : ∀ (F : Fr) (γ : Gh) (a : Act) (w : World), Rel F σ γ a w → ∀ p, w.cell? p = some c → Calls P f #[u, .pointer (some p)] w fun e w' => e = .returned v ∧ w' = w) (h : K (σ.put d (.v v))) : Hand P n σ o K := by
  refine hand_call hd fun F γ a w hF hr => ?_
  have e1 : a.eval x = .func (.func f) #[] #[.pointer (some ⟨γ.bx k, 0, none⟩)] := (evo_ok hr (fun _ _ _ hy => hy) hx).1
  have e2 := eval_raw hr hy
  refine ⟨f, #[u, .pointer (some ⟨γ.bx k, 0, none⟩)], ?_, ?_⟩
  · simp [execOp, ho, resolve, e1, e2, Deferred.ofValue, invoke, run_callFunc he]
  · obtain ⟨us, h1, h2⟩ := hr.boxcells hk
    cases h1 with
    | cons hp ht =>
      cases hp with
      | v _ h1 =>
      refine (hc F γ a w hr ⟨γ.bx k, 0, none⟩ (h2 0 c rfl)).mono ?_
      rintro e w1 ⟨rfl, rfl⟩
      exact ⟨v, _, γ, rfl, h, hr.put (by rw [hF]; exact hdn) (x := .v v) rfl (fun k hk => by cases hk)⟩
theorem hand_callXv {ι : Type} {X : Ext} {X' : ι → Ext} {fid : FuncId} {f : Operand} {args : Array Operand} {ats : Array TypeId} {avs : List AV} {C : World → Prop} {res : AV} (hc : FnX P C fid avs X res X') (A : Ext) (hE : σ.ext = A.and X) (hC : ∀ w0, A.laid w0 → C w0)
    (ho : o.op = .call { callee := .value f, args := args, argTypes := ats }) (hf : evo (look σ.slot) f = some (.v (.func (.func fid) #[] #[]))) (hd : o.dst = some d) (hdn : d < n) (hA : evos (look σ.slot) args.toList = some avs) (hp : (avs.all fun x => x.refs.isEmpty) = true)
    (h : ∀ i, K (({ σ with ext := A.and (X' i) } : St).put d res)) : Hand P n σ o K := by
  refine hand_call hd fun F γ a w hF hr => ?_
  have henter := hc.enters
  have hle := lendX_le hr hE
  have hev := evos_ok hr (g := look σ.slot) (fun _ _ _ hy => hy) hA
  obtain ⟨g1, g2⟩ := reps_get hev
  refine ⟨fid, args.map a.eval, ?_, ?_⟩
  · have hf := eval_raw hr hf
    simp [execOp, ho, resolve, hf, Deferred.ofValue, invoke, run_callFunc henter]
  · have hargs : args.map a.eval = (args.toList.map a.eval).toArray := by
      obtain ⟨l⟩ := args
      simp
    rw [hargs]
    refine (hc.calls F (lendA A σ γ a w) (lendG γ []) a w _ hC (hr.lendX hE) (repAL_of g1 fun i m u hm hu => ?_)).mono ?_
    · obtain ⟨u', h1, h2⟩ := g2 i m hm
      rw [hu] at h1
      cases h1
      have hx : m.refs = [] := by simpa using List.all_eq_true.1 hp m (List.mem_of_getElem? hm)
      exact ⟨hx, (RepA.mono (x := m) hle (fun _ _ => rfl) h2).free hx⟩
    · rintro e w1 ⟨u, γf, i, rfl, hf, hres, hrep⟩
      exact ⟨u, _, γ, rfl, h i, (hr.backX hE hf).put (by rw [hF]; exact hdn) ((hrep.free hres).mono backX_le (fun _ _ => rfl)) (fun i hi => by rw [hres] at hi; cases hi)⟩
end
end Av
end Go.Proofs.YtcloigoajohppaaGreatDoor
/- The library's contracts that this claim uses, laid for its program: written by a tool of the kit. -/
namespace Go.Proofs.YtcloigoajohppaaGreatDoor
open Go.Shelf
def Tryz.lays146_ren : Go.Shelf.Ren := ⟨fun | 146 => 53 | 221 => 50 | 268 => 92 | 138 => 38 | 143 => 83 | 195 => 81 | 197 => 121 | 218 => 82 | 219 => 117 | 260 => 135 | 217 => 131 | 225 => 132 | 224 => 133 | 267 => 134 | 266 => 147 | 314 => 148 | n => n, fun | 9 => 9 | 31 => 46 | 3 => 3 | 4 => 4 | 0 => 0 | 105 => 180 | 21 => 21 | 5 => 5 | 46 => 190 | 119 => 207 | 139 => 210 | 138 => 209 | 146 => 205 | 51 => 204 | n => n, fun | 1 => 0 | 3 => 1 | 4 => 2 | n => n⟩
theorem Tryz.lays146 : Go.Proofs.LaysM.n146 Tryz.prog Tryz.lays146_ren := {
  mixed := by kernel_rfl
  f138 := Tryz.func38.trans (congrArg some (by kernel_rfl))
  f143 := Tryz.func83.trans (congrArg some (by kernel_rfl))
  f146 := Tryz.func53.trans (congrArg some (by kernel_rfl))
  f195 := Tryz.func81.trans (congrArg some (by kernel_rfl))
  f197 := Tryz.func121.trans (congrArg some (by kernel_rfl))
  f217 := Tryz.func131.trans (congrArg some (by kernel_rfl))
  f218 := Tryz.func82.trans (congrArg some (by kernel_rfl))
  f219 := Tryz.func117.trans (congrArg some (by kernel_rfl))
  f221 := Tryz.func50.trans (congrArg some (by kernel_rfl))
  f224 := Tryz.func133.trans (congrArg some (by kernel_rfl))
  f225 := Tryz.func132.trans (congrArg some (by kernel_rfl))
  f260 := Tryz.func135.trans (congrArg some (by kernel_rfl))
  f266 := Tryz.func147.trans (congrArg some (by kernel_rfl))
  f267 := Tryz.func134.trans (congrArg some (by kernel_rfl))
  f268 := Tryz.func92.trans (congrArg some (by kernel_rfl))
  f314 := Tryz.func148.trans (congrArg some (by kernel_rfl))
  t0 := Tryz.underlying0
  a0 := Tryz.isAgg0
  z0 := Tryz.sizeOf0
  v0 := Tryz.zeroValue0
  t3 := Tryz.underlying3
  a3 := Tryz.isAgg3
  z3 := Tryz.sizeOf3
  v3 := Tryz.zeroValue3
  t4 := Tryz.underlying4
  a4 := Tryz.isAgg4
  z4 := Tryz.sizeOf4
  v4 := Tryz.zeroValue4
  t5 := Tryz.underlying5
  a5 := Tryz.isAgg5
  z5 := Tryz.sizeOf5
  v5 := Tryz.zeroValue5
  t9 := Tryz.underlying9
  a9 := Tryz.isAgg9
  z9 := Tryz.sizeOf9
  v9 := Tryz.zeroValue9
  t21 := Tryz.underlying21
  a21 := Tryz.isAgg21
  z21 := Tryz.sizeOf21
  v21 := Tryz.zeroValue21
  t31 := Tryz.underlying46
  a31 := Tryz.isAgg46
  z31 := Tryz.sizeOf46
  v31 := Tryz.zeroValue46
  t46 := Tryz.underlying190
  a46 := Tryz.isAgg190
  z46 := Tryz.sizeOf190
  v46 := Tryz.zeroValue190
  t51 := Tryz.underlying204
  a51 := Tryz.isAgg204
  z51 := Tryz.sizeOf204
  v51 := Tryz.zeroValue204
  t105 := Tryz.underlying180
  a105 := Tryz.isAgg180
  z105 := Tryz.sizeOf180
  v105 := Tryz.zeroValue180
  t119 := Tryz.underlying207
  a119 := Tryz.isAgg207
  z119 := Tryz.sizeOf207
  t138 := Tryz.underlying209
  a138 := Tryz.isAgg209
  z138 := Tryz.sizeOf209
  v138 := Tryz.zeroValue209
  t139 := Tryz.underlying210
  a139 := Tryz.isAgg210
  z139 := Tryz.sizeOf210
  v139 := Tryz.zeroValue210
  t146 := Tryz.underlying205
  a146 := Tryz.isAgg205
  z146 := Tryz.sizeOf205
  v146 := Tryz.zeroValue205
  g1 := by kernel_rfl
  g3 := by kernel_rfl
  g4 := by kernel_rfl
  i0 := by kernel_rfl
  i3 := by kernel_rfl
  i4 := by kernel_rfl
  i5 := by kernel_rfl
  i9 := by kernel_rfl
  i21 := by kernel_rfl
  i31 := by kernel_rfl
  i46 := by kernel_rfl
  i51 := by kernel_rfl
  i105 := by kernel_rfl
  i138 := by kernel_rfl
  i139 := by kernel_rfl
  i146 := by kernel_rfl
  m1 := by kernel_rfl
  s1_3 := fun w h => Go.Proofs.cell_of_shapedOpen_int (zero := #[.int .i64 0]) (t := 3) h (of_decide_eq_true (by kernel_rfl)) (by kernel_rfl) rfl (by kernel_rfl) (by kernel_rfl) Tryz.underlying3
  m3 := by kernel_rfl
  m4 := by kernel_rfl }
def Tryz.lays143_ren : Go.Shelf.Ren := ⟨fun | 143 => 83 | 219 => 117 | 217 => 131 | 225 => 132 | 224 => 133 | 267 => 134 | 266 => 147 | 314 => 148 | n => n, fun | 9 => 9 | 3 => 3 | 4 => 4 | 5 => 5 | 46 => 190 | 146 => 205 | 51 => 204 | n => n, fun | 1 => 0 | n => n⟩
theorem Tryz.lays143 : Go.Proofs.LaysM.n143 Tryz.prog Tryz.lays143_ren := {
  mixed := by kernel_rfl
  f143 := Tryz.func83.trans (congrArg some (by kernel_rfl))
  f217 := Tryz.func131.trans (congrArg some (by kernel_rfl))
  f219 := Tryz.func117.trans (congrArg some (by kernel_rfl))
  f224 := Tryz.func133.trans (congrArg some (by kernel_rfl))
  f225 := Tryz.func132.trans (congrArg some (by kernel_rfl))
  f266 := Tryz.func147.trans (congrArg some (by kernel_rfl))
  f267 := Tryz.func134.trans (congrArg some (by kernel_rfl))
  f314 := Tryz.func148.trans (congrArg some (by kernel_rfl))
  t3 := Tryz.underlying3
  a3 := Tryz.isAgg3
  z3 := Tryz.sizeOf3
  v3 := Tryz.zeroValue3
  t4 := Tryz.underlying4
  a4 := Tryz.isAgg4
  z4 := Tryz.sizeOf4
  v4 := Tryz.zeroValue4
  t5 := Tryz.underlying5
  a5 := Tryz.isAgg5
  z5 := Tryz.sizeOf5
  v5 := Tryz.zeroValue5
  t9 := Tryz.underlying9
  a9 := Tryz.isAgg9
  z9 := Tryz.sizeOf9
  v9 := Tryz.zeroValue9
  t46 := Tryz.underlying190
  a46 := Tryz.isAgg190
  z46 := Tryz.sizeOf190
  v46 := Tryz.zeroValue190
  t51 := Tryz.underlying204
  a51 := Tryz.isAgg204
  z51 := Tryz.sizeOf204
  v51 := Tryz.zeroValue204
  t146 := Tryz.underlying205
  a146 := Tryz.isAgg205
  z146 := Tryz.sizeOf205
  v146 := Tryz.zeroValue205
  g1 := by kernel_rfl
  i3 := by kernel_rfl
  i4 := by kernel_rfl
  i5 := by kernel_rfl
  i9 := by kernel_rfl
  i46 := by kernel_rfl
  i51 := by kernel_rfl
  i146 := by kernel_rfl
  m1 := by kernel_rfl
  s1_3 := fun w h => Go.Proofs.cell_of_shapedOpen_int (zero := #[.int .i64 0]) (t := 3) h (of_decide_eq_true (by kernel_rfl)) (by kernel_rfl) rfl (by kernel_rfl) (by kernel_rfl) Tryz.underlying3 }
def Tryz.lays160_ren : Go.Shelf.Ren := ⟨fun | 160 => 54 | 232 => 96 | 231 => 95 | 227 => 97 | 234 => 99 | 233 => 98 | 236 => 101 | 235 => 100 | 228 => 124 | 271 => 126 | 151 => 125 | 197 => 121 | 120 => 137 | 152 => 136 | 260 => 135 | 137 => 149 | 119 => 150 | 224 => 133 | 225 => 132 | 217 => 131 | 266 => 147 | n => n, fun | 9 => 9 | 4 => 4 | 3 => 3 | 5 => 5 | 117 => 154 | 116 => 153 | 0 => 0 | 124 => 157 | 21 => 21 | 105 => 180 | 46 => 190 | 119 => 207 | 139 => 210 | 138 => 209 | n => n, fun | 3 => 1 | 4 => 2 | n => n⟩
theorem Tryz.lays160 : Go.Proofs.Lays.n160 Tryz.prog Tryz.lays160_ren := {
  mixed := by kernel_rfl
  f119 := Tryz.func150.trans (congrArg some (by kernel_rfl))
  f120 := Tryz.func137.trans (congrArg some (by kernel_rfl))
  f137 := Tryz.func149.trans (congrArg some (by kernel_rfl))
  f151 := Tryz.func125.trans (congrArg some (by kernel_rfl))
  f152 := Tryz.func136.trans (congrArg some (by kernel_rfl))
  f160 := Tryz.func54.trans (congrArg some (by kernel_rfl))
  f197 := Tryz.func121.trans (congrArg some (by kernel_rfl))
  f217 := Tryz.func131.trans (congrArg some (by kernel_rfl))
  f224 := Tryz.func133.trans (congrArg some (by kernel_rfl))
  f225 := Tryz.func132.trans (congrArg some (by kernel_rfl))
  f227 := Tryz.func97.trans (congrArg some (by kernel_rfl))
  f228 := Tryz.func124.trans (congrArg some (by kernel_rfl))
  f231 := Tryz.func95.trans (congrArg some (by kernel_rfl))
  f232 := Tryz.func96.trans (congrArg some (by kernel_rfl))
  f233 := Tryz.func98.trans (congrArg some (by kernel_rfl))
  f234 := Tryz.func99.trans (congrArg some (by kernel_rfl))
  f235 := Tryz.func100.trans (congrArg some (by kernel_rfl))
  f236 := Tryz.func101.trans (congrArg some (by kernel_rfl))
  f260 := Tryz.func135.trans (congrArg some (by kernel_rfl))
  f266 := Tryz.func147.trans (congrArg some (by kernel_rfl))
  f271 := Tryz.func126.trans (congrArg some (by kernel_rfl))
  t0 := Tryz.underlying0
  a0 := Tryz.isAgg0
  z0 := Tryz.sizeOf0
  v0 := Tryz.zeroValue0
  t3 := Tryz.underlying3
  a3 := Tryz.isAgg3
  z3 := Tryz.sizeOf3
  v3 := Tryz.zeroValue3
  t4 := Tryz.underlying4
  a4 := Tryz.isAgg4
  z4 := Tryz.sizeOf4
  v4 := Tryz.zeroValue4
  t5 := Tryz.underlying5
  a5 := Tryz.isAgg5
  z5 := Tryz.sizeOf5
  v5 := Tryz.zeroValue5
  t9 := Tryz.underlying9
  a9 := Tryz.isAgg9
  z9 := Tryz.sizeOf9
  v9 := Tryz.zeroValue9
  t21 := Tryz.underlying21
  a21 := Tryz.isAgg21
  z21 := Tryz.sizeOf21
  v21 := Tryz.zeroValue21
  t46 := Tryz.underlying190
  a46 := Tryz.isAgg190
  z46 := Tryz.sizeOf190
  v46 := Tryz.zeroValue190
  t105 := Tryz.underlying180
  a105 := Tryz.isAgg180
  z105 := Tryz.sizeOf180
  v105 := Tryz.zeroValue180
  t116 := Tryz.underlying153
  a116 := Tryz.isAgg153
  z116 := Tryz.sizeOf153
  t117 := Tryz.underlying154
  a117 := Tryz.isAgg154
  z117 := Tryz.sizeOf154
  v117 := Tryz.zeroValue154
  t119 := Tryz.underlying207
  a119 := Tryz.isAgg207
  z119 := Tryz.sizeOf207
  t124 := Tryz.underlying157
  a124 := Tryz.isAgg157
  z124 := Tryz.sizeOf157
  v124 := Tryz.zeroValue157
  t138 := Tryz.underlying209
  a138 := Tryz.isAgg209
  z138 := Tryz.sizeOf209
  v138 := Tryz.zeroValue209
  t139 := Tryz.underlying210
  a139 := Tryz.isAgg210
  z139 := Tryz.sizeOf210
  v139 := Tryz.zeroValue210
  g3 := by kernel_rfl
  g4 := by kernel_rfl }
def Tryz.lays138_ren : Go.Shelf.Ren := ⟨fun | 138 => 38 | 195 => 81 | 218 => 82 | 143 => 83 | 219 => 117 | 217 => 131 | 225 => 132 | 224 => 133 | 267 => 134 | 266 => 147 | 314 => 148 | n => n, fun | 9 => 9 | 3 => 3 | 4 => 4 | 5 => 5 | 0 => 0 | 46 => 190 | 146 => 205 | 51 => 204 | n => n, fun | 1 => 0 | n => n⟩
theorem Tryz.lays138 : Go.Proofs.Lays.n138 Tryz.prog Tryz.lays138_ren := {
  mixed := by kernel_rfl
  f138 := Tryz.func38.trans (congrArg some (by kernel_rfl))
  f143 := Tryz.func83.trans (congrArg some (by kernel_rfl))
  f195 := Tryz.func81.trans (congrArg some (by kernel_rfl))
  f217 := Tryz.func131.trans (congrArg some (by kernel_rfl))
  f218 := Tryz.func82.trans (congrArg some (by kernel_rfl))
  f219 := Tryz.func117.trans (congrArg some (by kernel_rfl))
  f224 := Tryz.func133.trans (congrArg some (by kernel_rfl))
  f225 := Tryz.func132.trans (congrArg some (by kernel_rfl))
  f266 := Tryz.func147.trans (congrArg some (by kernel_rfl))
  f267 := Tryz.func134.trans (congrArg some (by kernel_rfl))
  f314 := Tryz.func148.trans (congrArg some (by kernel_rfl))
  t0 := Tryz.underlying0
  a0 := Tryz.isAgg0
  z0 := Tryz.sizeOf0
  v0 := Tryz.zeroValue0
  t3 := Tryz.underlying3
  a3 := Tryz.isAgg3
  z3 := Tryz.sizeOf3
  v3 := Tryz.zeroValue3
  t4 := Tryz.underlying4
  a4 := Tryz.isAgg4
  z4 := Tryz.sizeOf4
  v4 := Tryz.zeroValue4
  t5 := Tryz.underlying5
  a5 := Tryz.isAgg5
  z5 := Tryz.sizeOf5
  v5 := Tryz.zeroValue5
  t9 := Tryz.underlying9
  a9 := Tryz.isAgg9
  z9 := Tryz.sizeOf9
  v9 := Tryz.zeroValue9
  t46 := Tryz.underlying190
  a46 := Tryz.isAgg190
  z46 := Tryz.sizeOf190
  v46 := Tryz.zeroValue190
  t51 := Tryz.underlying204
  a51 := Tryz.isAgg204
  z51 := Tryz.sizeOf204
  v51 := Tryz.zeroValue204
  t146 := Tryz.underlying205
  a146 := Tryz.isAgg205
  z146 := Tryz.sizeOf205
  v146 := Tryz.zeroValue205
  g1 := by kernel_rfl }
def Tryz.lays100_ren : Go.Shelf.Ren := ⟨fun | 100 => 39 | 207 => 84 | n => n, fun | 9 => 9 | 4 => 4 | 3 => 3 | n => n, fun | n => n⟩
theorem Tryz.lays100 : Go.Proofs.Lays.n100 Tryz.prog Tryz.lays100_ren := {
  mixed := by kernel_rfl
  f100 := Tryz.func39.trans (congrArg some (by kernel_rfl))
  f207 := Tryz.func84.trans (congrArg some (by kernel_rfl))
  t3 := Tryz.underlying3
  a3 := Tryz.isAgg3
  z3 := Tryz.sizeOf3
  v3 := Tryz.zeroValue3
  t4 := Tryz.underlying4
  a4 := Tryz.isAgg4
  z4 := Tryz.sizeOf4
  v4 := Tryz.zeroValue4
  t9 := Tryz.underlying9
  a9 := Tryz.isAgg9
  z9 := Tryz.sizeOf9
  v9 := Tryz.zeroValue9 }
def Tryz.laysC172_ren : Go.Shelf.Ren := ⟨fun | 172 => 102 | 244 => 127 | 245 => 128 | 247 => 138 | 279 => 139 | 280 => 140 | 281 => 141 | 282 => 142 | 287 => 151 | 316 => 152 | 171 => 58 | 205 => 153 | 321 => 159 | 322 => 160 | 243 => 104 | 246 => 129 | 283 => 143 | 284 => 144 | 285 => 145 | 286 => 146 | 129 => 155 | 317 => 154 | 318 => 156 | 319 => 157 | 320 => 158 | 337 => 161 | 338 => 162 | n => n, fun | 9 => 9 | 3 => 3 | 75 => 117 | 76 => 118 | 4 => 4 | 5 => 5 | 167 => 192 | 37 => 56 | 0 => 0 | 85 => 193 | 2 => 2 | 168 => 195 | 53 => 199 | 175 => 212 | 46 => 190 | 210 => 216 | 127 => 128 | 145 => 225 | 143 => 223 | 21 => 21 | 171 => 198 | 173 => 202 | 212 => 219 | 51 => 204 | 20 => 20 | 213 => 220 | 232 => 227 | 233 => 228 | 80 => 58 | n => n, fun | 15 => 3 | 16 => 4 | 17 => 5 | 18 => 6 | 19 => 7 | n => n⟩
theorem Tryz.laysC172 : Go.Proofs.LaysC.n172 Tryz.prog Tryz.laysC172_ren := {
  mixed := by kernel_rfl
  f129 := Tryz.func155.trans (congrArg some (by kernel_rfl))
  f171 := Tryz.func58.trans (congrArg some (by kernel_rfl))
  f172 := Tryz.func102.trans (congrArg some (by kernel_rfl))
  f205 := Tryz.func153.trans (congrArg some (by kernel_rfl))
  f243 := Tryz.func104.trans (congrArg some (by kernel_rfl))
  f244 := Tryz.func127.trans (congrArg some (by kernel_rfl))
  f245 := Tryz.func128.trans (congrArg some (by kernel_rfl))
  f246 := Tryz.func129.trans (congrArg some (by kernel_rfl))
  f247 := Tryz.func138.trans (congrArg some (by kernel_rfl))
  f279 := Tryz.func139.trans (congrArg some (by kernel_rfl))
  f280 := Tryz.func140.trans (congrArg some (by kernel_rfl))
  f281 := Tryz.func141.trans (congrArg some (by kernel_rfl))
  f282 := Tryz.func142.trans (congrArg some (by kernel_rfl))
  f283 := Tryz.func143.trans (congrArg some (by kernel_rfl))
  f284 := Tryz.func144.trans (congrArg some (by kernel_rfl))
  f285 := Tryz.func145.trans (congrArg some (by kernel_rfl))
  f286 := Tryz.func146.trans (congrArg some (by kernel_rfl))
  f287 := Tryz.func151.trans (congrArg some (by kernel_rfl))
  f316 := Tryz.func152.trans (congrArg some (by kernel_rfl))
  f317 := Tryz.func154.trans (congrArg some (by kernel_rfl))
  f318 := Tryz.func156.trans (congrArg some (by kernel_rfl))
  f319 := Tryz.func157.trans (congrArg some (by kernel_rfl))
  f320 := Tryz.func158.trans (congrArg some (by kernel_rfl))
  f321 := Tryz.func159.trans (congrArg some (by kernel_rfl))
  f322 := Tryz.func160.trans (congrArg some (by kernel_rfl))
  f337 := Tryz.func161.trans (congrArg some (by kernel_rfl))
  f338 := Tryz.func162.trans (congrArg some (by kernel_rfl))
  t0 := Tryz.underlying0
  a0 := Tryz.isAgg0
  z0 := Tryz.sizeOf0
  v0 := Tryz.zeroValue0
  t2 := Tryz.underlying2
  a2 := Tryz.isAgg2
  z2 := Tryz.sizeOf2
  v2 := Tryz.zeroValue2
  t3 := Tryz.underlying3
  a3 := Tryz.isAgg3
  z3 := Tryz.sizeOf3
  v3 := Tryz.zeroValue3
  t4 := Tryz.underlying4
  a4 := Tryz.isAgg4
  z4 := Tryz.sizeOf4
  v4 := Tryz.zeroValue4
  t5 := Tryz.underlying5
  a5 := Tryz.isAgg5
  z5 := Tryz.sizeOf5
  v5 := Tryz.zeroValue5
  t9 := Tryz.underlying9
  a9 := Tryz.isAgg9
  z9 := Tryz.sizeOf9
  v9 := Tryz.zeroValue9
  t20 := Tryz.underlying20
  a20 := Tryz.isAgg20
  z20 := Tryz.sizeOf20
  v20 := Tryz.zeroValue20
  t21 := Tryz.underlying21
  a21 := Tryz.isAgg21
  z21 := Tryz.sizeOf21
  v21 := Tryz.zeroValue21
  t37 := Tryz.underlying56
  a37 := Tryz.isAgg56
  z37 := Tryz.sizeOf56
  v37 := Tryz.zeroValue56
  t46 := Tryz.underlying190
  a46 := Tryz.isAgg190
  z46 := Tryz.sizeOf190
  v46 := Tryz.zeroValue190
  t51 := Tryz.underlying204
  a51 := Tryz.isAgg204
  z51 := Tryz.sizeOf204
  v51 := Tryz.zeroValue204
  t53 := Tryz.underlying199
  a53 := Tryz.isAgg199
  z53 := Tryz.sizeOf199
  v53 := Tryz.zeroValue199
  t75 := Tryz.underlying117
  a75 := Tryz.isAgg117
  z75 := Tryz.sizeOf117
  v75 := Tryz.zeroValue117
  t76 := Tryz.underlying118
  a76 := Tryz.isAgg118
  z76 := Tryz.sizeOf118
  v76 := Tryz.zeroValue118
  t85 := Tryz.underlying193
  a85 := Tryz.isAgg193
  z85 := Tryz.sizeOf193
  v85 := Tryz.zeroValue193
  t127 := Tryz.underlying128
  a127 := Tryz.isAgg128
  z127 := Tryz.sizeOf128
  v127 := Tryz.zeroValue128
  t143 := Tryz.underlying223
  a143 := Tryz.isAgg223
  z143 := Tryz.sizeOf223
  v143 := Tryz.zeroValue223
  t145 := Tryz.underlying225
  a145 := Tryz.isAgg225
  z145 := Tryz.sizeOf225
  v145 := Tryz.zeroValue225
  t167 := Tryz.underlying192
  a167 := Tryz.isAgg192
  z167 := Tryz.sizeOf192
  v167 := Tryz.zeroValue192
  t168 := Tryz.underlying195
  a168 := Tryz.isAgg195
  z168 := Tryz.sizeOf195
  v168 := Tryz.zeroValue195
  t171 := Tryz.underlying198
  a171 := Tryz.isAgg198
  z171 := Tryz.sizeOf198
  v171 := Tryz.zeroValue198
  t173 := Tryz.underlying202
  a173 := Tryz.isAgg202
  z173 := Tryz.sizeOf202
  v173 := Tryz.zeroValue202
  t175 := Tryz.underlying212
  a175 := Tryz.isAgg212
  z175 := Tryz.sizeOf212
  v175 := Tryz.zeroValue212
  t210 := Tryz.underlying216
  a210 := Tryz.isAgg216
  z210 := Tryz.sizeOf216
  v210 := Tryz.zeroValue216
  t212 := Tryz.underlying219
  a212 := Tryz.isAgg219
  z212 := Tryz.sizeOf219
  v212 := Tryz.zeroValue219
  t213 := Tryz.underlying220
  a213 := Tryz.isAgg220
  z213 := Tryz.sizeOf220
  t232 := Tryz.underlying227
  a232 := Tryz.isAgg227
  z232 := Tryz.sizeOf227
  v232 := Tryz.zeroValue227
  t233 := Tryz.underlying228
  a233 := Tryz.isAgg228
  z233 := Tryz.sizeOf228
  v233 := Tryz.zeroValue228
  g15 := by kernel_rfl
  g16 := by kernel_rfl
  g17 := by kernel_rfl
  g18 := by kernel_rfl
  g19 := by kernel_rfl
  t80 := Tryz.underlying58
  a80 := Tryz.isAgg58
  z80 := Tryz.sizeOf58
  v80 := Tryz.zeroValue58
  i0 := by kernel_rfl
  i2 := by kernel_rfl
  i3 := by kernel_rfl
  i4 := by kernel_rfl
  i5 := by kernel_rfl
  i9 := by kernel_rfl
  i20 := by kernel_rfl
  i21 := by kernel_rfl
  i37 := by kernel_rfl
  i46 := by kernel_rfl
  i51 := by kernel_rfl
  i53 := by kernel_rfl
  i75 := by kernel_rfl
  i76 := by kernel_rfl
  i80 := by kernel_rfl
  i85 := by kernel_rfl
  i127 := by kernel_rfl
  i143 := by kernel_rfl
  i145 := by kernel_rfl
  i167 := by kernel_rfl
  i168 := by kernel_rfl
  i171 := by kernel_rfl
  i173 := by kernel_rfl
  i175 := by kernel_rfl
  i210 := by kernel_rfl
  i212 := by kernel_rfl
  i232 := by kernel_rfl
  i233 := by kernel_rfl
  m15 := by kernel_rfl
  m16 := by kernel_rfl
  m17 := by kernel_rfl
  m18 := by kernel_rfl
  m19 := by kernel_rfl
  c0 := by kernel_rfl
  c2 := by kernel_rfl
  c3 := by kernel_rfl
  c4 := by kernel_rfl
  c5 := by kernel_rfl
  c9 := by kernel_rfl
  c20 := by kernel_rfl
  c21 := by kernel_rfl
  c37 := by kernel_rfl
  c46 := by kernel_rfl
  c51 := by kernel_rfl
  c53 := by kernel_rfl
  c75 := by kernel_rfl
  c76 := by kernel_rfl
  c80 := by kernel_rfl
  c85 := by kernel_rfl
  c127 := by kernel_rfl
  c143 := by kernel_rfl
  c145 := by kernel_rfl
  c167 := by kernel_rfl
  c168 := by kernel_rfl
  c171 := by kernel_rfl
  c173 := by kernel_rfl
  c175 := by kernel_rfl
  c210 := by kernel_rfl
  c212 := by kernel_rfl
  c213 := by kernel_rfl
  c232 := by kernel_rfl
  c233 := by kernel_rfl }
end Go.Proofs.YtcloigoajohppaaGreatDoor
/- scenario.number, over memory. -/
namespace Go.Proofs.YtcloigoajohppaaGreatDoor
open Go.RowKit
open Av Sc
set_option linter.unusedSimpArgs false
def ErrC (w : World) : Prop := (∃ tp p, w.var? Tryz.prog "strconv.ErrSyntax" = some #[.iface tp p]) ∧ ∃ tp p, w.var? Tryz.prog "strconv.ErrRange" = some #[.iface tp p]
def MaxC (w : World) : Prop := ∃ m, w.cell? ⟨Tryz.lays143_ren.g 1, 0, none⟩ = some (.int .i64 m)
def LC (w : World) : Prop := TabC w ∧ ErrC w ∧ MaxC w
theorem var_below {w w' : World} {name : String} {x : Array Value} (hb : Below w.heap.size w w') (h : w.var? Tryz.prog name = some x) : w'.var? Tryz.prog name = some x := by
  unfold World.var? at h ⊢
  cases hg : Tryz.prog.globalNamed name with
  | none => rw [hg] at h; cases h
  | some g =>
    rw [hg] at h
    simp only [Option.bind_some] at h ⊢
    have hlt : g < w.heap.size := by
      refine Classical.byContradiction fun hn => ?_
      rw [Array.getElem?_eq_none (by omega)] at h
      cases h
    rw [hb.block g hlt]
    exact h
theorem LC.below {w w' : World} (hb : Below w.heap.size w w') (h : LC w) : LC w' := by
  obtain ⟨h1, ⟨⟨a, b, h2⟩, c, d, h3⟩, m, h4⟩ := h
  refine ⟨h1.below hb, ⟨⟨a, b, var_below hb h2⟩, c, d, var_below hb h3⟩, m, ?_⟩
  have hlt : Tryz.lays143_ren.g 1 < w.heap.size := World.block_lt_of_cell? _ _ h4
  rw [← h4]
  exact World.cell?_of_block (hb.block _ hlt)
def numR (s : ByteArray) : Int × Bool :=
  match Lib.atoiAll s.data.toList with
  | .ok v => (v, ((txtI v).toList == s.toList) && (decide (-1099511627776 ≤ v) && decide (v ≤ 1099511627776)))
  | .range => (Lib.atoiSat s.data.toList, false)
  | _ => (0, false)
theorem atoi_ok (s : ByteArray) (hs : s.size ≤ 281474976710656) {v : Int} (h : Lib.atoiAll s.data.toList = .ok v) (w : World) : Calls Tryz.prog 102 #[.string s] w fun e w' => e = .returned (.tuple #[.int .i64 v, .nilIface]) ∧ Below w.heap.size w w' := by
  refine (Any.strconv_Atoi_ok Tryz.laysC172 s (by omega) _ h w).mono ?_
  rintro e w' ⟨rfl, hw⟩
  refine ⟨rfl, ?_⟩
  rcases hw with rfl | ⟨t, rfl⟩
  · exact Below.refl _ _
  · exact Lib.bytesWorld_below _ _ _
theorem atoi_bad (s : ByteArray) (hs : s.size ≤ 281474976710656) (h : ∀ v, Lib.atoiAll s.data.toList ≠ .ok v) (w : World) (hC : LC w) : Calls Tryz.prog 102 #[.string s] w fun e w' => ∃ N tp, e = .returned (.tuple #[.int .i64 (numR s).1, .iface tp (.pointer (some ⟨N, 0, none⟩))]) ∧ Below w.heap.size w w' := by
  obtain ⟨_, ⟨⟨ta, pa, hva⟩, tr, pr, hvr⟩, _⟩ := hC
  cases hk : Lib.atoiAll s.data.toList with
  | ok v => exact absurd hk (h v)
  | range =>
    refine (Any.strconv_Atoi_range_var Tryz.laysC172 s hs hk tr pr w hvr).mono ?_
    rintro e w' ⟨N, rfl, -, -, hb⟩
    exact ⟨_, _, by unfold numR; rw [hk], hb⟩
  | _ =>
    refine (Any.strconv_Atoi_syntax_var Tryz.laysC172 s hs hk ta pa w hva).mono ?_
    rintro e w' ⟨N, rfl, -, -, hb⟩
    exact ⟨_, _, by unfold numR; rw [hk], hb⟩
theorem atoiAll_range {l : List UInt8} {v : Int} (h : Lib.atoiAll l = .ok v) : -9223372036854775808 ≤ v ∧ v ≤ 9223372036854775807 := by
  unfold Lib.atoiAll at h
  split at h
  · cases h
  · dsimp only at h
    split at h
    · cases h
    · cases h
    · split at h
      · cases h
      · split at h
        · cases h
        · cases h
          split <;> omega
theorem itoa_any (v : Int) (h0 : -9223372036854775808 ≤ v) (h1 : v ≤ 9223372036854775807) (w : World) (hC : TabC w) : Calls Tryz.prog 58 #[.int .i64 v] w fun e w' => e = .returned (.string (txtI v)) ∧ Below w.heap.size w w' := by
  refine (Any.strconv_Itoa Tryz.laysM171 v h0 h1 w hC).mono ?_
  rintro e w' ⟨rfl, k, os, rfl⟩
  exact ⟨rfl, below_growT w k os⟩
set_option maxRecDepth 100000 in
set_option maxHeartbeats 1000000 in
theorem number_any (s : ByteArray) (hs : s.size ≤ 281474976710656) (w : World) (hC : LC w) : Calls Tryz.prog 55 #[.string s] w fun e w' => e = .returned (.tuple #[.int .i64 (numR s).1, .bool (numR s).2]) ∧ Below w.heap.size w w' := by
  by_cases hok : ∃ v, Lib.atoiAll s.data.toList = .ok v
  · obtain ⟨v, hv⟩ := hok
    have hr := atoiAll_range hv
    have hn : numR s = (v, ((txtI v).toList == s.toList) && (decide (-1099511627776 ≤ v) && decide (v ≤ 1099511627776))) := by unfold numR; rw [hv]
    rw [hn]
    have HA := Lib.hid fun W => atoi_ok s hs hv W
    have HI := Lib.hid fun W hW => itoa_any v hr.1 hr.2 W hW
    have HT := Lib.hid hC.1
    clear hC hn hv
    generalize txtI v = tv at HI ⊢
    go_enter Tryz.func55, Tryz.ntmps55
    go_wp2_with (go_at_call 102; (with_reducible refine (HA.out _).mono ?_); rintro e w' ⟨rfl, hb1⟩)
    (with_reducible refine (HI.out _ (HT.out.below hb1)).mono ?_)
    rintro e w2 ⟨rfl, hb2⟩
    go_wp2
    all_goals go_ret2
    all_goals (refine ⟨by simp_all <;> omega, hb1.trans (hb2.mono hb1.size)⟩)
  · have hn2 : (numR s).2 = false := by
      unfold numR
      cases hk : Lib.atoiAll s.data.toList with
      | ok v => exact absurd ⟨v, hk⟩ hok
      | range => rfl
      | _ => rfl
    have HB := Lib.hid fun W hW => atoi_bad s hs (fun v h => hok ⟨v, h⟩) W hW
    have HC := Lib.hid hC
    rw [hn2]
    clear hC hn2 hok
    go_enter Tryz.func55, Tryz.ntmps55
    go_wp2_with (go_at_call 102; (with_reducible refine (HB.out _ HC.out).mono ?_); rintro e w' ⟨N, tp, rfl, hb1⟩)
    all_goals go_ret2
    all_goals (exact ⟨by simp, hb1⟩)
theorem number_okC (s : ByteArray) (hs : s.size ≤ 281474976710656) : FnOKC Tryz.prog LC 55 [.v (.string s)] ⟨.tup [.c (ip (numR s).1), .c (.v (.bool (numR s).2))], none⟩ := by
  refine ⟨⟨Tryz.f55, _, Tryz.func55, by kernel_rfl, rfl⟩, fun w R hC hR us hus => ?_⟩
  cases hus with | cons h0 _ hus =>
  cases hus
  rw [h0]
  refine (number_any s hs w hC).mono ?_
  rintro e w' ⟨rfl, hb⟩
  exact ⟨_, rfl, hb, rfl, [_, _], rfl, .cons (.c (.v _ rfl)) (.cons (.c (.v _ rfl)) .nil)⟩
end Go.Proofs.YtcloigoajohppaaGreatDoor
/- Abstract walks under a fence: in a round of a range over a function, and behind such a loop. Generic. -/
namespace Go.Proofs.YtcloigoajohppaaGreatDoor
open Go.RowKit
namespace Av
structure FOK (Fe : Fence) : Prop where
  fn : ∀ f, Fe.fn f
  depth : Fe.depth = none
  calls : ∀ {P : Program} {n : Nat} {f : FuncId} {args : Array Value} {w : World} {R : Ending → World → Prop}, Calls P f args w R → CallsIn Fe n P f args w R
  rows : ∀ {P : Program} {n : Nat} {row : String} {args : Array Value} {w : World} {R : Value → World → Prop}, Rows P row args w R → RowsIn Fe n P row args w R
theorem FOK.wide : FOK Fence.wide :=
  ⟨fun _ => trivial, rfl, fun h => callsIn_wide.2 h, fun h c cs _ => by
    obtain ⟨v, w', h1, h2⟩ := h c cs
    exact ⟨v, w', h1, stepsIn_wide.2 h2⟩⟩
theorem FOK.round (l : Nat) : FOK (Fence.wide.inRound l) :=
  ⟨fun _ => trivial, rfl, fun h => (callsIn_wide.2 h).inRound l, fun h c cs _ => by
    obtain ⟨v, w', h1, h2⟩ := h c cs
    exact ⟨v, w', h1, stepsIn_wide.2 h2⟩⟩
def Act.with (a : Act) (ds : List Deferred) : Act := { a with defers := ds }
section
variable {P : Program} {Fe : Fence} {n : Nat} {ds : List Deferred}
section
variable {F : Fr} {σ : St} {Q : AX → St → Prop}
end
end
structure touch (S : Nat → Prop) (w w' : World) : Prop where
  os : w'.os = w.os
  tape : w'.tape = w.tape
  output : w'.output = w.output
  size : w.heap.size ≤ w'.heap.size
  block : ∀ b, b < w.heap.size → ¬ S b → w'.heap[b]? = w.heap[b]?
section
variable {S : Nat → Prop} {u v w : World}
theorem touch.refl (S : Nat → Prop) (w : World) : touch S w w := ⟨rfl, rfl, rfl, Nat.le_refl _, fun _ _ _ => rfl⟩
theorem touch.trans (h : touch S u v) (k : touch S v w) : touch S u w :=
  ⟨k.os.trans h.os, k.tape.trans h.tape, k.output.trans h.output, Nat.le_trans h.size k.size, fun b hb hs => (k.block b (Nat.lt_of_lt_of_le hb h.size) hs).trans (h.block b hb hs)⟩
theorem touch.mono {S' : Nat → Prop} (h : touch S u v) (hs : ∀ b, b < u.heap.size → S b → S' b) : touch S' u v := ⟨h.os, h.tape, h.output, h.size, fun b hb hn => h.block b hb fun h' => hn (hs b hb h')⟩
theorem touch.setCell (w : World) (a : Addr) (v : Value) (ha : S a.block) : touch S w (w.setCell a v) :=
  ⟨rfl, rfl, rfl, by simp [World.setCell], fun b _ hn => Below.heap_setCell w a v b fun e => hn (by rw [e]; exact ha)⟩
theorem touch.putObj (w : World) (l : Nat) (o : Obj) (hl : S l) : touch S w (w.putObj l o) :=
  ⟨rfl, rfl, rfl, by simp, fun b _ hn => World.putObj_heap_other fun e => hn (by subst e; exact hl)⟩
end
theorem range_law {P : Program} {n : Nat} {g : Operand} {ps : Array Tmp} {assign body : Code} {Q : Exit → Act → World → Prop} {a : Act} {w : World} {gf : Nat} {lb : Array Value} (hg : a.eval g = .func (.func gf) #[] lb) (eg : ∀ args w, (callFunc gf args).run P w = .ok (.enter gf args) w)
    (h : ∀ (fn : FuncId) (W1 : World) (rec : _ → Option Code → Loop), rec = (fun st pe => { state := st, pending := pe, fn, tmps := a.tmps, params := ps, assign, body, defers := w.heap.size }) →
      Below w.heap.size w W1 → W1.heap.size = w.heap.size + 2 → W1.heap[w.heap.size]? = some (.deferred (some [])) → W1.heap[w.heap.size + 1]? = some (.loop (rec .ready none)) →
      CallsIn Fence.wide (n - 1) P gf (#[.func (.yield (w.heap.size + 1)) #[] #[]] ++ lb) W1 (rangePost Fence.wide n P (w.heap.size + 1) Q { a with defers := [{ target := .collected w.heap.size, args := #[] }] ++ a.defers })) :
    (Code.rangeFunc g ps assign body).wpIn Fence.wide n P Q a w := by
  refine wpIn_rangeFunc ?_
  intro fn _
  obtain ⟨W1, hW1⟩ : ∃ W1, (w.alloc (.deferred (some []))).alloc (.loop { state := .ready, pending := none, fn, tmps := a.tmps, params := ps, assign, body, defers := w.heap.size }) = W1 := ⟨_, rfl⟩
  refine ⟨w.heap.size + 1, [{ target := .collected w.heap.size, args := #[] }], W1, { target := .fn (.func gf) lb, args := #[.func (.yield (w.heap.size + 1)) #[] #[]] }, W1, gf, #[.func (.yield (w.heap.size + 1)) #[] #[]] ++ lb, W1, ?_, ?_, fun _ _ => trivial, ?_, (fun h => (by cases h)), ?_⟩
  · rw [← hW1]; exact run_enterLoop_outer _ _ _ _ _
  · simp only [resolve, hg]
    simp [go_sem]
  · simp [invoke, go_sem, eg]
  · refine h fn W1 _ rfl ?_ ?_ ?_ ?_
    · rw [← hW1]; exact ((Below.refl _ w).alloc (Nat.le_refl _) _).alloc (by simp) _
    · rw [← hW1]; simp only [World.size_alloc]
    · rw [← hW1]; exact (Below.heap_alloc _ _ _ (by simp)).trans (World.alloc_heap_new w _)
    · rw [← hW1]; have := World.alloc_heap_new (w.alloc (.deferred (some []))) (.loop { state := .ready, pending := none, fn, tmps := a.tmps, params := ps, assign, body, defers := w.heap.size }); rwa [World.size_alloc] at this
theorem yield_law {P : Program} {m : Nat} {l : Nat} {args : Array Value} {w : World} {R : Ending → World → Prop} {r : Loop} (hl : w.heap[l]? = some (.loop r)) (hr : r.state = .ready) (hs : args.size = r.params.size)
    {A1 : Act} (h : r.assign.wpIn (Fence.wide.inRound l) m P (Exit.then (fun a₁ w₁ => w₁ = w ∧ a₁ = A1) (fun _ _ _ => False)) { tmps := (r.params.zip args).foldl (fun tmps (t, a) => tmps.setIfInBounds t a) r.tmps, defers := [] } w)
    (hb : r.body.wpIn (Fence.wide.inRound l) m P (roundPost P l R) A1 (w.putObj l (.loop { r with state := .busy }))) :
    YieldAt Fence.wide m P l args w R := by
  refine ⟨r.fn, _, r.assign, r.body, run_yield hl hs, roundIn_of_wpIn trivial (wpIn_mono h ?_)⟩
  intro e a1 w1 he
  cases e with
  | normal => exact ⟨_, (by rw [he.1]; exact run_beginRound hl hr), (by rw [he.2]; exact hb)⟩
  | _ => exact he
theorem touch.keep {S : Nat → Prop} {w w' : World} {b : Nat} {o : Obj} (h : touch S w w') (hb : w.heap[b]? = some o) (hn : ¬ S b) : w'.heap[b]? = some o :=
  (h.block b (Array.getElem?_eq_some_iff.1 hb).1 hn).trans hb
def heldE (B0 B1 : Nat) (H : Nat → Option Obj) : Ext where
  foot b := B0 ≤ b ∧ b < B1
  froz _ := False
  holds w := ∀ b, B0 ≤ b → b < B1 → w.heap[b]? = H b
  stable h hw b h0 h1 := (h b (.inl ⟨h0, h1⟩)).trans (hw b h0 h1)
theorem Rel.touched {F : Fr} {σ : St} {γ : Gh} {a : Act} {w w' : World} {A : Ext} {B0 B1 : Nat} {H : Nat → Option Obj} (h : Rel F σ γ a w) (hE : σ.ext = A.and (heldE B0 B1 H)) (ht : touch (fun b => B0 ≤ b ∧ b < B1) w w') :
    Rel F { σ with ext := A.and (heldE B0 B1 fun b => w'.heap[b]?) } γ a w' := by
  refine h.turn ?_
  have hx := h.exth
  rw [hE] at hx ⊢
  refine Turn.right (fun b hb => (h.extf b (by rw [hE]; exact hb.elim (fun h => .inl (.inl h)) (fun h => .inr (.inl h)))).2.1) hx ⟨ht.os, ht.tape, ht.output, ht.size, fun k hk hn => ht.block k hk hn, fun b _ _ => rfl, fun b hb => .inl hb, fun b hb => hb.elim, fun _ h => h, fun _ _ => trivial, fun p h => h.elim⟩
end Av
end Go.Proofs.YtcloigoajohppaaGreatDoor
/- Blocks held as they are, whichever; a frame's state for a walk in exact worlds. Generic. -/
namespace Go.Proofs.YtcloigoajohppaaGreatDoor
open Go.RowKit
namespace Av
def heldS (S : Nat → Prop) (H : Nat → Option Obj) : Ext where
  foot b := S b
  froz _ := False
  holds w := ∀ b, S b → w.heap[b]? = H b
  stable h hw := fun b hb => (h b (.inl hb)).trans (hw b hb)
theorem below_touch {n : Nat} {T : Nat → Prop} {w W W' : World} (h : Below n w W) (ht : touch T W W') (hT : ∀ b, T b → n ≤ b) (hs : n ≤ W.heap.size) : Below n w W' :=
  h.trans ⟨ht.os, ht.tape, ht.output, ht.size, fun b hb => ht.block b (Nat.lt_of_lt_of_le hb hs) fun e => absurd (hT b e) (Nat.not_le.2 hb)⟩
structure Held (p : Prop) : Prop where
  out : p
theorem hold_store {Fe : Fence} {n : Nat} {P : Program} {ops : Array Oper} {Q : Exit → Act → World → Prop} {rest : List Oper} {a : Act} {w : World} (t : TypeId) {x y : Operand} {ty : TypeId} {pos : String} {after : Array Edge} (h : Held (wpListIn Fe n P ops Q ({ dst := none, op := .store t x y, type := ty, pos := pos, after := after, guard := none } :: rest) a w)) :
    wpListIn Fe n P ops Q ({ dst := none, op := .store t x y, type := ty, pos := pos, after := after, guard := none } :: rest) a w := h.out
theorem store_row_in {Fe : Fence} (hF : FOK Fe) {n : Nat} {P : Program} {ops : Array Oper} {Q : Exit → Act → World → Prop} {rest : List Oper} {o : Oper} {a : Act} {w : World} (hgd : o.guard = none) (ty : TypeId) (x y : Operand) (ho : o.op = .store ty x y)
    (g : Nat) (cells : Array Value) (hx : a.eval x = .pointer (some ⟨g, 0, none⟩)) (hy : a.eval y = .agg cells)
    (t : TypeId) (old : Array Value) (hg : w.heap[g]? = some (.cells old t (0, 0))) (hi : (P.info? ty).map (·.size) = some cells.size)
    (hold : old.size = cells.size) (h1 : cells.all (·.oneCell') = true)
    (h : wpListIn Fe n P ops Q rest (a.put o.dst undef) (w.setRow g cells)) : wpListIn Fe n P ops Q (o :: rest) a w := by
  refine wpListIn_plain hgd fun K hK => ⟨fun f _ => hF.fn f, ?_⟩
  rw [Oper.semAt_eq _ _ _ (fun c => by rw [ho]; simp)]
  unfold execOp
  simp only [ho, hx, hy, Instr.storeAt, Instr.sureAddr, Sem.run_bind, Sem.run_pure, Result.andThen_ok, run_storeVar_row w g t ty old cells hg hi hold h1]
  exact hK _ _ h
theorem setRow_same {w : World} {g : Nat} {cs old : Array Value} {t : TypeId} {fr : Nat × Nat} (h : w.heap[g]? = some (.cells old t fr)) : (w.setRow g cs).heap[g]? = some (.cells cs t fr) := by
  simp [World.setRow, Array.getElem?_modify, h]
theorem setRow_touch (w : World) (g : Nat) (cs : Array Value) {S : Nat → Prop} (hg : S g) : touch S w (w.setRow g cs) :=
  ⟨rfl, rfl, rfl, by simp [World.setRow], fun b _ hn => by
    have : ¬ g = b := fun e => hn (e ▸ hg)
    simp [World.setRow, Array.getElem?_modify, this]⟩
section
variable {F : Fr} {γ : Gh} {a : Act} {w w' : World} {A B : Ext} {S S' : Nat → Prop} {H : Nat → Option Obj}
def exSt (C : World → Prop) (S : Nat → Prop) (w : World) (X : Ext) : St := extSt [] (((laidE C).and (heldS S fun b => w.heap[b]?)).and X)
theorem Rel.touchedS {C : World → Prop} {w0 : World} {X : Ext} (h : Rel F (exSt C S w0 X) γ a w) (ht : touch S w w') : Rel F (exSt C S w' X) γ a w' := by
  refine h.turn ?_
  have hx := h.exth
  refine Turn.left (A := (laidE C).and (heldS S fun b => w0.heap[b]?)) (A' := (laidE C).and (heldS S fun b => w'.heap[b]?)) (fun b hb => (h.extf b (by exact hb.elim (fun h => .inl (.inr h)) (fun h => .inr (.inr h)))).2.1) hx ?_
  refine Turn.right (fun b hb => hb.elim (fun h => h.elim) (fun h => h.elim)) hx.1 ⟨ht.os, ht.tape, ht.output, ht.size, fun k hk hn => ht.block k hk hn, fun b _ => rfl, fun b hb => .inl hb, fun b hb => hb.elim, fun _ h => h, fun _ _ => trivial, fun p h => h.elim⟩
theorem Rel.moreS {C : World → Prop} {w0 : World} {X : Ext} (h : Rel F (exSt C S w0 X) γ a w) (hb : Below w.heap.size w w') (hS : ∀ b, S' b ↔ S b ∨ (w.heap.size ≤ b ∧ b < w'.heap.size)) : Rel F (exSt C S' w' X) γ a w' := by
  refine h.turn ?_
  have hx := h.exth
  refine Turn.left (A := (laidE C).and (heldS S fun b => w0.heap[b]?)) (A' := (laidE C).and (heldS S' fun b => w'.heap[b]?)) (fun b hb => (h.extf b (by exact hb.elim (fun h => .inl (.inr h)) (fun h => .inr (.inr h)))).2.1) hx ?_
  refine Turn.right (fun b hb => hb.elim (fun h => h.elim) (fun h => h.elim)) hx.1 ⟨hb.os, hb.tape, hb.output, hb.size, fun k hk _ => hb.block k hk, fun b _ => rfl, fun b hb' => ?_, fun b hb => hb.elim, fun _ h => h, fun _ _ => trivial, fun p h => h.elim⟩
  rcases (hS b).1 hb' with h1 | h1
  · exact .inl h1
  · exact .inr h1
theorem Rel.beginS {C : World → Prop} {w0 w : World} {X : Ext} (hC : C w0) (hb : Below w0.heap.size w0 w) (hX : X.holds w) (hl : X.laid w0) (hr : ∀ R, X.reads R) (hS : ∀ b, S b → w0.heap.size ≤ b ∧ b < w.heap.size ∧ ¬ X.all b) (hXf : ∀ b, X.all b → w0.heap.size ≤ b ∧ b < w.heap.size) :
    Rel ⟨fun _ => none, w0, 0⟩ (exSt C S w X) ⟨fun _ => 0, fun _ => none⟩ { tmps := #[], defers := [] } w := by
  refine ⟨rfl, rfl, hb, (fun p v h => by cases h), fun t x hx => (by cases hx), fun k cs hk => (by cases hk), fun k k' hk => (by cases hk), fun L e sz hL => (by cases hL), fun L L' g hL => (by cases hL), fun L k g hL => (by cases hL), ?_, ?_, Nat.zero_le _, fun k hk => (by cases hk), ⟨⟨hC, trivial⟩, hl⟩, ⟨⟨trivial, trivial⟩, hr _⟩⟩
  · refine ⟨⟨trivial, fun b _ => rfl, fun b h1 _ => h1.elim (fun h => h.elim) (fun h => h.elim)⟩, hX, fun b h1 h2 => ?_⟩
    rcases h1 with (h1 | h1) | (h1 | h1)
    · exact h1.elim
    · exact (hS b h1).2.2 h2
    · exact h1.elim
    · exact h1.elim
  · intro b h1
    have key : w0.heap.size ≤ b ∧ b < w.heap.size := by
      rcases h1 with ((h1 | h1) | h1) | ((h1 | h1) | h1)
      · exact h1.elim
      · exact ⟨(hS b h1).1, (hS b h1).2.1⟩
      · exact hXf b (.inl h1)
      · exact h1.elim
      · exact h1.elim
      · exact hXf b (.inr h1)
    exact ⟨key.1, key.2, fun k hk => (by cases hk), fun L hL => (by cases hL)⟩
end
end Av
end Go.Proofs.YtcloigoajohppaaGreatDoor
/- Sizes and zero values of types. -/
namespace Go.Proofs.YtcloigoajohppaaGreatDoor
open Go.RowKit
open Av
set_option maxRecDepth 100000
set_option linter.unusedSimpArgs false
theorem Tryz.zr105 : (Tryz.prog.info? 105).map (·.zero) = some (some (.agg #[.int .i64 0, .slice none 0 0, .int .i64 0, .int .i64 0, .slice none 0 0, .slice none 0 0, .slice none 0 0, .slice none 0 0, .int .i64 0, .int .i64 0, .slice none 0 0, .slice none 0 0, .slice none 0 0, .slice none 0 0, .int .i64 0, .int .i64 0, .bool false, .bool false, .bool false])) := by kernel_rfl
end Go.Proofs.YtcloigoajohppaaGreatDoor
/- What an argument's reading says of its cells, for types made of integers, bools, strings, structs and slices. Generic: no program's numbers. -/
namespace Go.Proofs.YtcloigoajohppaaGreatDoor
open Go.RowKit Go.ChangeShapes Go.WideShapes Go.Deep

inductive Ty where
  | int (k : IntKind)
  | bool
  | str
  | slice (e : Ty)
  | struct (l : Ty)
  | nil
  | cons (a l : Ty)

def Ty.cells : Ty → Nat
  | .int _ | .bool | .str | .slice _ => 1
  | .struct l => l.cells
  | .nil => 0
  | .cons a l => a.cells + l.cells

mutual
def Ty.fits (P : Program) : Ty → TypeId → Bool
  | .int k, t => match P.underlying t with
    | some (.int k') => decide (k = k')
    | _ => false
  | .bool, t => match P.underlying t with
    | some .bool => true
    | _ => false
  | .str, t => match P.underlying t with
    | some .string => true
    | _ => false
  | .slice e, t => match P.underlying t with
    | some (.slice u) => e.fits P u && P.cellsOf u == e.cells
    | _ => false
  | .struct l, t => match P.underlying t with
    | some (.struct fs) => l.fitsF P fs.toList 0
    | _ => false
  | .nil, _ => false
  | .cons _ _, _ => false
def Ty.fitsF (P : Program) : Ty → List Field → Nat → Bool
  | .nil, [], _ => true
  | .cons a l, f :: fs, off => f.offset == off && (P.cellsOf f.type == a.cells && (a.fits P f.type && l.fitsF P fs (off + a.cells)))
  | _, _, _ => false
end

def Ty.holds (w : World) : Ty → List Value → Prop
  | .int k, cs => ∃ n, cs = [.int k n] ∧ (Lit.int k n).wf = true
  | .bool, cs => ∃ b, cs = [.bool b]
  | .str, cs => ∃ s : ByteArray, cs = [.string s] ∧ s.size ≤ maxLen
  | .slice e, cs => ∃ A n c, cs = [.slice A n c] ∧ n ≤ c ∧ c ≤ maxLen ∧ (A = none → n = 0) ∧ ∀ a, A = some a → ∀ i, i < n → ∃ es, es.length = e.cells ∧ e.holds w es ∧ ∀ j u, es[j]? = some u → w.cell? (a.add (i * e.cells + j)) = some u
  | .struct l, cs => l.holds w cs
  | .nil, _ => True
  | .cons a l, cs => a.holds w (cs.take a.cells) ∧ l.holds w (cs.drop a.cells)

section
variable {H : Type} {enc : TypeId × Value → H} {P : Program} {w : World} {base : Nat} {spare : Nat → Bool} {held : Bool}

end

theorem cell_lt {w : World} {a : Addr} {u : Value} (h : w.cell? a = some u) : a.block < w.heap.size ∧ a.spot = none := by
  unfold World.cell? at h
  split at h
  · rename_i c t fr hh
    refine ⟨?_, ?_⟩
    · rcases Nat.lt_or_ge a.block w.heap.size with h' | h'
      · exact h'
      · rw [Array.getElem?_eq_none h'] at hh; cases hh
    · split at h
      · cases h
      · rename_i hs
        cases hsp : a.spot with
        | none => rfl
        | some s => rw [hsp] at hs; simp at hs
  · cases h

end Go.Proofs.YtcloigoajohppaaGreatDoor
/- A line is written. -/
namespace Go.Proofs.YtcloigoajohppaaGreatDoor
open Go.RowKit
open Av
open Sc
set_option maxRecDepth 100000
set_option linter.unusedSimpArgs false
attribute [local go_sem] Av.guardB Av.sop Av.hopx Av.hop Av.hopCall Av.hopF Av.hopB Av.evo Av.evos Av.avCells Av.loadK Av.bound Av.abin Av.aun Av.partsC Av.lfill Av.placesB Av.setAt Av.stl Av.takes Av.src Av.bxOf Av.ownOf Av.St.res Av.St.put Av.St.addBox Av.St.putOwn Av.delL Av.delS Av.look Av.lookL Av.storeSt Av.stealSt Av.St.setBox Av.keepL Av.hitB Av.snap Av.snaps Av.snapCaps Av.AV.lit Av.AV.refs Av.capRefs Av.PV.av Av.CV.av Av.startSt Av.steals Av.athen Av.ablock Av.appK Av.AllS Av.AllO Av.AllR Av.keepS Av.St.avAt Av.RetOK Av.retAll Av.retOne Av.intsOf Av.ptrB TypeDesc.isRow List.range_zero Option.some.injEq exists_eq_left' exists_eq_left exists_eq' exists_and_left exists_and_right exists_const true_and and_true and_self false_and and_false or_false false_or or_true true_or if_true if_false Bool.false_eq_true List.zipIdx_cons List.zipIdx_nil List.map_cons List.map_nil List.filter_cons List.filter_nil List.contains_cons List.contains_nil List.drop_succ_cons List.drop_zero List.take_succ_cons List.take_zero List.take_nil List.drop_nil List.length_cons List.length_nil List.cons_append List.nil_append List.append_nil List.getElem?_cons_zero List.getElem?_cons_succ List.getElem?_nil Option.bind_some Option.bind_none Option.map_some Option.map_none Option.isNone_none Option.isNone_some Option.isSome_some Option.isSome_none Bool.and_true Bool.true_and Bool.and_false Bool.false_and Bool.or_false Bool.false_or Bool.not_true Bool.not_false beq_true beq_false Bool.true_beq Bool.false_beq Loc.s.injEq Loc.b.injEq decide_true decide_false beq_self_eq_true Nat.zero_add Nat.add_zero List.getElem?_toArray List.toList_toArray List.size_toArray Value.oneCell' List.all_cons List.all_nil Value.int.injEq AV.v.injEq AV.sl.injEq AV.agg.injEq AV.ref.injEq AV.ept.injEq AV.tup.injEq Value.bool.injEq PV.v.injEq PV.sl.injEq List.isEmpty_nil List.isEmpty_cons forall_const not_true_eq_false not_false_eq_true true_implies false_implies Value.string.injEq List.length_map List.getElem?_map Int.toNat_natCast Int.natCast_nonneg List.length_append Value.cells implies_true TypeDesc.struct.injEq TypeDesc.slice.injEq TypeDesc.array.injEq List.getElem?_toArray Prod.mk.injEq and_assoc exists_false List.cons.injEq Operand.tmp.injEq ite_self AV.fnv.injEq AV.clo.injEq ne_eq eq_self Tryz.sz3 Tryz.zr3 Tryz.by3 Tryz.pl3 Tryz.is3 Tryz.underlying3 Tryz.sz4 Tryz.pl4 Tryz.is4 Tryz.underlying4 Tryz.sz9 Tryz.zr9 Tryz.underlying9 Tryz.underlying5 Tryz.underlying56 Tryz.sz24 Tryz.zr24 Tryz.by24 Tryz.underlying24 Tryz.underlying70 Tryz.underlying69 Tryz.is72 Tryz.underlying72 Tryz.zr74 Tryz.underlying74 Tryz.underlying117 Tryz.underlying182 all_arr loc_ss arr_two arr_one ResultVar.tmp.injEq Bool.not_true Bool.not_false undef Fn.func.injEq Av.extSt Av.RetX List.zipIdx List.getD_cons_zero List.getD_cons_succ List.set_cons_zero
theorem lineB_ge (word : ByteArray) (ns : List Int) : ns.length ≤ (lineB word ns).length := by
 have h : ∀ ns : List Int, ns.length ≤ (ns.flatMap fun n => 32 :: Lib.itoa n).length := fun ns => by
  induction ns with
  | nil => simp
  | cons a l ih => simp only [List.flatMap_cons, List.length_append, List.length_cons]; omega
 have := h ns
 unfold lineB
 rw [List.length_append]
 omega
theorem lineB_succ {word : ByteArray} {ns : List Int} {k : Nat} {d : Int} (h : ns[k]? = some d) : lineB word (ns.take (k + 1)) = lineB word (ns.take k) ++ (⟨#[32]⟩ ++ txtI d : ByteArray).data.toList := by
 unfold lineB txtI
 rw [List.take_add_one, h, Option.toList_some, List.flatMap_append]
 simp
theorem lineB_len_succ {word : ByteArray} {ns : List Int} {k : Nat} {d : Int} (h : ns[k]? = some d) : (lineB word (ns.take k)).length + (⟨#[32]⟩ ++ txtI d : ByteArray).size ≤ (lineB word ns).length := by
 have e := ba_size (⟨#[32]⟩ ++ txtI d)
 have h2 : (lineB word (ns.take (k + 1))).length ≤ (lineB word ns).length := by
  have : ns = ns.take (k + 1) ++ ns.drop (k + 1) := (List.take_append_drop _ _).symm
  conv => rhs; rw [this]
  unfold lineB
  simp only [List.flatMap_append, List.length_append]
  omega
 rw [lineB_succ h, List.length_append] at h2
 omega
theorem any_take_succ {α : Type} {p : α → Bool} {l : List α} {k : Nat} {d : α} (h : l[k]? = some d) : (l.take (k + 1)).any p = ((l.take k).any p || p d) := by
 rw [List.take_add_one, h, Option.toList_some, List.any_append]
 simp
theorem wline_okX (b : Nat) (st bd : Bool) (l : List UInt8) (V : Value) (word : ByteArray) (ns : List Int) (hn : ∀ n ∈ ns, -9223372036854775808 ≤ n ∧ n ≤ 9223372036854775807) (hlen : l.length + (lineB word ns).length + 1 ≤ 140737488355328) :
 FnX Tryz.prog TabC 29 [.v (wrP b), .v (.string word), .sl 1 (ns.map fun n => [ip n])] (wrE b (st, l, bd) V) (.tup []) (fun V' => wrE b (true, l ++ lineB word ns ++ [10], bd || ns.any farB) V') := by
 refine fn_okXn Tryz.func29 Tryz.ntmps29 Tryz.results29 (by kernel_rfl) rfl (of_decide_eq_true rfl) fun F E hF hC => ?_
 simp only [go_sem, simprocAttr, hF]
 repeat (first
  | ((refine hand_rawField rfl rfl (by decide) Tryz.underlying74 rfl (m := 1) rfl rfl ?_); simp only [go_sem, simprocAttr, hF, Av.sopJ])
  | (with_reducible refine sops_go ?_; simp only [go_sem, simprocAttr, hF])
  | (with_reducible refine awp_seq_k fun _ _ => ?_)
  | (with_reducible refine awp_region (id := 0) [1000010, 1000012] ?_))
 refine hand_callX (writeString_okX TabC b st bd l V word (by simp [lineB] at hlen; omega)) E rfl hC rfl rfl (by decide) rfl rfl (fun V1 => ?_)
 simp only [go_sem, simprocAttr, hF]
 repeat (first
  | ((with_reducible first | refine sops_go ?_ | refine sops_end ?_); simp only [go_sem, simprocAttr, hF])
  | (with_reducible first | refine awp_seq_k fun _ _ => ?_ | refine awp_region (id := 1) [] ?_ | refine awp_block ?_)
  | go_step)
 refine awp_loop_by (ι := {k : Nat // k ≤ ns.length} × Value) (fun k σ => ⟨(15, iv (k.1.1 : Int)) :: keepS [0, 13, 14] σ.slot, σ.box, [], E.and (wrE b (true, l ++ lineB word (ns.take k.1.1), bd || (ns.take k.1.1).any farB) k.2)⟩) (fun k => ns.length - k.1.1) (⟨0, Nat.zero_le _⟩, V1) (sub_mk ?_) (fun R hR k => ?_)
 · simp only [go_sem, simprocAttr, hF]
   repeat' (first | rfl | refine ⟨?_, ?_⟩ | (simp [lineB]; done))
 obtain ⟨⟨k, hk⟩, V2⟩ := k
 have hge := lineB_ge word ns
 dsimp only
 simp only [go_sem, simprocAttr, hF]
 by_cases hlt : k < ns.length
 case neg =>
  have hd : decide ((k : Int) < (ns.length : Int)) = false := decide_eq_false (by omega)
  obtain rfl : k = ns.length := by omega
  rw [List.take_length]
  repeat (first
   | ((refine hand_rawField rfl rfl (by decide) Tryz.underlying74 rfl (m := 1) rfl rfl ?_); simp only [go_sem, simprocAttr, hF, hd, Av.sopJ])
   | ((with_reducible first | refine sops_go ?_ | refine sops_end ?_ | refine awp_if ?_ | refine awp_exit ?_); simp only [go_sem, simprocAttr, hF, hd])
   | (with_reducible first | refine awp_seq_k fun _ _ => ?_ | refine awp_region (id := 2) [] ?_ | refine awp_region (id := 7) [1000044, 1000045] ?_)
   | go_step)
  refine hand_callX (writeByte_okX TabC b true _ _ V2 10 (by rw [List.length_append]; omega)) E rfl hC rfl rfl (by decide) rfl rfl (fun V3 => ?_)
  simp only [go_sem, simprocAttr, hF]
  repeat ((with_reducible refine sops_end ?_; simp only [go_sem, simprocAttr, hF]))
  exact ⟨_, rfl⟩
 obtain ⟨d, hdk⟩ := get_of_lt hlt
 have hd : decide ((k : Int) < (ns.length : Int)) = true := decide_eq_true (by omega)
 have hw : IntKind.i64.wrap ((k : Int) + 1) = ((k + 1 : Nat) : Int) := by rw [IntKind.wrap_i64]; omega
 have hdr := hn d (List.mem_of_getElem? hdk)
 have hl5 := lineB_len_succ (word := word) hdk
 have hl6 : (l ++ lineB word (ns.take k)).length + (⟨#[32]⟩ ++ txtI d : ByteArray).size ≤ 140737488355328 := by rw [List.length_append]; omega
 have h7 : (⟨#[32]⟩ ++ txtI d : ByteArray).size = 1 + (txtI d).size := by rw [ByteArray.size_append]; rfl
 have hz : (1 + (txtI d).size ≤ 9223372036854775807) = True := eq_true (by omega)
 have hta := any_take_succ (p := farB) hdk
 have htb := lineB_succ (word := word) hdk
 generalize hB : (bd || (ns.take k).any farB) = B
 cases B with
 | true =>
  repeat (first
   | ((first | refine hand_rawField rfl rfl (by decide) Tryz.underlying74 rfl (m := 0) rfl rfl ?_ | refine hand_bldLoad (k := 0) (dd := .bool) rfl rfl (by decide) rfl rfl rfl Tryz.underlying4 rfl ?_ | refine hand_bldStore (k := 0) rfl rfl rfl rfl rfl (Nat.zero_lt_succ _) rfl rfl Tryz.sz4 ?_); simp only [go_sem, simprocAttr, hF, hd, hdk, hz, Av.sopJ])
   | ((with_reducible first | refine sopsJ_go ?_ | refine sopsJ_end ?_); simp only [go_sem, simprocAttr, hF, hd, hdk, hz, Av.sopJ])
   | ((refine awp_regionJ (id := 4) [1000022, 1000023, 1000033] ?_); simp only [go_sem, simprocAttr, hF, hd, hdk, hz, Av.sopJ])
   | ((first | refine ⟨_, handq_rawField rfl rfl (by decide) Tryz.underlying74 rfl (m := 1) rfl rfl, rfl, ?_⟩ | refine ⟨_, handq_fnL TabC.below rfl rfl (by decide) (fun w0 h => hC w0 h.1) rfl rfl (fun _ => rfl) (itoa_okC d hdr.1 hdr.2), rfl, ?_⟩); simp only [go_sem, simprocAttr, hF, hbx])
   | ((with_reducible first | refine sops_go ?_ | refine headW_end ?_ | refine sops_end ?_ | refine awp_if ?_ | refine awp_skip ?_); simp only [go_sem, simprocAttr, hF, hd, hdk, hz])
   | ((with_reducible refine headW_go ?_); simp only [go_sem, simprocAttr, hF, hd, hdk, hz, hbx])
   | (with_reducible first | refine awp_seq_k fun _ _ => ?_ | refine awp_region (id := 2) [] ?_ | refine awp_region (id := 3) [] ?_ | refine awp_block ?_)
   | (refine awp_draw' (id := 5) [1000036, 1000038, 1000040] 6 (by kernel_rfl) (by kernel_rfl) rfl rfl (fun bx0 hbx => ?_); try dsimp only [List.take, List.drop])
   | go_step)
  refine hand_callX (writeString_okX TabC b true true (l ++ lineB word (ns.take k)) V2 (⟨#[32]⟩ ++ txtI d) hl6) E rfl hC rfl rfl (by decide) rfl rfl (fun V3 => ?_)
  simp only [go_sem, simprocAttr, hF]
  repeat (first
   | ((with_reducible first | refine sops_go ?_ | refine sops_end ?_); simp only [go_sem, simprocAttr, hF, hd, hdk, hw])
   | (with_reducible refine awp_region (id := 6) [] ?_)
   | go_step)
  refine ⟨(⟨k + 1, hlt⟩, V3), by dsimp only; omega, hR _ _ (sub_mk ?_)⟩
  simp only [go_sem, simprocAttr, hF]
  symm
  show E.and (wrE b (true, (l ++ lineB word (ns.take k)) ++ (⟨#[32]⟩ ++ txtI d : ByteArray).data.toList, true) V3) = E.and (wrE b (true, l ++ lineB word (ns.take (k + 1)), bd || (ns.take (k + 1)).any farB) V3)
  rw [htb, hta, ← Bool.or_assoc, hB, ← List.append_assoc]
  try simp [farB]
 | false =>
  cases hc1 : decide (d < -1099511627776) with
  | true =>
   repeat (first
    | ((first | refine hand_rawField rfl rfl (by decide) Tryz.underlying74 rfl (m := 0) rfl rfl ?_ | refine hand_bldLoad (k := 0) (dd := .bool) rfl rfl (by decide) rfl rfl rfl Tryz.underlying4 rfl ?_ | refine hand_bldStore (k := 0) rfl rfl rfl rfl rfl (Nat.zero_lt_succ _) rfl rfl Tryz.sz4 ?_); simp only [go_sem, simprocAttr, hF, hd, hdk, hc1, hz, Av.sopJ])
    | ((with_reducible first | refine sopsJ_go ?_ | refine sopsJ_end ?_); simp only [go_sem, simprocAttr, hF, hd, hdk, hc1, hz, Av.sopJ])
    | ((refine awp_regionJ (id := 4) [1000022, 1000023, 1000033] ?_); simp only [go_sem, simprocAttr, hF, hd, hdk, hc1, hz, Av.sopJ])
    | ((first | refine ⟨_, handq_rawField rfl rfl (by decide) Tryz.underlying74 rfl (m := 1) rfl rfl, rfl, ?_⟩ | refine ⟨_, handq_fnL TabC.below rfl rfl (by decide) (fun w0 h => hC w0 h.1) rfl rfl (fun _ => rfl) (itoa_okC d hdr.1 hdr.2), rfl, ?_⟩); simp only [go_sem, simprocAttr, hF, hbx])
    | ((with_reducible first | refine sops_go ?_ | refine headW_end ?_ | refine sops_end ?_ | refine awp_if ?_ | refine awp_skip ?_); simp only [go_sem, simprocAttr, hF, hd, hdk, hc1, hz])
    | ((with_reducible refine headW_go ?_); simp only [go_sem, simprocAttr, hF, hd, hdk, hc1, hz, hbx])
    | (with_reducible first | refine awp_seq_k fun _ _ => ?_ | refine awp_region (id := 2) [] ?_ | refine awp_region (id := 3) [] ?_ | refine awp_block ?_)
    | (refine awp_draw' (id := 5) [1000036, 1000038, 1000040] 6 (by kernel_rfl) (by kernel_rfl) rfl rfl (fun bx0 hbx => ?_); try dsimp only [List.take, List.drop])
    | go_step)
   refine hand_callX (writeString_okX TabC b true true (l ++ lineB word (ns.take k)) V2 (⟨#[32]⟩ ++ txtI d) hl6) E rfl hC rfl rfl (by decide) rfl rfl (fun V3 => ?_)
   simp only [go_sem, simprocAttr, hF]
   repeat (first
    | ((with_reducible first | refine sops_go ?_ | refine sops_end ?_); simp only [go_sem, simprocAttr, hF, hd, hdk, hw])
    | (with_reducible refine awp_region (id := 6) [] ?_)
    | go_step)
   refine ⟨(⟨k + 1, hlt⟩, V3), by dsimp only; omega, hR _ _ (sub_mk ?_)⟩
   simp only [go_sem, simprocAttr, hF]
   symm
   show E.and (wrE b (true, (l ++ lineB word (ns.take k)) ++ (⟨#[32]⟩ ++ txtI d : ByteArray).data.toList, true) V3) = E.and (wrE b (true, l ++ lineB word (ns.take (k + 1)), bd || (ns.take (k + 1)).any farB) V3)
   rw [htb, hta, ← Bool.or_assoc, hB, ← List.append_assoc]
   try simp [farB, hc1]
  | false =>
   repeat (first
    | ((first | refine hand_rawField rfl rfl (by decide) Tryz.underlying74 rfl (m := 0) rfl rfl ?_ | refine hand_bldLoad (k := 0) (dd := .bool) rfl rfl (by decide) rfl rfl rfl Tryz.underlying4 rfl ?_ | refine hand_bldStore (k := 0) rfl rfl rfl rfl rfl (Nat.zero_lt_succ _) rfl rfl Tryz.sz4 ?_); simp only [go_sem, simprocAttr, hF, hd, hdk, hc1, hz, Av.sopJ])
    | ((with_reducible first | refine sopsJ_go ?_ | refine sopsJ_end ?_); simp only [go_sem, simprocAttr, hF, hd, hdk, hc1, hz, Av.sopJ])
    | ((refine awp_regionJ (id := 4) [1000022, 1000023, 1000033] ?_); simp only [go_sem, simprocAttr, hF, hd, hdk, hc1, hz, Av.sopJ])
    | ((first | refine ⟨_, handq_rawField rfl rfl (by decide) Tryz.underlying74 rfl (m := 1) rfl rfl, rfl, ?_⟩ | refine ⟨_, handq_fnL TabC.below rfl rfl (by decide) (fun w0 h => hC w0 h.1) rfl rfl (fun _ => rfl) (itoa_okC d hdr.1 hdr.2), rfl, ?_⟩); simp only [go_sem, simprocAttr, hF, hbx])
    | ((with_reducible first | refine sops_go ?_ | refine headW_end ?_ | refine sops_end ?_ | refine awp_if ?_ | refine awp_skip ?_); simp only [go_sem, simprocAttr, hF, hd, hdk, hc1, hz])
    | ((with_reducible refine headW_go ?_); simp only [go_sem, simprocAttr, hF, hd, hdk, hc1, hz, hbx])
    | (with_reducible first | refine awp_seq_k fun _ _ => ?_ | refine awp_region (id := 2) [] ?_ | refine awp_region (id := 3) [] ?_ | refine awp_block ?_)
    | (refine awp_draw' (id := 5) [1000036, 1000038, 1000040] 6 (by kernel_rfl) (by kernel_rfl) rfl rfl (fun bx0 hbx => ?_); try dsimp only [List.take, List.drop])
    | go_step)
   refine hand_callX (writeString_okX TabC b true (decide (d > 1099511627776)) (l ++ lineB word (ns.take k)) V2 (⟨#[32]⟩ ++ txtI d) hl6) E rfl hC rfl rfl (by decide) rfl rfl (fun V3 => ?_)
   simp only [go_sem, simprocAttr, hF]
   repeat (first
    | ((with_reducible first | refine sops_go ?_ | refine sops_end ?_); simp only [go_sem, simprocAttr, hF, hd, hdk, hw])
    | (with_reducible refine awp_region (id := 6) [] ?_)
    | go_step)
   refine ⟨(⟨k + 1, hlt⟩, V3), by dsimp only; omega, hR _ _ (sub_mk ?_)⟩
   simp only [go_sem, simprocAttr, hF]
   symm
   show E.and (wrE b (true, (l ++ lineB word (ns.take k)) ++ (⟨#[32]⟩ ++ txtI d : ByteArray).data.toList, (decide (d > 1099511627776))) V3) = E.and (wrE b (true, l ++ lineB word (ns.take (k + 1)), bd || (ns.take (k + 1)).any farB) V3)
   rw [htb, hta, ← Bool.or_assoc, hB, ← List.append_assoc]
   try simp [farB, hc1]
/- Requests are written. -/
attribute [local go_sem] Tryz.sz64 Tryz.zr64 Tryz.pl64 Tryz.is64 Tryz.underlying64 Tryz.sz67 Tryz.zr67 Tryz.underlying67 Tryz.sz26 Tryz.underlying26 Tryz.sz30 Tryz.underlying30 Tryz.sz126 Tryz.zr126 Tryz.underlying126 Tryz.sz79 Tryz.zr79 Tryz.pl79 Tryz.is79 Tryz.underlying79 Tryz.sz81 Tryz.zr81 Tryz.underlying81 Tryz.sz83 Tryz.zr83 Tryz.underlying83 Tryz.sz85 Tryz.zr85 Tryz.underlying85 Tryz.sz35 Tryz.zr35 Tryz.is35 Tryz.underlying35 Tryz.underlying88 Tryz.sz22 Tryz.underlying22 Tryz.sz23 Tryz.underlying23 Tryz.sz27 Tryz.underlying27 Tryz.sz28 Tryz.underlying28 Tryz.sz31 Tryz.underlying31 Tryz.sz32 Tryz.underlying32 Tryz.sz33 Tryz.underlying33 Tryz.sz65 Tryz.is65 Tryz.underlying65 Tryz.sz68 Tryz.zr68 Tryz.underlying68 Tryz.underlying46 Tryz.underlying38 Tryz.underlying94 Tryz.sz91 Tryz.underlying91 Tryz.underlying86 Sc.Fw.pv Sc.Rq.pv Sc.Ce.pv Sc.Ch.pv Sc.Wk.pv Sc.Og.pv Sc.Lk.pv Sc.Nt.pv Sc.Sn.pv Sc.rsR
theorem wreq_okX (b : Nat) (bd : Bool) (l : List UInt8) (V : Value) (word : ByteArray) (q : List Rq) (hn : Lr (reqL word q)) (hlen : l.length + (txt (reqL word q)).length ≤ 140737488355328) :
 FnX Tryz.prog TabC 28 [.v (wrP b), .v (.string word), .sl 7 (q.map Rq.pv)] (wrE b (true, l, bd) V) (.tup []) (fun V' => wrE b (true, l ++ txt (reqL word q), bd || qsBad q) V') := by
 refine fn_okXn Tryz.func28 Tryz.ntmps28 Tryz.results28 (by kernel_rfl) rfl (of_decide_eq_true rfl) fun F E hF hC => ?_
 simp only [go_sem, simprocAttr, hF]
 (with_reducible refine awp_cut (id := 0) (fun (_ : Unit) σ => ⟨keepS [0, 1, 2] σ.slot, [], [], E.and (wrE b (true, l, bd || decide ((q.length : Int) > 1024)) V)⟩) ?hx ?hy)
 case hx =>
  intro R hR
  cases bd with
  | true =>
   try simp only [go_sem, simprocAttr, hF]
   repeat (first
    | ((first | refine hand_rawField rfl rfl (by decide) Tryz.underlying74 rfl (m := 0) rfl rfl ?_ | refine hand_bldLoad (k := 0) (dd := .bool) rfl rfl (by decide) rfl rfl rfl Tryz.underlying4 rfl ?_ | refine hand_bldStore (k := 0) rfl rfl rfl rfl rfl (Nat.zero_lt_succ _) rfl rfl Tryz.sz4 ?_); simp only [go_sem, simprocAttr, hF, Av.sopJ])
    | ((with_reducible first | refine sopsJ_go ?_ | refine sopsJ_end ?_); simp only [go_sem, simprocAttr, hF, Av.sopJ])
    | ((refine awp_regionJ (id := 0) [1000014, 1000015, 1000022] ?_); simp only [go_sem, simprocAttr, hF, Av.sopJ]))
   refine hR () _ (sub_mk ?_)
   simp only [go_sem, simprocAttr, hF, Bool.true_or]
   all_goals (first | rfl | (repeat' (first | rfl | refine ⟨?_, ?_⟩)))
  | false =>
   try simp only [go_sem, simprocAttr, hF]
   repeat (first
    | ((first | refine hand_rawField rfl rfl (by decide) Tryz.underlying74 rfl (m := 0) rfl rfl ?_ | refine hand_bldLoad (k := 0) (dd := .bool) rfl rfl (by decide) rfl rfl rfl Tryz.underlying4 rfl ?_ | refine hand_bldStore (k := 0) rfl rfl rfl rfl rfl (Nat.zero_lt_succ _) rfl rfl Tryz.sz4 ?_); simp only [go_sem, simprocAttr, hF, Av.sopJ])
    | ((with_reducible first | refine sopsJ_go ?_ | refine sopsJ_end ?_); simp only [go_sem, simprocAttr, hF, Av.sopJ])
    | ((refine awp_regionJ (id := 0) [1000014, 1000015, 1000022] ?_); simp only [go_sem, simprocAttr, hF, Av.sopJ]))
   refine hR () _ (sub_mk ?_)
   simp only [go_sem, simprocAttr, hF, Bool.true_or]
   all_goals (first | rfl | (repeat' (first | rfl | refine ⟨?_, ?_⟩)))
 case hy =>
  intro _
  dsimp only
  simp only [go_sem, simprocAttr, hF]
  obtain ⟨B0, hB0⟩ : ∃ B0, (bd || decide ((q.length : Int) > 1024)) = B0 := ⟨_, rfl⟩
  rw [hB0]
  repeat (first
   | ((with_reducible first | refine sops_go ?_ | refine sops_end ?_); simp only [go_sem, simprocAttr, hF])
   | with_reducible (first | refine awp_seq_k fun _ _ => ?_ | refine awp_region [1000014, 1000015, 1000022, 1000046, 1000050, 1000051, 1000059, 1000070, 1000071, 1000083, 1000086] ?_ | refine awp_block ?_)
   | go_step)
  refine awp_loop_by (ι := {k : Nat // k ≤ q.length} × Value) (fun k σ => ⟨(25, iv (k.1.1 : Int)) :: keepS [0, 1, 23, 24] σ.slot, σ.box, [], E.and (wrE b (true, l ++ txt (reqL word (q.take k.1.1)), B0 || (q.take k.1.1).any qBad) k.2)⟩) (fun k => q.length - k.1.1) (⟨0, Nat.zero_le _⟩, V) (sub_mk ?_) (fun R hR k => ?_)
  · simp only [go_sem, simprocAttr, hF]
    repeat' (first | rfl | refine ⟨?_, ?_⟩ | (simp [reqL]; done))
  obtain ⟨⟨k, hk⟩, V2⟩ := k
  dsimp only
  simp only [go_sem, simprocAttr, hF]
  by_cases hlt : k < q.length
  case neg =>
   have hd : decide ((k : Int) < (q.length : Int)) = false := decide_eq_false (by omega)
   obtain rfl : k = q.length := by omega
   rw [List.take_length]
   repeat (first
    | ((with_reducible first | refine sops_go ?_ | refine sops_end ?_ | refine awp_if ?_ | refine awp_exit ?_); simp only [go_sem, simprocAttr, hF, hd])
    | (with_reducible first | refine awp_seq_k fun _ _ => ?_ | refine awp_region [1000014, 1000015, 1000022, 1000046, 1000050, 1000051, 1000059, 1000070, 1000071, 1000083, 1000086] ?_)
    | go_step)
   refine ⟨V2, ?_⟩
   rw [← hB0, Bool.or_assoc]
   rfl
  obtain ⟨x, hdk⟩ := get_of_lt hlt
  have hd : decide ((k : Int) < (q.length : Int)) = true := decide_eq_true (by omega)
  have hm := req_room hdk hlen
  have hge := reqL_ge word q
  have hge2 := rtL_ge x.rs
  have hw : IntKind.i64.wrap ((k : Int) + 1) = ((k + 1 : Nat) : Int) := by rw [IntKind.wrap_i64]; omega
  have hnx : Lr (reqL1 word x) := by
   have hn2 := hn
   rw [split_at hdk, reqL_append, reqL_cons] at hn2
   exact hn2.right.left
  obtain ⟨T, hT⟩ : ∃ T, l ++ txt (reqL word (q.take k)) = T := ⟨_, rfl⟩
  obtain ⟨B, hB⟩ : ∃ B, (B0 || (q.take k).any qBad) = B := ⟨_, rfl⟩
  rw [hT] at hm
  rw [hT, hB]
  have hl1 : T.length + (lineB word x.f.nums).length + 1 ≤ 140737488355328 := by
   have hm := hm
   rw [reqL1, txt_cons] at hm
   simp only [List.length_append, List.length_cons, List.length_nil] at hm
   omega
  repeat (first
   | ((with_reducible first | refine sops_go ?_ | refine sops_end ?_ | refine awp_if ?_ | refine awp_skip ?_); simp only [go_sem, simprocAttr, hF, hd, hdk])
   | with_reducible (first | refine awp_seq_k fun _ _ => ?_ | refine awp_region [1000014, 1000015, 1000022, 1000046, 1000050, 1000051, 1000059, 1000070, 1000071, 1000083, 1000086] ?_ | refine awp_block ?_)
   | go_step)
  refine hand_callX (wline_okX b true B (T) V2 word x.f.nums hnx.head hl1) E rfl hC rfl rfl (by decide) rfl rfl (fun V3 => ?_)
  simp only [go_sem, simprocAttr, hF, hd, hdk]
  obtain ⟨B1, hB1⟩ : ∃ B1, (B || x.f.nums.any farB) = B1 := ⟨_, rfl⟩
  rw [hB1]
  repeat (first
   | (with_reducible refine awp_cut (id := 6) (fun (_ : Unit) σ => ⟨keepS [0, 1, 7, 23, 24, 25] σ.slot, [(7, x.pv)], [], E.and (wrE b (true, T ++ lineB word x.f.nums ++ [10], B1 || decide ((x.rs.length : Int) > 1024)) V3)⟩) ?hx ?hy)
   | (with_reducible refine sops_end ?_; simp only [go_sem, simprocAttr, hF, hd, hdk])
   | go_step)
  case hx =>
   intro R hR
   cases B1 with
   | true =>
    try simp only [go_sem, simprocAttr, hF, hdk]
    repeat (first
     | ((first | refine hand_rawField rfl rfl (by decide) Tryz.underlying74 rfl (m := 0) rfl rfl ?_ | refine hand_bldLoad (k := 0) (dd := .bool) rfl rfl (by decide) rfl rfl rfl Tryz.underlying4 rfl ?_ | refine hand_bldStore (k := 0) rfl rfl rfl rfl rfl (Nat.zero_lt_succ _) rfl rfl Tryz.sz4 ?_); simp only [go_sem, simprocAttr, hF, hdk, Av.sopJ])
     | ((with_reducible first | refine sopsJ_go ?_ | refine sopsJ_end ?_); simp only [go_sem, simprocAttr, hF, hdk, Av.sopJ])
     | ((refine awp_regionJ (id := 6) [1000050, 1000051, 1000059] ?_); simp only [go_sem, simprocAttr, hF, hdk, Av.sopJ]))
    refine hR () _ (sub_mk ?_)
    simp only [go_sem, simprocAttr, hF, hdk, Bool.true_or]
    all_goals (first | rfl | (repeat' (first | rfl | refine ⟨?_, ?_⟩)))
   | false =>
    try simp only [go_sem, simprocAttr, hF, hdk]
    repeat (first
     | ((first | refine hand_rawField rfl rfl (by decide) Tryz.underlying74 rfl (m := 0) rfl rfl ?_ | refine hand_bldLoad (k := 0) (dd := .bool) rfl rfl (by decide) rfl rfl rfl Tryz.underlying4 rfl ?_ | refine hand_bldStore (k := 0) rfl rfl rfl rfl rfl (Nat.zero_lt_succ _) rfl rfl Tryz.sz4 ?_); simp only [go_sem, simprocAttr, hF, hdk, Av.sopJ])
     | ((with_reducible first | refine sopsJ_go ?_ | refine sopsJ_end ?_); simp only [go_sem, simprocAttr, hF, hdk, Av.sopJ])
     | ((refine awp_regionJ (id := 6) [1000050, 1000051, 1000059] ?_); simp only [go_sem, simprocAttr, hF, hdk, Av.sopJ]))
    refine hR () _ (sub_mk ?_)
    simp only [go_sem, simprocAttr, hF, hdk, Bool.true_or]
    all_goals (first | rfl | (repeat' (first | rfl | refine ⟨?_, ?_⟩)))
  case hy =>
   intro _
   dsimp only
   simp only [go_sem, simprocAttr, hF, hdk]
   obtain ⟨B2, hB2⟩ : ∃ B2, (B1 || decide ((x.rs.length : Int) > 1024)) = B2 := ⟨_, rfl⟩
   rw [hB2]
   repeat (first
    | ((with_reducible first | refine sops_go ?_ | refine sops_end ?_); simp only [go_sem, simprocAttr, hF, hd, hdk])
    | with_reducible (first | refine awp_seq_k fun _ _ => ?_ | refine awp_region [1000014, 1000015, 1000022, 1000046, 1000050, 1000051, 1000059, 1000070, 1000071, 1000083, 1000086] ?_ | refine awp_block ?_)
    | go_step)
   refine awp_loop_by (ι := {j : Nat // j ≤ x.rs.length} × Value) (fun j σ => ⟨(63, iv (j.1.1 : Int)) :: keepS [0, 1, 23, 24, 25, 61, 62] σ.slot, [], [], E.and (wrE b (true, T ++ txt ((word, x.f.nums) :: rtL (x.rs.take j.1.1)), B2 || (x.rs.take j.1.1).any rtBad) j.2)⟩) (fun j => x.rs.length - j.1.1) (⟨0, Nat.zero_le _⟩, V3) (sub_mk ?_) (fun R2 hR2 j => ?_)
   · simp only [go_sem, simprocAttr, hF]
     repeat' (first | rfl | refine ⟨?_, ?_⟩ | (simp [rtL, txt_cons]; done))
   obtain ⟨⟨j, hj⟩, V4⟩ := j
   dsimp only
   simp only [go_sem, simprocAttr, hF]
   by_cases hlj : j < x.rs.length
   case neg =>
    have hd2 : decide ((j : Int) < (x.rs.length : Int)) = false := decide_eq_false (by omega)
    obtain rfl : j = x.rs.length := by omega
    rw [List.take_length]
    repeat (first
     | ((with_reducible first | refine sops_go ?_ | refine sops_end ?_ | refine awp_if ?_ | refine awp_exit ?_); simp only [go_sem, simprocAttr, hF, hd, hdk, hd2, hw])
     | (with_reducible first | refine awp_seq_k fun _ _ => ?_ | refine awp_region [1000014, 1000015, 1000022, 1000046, 1000050, 1000051, 1000059, 1000070, 1000071, 1000083, 1000086] ?_)
     | go_step)
    refine ⟨(⟨k + 1, hlt⟩, V4), by dsimp only; omega, hR _ _ (sub_mk ?_)⟩
    simp only [go_sem, simprocAttr, hF]
    symm
    show E.and (wrE b (true, T ++ txt (reqL1 word x), B2 || x.rs.any rtBad) V4) = E.and (wrE b (true, l ++ txt (reqL word (q.take (k + 1))), B0 || (q.take (k + 1)).any qBad) V4)
    rw [reqL_take_succ hdk, txt_append, ← List.append_assoc, hT, any_succ hdk, ← Bool.or_assoc, hB, ← hB2, ← hB1]
    simp only [qBad, Bool.or_assoc]
   obtain ⟨r, hdj⟩ := get_of_lt hlj
   have hd2 : decide ((j : Int) < (x.rs.length : Int)) = true := decide_eq_true (by omega)
   have hw2 : IntKind.i64.wrap ((j : Int) + 1) = ((j + 1 : Nat) : Int) := by rw [IntKind.wrap_i64]; have hm3 := hm; rw [reqL1, txt_cons, List.length_append] at hm3; omega
   have hm2 := rt_room hdj hm
   have hnr : ∀ n ∈ r, -9223372036854775808 ≤ n ∧ n ≤ 9223372036854775807 := hnx.tail (wRoute, r) (List.mem_map.2 ⟨r, List.mem_of_getElem? hdj, rfl⟩)
   obtain ⟨T2, hT2⟩ : ∃ T2, T ++ txt ((word, x.f.nums) :: rtL (x.rs.take j)) = T2 := ⟨_, rfl⟩
   obtain ⟨B3, hB3⟩ : ∃ B3, (B2 || (x.rs.take j).any rtBad) = B3 := ⟨_, rfl⟩
   rw [hT2] at hm2
   rw [hT2, hB3]
   repeat (first
    | (with_reducible refine awp_cut (id := 10) (fun (_ : Unit) σ => ⟨keepS [0, 1, 10, 23, 24, 25, 61, 62, 63] σ.slot, [], [], E.and (wrE b (true, T2, B3 || ((r.length : Int) == 0) || decide ((r.length : Int) > 1024)) V4)⟩) ?hx ?hy)
    | ((with_reducible first | refine sops_go ?_ | refine sops_end ?_ | refine awp_if ?_ | refine awp_skip ?_); simp only [go_sem, simprocAttr, hF, hd2, hdj])
    | with_reducible (first | refine awp_seq_k fun _ _ => ?_ | refine awp_region [1000014, 1000015, 1000022, 1000046, 1000050, 1000051, 1000059, 1000070, 1000071, 1000083, 1000086] ?_ | refine awp_block ?_)
    | go_step)
   case hx =>
    intro R hR
    cases B3 with
    | true =>
     try simp only [go_sem, simprocAttr, hF, hdj]
     repeat (first
      | ((first | refine hand_rawField rfl rfl (by decide) Tryz.underlying74 rfl (m := 0) rfl rfl ?_ | refine hand_bldLoad (k := 0) (dd := .bool) rfl rfl (by decide) rfl rfl rfl Tryz.underlying4 rfl ?_ | refine hand_bldStore (k := 0) rfl rfl rfl rfl rfl (Nat.zero_lt_succ _) rfl rfl Tryz.sz4 ?_); simp only [go_sem, simprocAttr, hF, hdj, Av.sopJ])
      | ((with_reducible first | refine sopsJ_go ?_ | refine sopsJ_end ?_); simp only [go_sem, simprocAttr, hF, hdj, Av.sopJ])
      | ((refine awp_regionJ (id := 10) [1000070, 1000071, 1000083] ?_); simp only [go_sem, simprocAttr, hF, hdj, Av.sopJ]))
     refine hR () _ (sub_mk ?_)
     simp only [go_sem, simprocAttr, hF, hdj, Bool.true_or]
     all_goals (first | rfl | (repeat' (first | rfl | refine ⟨?_, ?_⟩)))
    | false =>
     cases hc0 : ((r.length : Int) == 0) with
     | true =>
      try simp only [go_sem, simprocAttr, hF, hdj, hc0]
      repeat (first
       | ((first | refine hand_rawField rfl rfl (by decide) Tryz.underlying74 rfl (m := 0) rfl rfl ?_ | refine hand_bldLoad (k := 0) (dd := .bool) rfl rfl (by decide) rfl rfl rfl Tryz.underlying4 rfl ?_ | refine hand_bldStore (k := 0) rfl rfl rfl rfl rfl (Nat.zero_lt_succ _) rfl rfl Tryz.sz4 ?_); simp only [go_sem, simprocAttr, hF, hdj, hc0, Av.sopJ])
       | ((with_reducible first | refine sopsJ_go ?_ | refine sopsJ_end ?_); simp only [go_sem, simprocAttr, hF, hdj, hc0, Av.sopJ])
       | ((refine awp_regionJ (id := 10) [1000070, 1000071, 1000083] ?_); simp only [go_sem, simprocAttr, hF, hdj, hc0, Av.sopJ]))
      refine hR () _ (sub_mk ?_)
      simp only [go_sem, simprocAttr, hF, hdj, hc0, Bool.true_or]
      all_goals (first | rfl | (repeat' (first | rfl | refine ⟨?_, ?_⟩)))
     | false =>
      try simp only [go_sem, simprocAttr, hF, hdj, hc0]
      repeat (first
       | ((first | refine hand_rawField rfl rfl (by decide) Tryz.underlying74 rfl (m := 0) rfl rfl ?_ | refine hand_bldLoad (k := 0) (dd := .bool) rfl rfl (by decide) rfl rfl rfl Tryz.underlying4 rfl ?_ | refine hand_bldStore (k := 0) rfl rfl rfl rfl rfl (Nat.zero_lt_succ _) rfl rfl Tryz.sz4 ?_); simp only [go_sem, simprocAttr, hF, hdj, hc0, Av.sopJ])
       | ((with_reducible first | refine sopsJ_go ?_ | refine sopsJ_end ?_); simp only [go_sem, simprocAttr, hF, hdj, hc0, Av.sopJ])
       | ((refine awp_regionJ (id := 10) [1000070, 1000071, 1000083] ?_); simp only [go_sem, simprocAttr, hF, hdj, hc0, Av.sopJ]))
      refine hR () _ (sub_mk ?_)
      simp only [go_sem, simprocAttr, hF, hdj, hc0, Bool.true_or]
      all_goals (first | rfl | (repeat' (first | rfl | refine ⟨?_, ?_⟩)))
   case hy =>
    intro _
    dsimp only
    simp only [go_sem, simprocAttr, hF, hdj]
    obtain ⟨B4, hB4⟩ : ∃ B4, (B3 || ((r.length : Int) == 0) || decide ((r.length : Int) > 1024)) = B4 := ⟨_, rfl⟩
    rw [hB4]
    repeat (first
     | (with_reducible refine sops_go ?_; simp only [go_sem, simprocAttr, hF, hd2, hdj])
     | (with_reducible refine awp_region [1000014, 1000015, 1000022, 1000046, 1000050, 1000051, 1000059, 1000070, 1000071, 1000083, 1000086] ?_))
    refine hand_callX (wline_okX b true B4 (T2) V4 wRoute r hnr hm2) E rfl hC rfl rfl (by decide) rfl rfl (fun V5 => ?_)
    simp only [go_sem, simprocAttr, hF, hd2, hdj]
    repeat (first
     | ((with_reducible first | refine sops_go ?_ | refine sops_end ?_); simp only [go_sem, simprocAttr, hF, hd2, hdj, hw2])
     | (with_reducible refine awp_region [1000014, 1000015, 1000022, 1000046, 1000050, 1000051, 1000059, 1000070, 1000071, 1000083, 1000086] ?_)
     | go_step)
    refine ⟨(⟨j + 1, hlj⟩, V5), by dsimp only; omega, hR2 _ _ (sub_mk ?_)⟩
    simp only [go_sem, simprocAttr, hF]
    symm
    show E.and (wrE b (true, T2 ++ lineB wRoute r ++ [10], B4 || r.any farB) V5) = E.and (wrE b (true, T ++ txt ((word, x.f.nums) :: rtL (x.rs.take (j + 1))), B2 || (x.rs.take (j + 1)).any rtBad) V5)
    rw [rt_succ hdj, ← List.append_assoc, hT2, any_succ hdj, ← Bool.or_assoc, hB3, ← hB4]
    simp only [rtBad, Bool.or_assoc, List.append_assoc]
/- A network is written. -/
theorem wnet_okX (b : Nat) (st bd : Bool) (l : List UInt8) (V : Value) (n : Nt) (hP : n.power.length ≤ 1000000) (hR1 : ∀ r ∈ n.power, r.length ≤ 1000000) (hK : n.links.length ≤ 1000000) (hM : n.links.length = n.margin.length) (hn : Lr (netL n)) (hlen : l.length + (txt (netL n)).length ≤ 140737488355328) :
 FnX Tryz.prog TabC 27 [.v (wrP b), .agg n.pv] (wrE b (st, l, bd) V) (.tup []) (fun V' => wrE b (true, l ++ txt (netL n), bd || farL (netL n)) V') := by
 have hnp : Lr (powL 0 n.power) := hn.tail.left
 have hnk : Lr (linkL n) := hn.tail.right
 have hl0 : l.length + (lineB wNetwork [n.nodes, n.noise, n.thr]).length + 1 ≤ 140737488355328 := by
  unfold netL at hlen
  rw [txt_cons] at hlen
  simp only [List.length_append, List.length_cons, List.length_nil] at hlen
  omega
 have hl1 : (l ++ lineB wNetwork [n.nodes, n.noise, n.thr] ++ [10]).length + (txt (powL 0 n.power)).length + (txt (linkL n)).length ≤ 140737488355328 := by
  unfold netL at hlen
  rw [txt_cons, txt_append] at hlen
  simp only [List.length_append, List.length_cons, List.length_nil] at hlen ⊢
  omega
 refine fn_okXn Tryz.func27 Tryz.ntmps27 Tryz.results27 (by kernel_rfl) rfl (of_decide_eq_true rfl) fun F E hF hC => ?_
 simp only [go_sem, simprocAttr, hF]
 repeat (first
  | ((with_reducible first | refine sops_go ?_ | refine sops_end ?_); simp only [go_sem, simprocAttr, hF])
  | (with_reducible first | refine awp_seq_k fun _ _ => ?_ | refine awp_region [1000018, 1000041, 1000065] ?_)
  | go_step)
 refine hand_callX (wline_okX b st bd l V wNetwork [n.nodes, n.noise, n.thr] hn.head hl0) E rfl hC rfl rfl (by decide) rfl rfl (fun V1 => ?_)
 simp only [go_sem, simprocAttr, hF]
 obtain ⟨T0, hT0⟩ : ∃ T0, l ++ lineB wNetwork [n.nodes, n.noise, n.thr] ++ [10] = T0 := ⟨_, rfl⟩
 obtain ⟨B0, hB0⟩ : ∃ B0, (bd || [n.nodes, n.noise, n.thr].any farB) = B0 := ⟨_, rfl⟩
 rw [hT0] at hl1
 rw [hT0, hB0]
 repeat (first
  | ((with_reducible first | refine sops_go ?_ | refine sops_end ?_); simp only [go_sem, simprocAttr, hF])
  | with_reducible (first | refine awp_seq_k fun _ _ => ?_ | refine awp_region [1000018, 1000041, 1000065] ?_ | refine awp_block ?_)
  | go_step)
 refine awp_loop_by (ι := {k : Nat // k ≤ n.power.length} × Value) (fun k σ => ⟨(22, iv (k.1.1 : Int)) :: keepS [0, 3, 20, 21] σ.slot, [(3, n.pv)], [], E.and (wrE b (true, T0 ++ txt (powL 0 (n.power.take k.1.1)), B0 || farL (powL 0 (n.power.take k.1.1))) k.2)⟩) (fun k => n.power.length - k.1.1) (⟨0, Nat.zero_le _⟩, V1) (sub_mk ?_) (fun R hR k => ?_)
 · simp only [go_sem, simprocAttr, hF]
   repeat' (first | rfl | refine ⟨?_, ?_⟩ | (simp [powL]; done))
 obtain ⟨⟨k, hk⟩, V2⟩ := k
 dsimp only
 simp only [go_sem, simprocAttr, hF]
 by_cases hlt : k < n.power.length
 case neg =>
  have hd : decide ((k : Int) < (n.power.length : Int)) = false := decide_eq_false (by omega)
  obtain rfl : k = n.power.length := by omega
  rw [List.take_length]
  have hl2 : (T0 ++ txt (powL 0 n.power)).length + (txt (linkL n)).length ≤ 140737488355328 := by rw [List.length_append]; omega
  obtain ⟨T1, hT1⟩ : ∃ T1, T0 ++ txt (powL 0 n.power) = T1 := ⟨_, rfl⟩
  obtain ⟨B1, hB1⟩ : ∃ B1, (B0 || farL (powL 0 n.power)) = B1 := ⟨_, rfl⟩
  rw [hT1] at hl2
  rw [hT1, hB1]
  repeat (first
   | ((with_reducible first | refine sops_go ?_ | refine sops_end ?_ | refine awp_if ?_ | refine awp_exit ?_); simp only [go_sem, simprocAttr, hF, hd])
   | with_reducible (first | refine awp_seq_k fun _ _ => ?_ | refine awp_region [1000018, 1000041, 1000065] ?_ | refine awp_block ?_)
   | go_step)
  refine awp_loop_by (ι := {k : Nat // k ≤ n.links.length} × Value) (fun k σ => ⟨(47, iv (k.1.1 : Int)) :: keepS [0, 3, 45, 46] σ.slot, [(3, n.pv)], [], E.and (wrE b (true, T1 ++ txt (((n.links.zip n.margin).take k.1.1).map lkL), B1 || farL (((n.links.zip n.margin).take k.1.1).map lkL)) k.2)⟩) (fun k => n.links.length - k.1.1) (⟨0, Nat.zero_le _⟩, V2) (sub_mk ?_) (fun R2 hR2 j => ?_)
  · simp only [go_sem, simprocAttr, hF]
    repeat' (first | rfl | refine ⟨?_, ?_⟩ | (simp; done))
  obtain ⟨⟨j, hj⟩, V3⟩ := j
  dsimp only
  simp only [go_sem, simprocAttr, hF]
  by_cases hlj : j < n.links.length
  case neg =>
   have hd2 : decide ((j : Int) < (n.links.length : Int)) = false := decide_eq_false (by omega)
   obtain rfl : j = n.links.length := by omega
   have hz : (n.links.zip n.margin).take n.links.length = (n.links.zip n.margin) := by
    refine List.take_of_length_le ?_
    rw [List.length_zip]; omega
   rw [hz]
   repeat (first
    | ((with_reducible first | refine sops_go ?_ | refine sops_end ?_ | refine awp_if ?_ | refine awp_exit ?_); simp only [go_sem, simprocAttr, hF, hd2])
    | (with_reducible first | refine awp_seq_k fun _ _ => ?_ | refine awp_region [1000018, 1000041, 1000065] ?_)
    | go_step)
   refine ⟨V3, ?_⟩
   show E.and (wrE b (true, T1 ++ txt (linkL n), B1 || farL (linkL n)) V3) = E.and (wrE b (true, l ++ txt (netL n), bd || farL (netL n)) V3)
   rw [← hT1, ← hB1, ← hT0, ← hB0]
   unfold netL
   rw [txt_cons, txt_append, show (wNetwork, [n.nodes, n.noise, n.thr]) :: (powL 0 n.power ++ linkL n) = [(wNetwork, [n.nodes, n.noise, n.thr])] ++ (powL 0 n.power ++ linkL n) from rfl, farL_append, farL_append, farL_one]
   simp only [List.append_assoc, Bool.or_assoc]
  obtain ⟨x, hdx⟩ := get_of_lt hlj
  obtain ⟨m, hdm⟩ := get_of_lt (show j < n.margin.length by omega)
  have hdz : (n.links.zip n.margin)[j]? = some (x, m) := by
   rw [List.getElem?_zip_eq_some]
   exact ⟨hdx, hdm⟩
  have hd2 : decide ((j : Int) < (n.links.length : Int)) = true := decide_eq_true (by omega)
  have hw2 : IntKind.i64.wrap ((j : Int) + 1) = ((j + 1 : Nat) : Int) := by rw [IntKind.wrap_i64]; omega
  have hmg : j < n.margin.length := by omega
  have hl3 := map_room (f := lkL) hdz hl2
  have hn3 := map_range (f := lkL) hdz hnk
  obtain ⟨T2, hT2⟩ : ∃ T2, T1 ++ txt (((n.links.zip n.margin).take j).map lkL) = T2 := ⟨_, rfl⟩
  obtain ⟨B2, hB2⟩ : ∃ B2, (B1 || farL (((n.links.zip n.margin).take j).map lkL)) = B2 := ⟨_, rfl⟩
  rw [hT2] at hl3
  rw [hT2, hB2]
  repeat (first
   | ((with_reducible first | refine sops_go ?_ | refine headW_end ?_ | refine sops_end ?_ | refine awp_if ?_ | refine awp_skip ?_); simp only [go_sem, simprocAttr, hF, hd2, hdx, hdm, hlj, hmg])
   | ((with_reducible refine headW_go ?_); simp only [go_sem, simprocAttr, hF, hd2, hdx, hdm, hlj, hmg, hbx])
   | (with_reducible refine awp_seq_k fun _ _ => ?_)
   | (refine awp_draw' (id := 15) [1000065] 13 (by kernel_rfl) (by kernel_rfl) rfl rfl (fun bx0 hbx => ?_); try dsimp only [List.take, List.drop])
   | with_reducible (first | refine awp_region [1000018, 1000041, 1000065] ?_ | refine awp_block ?_)
   | go_step)
  refine hand_callX (wline_okX b true B2 (T2) V3 wLink [x.fr, x.to, x.ls, m] hn3 hl3) E rfl hC rfl rfl (by decide) rfl rfl (fun V4 => ?_)
  simp only [go_sem, simprocAttr, hF, hd2, hdx, hdm, hlj, hmg]
  repeat (first
   | ((with_reducible first | refine sops_go ?_ | refine sops_end ?_); simp only [go_sem, simprocAttr, hF, hd2, hdx, hdm, hlj, hmg, hw2])
   | (with_reducible refine awp_region [1000018, 1000041, 1000065] ?_)
   | go_step)
  refine ⟨(⟨j + 1, hlj⟩, V4), by dsimp only; omega, hR2 _ _ (sub_mk ?_)⟩
  simp only [go_sem, simprocAttr, hF]
  symm
  show E.and (wrE b (true, T2 ++ lineB (lkL (x, m)).1 (lkL (x, m)).2 ++ [10], B2 || (lkL (x, m)).2.any farB) V4) = E.and (wrE b (true, T1 ++ txt (((n.links.zip n.margin).take (j + 1)).map lkL), B1 || farL (((n.links.zip n.margin).take (j + 1)).map lkL)) V4)
  rw [map_txt_succ hdz, map_far_succ hdz, ← List.append_assoc, ← Bool.or_assoc, hT2, hB2]
  simp only [List.append_assoc]
 obtain ⟨row, hdk⟩ := get_of_lt hlt
 have hd : decide ((k : Int) < (n.power.length : Int)) = true := decide_eq_true (by omega)
 have hw : IntKind.i64.wrap ((k : Int) + 1) = ((k + 1 : Nat) : Int) := by rw [IntKind.wrap_i64]; omega
 have hrow := hR1 row (List.mem_of_getElem? hdk)
 have hl2 := pow_room (T := T0) hdk (by omega : T0.length + (txt (powL 0 n.power)).length ≤ 140737488355328)
 have hn2 := pow_range hdk hnp
 obtain ⟨T1, hT1⟩ : ∃ T1, T0 ++ txt (powL 0 (n.power.take k)) = T1 := ⟨_, rfl⟩
 obtain ⟨B1, hB1⟩ : ∃ B1, (B0 || farL (powL 0 (n.power.take k))) = B1 := ⟨_, rfl⟩
 rw [hT1] at hl2
 rw [hT1, hB1]
 repeat (first
  | ((with_reducible first | refine sops_go ?_ | refine sops_end ?_ | refine awp_if ?_ | refine awp_skip ?_); simp only [go_sem, simprocAttr, hF, hd, hdk])
  | with_reducible (first | refine awp_seq_k fun _ _ => ?_ | refine awp_region [1000018, 1000041, 1000065] ?_ | refine awp_block ?_)
  | go_step)
 refine awp_loop_by (ι := {j : Nat // j ≤ row.length} × Value) (fun j σ => ⟨(29, iv (j.1.1 : Int)) :: keepS [0, 3, 4, 20, 21, 22, 27, 28] σ.slot, [(3, n.pv)], [], E.and (wrE b (true, T1 ++ txt (rowL k 0 (row.take j.1.1)), B1 || farL (rowL k 0 (row.take j.1.1))) j.2)⟩) (fun j => row.length - j.1.1) (⟨0, Nat.zero_le _⟩, V2) (sub_mk ?_) (fun R2 hR2 j => ?_)
 · simp only [go_sem, simprocAttr, hF]
   repeat' (first | rfl | refine ⟨?_, ?_⟩ | (simp [rowL]; done))
 obtain ⟨⟨j, hj⟩, V3⟩ := j
 dsimp only
 simp only [go_sem, simprocAttr, hF]
 by_cases hlj : j < row.length
 case neg =>
  have hd2 : decide ((j : Int) < (row.length : Int)) = false := decide_eq_false (by omega)
  obtain rfl : j = row.length := by omega
  rw [List.take_length]
  repeat (first
   | ((with_reducible first | refine sops_go ?_ | refine sops_end ?_ | refine awp_if ?_ | refine awp_exit ?_); simp only [go_sem, simprocAttr, hF, hd2, hw])
   | (with_reducible first | refine awp_seq_k fun _ _ => ?_ | refine awp_region [1000018, 1000041, 1000065] ?_)
   | go_step)
  refine ⟨(⟨k + 1, hlt⟩, V3), by dsimp only; omega, hR _ _ (sub_mk ?_)⟩
  simp only [go_sem, simprocAttr, hF]
  symm
  show E.and (wrE b (true, T1 ++ txt (rowL k 0 row), B1 || farL (rowL k 0 row)) V3) = E.and (wrE b (true, T0 ++ txt (powL 0 (n.power.take (k + 1))), B0 || farL (powL 0 (n.power.take (k + 1)))) V3)
  rw [powL_take_succ hdk, txt_append, farL_append, ← List.append_assoc, ← Bool.or_assoc, hT1, hB1]
 obtain ⟨p, hdj⟩ := get_of_lt hlj
 have hd2 : decide ((j : Int) < (row.length : Int)) = true := decide_eq_true (by omega)
 have hw2 : IntKind.i64.wrap ((j : Int) + 1) = ((j + 1 : Nat) : Int) := by rw [IntKind.wrap_i64]; omega
 obtain ⟨T2, hT2⟩ : ∃ T2, T1 ++ txt (rowL k 0 (row.take j)) = T2 := ⟨_, rfl⟩
 obtain ⟨B2, hB2⟩ : ∃ B2, (B1 || farL (rowL k 0 (row.take j))) = B2 := ⟨_, rfl⟩
 have hsucc := rowL_take_succ (a := k) hdj
 by_cases hp : p = 0
 · have hpb : (p != 0) = false := by simp [hp]
   rw [if_pos hp, List.append_nil] at hsucc
   rw [hT2, hB2]
   repeat (first
    | ((with_reducible first | refine sops_go ?_ | refine sops_end ?_ | refine awp_if ?_ | refine awp_skip ?_); simp only [go_sem, simprocAttr, hF, hd2, hdj, hw2, hpb])
    | with_reducible (first | refine awp_seq_k fun _ _ => ?_ | refine awp_region [1000018, 1000041, 1000065] ?_ | refine awp_block ?_)
    | go_step)
   refine ⟨(⟨j + 1, hlj⟩, V3), by dsimp only; omega, hR2 _ _ (sub_mk ?_)⟩
   simp only [go_sem, simprocAttr, hF]
   rw [hsucc, hT2, hB2]
 have hpb : (p != 0) = true := by simpa using hp
 have hl3 := row_room hdj hp hl2
 have hn3 := row_range hdj hp hn2
 rw [if_neg hp] at hsucc
 rw [hT2] at hl3
 rw [hT2, hB2]
 repeat (first
  | ((with_reducible first | refine sops_go ?_ | refine sops_end ?_ | refine awp_if ?_ | refine awp_skip ?_); simp only [go_sem, simprocAttr, hF, hd2, hdj, hw2, hpb])
  | with_reducible (first | refine awp_seq_k fun _ _ => ?_ | refine awp_region [1000018, 1000041, 1000065] ?_ | refine awp_block ?_)
  | go_step)
 refine hand_callX (wline_okX b true B2 (T2) V3 wPower [(k : Int), (j : Int), p] hn3 hl3) E rfl hC rfl rfl (by decide) rfl rfl (fun V4 => ?_)
 simp only [go_sem, simprocAttr, hF, hd2, hdj, hw2, hpb]
 repeat (first
  | ((with_reducible first | refine sops_go ?_ | refine sops_end ?_); simp only [go_sem, simprocAttr, hF, hd2, hdj, hw2, hpb])
  | (with_reducible refine awp_region [1000018, 1000041, 1000065] ?_)
  | go_step)
 refine ⟨(⟨j + 1, hlj⟩, V4), by dsimp only; omega, hR2 _ _ (sub_mk ?_)⟩
 simp only [go_sem, simprocAttr, hF]
 symm
 show E.and (wrE b (true, T2 ++ lineB wPower [(k : Int), (j : Int), p] ++ [10], B2 || [(k : Int), (j : Int), p].any farB) V4) = E.and (wrE b (true, T1 ++ txt (rowL k 0 (row.take (j + 1))), B1 || farL (rowL k 0 (row.take (j + 1)))) V4)
 rw [hsucc, txt_append, farL_append, txt_one, farL_one, ← List.append_assoc, ← Bool.or_assoc, hT2, hB2]
 simp only [List.append_assoc]
/- Whether a network can be written. -/
theorem idxW_ok (c : FuncId) (caps : List (List PV)) (p : (List Int) → Bool) (l : List (List Int)) (hl : l.length ≤ 1000000) (hc : ∀ y ∈ l, FnOK Tryz.prog c (.sl 1 (y.map fun n => [ip n]) :: caps.map AV.ept) ⟨bv (p y), none⟩) : FnOK Tryz.prog 103 [.sl 1 (rsR l), .fnv c caps] ⟨iv (idxP p l 0), none⟩ := by
 refine fn_ok Tryz.func103 (by kernel_rfl) rfl (by rw [Tryz.ntmps103]; exact of_decide_eq_true rfl) (fun F hF => ?_)
 rw [Tryz.ntmps103] at hF
 rw [Tryz.results103]
 repeat (first
  | ((with_reducible first | refine sops_go ?_ | refine sops_end ?_); simp only [go_sem, simprocAttr, hF])
  | with_reducible (first | refine awp_seq_k fun _ _ => ?_ | refine awp_region [] ?_ | refine awp_block ?_)
  | go_step)
 refine awp_loop_by (ι := {k : Nat // k ≤ l.length ∧ idxP p l 0 = idxP p (l.drop k) (k : Int)}) (fun k σ => ⟨(8, iv (k.1 : Int)) :: keepS [0, 1, 4, 7] σ.slot, σ.box, [], σ.ext⟩) (fun k => l.length - k.1) ⟨0, by omega, rfl⟩ (sub_mk ?_) (fun R hR k => ?_)
 · simp only [go_sem, simprocAttr, hF]
   repeat' (first | rfl | refine ⟨?_, ?_⟩)
 obtain ⟨k, hk, hT⟩ := k
 dsimp only
 simp only [go_sem, simprocAttr, hF]
 by_cases hlt : k < l.length
 case neg =>
  have hd : decide ((k : Int) < (l.length : Int)) = false := decide_eq_false (by omega)
  repeat (first
   | ((with_reducible first | refine sops_go ?_ | refine sops_end ?_ | refine awp_if ?_ | refine awp_ret ?_ | refine awp_exit ?_); simp only [go_sem, simprocAttr, hF, hd])
   | (with_reducible first | refine awp_seq_k fun _ _ => ?_ | refine awp_region [] ?_)
   | go_step)
  rw [hT, List.drop_of_length_le (by omega)]
  rfl
 obtain ⟨y, hyk⟩ := get_of_lt hlt
 have hd : decide ((k : Int) < (l.length : Int)) = true := decide_eq_true (by omega)
 have hw : IntKind.i64.wrap ((k : Int) + 1) = ((k + 1 : Nat) : Int) := by rw [IntKind.wrap_i64]; omega
 have hT' : idxP p l 0 = if p y = true then (k : Int) else idxP p (l.drop (k + 1)) ((k + 1 : Nat) : Int) := by rw [hT, drop_of_get hyk, idxP]; rfl
 repeat (first
  | ((with_reducible first | refine sops_go ?_ | refine sops_end ?_ | refine awp_if ?_ | refine awp_skip ?_); simp only [go_sem, simprocAttr, hF, hd, hyk])
  | with_reducible (first | refine awp_seq_k fun _ _ => ?_ | refine awp_region [] ?_ | refine awp_block ?_)
  | go_step)
 refine ⟨_, hc y (List.mem_of_getElem? hyk), ?_⟩
 simp only [go_sem, simprocAttr, hF]
 cases he : p y with
 | true =>
  try simp only [go_sem, simprocAttr, hF, he]
  repeat (first
   | ((with_reducible first | refine sops_go ?_ | refine sops_end ?_ | refine awp_if ?_ | refine awp_ret ?_); simp only [go_sem, simprocAttr, hF, he])
   | (with_reducible first | refine awp_seq_k fun _ _ => ?_ | refine awp_region [] ?_)
   | go_step)
  rw [hT', if_pos he]
 | false =>
  try simp only [go_sem, simprocAttr, hF, he]
  repeat (first
   | ((with_reducible first | refine sops_go ?_ | refine sops_end ?_ | refine awp_if ?_ | refine awp_skip ?_); simp only [go_sem, simprocAttr, hF, he, hw])
   | (with_reducible refine awp_region [] ?_)
   | go_step)
  refine ⟨⟨k + 1, by omega, by rw [hT', if_neg (by rw [he]; decide)]⟩, by dsimp only; omega, hR _ _ (sub_mk ?_)⟩
  simp only [go_sem, simprocAttr, hF, hw]

theorem contW_ok (c : FuncId) (caps : List (List PV)) (p : (List Int) → Bool) (l : List (List Int)) (hl : l.length ≤ 1000000) (hc : ∀ y ∈ l, FnOK Tryz.prog c (.sl 1 (y.map fun n => [ip n]) :: caps.map AV.ept) ⟨bv (p y), none⟩) : FnOK Tryz.prog 56 [.sl 1 (rsR l), .fnv c caps] ⟨bv (l.any p), none⟩ := by
 have hx := idx_any p l
 refine fn_ok Tryz.func56 (by kernel_rfl) rfl (by rw [Tryz.ntmps56]; exact of_decide_eq_true rfl) (fun F hF => ?_)
 rw [Tryz.ntmps56] at hF
 rw [Tryz.results56]
 repeat (first
  | ((with_reducible first | refine sops_go ?_ | refine sops_end ?_); simp only [go_sem, simprocAttr, hF])
  | (with_reducible first | refine awp_seq_k fun _ _ => ?_ | refine awp_region [] ?_)
  | go_step)
 refine ⟨_, idxW_ok c caps p l hl hc, ?_⟩
 simp only [go_sem, simprocAttr, hF]
 repeat (first
  | ((with_reducible first | refine sops_go ?_ | refine sops_end ?_ | refine awp_ret ?_); simp only [go_sem, simprocAttr, hF, hx])
  | go_step)
 all_goals (try rfl)

theorem shaped1_ok (n : Nt) (r : List Int) : FnOK Tryz.prog 57 [.sl 1 (r.map fun n => [ip n]), .ept n.pv] ⟨bv ((r.length : Int) != n.nodes), none⟩ := by
 refine fn_ok Tryz.func57 (by kernel_rfl) rfl (by rw [Tryz.ntmps57]; exact of_decide_eq_true rfl) (fun F hF => ?_)
 rw [Tryz.ntmps57] at hF
 rw [Tryz.results57]
 repeat (first
  | ((with_reducible first | refine sops_go ?_ | refine sops_end ?_ | refine awp_ret ?_); simp only [go_sem, simprocAttr, hF])
  | (with_reducible first | refine awp_seq_k fun _ _ => ?_ | refine awp_region [] ?_)
  | go_step)
 all_goals (try rfl)

theorem shaped_ok (n : Nt) (hP : n.power.length ≤ 1000000) : FnOK Tryz.prog 26 [.agg n.pv] ⟨bv (shaped n), none⟩ := by
 refine fn_ok Tryz.func26 (by kernel_rfl) rfl (by rw [Tryz.ntmps26]; exact of_decide_eq_true rfl) (fun F hF => ?_)
 rw [Tryz.ntmps26] at hF
 rw [Tryz.results26]
 repeat (first
  | ((with_reducible first | refine sops_go ?_ | refine sops_end ?_); simp only [go_sem, simprocAttr, hF])
  | (with_reducible first | refine awp_seq_k fun _ _ => ?_ | refine awp_region [] ?_)
  | go_step)
 cases hg0 : decide (n.nodes < 0) with
 | true =>
  try simp only [go_sem, simprocAttr, hF, hg0]
  repeat (first
   | ((with_reducible first | refine sops_go ?_ | refine sops_end ?_ | refine awp_if ?_ | refine awp_ret ?_); simp only [go_sem, simprocAttr, hF, hg0])
   | (with_reducible first | refine awp_seq_k fun _ _ => ?_ | refine awp_region [] ?_)
   | go_step)
  all_goals (try (unfold shaped; simp only [hg0, Bool.or_true, Bool.true_or, Bool.or_false, Bool.false_or, Bool.not_true, Bool.not_false, Bool.false_and, Bool.true_and]))
  all_goals (try rfl)
 | false =>
  cases hg1 : decide (n.nodes > 32) with
  | true =>
   try simp only [go_sem, simprocAttr, hF, hg0, hg1]
   repeat (first
    | ((with_reducible first | refine sops_go ?_ | refine sops_end ?_ | refine awp_if ?_ | refine awp_ret ?_); simp only [go_sem, simprocAttr, hF, hg0, hg1])
    | (with_reducible first | refine awp_seq_k fun _ _ => ?_ | refine awp_region [] ?_)
    | go_step)
   all_goals (try (unfold shaped; simp only [hg0, hg1, Bool.or_true, Bool.true_or, Bool.or_false, Bool.false_or, Bool.not_true, Bool.not_false, Bool.false_and, Bool.true_and]))
   all_goals (try rfl)
  | false =>
   cases hg2 : ((n.power.length : Int) != n.nodes) with
   | true =>
    try simp only [go_sem, simprocAttr, hF, hg0, hg1, hg2]
    repeat (first
     | ((with_reducible first | refine sops_go ?_ | refine sops_end ?_ | refine awp_if ?_ | refine awp_ret ?_); simp only [go_sem, simprocAttr, hF, hg0, hg1, hg2])
     | (with_reducible first | refine awp_seq_k fun _ _ => ?_ | refine awp_region [] ?_)
     | go_step)
    all_goals (try (unfold shaped; simp only [hg0, hg1, hg2, Bool.or_true, Bool.true_or, Bool.or_false, Bool.false_or, Bool.not_true, Bool.not_false, Bool.false_and, Bool.true_and]))
    all_goals (try rfl)
   | false =>
    cases hg3 : ((n.links.length : Int) != (n.margin.length : Int)) with
    | true =>
     try simp only [go_sem, simprocAttr, hF, hg0, hg1, hg2, hg3]
     repeat (first
      | ((with_reducible first | refine sops_go ?_ | refine sops_end ?_ | refine awp_if ?_ | refine awp_ret ?_); simp only [go_sem, simprocAttr, hF, hg0, hg1, hg2, hg3])
      | (with_reducible first | refine awp_seq_k fun _ _ => ?_ | refine awp_region [] ?_)
      | go_step)
     all_goals (try (unfold shaped; simp only [hg0, hg1, hg2, hg3, Bool.or_true, Bool.true_or, Bool.or_false, Bool.false_or, Bool.not_true, Bool.not_false, Bool.false_and, Bool.true_and]))
     all_goals (try rfl)
    | false =>
     cases hg4 : decide ((n.links.length : Int) > 1024) with
     | true =>
      try simp only [go_sem, simprocAttr, hF, hg0, hg1, hg2, hg3, hg4]
      repeat (first
       | ((with_reducible first | refine sops_go ?_ | refine sops_end ?_ | refine awp_if ?_ | refine awp_ret ?_); simp only [go_sem, simprocAttr, hF, hg0, hg1, hg2, hg3, hg4])
       | (with_reducible first | refine awp_seq_k fun _ _ => ?_ | refine awp_region [] ?_)
       | go_step)
      all_goals (try (unfold shaped; simp only [hg0, hg1, hg2, hg3, hg4, Bool.or_true, Bool.true_or, Bool.or_false, Bool.false_or, Bool.not_true, Bool.not_false, Bool.false_and, Bool.true_and]))
      all_goals (try rfl)
     | false =>
      try simp only [go_sem, simprocAttr, hF, hg0, hg1, hg2, hg3, hg4]
      repeat (first
       | ((with_reducible first | refine sops_go ?_ | refine sops_end ?_ | refine awp_if ?_ | refine awp_skip ?_); simp only [go_sem, simprocAttr, hF, hg0, hg1, hg2, hg3, hg4])
       | (with_reducible first | refine awp_seq_k fun _ _ => ?_ | refine awp_region [] ?_)
       | go_step)
      refine ⟨_, contW_ok 57 [n.pv] (fun r => ((r.length : Int) != n.nodes)) n.power hP (fun r _ => shaped1_ok n r), ?_⟩
      simp only [go_sem, simprocAttr, hF]
      repeat (first
       | ((with_reducible first | refine sops_go ?_ | refine sops_end ?_ | refine awp_ret ?_); simp only [go_sem, simprocAttr, hF, hg0, hg1, hg2, hg3, hg4])
       | go_step)
      all_goals (try (unfold shaped; simp only [hg0, hg1, hg2, hg3, hg4, Bool.or_true, Bool.true_or, Bool.or_false, Bool.false_or, Bool.not_true, Bool.not_false, Bool.false_and, Bool.true_and]))
      all_goals (try rfl)
/- scenario.Format. -/
attribute [local go_sem] Av.startStC
def cL (c : Ce) : Ln := (wCell, c.nums)
theorem shaped_inv {n : Nt} (h : shaped n = true) : n.power.length ≤ 32 ∧ (∀ r ∈ n.power, r.length ≤ 32) ∧ n.links.length ≤ 1024 ∧ n.links.length = n.margin.length := by
 unfold shaped at h
 simp only [Bool.and_eq_true, Bool.not_eq_true', Bool.or_eq_false_iff, decide_eq_false_iff_not, bne_eq_false_iff_eq] at h
 obtain ⟨⟨⟨⟨⟨h1, h2⟩, h3⟩, h4⟩, h5⟩, h6⟩ := h
 refine ⟨by omega, fun r hr => ?_, by omega, by omega⟩
 have := List.any_eq_false.1 h6 r hr
 simp at this
 omega

theorem format_okC (x : Sn) (hP : x.net.power.length ≤ 1000000) (hn : Lr (linesOf x)) (hlen : (txt (linesOf x)).length ≤ 140737488355328) : FnOKC Tryz.prog TabC 11 [.agg x.pv] ⟨.tup [.c (.v (.string (fmt x).1)), .c (ip (fmt x).2)], none⟩ := by
 refine fn_okC (C := TabC) Tryz.func11 (by kernel_rfl) rfl (by rw [Tryz.ntmps11]; exact of_decide_eq_true rfl) (fun F hF => ?_)
 rw [Tryz.ntmps11] at hF
 rw [Tryz.results11]
 repeat (first
  | ((with_reducible first | refine sops_go ?_ | refine sops_end ?_); simp only [go_sem, simprocAttr, hF])
  | (with_reducible first | refine awp_seq_k fun _ _ => ?_ | refine awp_region [1000032, 1000036, 1000040, 1000044, 1000048, 1000057, 1000078, 1000109, 1000130, 1000147, 1000153, 1000156, 1000157, 1000160, 1000161] ?_)
  | go_step)
 refine ⟨_, shaped_ok x.net hP, ?_⟩
 simp only [go_sem, simprocAttr, hF]
 repeat ((with_reducible refine sops_go ?_; simp only [go_sem, simprocAttr, hF]))
 cases hS : shaped x.net with
 | false =>
  try simp only [go_sem, simprocAttr, hF, hS, Bool.not_false]
  repeat (first
   | ((with_reducible first | refine sops_go ?_ | refine sops_end ?_ | refine awp_if ?_ | refine awp_ret ?_); simp only [go_sem, simprocAttr, hF, hS])
   | (with_reducible first | refine awp_seq_k fun _ _ => ?_ | refine awp_region [1000032, 1000036, 1000040, 1000044, 1000048, 1000057, 1000078, 1000109, 1000130, 1000147, 1000153, 1000156, 1000157, 1000160, 1000161] ?_)
   | go_step)
  all_goals (try (unfold fmt; simp only [hS, Bool.not_false, Bool.true_or, if_true]))
  all_goals (try rfl)
 | true =>
  obtain ⟨hP32, hrow, hlk, hmg⟩ := shaped_inv hS
  have hmx : mx (mx (mx (x.cells.length : Int) x.changes.length) x.weak.length) x.outs.length = max (max (max (x.cells.length : Int) x.changes.length) x.weak.length) x.outs.length := by
   simp only [mx, Int.max_def]
   repeat (first | rfl | omega | split)
  have hlx : decide (max (max (max (x.cells.length : Int) x.changes.length) x.weak.length) x.outs.length > 1024) = longX x := rfl
  try simp only [go_sem, simprocAttr, hF, hS]
  repeat ((with_reducible refine sops_go ?_; simp only [go_sem, simprocAttr, hF, hS]))
  refine hand_max4 rfl rfl (by decide) rfl rfl rfl rfl ?_
  simp only [go_sem, simprocAttr, hF, hmx, hlx]
  repeat (first
   | ((with_reducible first | refine sops_go ?_ | refine sops_end ?_ | refine awp_if ?_); simp only [go_sem, simprocAttr, hF, hS, hmx, hlx])
   | go_step)
  cases hL0 : longX x with
  | true =>
   try simp only [go_sem, simprocAttr, hF, hS, hL0]
   repeat (first
    | ((with_reducible first | refine sops_go ?_ | refine sops_end ?_ | refine awp_ret ?_); simp only [go_sem, simprocAttr, hF, hS, hL0])
    | (with_reducible first | refine awp_seq_k fun _ _ => ?_ | refine awp_region [1000032, 1000036, 1000040, 1000044, 1000048, 1000057, 1000078, 1000109, 1000130, 1000147, 1000153, 1000156, 1000157, 1000160, 1000161] ?_)
    | go_step)
   all_goals (try (unfold fmt; simp only [hS, hL0, Bool.not_true, Bool.or_true, Bool.true_or, Bool.false_or, if_true]))
   all_goals (try rfl)
  | false =>
   obtain ⟨k1, k2, k3, k4⟩ : x.cells.length ≤ 1024 ∧ x.changes.length ≤ 1024 ∧ x.weak.length ≤ 1024 ∧ x.outs.length ≤ 1024 := by
    unfold longX at hL0
    rw [decide_eq_false_iff_not] at hL0
    omega
   have hfm : fmt x = if badB x = true then (⟨#[]⟩, 1) else (⟨(txt (linesOf x)).toArray⟩, 0) := by
    unfold fmt
    simp only [hS, hL0, Bool.not_true, Bool.false_or]
   have hn1 : Lr (netL x.net) := hn.left
   have hn2 : Lr (reqL wBefore x.before) := hn.right.left
   have hn3 : Lr (reqL wAfter x.after) := hn.right.right.left
   have hn4 := hn.right.right.right
   have hn5 : Lr (x.cells.map cL) := hn4.tail.left
   have hn6 : Lr (x.changes.map chL) := hn4.tail.right.left
   have hn7 : Lr (x.weak.map wkL) := hn4.tail.right.right.left
   have hn8 : Lr (x.outs.map ogL) := hn4.tail.right.right.right.left
   have hn9 : Lr [(wSlots, [x.slots])] := hn4.tail.right.right.right.right
   have hT : txt (linesOf x) = txt (netL x.net) ++ txt (reqL wBefore x.before) ++ txt (reqL wAfter x.after) ++ lineB wSchedule [x.len, x.offs] ++ [10] ++ txt (x.cells.map cL) ++ txt (x.changes.map chL) ++ txt (x.weak.map wkL) ++ txt (x.outs.map ogL) ++ lineB wSlots [x.slots] ++ [10] := by
    unfold linesOf tailL
    simp only [txt_append, txt_cons, txt_nil, List.append_assoc, List.append_nil]
    rfl
   have hB : badB x = (farL (netL x.net) || qsBad x.before || qsBad x.after || [x.len, x.offs].any farB || farL (x.cells.map cL) || farL (x.changes.map chL) || farL (x.weak.map wkL) || farL (x.outs.map ogL) || [x.slots].any farB) := by
    unfold badB tailL
    rw [show (wSchedule, [x.len, x.offs]) :: (x.cells.map (fun c => (wCell, c.nums)) ++ (x.changes.map chL ++ (x.weak.map wkL ++ (x.outs.map ogL ++ [(wSlots, [x.slots])])))) = [(wSchedule, [x.len, x.offs])] ++ (x.cells.map cL ++ (x.changes.map chL ++ (x.weak.map wkL ++ (x.outs.map ogL ++ [(wSlots, [x.slots])])))) from rfl]
    simp only [farL_append, farL_one, Bool.or_assoc]
   have hq : (txt (netL x.net)).length + ((txt (reqL wBefore x.before)).length + ((txt (reqL wAfter x.after)).length + ((lineB wSchedule [x.len, x.offs]).length + 1 + ((txt (x.cells.map cL)).length + ((txt (x.changes.map chL)).length + ((txt (x.weak.map wkL)).length + ((txt (x.outs.map ogL)).length + ((lineB wSlots [x.slots]).length + 1)))))))) ≤ 140737488355328 := by
    rw [hT] at hlen
    simp only [List.length_append, List.length_cons, List.length_nil] at hlen
    omega
   try simp only [go_sem, simprocAttr, hF, hS, hL0]
   repeat (first
    | ((with_reducible first | refine sops_go ?_ | refine awp_skip ?_); simp only [go_sem, simprocAttr, hF, hS, hL0])
    | (with_reducible first | refine awp_seq_k fun _ _ => ?_ | refine awp_region [1000032, 1000036, 1000040, 1000044, 1000048, 1000057, 1000078, 1000109, 1000130, 1000147, 1000153, 1000156, 1000157, 1000160, 1000161] ?_)
    | go_step)
   refine hand_boxBld (rest := [.bool false]) 5 rfl rfl (by decide) rfl (fun b => ?_)
   simp only [go_sem, simprocAttr, hF]
   repeat (first
    | ((with_reducible first | refine sops_go ?_ | refine sops_end ?_); simp only [go_sem, simprocAttr, hF])
    | (with_reducible first | refine awp_seq_k fun _ _ => ?_ | refine awp_region [1000032, 1000036, 1000040, 1000044, 1000048, 1000057, 1000078, 1000109, 1000130, 1000147, 1000153, 1000156, 1000157, 1000160, 1000161] ?_)
    | go_step)
   refine hand_callX (wnet_okX b false false [] (.slice none 0 0) x.net (by omega) (fun r hr => Nat.le_trans (hrow r hr) (by decide)) (by omega) hmg hn1 (by simp only [List.length_nil]; omega)) (laidE TabC) rfl (fun _ h => h) rfl rfl (by decide) rfl rfl (fun V1 => ?_)
   simp only [go_sem, simprocAttr, hF, List.nil_append, Bool.false_or]
   obtain ⟨T1, hT1⟩ : ∃ T, txt (netL x.net) = T := ⟨_, rfl⟩
   obtain ⟨B1, hB1⟩ : ∃ B, farL (netL x.net) = B := ⟨_, rfl⟩
   rw [hT1] at hq
   rw [hT1, hB1]
   repeat (first
    | ((with_reducible first | refine sops_go ?_ | refine sops_end ?_); simp only [go_sem, simprocAttr, hF])
    | (with_reducible first | refine awp_seq_k fun _ _ => ?_ | refine awp_region [1000032, 1000036, 1000040, 1000044, 1000048, 1000057, 1000078, 1000109, 1000130, 1000147, 1000153, 1000156, 1000157, 1000160, 1000161] ?_)
    | go_step)
   refine hand_callX (wreq_okX b B1 T1 V1 wBefore x.before hn2 (by omega)) (laidE TabC) rfl (fun _ h => h) rfl rfl (by decide) rfl rfl (fun V2 => ?_)
   simp only [go_sem, simprocAttr, hF]
   obtain ⟨T2, hT2⟩ : ∃ T, T1 ++ txt (reqL wBefore x.before) = T := ⟨_, rfl⟩
   obtain ⟨B2, hB2⟩ : ∃ B, (B1 || qsBad x.before) = B := ⟨_, rfl⟩
   have hl2 : T2.length = T1.length + (txt (reqL wBefore x.before)).length := by rw [← hT2, List.length_append]
   rw [hT2, hB2]
   repeat (first
    | ((with_reducible first | refine sops_go ?_ | refine sops_end ?_); simp only [go_sem, simprocAttr, hF])
    | (with_reducible first | refine awp_seq_k fun _ _ => ?_ | refine awp_region [1000032, 1000036, 1000040, 1000044, 1000048, 1000057, 1000078, 1000109, 1000130, 1000147, 1000153, 1000156, 1000157, 1000160, 1000161] ?_)
    | go_step)
   refine hand_callX (wreq_okX b B2 T2 V2 wAfter x.after hn3 (by omega)) (laidE TabC) rfl (fun _ h => h) rfl rfl (by decide) rfl rfl (fun V3 => ?_)
   simp only [go_sem, simprocAttr, hF]
   obtain ⟨T3, hT3⟩ : ∃ T, T2 ++ txt (reqL wAfter x.after) = T := ⟨_, rfl⟩
   obtain ⟨B3, hB3⟩ : ∃ B, (B2 || qsBad x.after) = B := ⟨_, rfl⟩
   have hl3 : T3.length = T2.length + (txt (reqL wAfter x.after)).length := by rw [← hT3, List.length_append]
   rw [hT3, hB3]
   repeat (first
    | ((with_reducible first | refine sops_go ?_ | refine sops_end ?_); simp only [go_sem, simprocAttr, hF])
    | (with_reducible first | refine awp_seq_k fun _ _ => ?_ | refine awp_region [1000032, 1000036, 1000040, 1000044, 1000048, 1000057, 1000078, 1000109, 1000130, 1000147, 1000153, 1000156, 1000157, 1000160, 1000161] ?_)
    | go_step)
   refine hand_callX (wline_okX b true B3 (T3) V3 wSchedule [x.len, x.offs] hn4.head (by omega)) (laidE TabC) rfl (fun _ h => h) rfl rfl (by decide) rfl rfl (fun V4 => ?_)
   simp only [go_sem, simprocAttr, hF]
   obtain ⟨T4, hT4⟩ : ∃ T, T3 ++ lineB wSchedule [x.len, x.offs] ++ [10] = T := ⟨_, rfl⟩
   obtain ⟨B4, hB4⟩ : ∃ B, (B3 || [x.len, x.offs].any farB) = B := ⟨_, rfl⟩
   have hl4 : T4.length = T3.length + (lineB wSchedule [x.len, x.offs]).length + 1 := by rw [← hT4, List.length_append, List.length_append]; rfl
   rw [hT4, hB4]
   repeat (first
    | ((with_reducible first | refine sops_go ?_ | refine sops_end ?_); simp only [go_sem, simprocAttr, hF])
    | with_reducible (first | refine awp_seq_k fun _ _ => ?_ | refine awp_region [1000032, 1000036, 1000040, 1000044, 1000048, 1000057, 1000078, 1000109, 1000130, 1000147, 1000153, 1000156, 1000157, 1000160, 1000161] ?_ | refine awp_block ?_)
    | go_step)
   refine awp_loop_by (ι := {k : Nat // k ≤ x.cells.length} × Value) (fun k σ => ⟨(62, iv (k.1.1 : Int)) :: keepS [1, 4, 60, 61] σ.slot, [(1, x.pv)], [], (laidE TabC).and (wrE b (true, T4 ++ txt ((x.cells.take k.1.1).map cL), B4 || farL ((x.cells.take k.1.1).map cL)) k.2)⟩) (fun k => x.cells.length - k.1.1) (⟨0, Nat.zero_le _⟩, V4) (sub_mk ?_) (fun R5 hR5 k => ?_)
   · simp only [go_sem, simprocAttr, hF]
     repeat' (first | rfl | refine ⟨?_, ?_⟩ | (simp; done))
   obtain ⟨⟨k, hk⟩, V5⟩ := k
   dsimp only
   simp only [go_sem, simprocAttr, hF]
   by_cases hlt : k < x.cells.length
   case pos =>
    obtain ⟨y, hdk⟩ := get_of_lt hlt
    have hd : decide ((k : Int) < (x.cells.length : Int)) = true := decide_eq_true (by omega)
    have hw : IntKind.i64.wrap ((k : Int) + 1) = ((k + 1 : Nat) : Int) := by rw [IntKind.wrap_i64]; omega
    have hl3 := map_room (f := cL) (T := T4) (M := 140737488355328) hdk (by omega)
    have hn3 := map_range (f := cL) hdk hn5
    have htx := map_txt_succ (f := cL) hdk
    have hfx := map_far_succ (f := cL) hdk
    obtain ⟨T9, hT9⟩ : ∃ T9, T4 ++ txt ((x.cells.take k).map cL) = T9 := ⟨_, rfl⟩
    obtain ⟨B9, hB9⟩ : ∃ B9, (B4 || farL ((x.cells.take k).map cL)) = B9 := ⟨_, rfl⟩
    rw [hT9] at hl3
    rw [hT9, hB9]
    repeat (first
     | ((with_reducible first | refine sops_go ?_ | refine sops_end ?_ | refine awp_if ?_ | refine awp_skip ?_); simp only [go_sem, simprocAttr, hF, hd, hdk])
     | with_reducible (first | refine awp_seq_k fun _ _ => ?_ | refine awp_region [1000032, 1000036, 1000040, 1000044, 1000048, 1000057, 1000078, 1000109, 1000130, 1000147, 1000153, 1000156, 1000157, 1000160, 1000161] ?_ | refine awp_block ?_)
     | go_step)
    refine hand_callX (wline_okX b true B9 (T9) V5 wCell y.nums hn3 hl3) (laidE TabC) rfl (fun _ h => h) rfl rfl (by decide) rfl rfl (fun V9 => ?_)
    simp only [go_sem, simprocAttr, hF, hd, hdk]
    repeat (first
     | ((with_reducible first | refine sops_go ?_ | refine sops_end ?_); simp only [go_sem, simprocAttr, hF, hd, hdk, hw])
     | (with_reducible refine awp_region [1000032, 1000036, 1000040, 1000044, 1000048, 1000057, 1000078, 1000109, 1000130, 1000147, 1000153, 1000156, 1000157, 1000160, 1000161] ?_)
     | go_step)
    refine ⟨(⟨k + 1, hlt⟩, V9), by dsimp only; omega, hR5 _ _ (sub_mk ?_)⟩
    simp only [go_sem, simprocAttr, hF]
    symm
    show (laidE TabC).and (wrE b (true, T9 ++ lineB wCell y.nums ++ [10], B9 || y.nums.any farB) V9) = (laidE TabC).and (wrE b (true, T4 ++ txt ((x.cells.take (k + 1)).map cL), B4 || farL ((x.cells.take (k + 1)).map cL)) V9)
    rw [htx, hfx, ← List.append_assoc, ← Bool.or_assoc, hT9, hB9]
    simp only [List.append_assoc]
    all_goals (try rfl)
   have hd : decide ((k : Int) < (x.cells.length : Int)) = false := decide_eq_false (by omega)
   obtain rfl : k = x.cells.length := by omega
   rw [List.take_length]
   obtain ⟨T5, hT5⟩ : ∃ T, T4 ++ txt (x.cells.map cL) = T := ⟨_, rfl⟩
   obtain ⟨B5, hB5⟩ : ∃ B, (B4 || farL (x.cells.map cL)) = B := ⟨_, rfl⟩
   have hl5 : T5.length = T4.length + (txt (x.cells.map cL)).length := by rw [← hT5, List.length_append]
   rw [hT5, hB5]
   repeat (first
    | ((with_reducible first | refine sops_go ?_ | refine sops_end ?_ | refine awp_if ?_ | refine awp_exit ?_); simp only [go_sem, simprocAttr, hF, hd])
    | with_reducible (first | refine awp_seq_k fun _ _ => ?_ | refine awp_region [1000032, 1000036, 1000040, 1000044, 1000048, 1000057, 1000078, 1000109, 1000130, 1000147, 1000153, 1000156, 1000157, 1000160, 1000161] ?_ | refine awp_block ?_)
    | go_step)
   skip
   refine awp_loop_by (ι := {k : Nat // k ≤ x.changes.length} × Value) (fun k σ => ⟨(83, iv (k.1.1 : Int)) :: keepS [1, 4, 81, 82] σ.slot, [(1, x.pv)], [], (laidE TabC).and (wrE b (true, T5 ++ txt ((x.changes.take k.1.1).map chL), B5 || farL ((x.changes.take k.1.1).map chL)) k.2)⟩) (fun k => x.changes.length - k.1.1) (⟨0, Nat.zero_le _⟩, V5) (sub_mk ?_) (fun R6 hR6 k => ?_)
   · simp only [go_sem, simprocAttr, hF]
     repeat' (first | rfl | refine ⟨?_, ?_⟩ | (simp; done))
   obtain ⟨⟨k, hk⟩, V6⟩ := k
   dsimp only
   simp only [go_sem, simprocAttr, hF]
   by_cases hlt : k < x.changes.length
   case pos =>
    obtain ⟨y, hdk⟩ := get_of_lt hlt
    have hd : decide ((k : Int) < (x.changes.length : Int)) = true := decide_eq_true (by omega)
    have hw : IntKind.i64.wrap ((k : Int) + 1) = ((k + 1 : Nat) : Int) := by rw [IntKind.wrap_i64]; omega
    have hl3 := map_room (f := chL) (T := T5) (M := 140737488355328) hdk (by omega)
    have hn3 := map_range (f := chL) hdk hn6
    have htx := map_txt_succ (f := chL) hdk
    have hfx := map_far_succ (f := chL) hdk
    obtain ⟨T9, hT9⟩ : ∃ T9, T5 ++ txt ((x.changes.take k).map chL) = T9 := ⟨_, rfl⟩
    obtain ⟨B9, hB9⟩ : ∃ B9, (B5 || farL ((x.changes.take k).map chL)) = B9 := ⟨_, rfl⟩
    rw [hT9] at hl3
    rw [hT9, hB9]
    cases had : y.ad with
    | true =>
     simp only [chL, had, if_true] at hl3 hn3 htx hfx
     repeat (first
      | ((with_reducible first | refine sops_go ?_ | refine sops_end ?_ | refine awp_if ?_ | refine awp_skip ?_); simp only [go_sem, simprocAttr, hF, hd, hdk, had])
      | with_reducible (first | refine awp_seq_k fun _ _ => ?_ | refine awp_region [1000032, 1000036, 1000040, 1000044, 1000048, 1000057, 1000078, 1000109, 1000130, 1000147, 1000153, 1000156, 1000157, 1000160, 1000161] ?_ | refine awp_block ?_)
      | go_step)
     refine hand_callX (wline_okX b true B9 (T9) V6 wAdd (y.sl :: y.c.nums) hn3 hl3) (laidE TabC) rfl (fun _ h => h) rfl rfl (by decide) rfl rfl (fun V9 => ?_)
     simp only [go_sem, simprocAttr, hF, hd, hdk, had]
     repeat (first
      | ((with_reducible first | refine sops_go ?_ | refine sops_end ?_); simp only [go_sem, simprocAttr, hF, hd, hdk, had, hw])
      | (with_reducible refine awp_region [1000032, 1000036, 1000040, 1000044, 1000048, 1000057, 1000078, 1000109, 1000130, 1000147, 1000153, 1000156, 1000157, 1000160, 1000161] ?_)
      | go_step)
     refine ⟨(⟨k + 1, hlt⟩, V9), by dsimp only; omega, hR6 _ _ (sub_mk ?_)⟩
     simp only [go_sem, simprocAttr, hF]
     symm
     show (laidE TabC).and (wrE b (true, T9 ++ lineB wAdd (y.sl :: y.c.nums) ++ [10], B9 || (y.sl :: y.c.nums).any farB) V9) = (laidE TabC).and (wrE b (true, T5 ++ txt ((x.changes.take (k + 1)).map chL), B5 || farL ((x.changes.take (k + 1)).map chL)) V9)
     rw [htx, hfx, ← List.append_assoc, ← Bool.or_assoc, hT9, hB9]
     simp only [List.append_assoc]
     all_goals (try rfl)
    | false =>
     simp only [chL, had, Bool.false_eq_true, if_false] at hl3 hn3 htx hfx
     repeat (first
      | ((with_reducible first | refine sops_go ?_ | refine sops_end ?_ | refine awp_if ?_ | refine awp_skip ?_); simp only [go_sem, simprocAttr, hF, hd, hdk, had])
      | with_reducible (first | refine awp_seq_k fun _ _ => ?_ | refine awp_region [1000032, 1000036, 1000040, 1000044, 1000048, 1000057, 1000078, 1000109, 1000130, 1000147, 1000153, 1000156, 1000157, 1000160, 1000161] ?_ | refine awp_block ?_)
      | go_step)
     refine hand_callX (wline_okX b true B9 (T9) V6 wRemove (y.sl :: y.c.nums) hn3 hl3) (laidE TabC) rfl (fun _ h => h) rfl rfl (by decide) rfl rfl (fun V9 => ?_)
     simp only [go_sem, simprocAttr, hF, hd, hdk, had]
     repeat (first
      | ((with_reducible first | refine sops_go ?_ | refine sops_end ?_); simp only [go_sem, simprocAttr, hF, hd, hdk, had, hw])
      | (with_reducible refine awp_region [1000032, 1000036, 1000040, 1000044, 1000048, 1000057, 1000078, 1000109, 1000130, 1000147, 1000153, 1000156, 1000157, 1000160, 1000161] ?_)
      | go_step)
     refine ⟨(⟨k + 1, hlt⟩, V9), by dsimp only; omega, hR6 _ _ (sub_mk ?_)⟩
     simp only [go_sem, simprocAttr, hF]
     symm
     show (laidE TabC).and (wrE b (true, T9 ++ lineB wRemove (y.sl :: y.c.nums) ++ [10], B9 || (y.sl :: y.c.nums).any farB) V9) = (laidE TabC).and (wrE b (true, T5 ++ txt ((x.changes.take (k + 1)).map chL), B5 || farL ((x.changes.take (k + 1)).map chL)) V9)
     rw [htx, hfx, ← List.append_assoc, ← Bool.or_assoc, hT9, hB9]
     simp only [List.append_assoc]
     all_goals (try rfl)
   have hd : decide ((k : Int) < (x.changes.length : Int)) = false := decide_eq_false (by omega)
   obtain rfl : k = x.changes.length := by omega
   rw [List.take_length]
   obtain ⟨T6, hT6⟩ : ∃ T, T5 ++ txt (x.changes.map chL) = T := ⟨_, rfl⟩
   obtain ⟨B6, hB6⟩ : ∃ B, (B5 || farL (x.changes.map chL)) = B := ⟨_, rfl⟩
   have hl6 : T6.length = T5.length + (txt (x.changes.map chL)).length := by rw [← hT6, List.length_append]
   rw [hT6, hB6]
   repeat (first
    | ((with_reducible first | refine sops_go ?_ | refine sops_end ?_ | refine awp_if ?_ | refine awp_exit ?_); simp only [go_sem, simprocAttr, hF, hd])
    | with_reducible (first | refine awp_seq_k fun _ _ => ?_ | refine awp_region [1000032, 1000036, 1000040, 1000044, 1000048, 1000057, 1000078, 1000109, 1000130, 1000147, 1000153, 1000156, 1000157, 1000160, 1000161] ?_ | refine awp_block ?_)
    | go_step)
   skip
   refine awp_loop_by (ι := {k : Nat // k ≤ x.weak.length} × Value) (fun k σ => ⟨(114, iv (k.1.1 : Int)) :: keepS [1, 4, 112, 113] σ.slot, [(1, x.pv)], [], (laidE TabC).and (wrE b (true, T6 ++ txt ((x.weak.take k.1.1).map wkL), B6 || farL ((x.weak.take k.1.1).map wkL)) k.2)⟩) (fun k => x.weak.length - k.1.1) (⟨0, Nat.zero_le _⟩, V6) (sub_mk ?_) (fun R7 hR7 k => ?_)
   · simp only [go_sem, simprocAttr, hF]
     repeat' (first | rfl | refine ⟨?_, ?_⟩ | (simp; done))
   obtain ⟨⟨k, hk⟩, V7⟩ := k
   dsimp only
   simp only [go_sem, simprocAttr, hF]
   by_cases hlt : k < x.weak.length
   case pos =>
    obtain ⟨y, hdk⟩ := get_of_lt hlt
    have hd : decide ((k : Int) < (x.weak.length : Int)) = true := decide_eq_true (by omega)
    have hw : IntKind.i64.wrap ((k : Int) + 1) = ((k + 1 : Nat) : Int) := by rw [IntKind.wrap_i64]; omega
    have hl3 := map_room (f := wkL) (T := T6) (M := 140737488355328) hdk (by omega)
    have hn3 := map_range (f := wkL) hdk hn7
    have htx := map_txt_succ (f := wkL) hdk
    have hfx := map_far_succ (f := wkL) hdk
    obtain ⟨T9, hT9⟩ : ∃ T9, T6 ++ txt ((x.weak.take k).map wkL) = T9 := ⟨_, rfl⟩
    obtain ⟨B9, hB9⟩ : ∃ B9, (B6 || farL ((x.weak.take k).map wkL)) = B9 := ⟨_, rfl⟩
    rw [hT9] at hl3
    rw [hT9, hB9]
    repeat (first
     | ((with_reducible first | refine sops_go ?_ | refine sops_end ?_ | refine awp_if ?_ | refine awp_skip ?_); simp only [go_sem, simprocAttr, hF, hd, hdk])
     | with_reducible (first | refine awp_seq_k fun _ _ => ?_ | refine awp_region [1000032, 1000036, 1000040, 1000044, 1000048, 1000057, 1000078, 1000109, 1000130, 1000147, 1000153, 1000156, 1000157, 1000160, 1000161] ?_ | refine awp_block ?_)
     | go_step)
    refine hand_callX (wline_okX b true B9 (T9) V7 wWeak [y.fr, y.to, y.fi, y.un, y.re] hn3 hl3) (laidE TabC) rfl (fun _ h => h) rfl rfl (by decide) rfl rfl (fun V9 => ?_)
    simp only [go_sem, simprocAttr, hF, hd, hdk]
    repeat (first
     | ((with_reducible first | refine sops_go ?_ | refine sops_end ?_); simp only [go_sem, simprocAttr, hF, hd, hdk, hw])
     | (with_reducible refine awp_region [1000032, 1000036, 1000040, 1000044, 1000048, 1000057, 1000078, 1000109, 1000130, 1000147, 1000153, 1000156, 1000157, 1000160, 1000161] ?_)
     | go_step)
    refine ⟨(⟨k + 1, hlt⟩, V9), by dsimp only; omega, hR7 _ _ (sub_mk ?_)⟩
    simp only [go_sem, simprocAttr, hF]
    symm
    show (laidE TabC).and (wrE b (true, T9 ++ lineB wWeak [y.fr, y.to, y.fi, y.un, y.re] ++ [10], B9 || [y.fr, y.to, y.fi, y.un, y.re].any farB) V9) = (laidE TabC).and (wrE b (true, T6 ++ txt ((x.weak.take (k + 1)).map wkL), B6 || farL ((x.weak.take (k + 1)).map wkL)) V9)
    rw [htx, hfx, ← List.append_assoc, ← Bool.or_assoc, hT9, hB9]
    simp only [List.append_assoc]
    all_goals (try rfl)
   have hd : decide ((k : Int) < (x.weak.length : Int)) = false := decide_eq_false (by omega)
   obtain rfl : k = x.weak.length := by omega
   rw [List.take_length]
   obtain ⟨T7, hT7⟩ : ∃ T, T6 ++ txt (x.weak.map wkL) = T := ⟨_, rfl⟩
   obtain ⟨B7, hB7⟩ : ∃ B, (B6 || farL (x.weak.map wkL)) = B := ⟨_, rfl⟩
   have hl7 : T7.length = T6.length + (txt (x.weak.map wkL)).length := by rw [← hT7, List.length_append]
   rw [hT7, hB7]
   repeat (first
    | ((with_reducible first | refine sops_go ?_ | refine sops_end ?_ | refine awp_if ?_ | refine awp_exit ?_); simp only [go_sem, simprocAttr, hF, hd])
    | with_reducible (first | refine awp_seq_k fun _ _ => ?_ | refine awp_region [1000032, 1000036, 1000040, 1000044, 1000048, 1000057, 1000078, 1000109, 1000130, 1000147, 1000153, 1000156, 1000157, 1000160, 1000161] ?_ | refine awp_block ?_)
    | go_step)
   skip
   refine awp_loop_by (ι := {k : Nat // k ≤ x.outs.length} × Value) (fun k σ => ⟨(135, iv (k.1.1 : Int)) :: keepS [1, 4, 133, 134] σ.slot, [(1, x.pv)], [], (laidE TabC).and (wrE b (true, T7 ++ txt ((x.outs.take k.1.1).map ogL), B7 || farL ((x.outs.take k.1.1).map ogL)) k.2)⟩) (fun k => x.outs.length - k.1.1) (⟨0, Nat.zero_le _⟩, V7) (sub_mk ?_) (fun R8 hR8 k => ?_)
   · simp only [go_sem, simprocAttr, hF]
     repeat' (first | rfl | refine ⟨?_, ?_⟩ | (simp; done))
   obtain ⟨⟨k, hk⟩, V8⟩ := k
   dsimp only
   simp only [go_sem, simprocAttr, hF]
   by_cases hlt : k < x.outs.length
   case pos =>
    obtain ⟨y, hdk⟩ := get_of_lt hlt
    have hd : decide ((k : Int) < (x.outs.length : Int)) = true := decide_eq_true (by omega)
    have hw : IntKind.i64.wrap ((k : Int) + 1) = ((k + 1 : Nat) : Int) := by rw [IntKind.wrap_i64]; omega
    have hl3 := map_room (f := ogL) (T := T7) (M := 140737488355328) hdk (by omega)
    have hn3 := map_range (f := ogL) hdk hn8
    have htx := map_txt_succ (f := ogL) hdk
    have hfx := map_far_succ (f := ogL) hdk
    obtain ⟨T9, hT9⟩ : ∃ T9, T7 ++ txt ((x.outs.take k).map ogL) = T9 := ⟨_, rfl⟩
    obtain ⟨B9, hB9⟩ : ∃ B9, (B7 || farL ((x.outs.take k).map ogL)) = B9 := ⟨_, rfl⟩
    rw [hT9] at hl3
    rw [hT9, hB9]
    repeat (first
     | ((with_reducible first | refine sops_go ?_ | refine sops_end ?_ | refine awp_if ?_ | refine awp_skip ?_); simp only [go_sem, simprocAttr, hF, hd, hdk])
     | with_reducible (first | refine awp_seq_k fun _ _ => ?_ | refine awp_region [1000032, 1000036, 1000040, 1000044, 1000048, 1000057, 1000078, 1000109, 1000130, 1000147, 1000153, 1000156, 1000157, 1000160, 1000161] ?_ | refine awp_block ?_)
     | go_step)
    refine hand_callX (wline_okX b true B9 (T9) V8 wOutage [y.nd, y.fi, y.un] hn3 hl3) (laidE TabC) rfl (fun _ h => h) rfl rfl (by decide) rfl rfl (fun V9 => ?_)
    simp only [go_sem, simprocAttr, hF, hd, hdk]
    repeat (first
     | ((with_reducible first | refine sops_go ?_ | refine sops_end ?_); simp only [go_sem, simprocAttr, hF, hd, hdk, hw])
     | (with_reducible refine awp_region [1000032, 1000036, 1000040, 1000044, 1000048, 1000057, 1000078, 1000109, 1000130, 1000147, 1000153, 1000156, 1000157, 1000160, 1000161] ?_)
     | go_step)
    refine ⟨(⟨k + 1, hlt⟩, V9), by dsimp only; omega, hR8 _ _ (sub_mk ?_)⟩
    simp only [go_sem, simprocAttr, hF]
    symm
    show (laidE TabC).and (wrE b (true, T9 ++ lineB wOutage [y.nd, y.fi, y.un] ++ [10], B9 || [y.nd, y.fi, y.un].any farB) V9) = (laidE TabC).and (wrE b (true, T7 ++ txt ((x.outs.take (k + 1)).map ogL), B7 || farL ((x.outs.take (k + 1)).map ogL)) V9)
    rw [htx, hfx, ← List.append_assoc, ← Bool.or_assoc, hT9, hB9]
    simp only [List.append_assoc]
    all_goals (try rfl)
   have hd : decide ((k : Int) < (x.outs.length : Int)) = false := decide_eq_false (by omega)
   obtain rfl : k = x.outs.length := by omega
   rw [List.take_length]
   obtain ⟨T8, hT8⟩ : ∃ T, T7 ++ txt (x.outs.map ogL) = T := ⟨_, rfl⟩
   obtain ⟨B8, hB8⟩ : ∃ B, (B7 || farL (x.outs.map ogL)) = B := ⟨_, rfl⟩
   have hl8 : T8.length = T7.length + (txt (x.outs.map ogL)).length := by rw [← hT8, List.length_append]
   rw [hT8, hB8]
   repeat (first
    | ((with_reducible first | refine sops_go ?_ | refine sops_end ?_ | refine awp_if ?_ | refine awp_exit ?_); simp only [go_sem, simprocAttr, hF, hd])
    | (with_reducible first | refine awp_seq_k fun _ _ => ?_ | refine awp_region [1000032, 1000036, 1000040, 1000044, 1000048, 1000057, 1000078, 1000109, 1000130, 1000147, 1000153, 1000156, 1000157, 1000160, 1000161] ?_)
    | go_step)
   refine hand_callX (wline_okX b true B8 (T8) V8 wSlots [x.slots] hn9.head (by omega)) (laidE TabC) rfl (fun _ h => h) rfl rfl (by decide) rfl rfl (fun V9 => ?_)
   simp only [go_sem, simprocAttr, hF]
   obtain ⟨T9, hT9⟩ : ∃ T, T8 ++ lineB wSlots [x.slots] ++ [10] = T := ⟨_, rfl⟩
   have hTx : txt (linesOf x) = T9 := by rw [hT, ← hT9, ← hT8, ← hT7, ← hT6, ← hT5, ← hT4, ← hT3, ← hT2, ← hT1]
   have hBx : badB x = (B8 || [x.slots].any farB) := by rw [hB, ← hB8, ← hB7, ← hB6, ← hB5, ← hB4, ← hB3, ← hB2, ← hB1]
   have hne : T9 ≠ [] := by rw [← hT9]; simp
   rw [hT9, ← hBx]
   cases hb : badB x with
   | true =>
    rw [hb] at hfm
    repeat (first
     | ((first | refine hand_rawField rfl rfl (by decide) Tryz.underlying74 rfl (m := 0) rfl rfl ?_ | refine hand_bldLoad (k := 0) (dd := .bool) rfl rfl (by decide) rfl rfl rfl Tryz.underlying4 rfl ?_); simp only [go_sem, simprocAttr, hF])
     | ((with_reducible first | refine sops_go ?_ | refine sops_end ?_ | refine awp_if ?_ | refine awp_ret ?_); simp only [go_sem, simprocAttr, hF])
     | (with_reducible first | refine awp_seq_k fun _ _ => ?_ | refine awp_region [1000032, 1000036, 1000040, 1000044, 1000048, 1000057, 1000078, 1000109, 1000130, 1000147, 1000153, 1000156, 1000157, 1000160, 1000161] ?_)
     | go_step)
    all_goals (try (rw [hfm]; rfl))
   | false =>
    rw [hb] at hfm
    repeat (first
     | ((first | refine hand_rawField rfl rfl (by decide) Tryz.underlying74 rfl (m := 1) rfl rfl ?_ | refine hand_rawField rfl rfl (by decide) Tryz.underlying74 rfl (m := 0) rfl rfl ?_ | refine hand_bldLoad (k := 0) (dd := .bool) rfl rfl (by decide) rfl rfl rfl Tryz.underlying4 rfl ?_); simp only [go_sem, simprocAttr, hF])
     | ((with_reducible first | refine sops_go ?_ | refine sops_end ?_ | refine awp_if ?_ | refine awp_skip ?_); simp only [go_sem, simprocAttr, hF])
     | (with_reducible first | refine awp_seq_k fun _ _ => ?_ | refine awp_region [1000032, 1000036, 1000040, 1000044, 1000048, 1000057, 1000078, 1000109, 1000130, 1000147, 1000153, 1000156, 1000157, 1000160, 1000161] ?_)
     | go_step)
    refine hand_callX (string_okX TabC b true false T9 V9 hne) (laidE TabC) rfl (fun _ h => h) rfl rfl (by decide) rfl rfl (fun _ => ?_)
    simp only [go_sem, simprocAttr, hF]
    repeat (first
     | ((with_reducible first | refine sops_go ?_ | refine sops_end ?_ | refine awp_ret ?_); simp only [go_sem, simprocAttr, hF])
     | go_step)
    all_goals (try (rw [hfm, hTx]; rfl))
/- The reader: add. -/
theorem addFL (C : World → Prop) (b k : Nat) (vals : List Value) (q : Option Nat) (V : Value) (hv : vals[k]? = some V) (xs : List Value) (rows : List (List PV)) (hl : 1024 ≤ rows.length) (x : Lk) : FnX Tryz.prog C 107 [.v (.pointer (some ⟨b, k, none⟩)), .agg x.pv] (exts [rawU b vals, rowsE 126 3 q V xs rows]) (iv 8) (fun _ : Unit => exts [rawU b vals, rowsE 126 3 q V xs rows]) := by
 have hd : decide ((rows.length : Int) ≥ 1024) = true := decide_eq_true (by omega)
 refine fn_okXn Tryz.func107 Tryz.ntmps107 Tryz.results107 (by kernel_rfl) rfl (of_decide_eq_true rfl) fun F E hF hC => ?_
 simp only [go_sem, simprocAttr, hF]
 repeat (first
  | ((first | refine hand_eLoad (i := 0) (dd := .slice 126) rfl rfl (by decide) rfl rfl rfl (by first | assumption | rfl) Tryz.underlying23 rfl ?_ | refine hand_eLen (i := 1) rfl rfl (by decide) Tryz.underlying23 rfl rfl rfl ?_); simp only [go_sem, simprocAttr, hF, hd, Av.sopJ])
  | ((with_reducible first | refine sops_go ?_ | refine sops_end ?_ | refine awp_if ?_ | refine awp_ret ?_); simp only [go_sem, simprocAttr, hF, hd])
  | (with_reducible first | refine awp_seq_k fun _ _ => ?_ | refine awp_region (id := 0) [] ?_ | refine awp_region (id := 1) [1000007, 1000008] ?_ | refine awp_region (id := 2) [] ?_)
  | go_step)
 all_goals (try exact ⟨(), rfl⟩)

theorem addOL (C : World → Prop) (b k : Nat) (vals : List Value) (q : Option Nat) (V : Value) (hv : vals[k]? = some V) (xs : List Value) (rows : List (List PV)) (hl : rows.length < 1024) (x : Lk) : FnX Tryz.prog C 107 [.v (.pointer (some ⟨b, k, none⟩)), .agg x.pv] (exts [rawU b vals, rowsE 126 3 q V xs rows]) (iv 0) (fun i : Option Nat × Value × List Value => exts [rawU b (vals.set k i.2.1), rowsE 126 3 i.1 i.2.1 i.2.2 (rows ++ [x.pv])]) := by
 have hd : decide ((rows.length : Int) ≥ 1024) = false := decide_eq_false (by omega)
 have hkl : k < vals.length := (List.getElem?_eq_some_iff.1 hv).1
 refine fn_okXn Tryz.func107 Tryz.ntmps107 Tryz.results107 (by kernel_rfl) rfl (of_decide_eq_true rfl) fun F E hF hC => ?_
 simp only [go_sem, simprocAttr, hF]
 repeat (first
  | ((refine hand_eLoad (i := 0) (dd := .slice 126) rfl rfl (by decide) rfl rfl rfl (by first | assumption | rfl) Tryz.underlying23 rfl ?_); simp only [go_sem, simprocAttr, hF, hd, Av.sopJ])
  | ((refine hand_eStore (i := 0) rfl rfl rfl rfl rfl rfl (by first | assumption | (simp only [List.length_set, List.length_cons]; omega)) (by first | assumption | rfl) (by first | assumption | rfl) Tryz.sz23 ?_); simp only [go_sem, simprocAttr, hF, hd, Av.sopJ])
  | ((refine hand_eLen (i := 1) rfl rfl (by decide) Tryz.underlying23 rfl rfl rfl ?_); simp only [go_sem, simprocAttr, hF, hd, Av.sopJ])
  | ((refine hand_eApp (i := 1) (e := 126) (sz := 3) rfl rfl (by decide) Tryz.underlying23 (by kernel_rfl) rfl rfl rfl rfl (by first | assumption | (simp only [List.length_cons, List.length_nil]; omega)) (fun q2 V2 xs2 hc2 ho2 => ?_)); simp only [go_sem, simprocAttr, hF, hd, Av.sopJ])
  | ((with_reducible first | refine sopsJ_go ?_ | refine sopsJ_end ?_); simp only [go_sem, simprocAttr, hF, hd, Av.sopJ])
  | (refine awp_floatJ (id := 3) [13, 1000013, 1000016] 6 [(6, 0)] (by kernel_rfl) (by kernel_rfl) (by kernel_rfl) rfl rfl (fun bx0 hbx => ?_); (try dsimp only [Av.addWs, Av.addW, List.modify_succ_cons, List.modify_zero_cons, List.push_toArray, List.cons_append, List.nil_append, List.take, List.drop]))
  | ((refine ⟨_, handq_eLoad (i := 0) (dd := .slice 126) rfl rfl (by decide) rfl rfl rfl (by first | assumption | rfl) Tryz.underlying23 rfl, rfl, ?_⟩); simp only [go_sem, simprocAttr, hF, hd, hbx])
  | ((with_reducible refine headW_go ?_); simp only [go_sem, simprocAttr, hF, hd, hbx])
  | ((with_reducible first | refine sops_go ?_ | refine sops_end ?_ | refine awp_if ?_ | refine awp_skip ?_ | refine awp_ret ?_); simp only [go_sem, simprocAttr, hF, hd])
  | (with_reducible first | refine awp_seq_k fun _ _ => ?_ | refine awp_region (id := 0) [] ?_ | refine awp_region (id := 1) [1000007, 1000008] ?_ | refine awp_region (id := 4) [] ?_)
  | go_step)
 exact ⟨(q2, V2, xs2), rfl⟩

theorem addOI (C : World → Prop) (b k : Nat) (vals : List Value) (q : Option Nat) (V : Value) (hv : vals[k]? = some V) (xs : List Value) (rows : List (List PV)) (hl : rows.length < 1024) (x : Int) : FnX Tryz.prog C 108 [.v (.pointer (some ⟨b, k, none⟩)), iv x] (exts [rawU b vals, rowsE 3 1 q V xs rows]) (iv 0) (fun i : Option Nat × Value × List Value => exts [rawU b (vals.set k i.2.1), rowsE 3 1 i.1 i.2.1 i.2.2 (rows ++ [[ip x]])]) := by
 have hd : decide ((rows.length : Int) ≥ 1024) = false := decide_eq_false (by omega)
 have hkl : k < vals.length := (List.getElem?_eq_some_iff.1 hv).1
 refine fn_okXn Tryz.func108 Tryz.ntmps108 Tryz.results108 (by kernel_rfl) rfl (of_decide_eq_true rfl) fun F E hF hC => ?_
 simp only [go_sem, simprocAttr, hF]
 repeat (first
  | ((refine hand_eLoad (i := 0) (dd := .slice 3) rfl rfl (by decide) rfl rfl rfl (by first | assumption | rfl) Tryz.underlying24 rfl ?_); simp only [go_sem, simprocAttr, hF, hd, Av.sopJ])
  | ((refine hand_eStore (i := 0) rfl rfl rfl rfl rfl rfl (by first | assumption | (simp only [List.length_set, List.length_cons]; omega)) (by first | assumption | rfl) (by first | assumption | rfl) Tryz.sz24 ?_); simp only [go_sem, simprocAttr, hF, hd, Av.sopJ])
  | ((refine hand_eLen (i := 1) rfl rfl (by decide) Tryz.underlying24 rfl rfl rfl ?_); simp only [go_sem, simprocAttr, hF, hd, Av.sopJ])
  | ((refine hand_eApp (i := 1) (e := 3) (sz := 1) rfl rfl (by decide) Tryz.underlying24 (by kernel_rfl) rfl rfl rfl rfl (by first | assumption | (simp only [List.length_cons, List.length_nil]; omega)) (fun q2 V2 xs2 hc2 ho2 => ?_)); simp only [go_sem, simprocAttr, hF, hd, Av.sopJ])
  | ((with_reducible first | refine sopsJ_go ?_ | refine sopsJ_end ?_); simp only [go_sem, simprocAttr, hF, hd, Av.sopJ])
  | ((refine awp_regionJ (id := 3) [13, 1000013, 1000016] ?_); simp only [go_sem, simprocAttr, hF, hd, Av.sopJ])
  | ((with_reducible first | refine sops_go ?_ | refine sops_end ?_ | refine awp_if ?_ | refine awp_skip ?_ | refine awp_ret ?_); simp only [go_sem, simprocAttr, hF, hd])
  | (with_reducible first | refine awp_seq_k fun _ _ => ?_ | refine awp_region (id := 0) [] ?_ | refine awp_region (id := 1) [1000007, 1000008] ?_ | refine awp_region (id := 4) [] ?_)
  | go_step)
 exact ⟨(q2, V2, xs2), rfl⟩

theorem addFQ (C : World → Prop) (b k : Nat) (vals : List Value) (q : Option Nat) (V : Value) (hv : vals[k]? = some V) (xs : List Value) (rows : List (List PV)) (hl : 1024 ≤ rows.length) (x : Fw) : FnX Tryz.prog C 109 [.v (.pointer (some ⟨b, k, none⟩)), .agg [ip x.id, ip x.fr, ip x.to, ip x.pe, ip x.ph, ip x.dl, .v (.slice none 0 0)]] (exts [rawU b vals, rowsE 67 7 q V xs rows]) (iv 8) (fun _ : Unit => exts [rawU b vals, rowsE 67 7 q V xs rows]) := by
 have hd : decide ((rows.length : Int) ≥ 1024) = true := decide_eq_true (by omega)
 refine fn_okXn Tryz.func109 Tryz.ntmps109 Tryz.results109 (by kernel_rfl) rfl (of_decide_eq_true rfl) fun F E hF hC => ?_
 simp only [go_sem, simprocAttr, hF]
 repeat (first
  | ((first | refine hand_eLoad (i := 0) (dd := .slice 67) rfl rfl (by decide) rfl rfl rfl (by first | assumption | rfl) Tryz.underlying27 rfl ?_ | refine hand_eLen (i := 1) rfl rfl (by decide) Tryz.underlying27 rfl rfl rfl ?_); simp only [go_sem, simprocAttr, hF, hd, Av.sopJ])
  | ((with_reducible first | refine sops_go ?_ | refine sops_end ?_ | refine awp_if ?_ | refine awp_ret ?_); simp only [go_sem, simprocAttr, hF, hd])
  | (with_reducible first | refine awp_seq_k fun _ _ => ?_ | refine awp_region (id := 0) [] ?_ | refine awp_region (id := 1) [1000007, 1000008] ?_ | refine awp_region (id := 2) [] ?_)
  | go_step)
 all_goals (try exact ⟨(), rfl⟩)

theorem addFC (C : World → Prop) (b k : Nat) (vals : List Value) (q : Option Nat) (V : Value) (hv : vals[k]? = some V) (xs : List Value) (rows : List (List PV)) (hl : 1024 ≤ rows.length) (x : Ce) : FnX Tryz.prog C 110 [.v (.pointer (some ⟨b, k, none⟩)), .agg x.pv] (exts [rawU b vals, rowsE 79 5 q V xs rows]) (iv 8) (fun _ : Unit => exts [rawU b vals, rowsE 79 5 q V xs rows]) := by
 have hd : decide ((rows.length : Int) ≥ 1024) = true := decide_eq_true (by omega)
 refine fn_okXn Tryz.func110 Tryz.ntmps110 Tryz.results110 (by kernel_rfl) rfl (of_decide_eq_true rfl) fun F E hF hC => ?_
 simp only [go_sem, simprocAttr, hF]
 repeat (first
  | ((first | refine hand_eLoad (i := 0) (dd := .slice 79) rfl rfl (by decide) rfl rfl rfl (by first | assumption | rfl) Tryz.underlying28 rfl ?_ | refine hand_eLen (i := 1) rfl rfl (by decide) Tryz.underlying28 rfl rfl rfl ?_); simp only [go_sem, simprocAttr, hF, hd, Av.sopJ])
  | ((with_reducible first | refine sops_go ?_ | refine sops_end ?_ | refine awp_if ?_ | refine awp_ret ?_); simp only [go_sem, simprocAttr, hF, hd])
  | (with_reducible first | refine awp_seq_k fun _ _ => ?_ | refine awp_region (id := 0) [] ?_ | refine awp_region (id := 1) [1000007, 1000008] ?_ | refine awp_region (id := 2) [] ?_)
  | go_step)
 all_goals (try exact ⟨(), rfl⟩)

theorem addOC (C : World → Prop) (b k : Nat) (vals : List Value) (q : Option Nat) (V : Value) (hv : vals[k]? = some V) (xs : List Value) (rows : List (List PV)) (hl : rows.length < 1024) (x : Ce) : FnX Tryz.prog C 110 [.v (.pointer (some ⟨b, k, none⟩)), .agg x.pv] (exts [rawU b vals, rowsE 79 5 q V xs rows]) (iv 0) (fun i : Option Nat × Value × List Value => exts [rawU b (vals.set k i.2.1), rowsE 79 5 i.1 i.2.1 i.2.2 (rows ++ [x.pv])]) := by
 have hd : decide ((rows.length : Int) ≥ 1024) = false := decide_eq_false (by omega)
 have hkl : k < vals.length := (List.getElem?_eq_some_iff.1 hv).1
 refine fn_okXn Tryz.func110 Tryz.ntmps110 Tryz.results110 (by kernel_rfl) rfl (of_decide_eq_true rfl) fun F E hF hC => ?_
 simp only [go_sem, simprocAttr, hF]
 repeat (first
  | ((refine hand_eLoad (i := 0) (dd := .slice 79) rfl rfl (by decide) rfl rfl rfl (by first | assumption | rfl) Tryz.underlying28 rfl ?_); simp only [go_sem, simprocAttr, hF, hd, Av.sopJ])
  | ((refine hand_eStore (i := 0) rfl rfl rfl rfl rfl rfl (by first | assumption | (simp only [List.length_set, List.length_cons]; omega)) (by first | assumption | rfl) (by first | assumption | rfl) Tryz.sz28 ?_); simp only [go_sem, simprocAttr, hF, hd, Av.sopJ])
  | ((refine hand_eLen (i := 1) rfl rfl (by decide) Tryz.underlying28 rfl rfl rfl ?_); simp only [go_sem, simprocAttr, hF, hd, Av.sopJ])
  | ((refine hand_eApp (i := 1) (e := 79) (sz := 5) rfl rfl (by decide) Tryz.underlying28 (by kernel_rfl) rfl rfl rfl rfl (by first | assumption | (simp only [List.length_cons, List.length_nil]; omega)) (fun q2 V2 xs2 hc2 ho2 => ?_)); simp only [go_sem, simprocAttr, hF, hd, Av.sopJ])
  | ((with_reducible first | refine sopsJ_go ?_ | refine sopsJ_end ?_); simp only [go_sem, simprocAttr, hF, hd, Av.sopJ])
  | (refine awp_floatJ (id := 3) [13, 1000013, 1000016] 6 [(6, 0)] (by kernel_rfl) (by kernel_rfl) (by kernel_rfl) rfl rfl (fun bx0 hbx => ?_); (try dsimp only [Av.addWs, Av.addW, List.modify_succ_cons, List.modify_zero_cons, List.push_toArray, List.cons_append, List.nil_append, List.take, List.drop]))
  | ((refine ⟨_, handq_eLoad (i := 0) (dd := .slice 79) rfl rfl (by decide) rfl rfl rfl (by first | assumption | rfl) Tryz.underlying28 rfl, rfl, ?_⟩); simp only [go_sem, simprocAttr, hF, hd, hbx])
  | ((with_reducible refine headW_go ?_); simp only [go_sem, simprocAttr, hF, hd, hbx])
  | ((with_reducible first | refine sops_go ?_ | refine sops_end ?_ | refine awp_if ?_ | refine awp_skip ?_ | refine awp_ret ?_); simp only [go_sem, simprocAttr, hF, hd])
  | (with_reducible first | refine awp_seq_k fun _ _ => ?_ | refine awp_region (id := 0) [] ?_ | refine awp_region (id := 1) [1000007, 1000008] ?_ | refine awp_region (id := 4) [] ?_)
  | go_step)
 exact ⟨(q2, V2, xs2), rfl⟩

theorem addFH (C : World → Prop) (b k : Nat) (vals : List Value) (q : Option Nat) (V : Value) (hv : vals[k]? = some V) (xs : List Value) (rows : List (List PV)) (hl : 1024 ≤ rows.length) (x : Ch) : FnX Tryz.prog C 112 [.v (.pointer (some ⟨b, k, none⟩)), .agg x.pv] (exts [rawU b vals, rowsE 81 7 q V xs rows]) (iv 8) (fun _ : Unit => exts [rawU b vals, rowsE 81 7 q V xs rows]) := by
 have hd : decide ((rows.length : Int) ≥ 1024) = true := decide_eq_true (by omega)
 refine fn_okXn Tryz.func112 Tryz.ntmps112 Tryz.results112 (by kernel_rfl) rfl (of_decide_eq_true rfl) fun F E hF hC => ?_
 simp only [go_sem, simprocAttr, hF]
 repeat (first
  | ((first | refine hand_eLoad (i := 0) (dd := .slice 81) rfl rfl (by decide) rfl rfl rfl (by first | assumption | rfl) Tryz.underlying31 rfl ?_ | refine hand_eLen (i := 1) rfl rfl (by decide) Tryz.underlying31 rfl rfl rfl ?_); simp only [go_sem, simprocAttr, hF, hd, Av.sopJ])
  | ((with_reducible first | refine sops_go ?_ | refine sops_end ?_ | refine awp_if ?_ | refine awp_ret ?_); simp only [go_sem, simprocAttr, hF, hd])
  | (with_reducible first | refine awp_seq_k fun _ _ => ?_ | refine awp_region (id := 0) [] ?_ | refine awp_region (id := 1) [1000007, 1000008] ?_ | refine awp_region (id := 2) [] ?_)
  | go_step)
 all_goals (try exact ⟨(), rfl⟩)

theorem addOH (C : World → Prop) (b k : Nat) (vals : List Value) (q : Option Nat) (V : Value) (hv : vals[k]? = some V) (xs : List Value) (rows : List (List PV)) (hl : rows.length < 1024) (x : Ch) : FnX Tryz.prog C 112 [.v (.pointer (some ⟨b, k, none⟩)), .agg x.pv] (exts [rawU b vals, rowsE 81 7 q V xs rows]) (iv 0) (fun i : Option Nat × Value × List Value => exts [rawU b (vals.set k i.2.1), rowsE 81 7 i.1 i.2.1 i.2.2 (rows ++ [x.pv])]) := by
 have hd : decide ((rows.length : Int) ≥ 1024) = false := decide_eq_false (by omega)
 have hkl : k < vals.length := (List.getElem?_eq_some_iff.1 hv).1
 refine fn_okXn Tryz.func112 Tryz.ntmps112 Tryz.results112 (by kernel_rfl) rfl (of_decide_eq_true rfl) fun F E hF hC => ?_
 simp only [go_sem, simprocAttr, hF]
 repeat (first
  | ((refine hand_eLoad (i := 0) (dd := .slice 81) rfl rfl (by decide) rfl rfl rfl (by first | assumption | rfl) Tryz.underlying31 rfl ?_); simp only [go_sem, simprocAttr, hF, hd, Av.sopJ])
  | ((refine hand_eStore (i := 0) rfl rfl rfl rfl rfl rfl (by first | assumption | (simp only [List.length_set, List.length_cons]; omega)) (by first | assumption | rfl) (by first | assumption | rfl) Tryz.sz31 ?_); simp only [go_sem, simprocAttr, hF, hd, Av.sopJ])
  | ((refine hand_eLen (i := 1) rfl rfl (by decide) Tryz.underlying31 rfl rfl rfl ?_); simp only [go_sem, simprocAttr, hF, hd, Av.sopJ])
  | ((refine hand_eApp (i := 1) (e := 81) (sz := 7) rfl rfl (by decide) Tryz.underlying31 (by kernel_rfl) rfl rfl rfl rfl (by first | assumption | (simp only [List.length_cons, List.length_nil]; omega)) (fun q2 V2 xs2 hc2 ho2 => ?_)); simp only [go_sem, simprocAttr, hF, hd, Av.sopJ])
  | ((with_reducible first | refine sopsJ_go ?_ | refine sopsJ_end ?_); simp only [go_sem, simprocAttr, hF, hd, Av.sopJ])
  | (refine awp_floatJ (id := 3) [13, 1000013, 1000016] 6 [(6, 0)] (by kernel_rfl) (by kernel_rfl) (by kernel_rfl) rfl rfl (fun bx0 hbx => ?_); (try dsimp only [Av.addWs, Av.addW, List.modify_succ_cons, List.modify_zero_cons, List.push_toArray, List.cons_append, List.nil_append, List.take, List.drop]))
  | ((refine ⟨_, handq_eLoad (i := 0) (dd := .slice 81) rfl rfl (by decide) rfl rfl rfl (by first | assumption | rfl) Tryz.underlying31 rfl, rfl, ?_⟩); simp only [go_sem, simprocAttr, hF, hd, hbx])
  | ((with_reducible refine headW_go ?_); simp only [go_sem, simprocAttr, hF, hd, hbx])
  | ((with_reducible first | refine sops_go ?_ | refine sops_end ?_ | refine awp_if ?_ | refine awp_skip ?_ | refine awp_ret ?_); simp only [go_sem, simprocAttr, hF, hd])
  | (with_reducible first | refine awp_seq_k fun _ _ => ?_ | refine awp_region (id := 0) [] ?_ | refine awp_region (id := 1) [1000007, 1000008] ?_ | refine awp_region (id := 4) [] ?_)
  | go_step)
 exact ⟨(q2, V2, xs2), rfl⟩

theorem addFW (C : World → Prop) (b k : Nat) (vals : List Value) (q : Option Nat) (V : Value) (hv : vals[k]? = some V) (xs : List Value) (rows : List (List PV)) (hl : 1024 ≤ rows.length) (x : Wk) : FnX Tryz.prog C 113 [.v (.pointer (some ⟨b, k, none⟩)), .agg x.pv] (exts [rawU b vals, rowsE 83 5 q V xs rows]) (iv 8) (fun _ : Unit => exts [rawU b vals, rowsE 83 5 q V xs rows]) := by
 have hd : decide ((rows.length : Int) ≥ 1024) = true := decide_eq_true (by omega)
 refine fn_okXn Tryz.func113 Tryz.ntmps113 Tryz.results113 (by kernel_rfl) rfl (of_decide_eq_true rfl) fun F E hF hC => ?_
 simp only [go_sem, simprocAttr, hF]
 repeat (first
  | ((first | refine hand_eLoad (i := 0) (dd := .slice 83) rfl rfl (by decide) rfl rfl rfl (by first | assumption | rfl) Tryz.underlying32 rfl ?_ | refine hand_eLen (i := 1) rfl rfl (by decide) Tryz.underlying32 rfl rfl rfl ?_); simp only [go_sem, simprocAttr, hF, hd, Av.sopJ])
  | ((with_reducible first | refine sops_go ?_ | refine sops_end ?_ | refine awp_if ?_ | refine awp_ret ?_); simp only [go_sem, simprocAttr, hF, hd])
  | (with_reducible first | refine awp_seq_k fun _ _ => ?_ | refine awp_region (id := 0) [] ?_ | refine awp_region (id := 1) [1000007, 1000008] ?_ | refine awp_region (id := 2) [] ?_)
  | go_step)
 all_goals (try exact ⟨(), rfl⟩)

theorem addOW (C : World → Prop) (b k : Nat) (vals : List Value) (q : Option Nat) (V : Value) (hv : vals[k]? = some V) (xs : List Value) (rows : List (List PV)) (hl : rows.length < 1024) (x : Wk) : FnX Tryz.prog C 113 [.v (.pointer (some ⟨b, k, none⟩)), .agg x.pv] (exts [rawU b vals, rowsE 83 5 q V xs rows]) (iv 0) (fun i : Option Nat × Value × List Value => exts [rawU b (vals.set k i.2.1), rowsE 83 5 i.1 i.2.1 i.2.2 (rows ++ [x.pv])]) := by
 have hd : decide ((rows.length : Int) ≥ 1024) = false := decide_eq_false (by omega)
 have hkl : k < vals.length := (List.getElem?_eq_some_iff.1 hv).1
 refine fn_okXn Tryz.func113 Tryz.ntmps113 Tryz.results113 (by kernel_rfl) rfl (of_decide_eq_true rfl) fun F E hF hC => ?_
 simp only [go_sem, simprocAttr, hF]
 repeat (first
  | ((refine hand_eLoad (i := 0) (dd := .slice 83) rfl rfl (by decide) rfl rfl rfl (by first | assumption | rfl) Tryz.underlying32 rfl ?_); simp only [go_sem, simprocAttr, hF, hd, Av.sopJ])
  | ((refine hand_eStore (i := 0) rfl rfl rfl rfl rfl rfl (by first | assumption | (simp only [List.length_set, List.length_cons]; omega)) (by first | assumption | rfl) (by first | assumption | rfl) Tryz.sz32 ?_); simp only [go_sem, simprocAttr, hF, hd, Av.sopJ])
  | ((refine hand_eLen (i := 1) rfl rfl (by decide) Tryz.underlying32 rfl rfl rfl ?_); simp only [go_sem, simprocAttr, hF, hd, Av.sopJ])
  | ((refine hand_eApp (i := 1) (e := 83) (sz := 5) rfl rfl (by decide) Tryz.underlying32 (by kernel_rfl) rfl rfl rfl rfl (by first | assumption | (simp only [List.length_cons, List.length_nil]; omega)) (fun q2 V2 xs2 hc2 ho2 => ?_)); simp only [go_sem, simprocAttr, hF, hd, Av.sopJ])
  | ((with_reducible first | refine sopsJ_go ?_ | refine sopsJ_end ?_); simp only [go_sem, simprocAttr, hF, hd, Av.sopJ])
  | (refine awp_floatJ (id := 3) [13, 1000013, 1000016] 6 [(6, 0)] (by kernel_rfl) (by kernel_rfl) (by kernel_rfl) rfl rfl (fun bx0 hbx => ?_); (try dsimp only [Av.addWs, Av.addW, List.modify_succ_cons, List.modify_zero_cons, List.push_toArray, List.cons_append, List.nil_append, List.take, List.drop]))
  | ((refine ⟨_, handq_eLoad (i := 0) (dd := .slice 83) rfl rfl (by decide) rfl rfl rfl (by first | assumption | rfl) Tryz.underlying32 rfl, rfl, ?_⟩); simp only [go_sem, simprocAttr, hF, hd, hbx])
  | ((with_reducible refine headW_go ?_); simp only [go_sem, simprocAttr, hF, hd, hbx])
  | ((with_reducible first | refine sops_go ?_ | refine sops_end ?_ | refine awp_if ?_ | refine awp_skip ?_ | refine awp_ret ?_); simp only [go_sem, simprocAttr, hF, hd])
  | (with_reducible first | refine awp_seq_k fun _ _ => ?_ | refine awp_region (id := 0) [] ?_ | refine awp_region (id := 1) [1000007, 1000008] ?_ | refine awp_region (id := 4) [] ?_)
  | go_step)
 exact ⟨(q2, V2, xs2), rfl⟩

theorem addFO (C : World → Prop) (b k : Nat) (vals : List Value) (q : Option Nat) (V : Value) (hv : vals[k]? = some V) (xs : List Value) (rows : List (List PV)) (hl : 1024 ≤ rows.length) (x : Og) : FnX Tryz.prog C 114 [.v (.pointer (some ⟨b, k, none⟩)), .agg x.pv] (exts [rawU b vals, rowsE 85 3 q V xs rows]) (iv 8) (fun _ : Unit => exts [rawU b vals, rowsE 85 3 q V xs rows]) := by
 have hd : decide ((rows.length : Int) ≥ 1024) = true := decide_eq_true (by omega)
 refine fn_okXn Tryz.func114 Tryz.ntmps114 Tryz.results114 (by kernel_rfl) rfl (of_decide_eq_true rfl) fun F E hF hC => ?_
 simp only [go_sem, simprocAttr, hF]
 repeat (first
  | ((first | refine hand_eLoad (i := 0) (dd := .slice 85) rfl rfl (by decide) rfl rfl rfl (by first | assumption | rfl) Tryz.underlying33 rfl ?_ | refine hand_eLen (i := 1) rfl rfl (by decide) Tryz.underlying33 rfl rfl rfl ?_); simp only [go_sem, simprocAttr, hF, hd, Av.sopJ])
  | ((with_reducible first | refine sops_go ?_ | refine sops_end ?_ | refine awp_if ?_ | refine awp_ret ?_); simp only [go_sem, simprocAttr, hF, hd])
  | (with_reducible first | refine awp_seq_k fun _ _ => ?_ | refine awp_region (id := 0) [] ?_ | refine awp_region (id := 1) [1000007, 1000008] ?_ | refine awp_region (id := 2) [] ?_)
  | go_step)
 all_goals (try exact ⟨(), rfl⟩)

theorem addOO (C : World → Prop) (b k : Nat) (vals : List Value) (q : Option Nat) (V : Value) (hv : vals[k]? = some V) (xs : List Value) (rows : List (List PV)) (hl : rows.length < 1024) (x : Og) : FnX Tryz.prog C 114 [.v (.pointer (some ⟨b, k, none⟩)), .agg x.pv] (exts [rawU b vals, rowsE 85 3 q V xs rows]) (iv 0) (fun i : Option Nat × Value × List Value => exts [rawU b (vals.set k i.2.1), rowsE 85 3 i.1 i.2.1 i.2.2 (rows ++ [x.pv])]) := by
 have hd : decide ((rows.length : Int) ≥ 1024) = false := decide_eq_false (by omega)
 have hkl : k < vals.length := (List.getElem?_eq_some_iff.1 hv).1
 refine fn_okXn Tryz.func114 Tryz.ntmps114 Tryz.results114 (by kernel_rfl) rfl (of_decide_eq_true rfl) fun F E hF hC => ?_
 simp only [go_sem, simprocAttr, hF]
 repeat (first
  | ((refine hand_eLoad (i := 0) (dd := .slice 85) rfl rfl (by decide) rfl rfl rfl (by first | assumption | rfl) Tryz.underlying33 rfl ?_); simp only [go_sem, simprocAttr, hF, hd, Av.sopJ])
  | ((refine hand_eStore (i := 0) rfl rfl rfl rfl rfl rfl (by first | assumption | (simp only [List.length_set, List.length_cons]; omega)) (by first | assumption | rfl) (by first | assumption | rfl) Tryz.sz33 ?_); simp only [go_sem, simprocAttr, hF, hd, Av.sopJ])
  | ((refine hand_eLen (i := 1) rfl rfl (by decide) Tryz.underlying33 rfl rfl rfl ?_); simp only [go_sem, simprocAttr, hF, hd, Av.sopJ])
  | ((refine hand_eApp (i := 1) (e := 85) (sz := 3) rfl rfl (by decide) Tryz.underlying33 (by kernel_rfl) rfl rfl rfl rfl (by first | assumption | (simp only [List.length_cons, List.length_nil]; omega)) (fun q2 V2 xs2 hc2 ho2 => ?_)); simp only [go_sem, simprocAttr, hF, hd, Av.sopJ])
  | ((with_reducible first | refine sopsJ_go ?_ | refine sopsJ_end ?_); simp only [go_sem, simprocAttr, hF, hd, Av.sopJ])
  | (refine awp_floatJ (id := 3) [13, 1000013, 1000016] 6 [(6, 0)] (by kernel_rfl) (by kernel_rfl) (by kernel_rfl) rfl rfl (fun bx0 hbx => ?_); (try dsimp only [Av.addWs, Av.addW, List.modify_succ_cons, List.modify_zero_cons, List.push_toArray, List.cons_append, List.nil_append, List.take, List.drop]))
  | ((refine ⟨_, handq_eLoad (i := 0) (dd := .slice 85) rfl rfl (by decide) rfl rfl rfl (by first | assumption | rfl) Tryz.underlying33 rfl, rfl, ?_⟩); simp only [go_sem, simprocAttr, hF, hd, hbx])
  | ((with_reducible refine headW_go ?_); simp only [go_sem, simprocAttr, hF, hd, hbx])
  | ((with_reducible first | refine sops_go ?_ | refine sops_end ?_ | refine awp_if ?_ | refine awp_skip ?_ | refine awp_ret ?_); simp only [go_sem, simprocAttr, hF, hd])
  | (with_reducible first | refine awp_seq_k fun _ _ => ?_ | refine awp_region (id := 0) [] ?_ | refine awp_region (id := 1) [1000007, 1000008] ?_ | refine awp_region (id := 4) [] ?_)
  | go_step)
 exact ⟨(q2, V2, xs2), rfl⟩
/- The reader. -/
structure Hdr where
 q : Option Nat
 V : Value
 xs : List Value
structure Rd where
 x : Sn
 rank : Int
 begun : Bool
 sched : Bool
 done : Bool
structure RM where
 vp : Value
 hl : Hdr
 hm : Hdr
 vb : Value
 va : Value
 hc : Hdr
 hh : Hdr
 hw : Hdr
 ho : Hdr
 rt : Value
def rvals (R : Rd) (M : RM) : List Value :=
 [.int .i64 R.x.net.nodes, M.vp, .int .i64 R.x.net.noise, .int .i64 R.x.net.thr, M.hl.V, M.hm.V, M.vb, M.va, .int .i64 R.x.len, .int .i64 R.x.offs, M.hc.V, M.hh.V, M.hw.V, M.ho.V, .int .i64 R.x.slots, .int .i64 R.rank, .bool R.begun, .bool R.sched, .bool R.done, M.rt]
abbrev hdE (e : TypeId) (sz : Nat) (h : Hdr) (rows : List (List PV)) : Ext := rowsE e sz h.q h.V h.xs rows
def pcs (b : Nat) (R : Rd) (M : RM) (tl : List Ext) : List Ext :=
 rawU b (rvals R M) :: hdE 126 3 M.hl (R.x.net.links.map Lk.pv) :: hdE 3 1 M.hm (R.x.net.margin.map fun m => [ip m]) :: hdE 79 5 M.hc (R.x.cells.map Ce.pv) ::
 hdE 81 7 M.hh (R.x.changes.map Ch.pv) :: hdE 83 5 M.hw (R.x.weak.map Wk.pv) :: hdE 85 3 M.ho (R.x.outs.map Og.pv) :: tl

theorem cellOf_ok (a0 a1 a2 a3 a4 : Int) : FnOK Tryz.prog 111 [.sl 1 [[ip a0], [ip a1], [ip a2], [ip a3], [ip a4]]] ⟨.agg (Ce.mk a0 a1 a2 a3 a4).pv, none⟩ := by
 refine fn_ok Tryz.func111 (by kernel_rfl) rfl (by rw [Tryz.ntmps111]; exact of_decide_eq_true rfl) (fun F hF => ?_)
 rw [Tryz.ntmps111] at hF
 rw [Tryz.results111]
 repeat (first
  | ((with_reducible first | refine sops_go ?_ | refine headW_end ?_ | refine sops_end ?_ | refine awp_ret ?_); simp only [go_sem, simprocAttr, hF])
  | ((with_reducible refine headW_go ?_); simp only [go_sem, simprocAttr, hF, hbx])
  | (with_reducible first | refine awp_seq_k fun _ _ => ?_ | refine awp_region [] ?_)
  | (refine awp_draw' (id := 1) [] 16 (by kernel_rfl) (by kernel_rfl) rfl rfl (fun bx0 hbx => ?_); try dsimp only [List.take, List.drop])
  | go_step)
 all_goals (try rfl)

theorem rcellF (C : World → Prop) (b : Nat) (R : Rd) (M : RM) (tl : List Ext) (a0 a1 a2 a3 a4 : Int) (hl : 1024 ≤ R.x.cells.length) :
 FnX Tryz.prog C 70 [.v (wrP b), .sl 1 [[ip a0], [ip a1], [ip a2], [ip a3], [ip a4]]] (exts (pcs b R M tl)) (iv 8) (fun _ : Unit => exts (pcs b R M tl)) := by
 refine fn_okXn Tryz.func70 Tryz.ntmps70 Tryz.results70 (by kernel_rfl) rfl (of_decide_eq_true rfl) fun F E hF hC => ?_
 simp only [go_sem, simprocAttr, hF]
 repeat (first
  | (refine awp_floatJ (id := 1) [1000007, 1000008, 1000009, 1000012] 7 [] (by kernel_rfl) (by kernel_rfl) (by kernel_rfl) rfl rfl (fun bx0 hbx => ?_); (try dsimp only [Av.addWs, Av.addW, List.modify_succ_cons, List.modify_zero_cons, List.push_toArray, List.cons_append, List.nil_append, List.take, List.drop]))
  | ((first | refine ⟨_, handq_rawField rfl rfl (by decide) Tryz.underlying94 rfl (m := 14) rfl rfl, rfl, ?_⟩ | refine ⟨_, handq_rawField rfl rfl (by decide) Tryz.underlying35 rfl (m := 2) rfl rfl, rfl, ?_⟩ | refine ⟨_, handq_rawField rfl rfl (by decide) Tryz.underlying30 rfl (m := 0) rfl rfl, rfl, ?_⟩); simp only [go_sem, simprocAttr, hF, hbx])
  | ((with_reducible refine headW_go ?_); simp only [go_sem, simprocAttr, hF, hbx])
  | ((with_reducible first | refine sops_go ?_ | refine sops_end ?_); simp only [go_sem, simprocAttr, hF])
  | (with_reducible first | refine awp_seq_k fun _ _ => ?_ | refine awp_region (id := 0) [] ?_)
  | go_step)
 refine ⟨_, cellOf_ok a0 a1 a2 a3 a4, ?_⟩
 simp only [go_sem, simprocAttr, hF, Av.sopJ, hbx]
 repeat (first
  | ((with_reducible refine sopsJ_go ?_); simp only [go_sem, simprocAttr, hF, Av.sopJ])
  | ((with_reducible refine headW_end ?_); simp only [go_sem, simprocAttr, hF, Av.sopJ]))
 refine hand_call2 (i := 0) (j := 3) (addFC C b 10 (rvals R M) M.hc.q M.hc.V rfl M.hc.xs _ (by rw [List.length_map]; omega) ⟨a0, a1, a2, a3, a4⟩) E rfl rfl rfl (by decide) hC rfl rfl (by decide) rfl rfl (fun i => ?_)
 simp only [go_sem, simprocAttr, hF, Av.sopJ]
 repeat (first
  | ((with_reducible first | refine sopsJ_go ?_ | refine sopsJ_end ?_); simp only [go_sem, simprocAttr, hF, Av.sopJ])
  | (with_reducible refine awp_ret ?_; simp only [go_sem, simprocAttr, hF])
  | go_step)
 all_goals (first | rfl | exact ⟨(), rfl⟩)

theorem rcellO (C : World → Prop) (b : Nat) (R : Rd) (M : RM) (tl : List Ext) (a0 a1 a2 a3 a4 : Int) (hl : R.x.cells.length < 1024) :
 FnX Tryz.prog C 70 [.v (wrP b), .sl 1 [[ip a0], [ip a1], [ip a2], [ip a3], [ip a4]]] (exts (pcs b R M tl)) (iv 0) (fun i : Hdr => exts (pcs b { R with x := { R.x with cells := R.x.cells ++ [⟨a0, a1, a2, a3, a4⟩] } } { M with hc := i } tl)) := by
 refine fn_okXn Tryz.func70 Tryz.ntmps70 Tryz.results70 (by kernel_rfl) rfl (of_decide_eq_true rfl) fun F E hF hC => ?_
 simp only [go_sem, simprocAttr, hF]
 repeat (first
  | (refine awp_floatJ (id := 1) [1000007, 1000008, 1000009, 1000012] 7 [] (by kernel_rfl) (by kernel_rfl) (by kernel_rfl) rfl rfl (fun bx0 hbx => ?_); (try dsimp only [Av.addWs, Av.addW, List.modify_succ_cons, List.modify_zero_cons, List.push_toArray, List.cons_append, List.nil_append, List.take, List.drop]))
  | ((first | refine ⟨_, handq_rawField rfl rfl (by decide) Tryz.underlying94 rfl (m := 14) rfl rfl, rfl, ?_⟩ | refine ⟨_, handq_rawField rfl rfl (by decide) Tryz.underlying35 rfl (m := 2) rfl rfl, rfl, ?_⟩ | refine ⟨_, handq_rawField rfl rfl (by decide) Tryz.underlying30 rfl (m := 0) rfl rfl, rfl, ?_⟩); simp only [go_sem, simprocAttr, hF, hbx])
  | ((with_reducible refine headW_go ?_); simp only [go_sem, simprocAttr, hF, hbx])
  | ((with_reducible first | refine sops_go ?_ | refine sops_end ?_); simp only [go_sem, simprocAttr, hF])
  | (with_reducible first | refine awp_seq_k fun _ _ => ?_ | refine awp_region (id := 0) [] ?_)
  | go_step)
 refine ⟨_, cellOf_ok a0 a1 a2 a3 a4, ?_⟩
 simp only [go_sem, simprocAttr, hF, Av.sopJ, hbx]
 repeat (first
  | ((with_reducible refine sopsJ_go ?_); simp only [go_sem, simprocAttr, hF, Av.sopJ])
  | ((with_reducible refine headW_end ?_); simp only [go_sem, simprocAttr, hF, Av.sopJ]))
 refine hand_call2 (i := 0) (j := 3) (addOC C b 10 (rvals R M) M.hc.q M.hc.V rfl M.hc.xs _ (by rw [List.length_map]; omega) ⟨a0, a1, a2, a3, a4⟩) E rfl rfl rfl (by decide) hC rfl rfl (by decide) rfl rfl (fun i => ?_)
 simp only [go_sem, simprocAttr, hF, Av.sopJ]
 repeat (first
  | ((with_reducible first | refine sopsJ_go ?_ | refine sopsJ_end ?_); simp only [go_sem, simprocAttr, hF, Av.sopJ])
  | (with_reducible refine awp_ret ?_; simp only [go_sem, simprocAttr, hF])
  | go_step)
 refine ⟨(⟨i.1, i.2.1, i.2.2⟩ : Hdr), ?_⟩
 simp only [pcs, List.map_append, List.map_cons, List.map_nil]
 rfl
end Go.Proofs.YtcloigoajohppaaGreatDoor
/- A reader that is being read, whole. -/
namespace Go.Proofs.YtcloigoajohppaaGreatDoor
open Go.RowKit
open Av
open Sc
set_option maxRecDepth 100000
set_option linter.unusedSimpArgs false

structure Rz where
  f : Fw
  rs : List (List Int)
  q : Option Nat
  V : Value
  xs : List Value
def Rz.vals (x : Rz) : List Value := [.int .i64 x.f.id, .int .i64 x.f.fr, .int .i64 x.f.to, .int .i64 x.f.pe, .int .i64 x.f.ph, .int .i64 x.f.dl, x.V]
def Rz.ext (x : Rz) : Ext := rowsE 68 1 x.q x.V x.xs (rsR x.rs)
structure Pz where
  row : List Int
  g : Nat
  V : Value
def Pz.ext (x : Pz) : Ext := rawR 3 1 (some x.g) x.V (x.row.map fun n => [.int .i64 n])
structure Hd where
  q : Option Nat
  V : Value
structure RX where
  R : Rd
  M : RM
  hp : Hd
  hb : Hd
  ha : Hd
  pw : List Pz
  bs : List Rz
  zs : List Rz
def RX.m (X : RX) : RM := { X.M with vp := X.hp.V, vb := X.hb.V, va := X.ha.V }
def fixX (X : RX) : List Ext := [rawR 24 1 X.hp.q X.hp.V (X.pw.map fun x => [x.V]), rawR 67 7 X.hb.q X.hb.V (X.bs.reverse.map Rz.vals), rawR 67 7 X.ha.q X.ha.V (X.zs.reverse.map Rz.vals)]
def dynX (X : RX) : List Ext := X.zs.map Rz.ext ++ (X.bs.map Rz.ext ++ X.pw.map Pz.ext)
def pcsX (b : Nat) (X : RX) : List Ext := pcs b X.R X.m (fixX X ++ dynX X)
theorem pcsX_get (b : Nat) (X : RX) (k : Nat) : (pcsX b X)[10 + k]? = (dynX X)[k]? := by
  rw [Nat.add_comm]
  rfl
theorem pcsX_row {b : Nat} {X : RX} {a : Nat} {z : Pz} (h : X.pw[a]? = some z) : (pcsX b X)[10 + (X.zs.length + (X.bs.length + a))]? = some z.ext := by
  rw [pcsX_get]
  unfold dynX
  rw [List.getElem?_append_right (by rw [List.length_map]; omega), List.length_map, show X.zs.length + (X.bs.length + a) - X.zs.length = X.bs.length + a by omega,
    List.getElem?_append_right (by rw [List.length_map]; omega), List.length_map, show X.bs.length + a - X.bs.length = a by omega, List.getElem?_map, h]
  rfl
theorem pcsX_setRow {b : Nat} {X : RX} {a : Nat} {z z' : Pz} (h : X.pw[a]? = some z) (hV : z'.V = z.V) : (pcsX b X).set (10 + (X.zs.length + (X.bs.length + a))) z'.ext = pcsX b { X with pw := X.pw.set a z' } := by
  have h1 : ((X.pw.set a z').map fun x => [x.V]) = X.pw.map fun x => [x.V] := by
    rw [List.map_set, hV]
    obtain ⟨hl, rfl⟩ := List.getElem?_eq_some_iff.1 h
    apply List.ext_getElem?
    intro j
    rw [List.getElem?_set]
    split
    · rename_i e
      subst e
      simp [hl]
    · rfl
  have h2 : dynX { X with pw := X.pw.set a z' } = (dynX X).set (X.zs.length + (X.bs.length + a)) z'.ext := by
    unfold dynX
    dsimp only
    rw [List.set_append_right _ _ (by rw [List.length_map]; omega), List.length_map, show X.zs.length + (X.bs.length + a) - X.zs.length = X.bs.length + a by omega,
      List.set_append_right _ _ (by rw [List.length_map]; omega), List.length_map, show X.bs.length + a - X.bs.length = a by omega, List.map_set]
  have h3 : fixX { X with pw := X.pw.set a z' } = fixX X := by
    unfold fixX
    dsimp only
    rw [h1]
  unfold pcsX
  rw [h2, h3, Nat.add_comm]
  rfl
def nodeB (n x : Int) : Bool := decide (n ≥ 0) && decide (n < x)
theorem node_any (n x : Int) (b : Nat) (p : Addr) (w : World) (hp : w.cell? p = some (wrP b)) (hb : w.cell? ⟨b, 0, none⟩ = some (.int .i64 x)) : Calls Tryz.prog 106 #[.int .i64 n, .pointer (some p)] w fun e w' => e = .returned (.bool (nodeB n x)) ∧ w' = w := by
  unfold wrP at hp
  cases h1 : decide (n ≥ 0)
  · have h1' : ¬ 0 ≤ n := by simpa using h1
    go_enter Tryz.func106, Tryz.ntmps106
    go_wp2
    all_goals (try go_ret)
    all_goals (first | (simp_all [nodeB]; done) | (simp_all [nodeB]; omega))
  · have h1' : 0 ≤ n := by simpa using h1
    go_enter Tryz.func106, Tryz.ntmps106
    go_wp2
    all_goals (try go_ret)
    all_goals (first | (simp_all [nodeB]; done) | (simp_all [nodeB]; omega))
theorem node_rel {F : Fr} {σ : St} {γ : Gh} {a : Act} {w : World} {E : Ext} {l : List Ext} (hr : Rel F σ γ a w) {b : Nat} {X : RX} (hE : σ.ext = E.and (exts l)) (hi : l[0]? = some (rawU b (rvals X.R X.m))) {n : Int} {v : Bool} (h : nodeB n X.R.x.net.nodes = v) :
    ∀ p, w.cell? p = some (wrP b) → Calls Tryz.prog 106 #[.int .i64 n, .pointer (some p)] w fun e w' => e = .returned (.bool v) ∧ w' = w := fun p hp => by
  obtain ⟨T, h0⟩ : ∃ T, w.heap[b]? = some (.cells (rvals X.R X.m).toArray T (0, 0)) := hr.piece hE hi
  have h9 := node_any n X.R.x.net.nodes b p w hp (by rw [cell_of_row w _ _ _ T (0, 0) h0]; rfl)
  rw [h] at h9
  exact h9
end Go.Proofs.YtcloigoajohppaaGreatDoor
/- The reader: requests. -/
namespace Go.Proofs.YtcloigoajohppaaGreatDoor
open Go.RowKit
open Av
open Sc
set_option maxRecDepth 100000
set_option linter.unusedSimpArgs false
attribute [local go_sem] Av.guardB Av.sop Av.hopx Av.hop Av.hopCall Av.hopF Av.hopB Av.evo Av.evos Av.avCells Av.loadK Av.bound Av.abin Av.aun Av.partsC Av.lfill Av.placesB Av.setAt Av.stl Av.takes Av.src Av.bxOf Av.ownOf Av.St.res Av.St.put Av.St.addBox Av.St.putOwn Av.delL Av.delS Av.look Av.lookL Av.storeSt Av.stealSt Av.St.setBox Av.keepL Av.hitB Av.snap Av.snaps Av.snapCaps Av.AV.lit Av.AV.refs Av.capRefs Av.PV.av Av.CV.av Av.startSt Av.steals Av.athen Av.ablock Av.appK Av.AllS Av.AllO Av.AllR Av.keepS Av.St.avAt Av.RetOK Av.retAll Av.retOne Av.intsOf Av.ptrB TypeDesc.isRow List.range_zero Option.some.injEq exists_eq_left' exists_eq_left exists_eq' exists_and_left exists_and_right exists_const true_and and_true and_self false_and and_false or_false false_or or_true true_or if_true if_false Bool.false_eq_true List.zipIdx_cons List.zipIdx_nil List.map_cons List.map_nil List.filter_cons List.filter_nil List.contains_cons List.contains_nil List.drop_succ_cons List.drop_zero List.take_succ_cons List.take_zero List.take_nil List.drop_nil List.length_cons List.length_nil List.cons_append List.nil_append List.append_nil List.getElem?_cons_zero List.getElem?_cons_succ List.getElem?_nil Option.bind_some Option.bind_none Option.map_some Option.map_none Option.isNone_none Option.isNone_some Option.isSome_some Option.isSome_none Bool.and_true Bool.true_and Bool.and_false Bool.false_and Bool.or_false Bool.false_or Bool.not_true Bool.not_false beq_true beq_false Bool.true_beq Bool.false_beq Loc.s.injEq Loc.b.injEq decide_true decide_false beq_self_eq_true Nat.zero_add Nat.add_zero List.getElem?_toArray List.toList_toArray List.size_toArray Value.oneCell' List.all_cons List.all_nil Value.int.injEq AV.v.injEq AV.sl.injEq AV.agg.injEq AV.ref.injEq AV.ept.injEq AV.tup.injEq Value.bool.injEq PV.v.injEq PV.sl.injEq List.isEmpty_nil List.isEmpty_cons forall_const not_true_eq_false not_false_eq_true true_implies false_implies Value.string.injEq List.length_map List.getElem?_map Int.toNat_natCast Int.natCast_nonneg List.length_append Value.cells implies_true TypeDesc.struct.injEq TypeDesc.slice.injEq TypeDesc.array.injEq List.getElem?_toArray Prod.mk.injEq and_assoc exists_false List.cons.injEq Operand.tmp.injEq ite_self AV.fnv.injEq AV.clo.injEq ne_eq eq_self Tryz.sz3 Tryz.zr3 Tryz.by3 Tryz.pl3 Tryz.is3 Tryz.underlying3 Tryz.sz4 Tryz.pl4 Tryz.is4 Tryz.underlying4 Tryz.sz9 Tryz.zr9 Tryz.underlying9 Tryz.underlying5 Tryz.underlying56 Tryz.sz24 Tryz.zr24 Tryz.by24 Tryz.underlying24 Tryz.underlying70 Tryz.underlying69 Tryz.is72 Tryz.underlying72 Tryz.zr74 Tryz.underlying74 Tryz.underlying117 Tryz.underlying182 Tryz.sz64 Tryz.zr64 Tryz.pl64 Tryz.is64 Tryz.underlying64 Tryz.sz67 Tryz.zr67 Tryz.underlying67 Tryz.sz26 Tryz.underlying26 Tryz.sz30 Tryz.underlying30 Tryz.sz126 Tryz.zr126 Tryz.underlying126 Tryz.sz79 Tryz.zr79 Tryz.pl79 Tryz.is79 Tryz.underlying79 Tryz.sz81 Tryz.zr81 Tryz.underlying81 Tryz.sz83 Tryz.zr83 Tryz.underlying83 Tryz.sz85 Tryz.zr85 Tryz.underlying85 Tryz.sz35 Tryz.zr35 Tryz.is35 Tryz.underlying35 Tryz.underlying88 Tryz.sz22 Tryz.underlying22 Tryz.sz23 Tryz.underlying23 Tryz.sz27 Tryz.underlying27 Tryz.sz28 Tryz.underlying28 Tryz.sz31 Tryz.underlying31 Tryz.sz32 Tryz.underlying32 Tryz.sz33 Tryz.underlying33 Tryz.sz65 Tryz.is65 Tryz.underlying65 Tryz.sz68 Tryz.zr68 Tryz.underlying68 Tryz.underlying46 Tryz.underlying38 Tryz.underlying94 Tryz.sz91 Tryz.underlying91 Tryz.underlying86 all_arr loc_ss arr_two arr_one ResultVar.tmp.injEq Bool.not_true Bool.not_false undef Tryz.sz92 Tryz.underlying92 Tryz.sz131 Tryz.underlying131 Tryz.sz134 Tryz.zr134 Tryz.underlying134 Tryz.underlying95 Tryz.underlying136 Fn.func.injEq Av.extSt Av.RetX List.zipIdx List.getD_cons_zero List.getD_cons_succ Sc.Fw.pv Sc.Rq.pv Sc.Ce.pv Sc.Ch.pv Sc.Wk.pv Sc.Og.pv Sc.Lk.pv Sc.Nt.pv Sc.Sn.pv Sc.rsR
theorem awp_newPiece {P : Program} {F : Fr} {c : Code} {Q : AX → St → Prop} {σ : St} {E : Ext} {l : List Ext} (e : TypeId) (sz : Nat) (l' : List Ext) (hE : σ.ext = E.and (exts l)) (hp : (rowsE e sz none (.slice none 0 0) [] [] :: l).Perm l') (h : AWp P F c Q { σ with ext := E.and (exts l') }) : AWp P F c Q σ := by
 refine awp_rowsNil e sz (awp_eqE (E' := E.and (exts l')) ?_ h)
 show EqE (σ.ext.and _) _
 rw [hE]
 exact (EqE.assoc _ _ _).trans ((EqE.refl _).congr (EqE.perm hp))
theorem newP (b : Nat) (X : RX) (D A B : List Ext) (N : Ext) : (N :: pcs b X.R X.m (D ++ (A ++ B))).Perm (pcs b X.R X.m (D ++ (A ++ N :: B))) := by
 have : ∀ D, pcs b X.R X.m D = (pcs b X.R X.m []) ++ D := fun D => rfl
 rw [this, this (D ++ (A ++ N :: B)), ← List.append_assoc, ← List.append_assoc, ← List.append_assoc, ← List.append_assoc]
 exact List.perm_middle.symm
def rqV (a0 a1 a2 a3 a4 a5 : Int) : List Value := [.int .i64 a0, .int .i64 a1, .int .i64 a2, .int .i64 a3, .int .i64 a4, .int .i64 a5, .slice none 0 0]

theorem addQO (C : World → Prop) (b k : Nat) (vals : List Value) (q : Option Nat) (V : Value) (hv : vals[k]? = some V) (rvs : List (List Value)) (hl : rvs.length < 1024) (a0 a1 a2 a3 a4 a5 : Int) : FnX Tryz.prog C 109 [.v (.pointer (some ⟨b, k, none⟩)), .agg [ip a0, ip a1, ip a2, ip a3, ip a4, ip a5, .v (.slice none 0 0)]] (exts [rawU b vals, rawR 67 7 q V rvs]) (iv 0) (fun i : Nat × Value => exts [rawU b (vals.set k i.2), rawR 67 7 (some i.1) i.2 (rvs ++ [rqV a0 a1 a2 a3 a4 a5])]) := by
 have hd : decide ((rvs.length : Int) ≥ 1024) = false := decide_eq_false (by omega)
 have hkl : k < vals.length := (List.getElem?_eq_some_iff.1 hv).1
 refine fn_okXn Tryz.func109 Tryz.ntmps109 Tryz.results109 (by kernel_rfl) rfl (of_decide_eq_true rfl) fun F E hF hC => ?_
 simp only [go_sem, simprocAttr, hF]
 repeat (first
  | ((refine hand_eLoad (i := 0) (dd := .slice 67) rfl rfl (by decide) rfl rfl rfl (by first | assumption | rfl) Tryz.underlying27 rfl ?_); simp only [go_sem, simprocAttr, hF, hd, Av.sopJ])
  | ((refine hand_eStore (i := 0) rfl rfl rfl rfl rfl rfl (by first | assumption | exact Nat.le_of_ble_eq_true rfl | (simp only [List.length_set, List.length_cons]; omega)) (by first | assumption | rfl) (by first | assumption | rfl) Tryz.sz27 ?_); simp only [go_sem, simprocAttr, hF, hd, Av.sopJ])
  | ((with_reducible first | refine sopsJ_go ?_ | refine sopsJ_end ?_ | refine headW_end ?_); simp only [go_sem, simprocAttr, hF, hd, Av.sopJ])
  | (refine awp_floatJ (id := 3) [13, 1000013, 1000016] 6 [(6, 0)] (by kernel_rfl) (by kernel_rfl) (by kernel_rfl) rfl rfl (fun bx0 hbx => ?_); (try dsimp only [Av.addWs, Av.addW, List.modify_succ_cons, List.modify_zero_cons, List.push_toArray, List.cons_append, List.nil_append, List.take, List.drop]))
  | ((refine ⟨_, handq_eLoad (i := 0) (dd := .slice 67) rfl rfl (by decide) rfl rfl rfl (by first | assumption | rfl) Tryz.underlying27 rfl, rfl, ?_⟩); simp only [go_sem, simprocAttr, hF, hd, hbx])
  | ((with_reducible refine headW_go ?_); simp only [go_sem, simprocAttr, hF, hd, hbx])
  | ((first | refine hand_vLen (i := 1) rfl rfl (by decide) Tryz.underlying27 rfl rfl rfl ?_ | refine hand_vApp (i := 1) (e := 67) (sz := 7) (vs := rqV a0 a1 a2 a3 a4 a5) rfl rfl (by decide) Tryz.underlying27 (by kernel_rfl) rfl rfl rfl rfl rfl (by omega) (fun g2 V2 hc2 ho2 => ?_)); simp only [go_sem, simprocAttr, hF, hd, Av.sopJ])
  | ((with_reducible first | refine sops_go ?_ | refine sops_end ?_ | refine awp_if ?_ | refine awp_skip ?_ | refine awp_ret ?_); simp only [go_sem, simprocAttr, hF, hd])
  | (with_reducible first | refine awp_seq_k fun _ _ => ?_ | refine awp_region (id := 0) [] ?_ | refine awp_region (id := 1) [1000007, 1000008] ?_ | refine awp_region (id := 4) [] ?_)
  | go_step)
 exact ⟨(g2, V2), rfl⟩

theorem rreqBF (C : World → Prop) (b : Nat) (X : RX) (a0 a1 a2 a3 a4 a5 : Int) (hl : 1024 ≤ X.bs.length) : FnX Tryz.prog C 67 [.v (wrP b), .v (.pointer (some ⟨b, 6, none⟩)), .sl 1 [[ip a0], [ip a1], [ip a2], [ip a3], [ip a4], [ip a5]]] (exts (pcsX b X)) (iv 8) (fun _ : Unit => exts (pcsX b X)) := by
 refine fn_okXn Tryz.func67 Tryz.ntmps67 Tryz.results67 (by kernel_rfl) rfl (of_decide_eq_true rfl) fun F E hF hC => ?_
 simp only [go_sem, simprocAttr, hF]
 repeat (first
  | ((with_reducible first | refine sopsJ_go ?_ | refine headW_end ?_); simp only [go_sem, simprocAttr, hF, Av.sopJ])
  | (refine awp_floatJ (id := 1) [1000029] 21 [] (by kernel_rfl) (by kernel_rfl) (by kernel_rfl) rfl rfl (fun bx0 hbx => ?_); (try dsimp only [Av.addWs, Av.addW, List.modify_succ_cons, List.modify_zero_cons, List.push_toArray, List.cons_append, List.nil_append, List.take, List.drop]))
  | ((with_reducible refine headW_go ?_); simp only [go_sem, simprocAttr, hF, hbx])
  | ((with_reducible first | refine sops_go ?_ | refine sops_end ?_); simp only [go_sem, simprocAttr, hF])
  | (with_reducible first | refine awp_seq_k fun _ _ => ?_ | refine awp_region (id := 0) [] ?_)
  | go_step)
 refine hand_call2 (i := 0) (j := 8) (addFQ C b 6 (rvals X.R X.m) X.hb.q X.hb.V rfl _ _ (by rw [List.length_map, List.length_map, List.length_reverse]; exact hl) ⟨a0, a1, a2, a3, a4, a5⟩) E rfl rfl rfl (by decide) hC rfl rfl (by decide) rfl rfl (fun i => ?_)
 simp only [go_sem, simprocAttr, hF, Av.sopJ]
 repeat (first
  | ((with_reducible first | refine sopsJ_go ?_ | refine sopsJ_end ?_); simp only [go_sem, simprocAttr, hF, Av.sopJ])
  | ((with_reducible first | refine sops_go ?_ | refine sops_end ?_ | refine awp_if ?_ | refine awp_skip ?_ | refine awp_ret ?_); simp only [go_sem, simprocAttr, hF])
  | (with_reducible first | refine awp_seq_k fun _ _ => ?_ | refine awp_region (id := 2) [] ?_ | refine awp_region (id := 4) [] ?_)
  | go_step)
 all_goals (first | rfl | exact ⟨(), rfl⟩)

theorem rreqBO (C : World → Prop) (b : Nat) (X : RX) (a0 a1 a2 a3 a4 a5 : Int) (hl : X.bs.length < 1024) : FnX Tryz.prog C 67 [.v (wrP b), .v (.pointer (some ⟨b, 6, none⟩)), .sl 1 [[ip a0], [ip a1], [ip a2], [ip a3], [ip a4], [ip a5]]] (exts (pcsX b X)) (iv 0) (fun i : Nat × Value => exts (pcsX b { X with hb := ⟨some i.1, i.2⟩, M := { X.M with rt := .pointer (some ⟨i.1, X.bs.length * 7 + 6, none⟩) }, bs := ⟨⟨a0, a1, a2, a3, a4, a5⟩, [], none, .slice none 0 0, []⟩ :: X.bs })) := by
 have hsub : IntKind.i64.wrap (((X.bs.reverse.length + 1 : Nat) : Int) - 1) = (X.bs.length : Int) := by
  rw [List.length_reverse, IntKind.wrap_i64]
  omega
 have hjl : X.bs.length < ((X.bs.reverse.map Rz.vals) ++ [rqV a0 a1 a2 a3 a4 a5]).length := by simp
 refine fn_okXn Tryz.func67 Tryz.ntmps67 Tryz.results67 (by kernel_rfl) rfl (of_decide_eq_true rfl) fun F E hF hC => ?_
 simp only [go_sem, simprocAttr, hF]
 refine awp_newPiece 68 1 (pcs b X.R X.m (fixX X ++ (X.zs.map Rz.ext ++ (((⟨⟨a0, a1, a2, a3, a4, a5⟩, [], none, .slice none 0 0, []⟩ : Rz) :: X.bs).map Rz.ext ++ X.pw.map Pz.ext)))) rfl (newP _ _ _ _ _ _) ?_
 repeat (first
  | ((with_reducible first | refine sopsJ_go ?_ | refine headW_end ?_); simp only [go_sem, simprocAttr, hF, hsub, Av.sopJ])
  | (refine awp_floatJ (id := 1) [1000029] 21 [] (by kernel_rfl) (by kernel_rfl) (by kernel_rfl) rfl rfl (fun bx0 hbx => ?_); (try dsimp only [Av.addWs, Av.addW, List.modify_succ_cons, List.modify_zero_cons, List.push_toArray, List.cons_append, List.nil_append, List.take, List.drop]))
  | ((with_reducible refine headW_go ?_); simp only [go_sem, simprocAttr, hF, hsub, hbx])
  | ((with_reducible first | refine sops_go ?_ | refine sops_end ?_); simp only [go_sem, simprocAttr, hF, hsub])
  | (with_reducible first | refine awp_seq_k fun _ _ => ?_ | refine awp_region (id := 0) [] ?_)
  | go_step)
 refine hand_call2 (i := 0) (j := 8) (addQO C b 6 (rvals X.R X.m) X.hb.q X.hb.V rfl (X.bs.reverse.map Rz.vals) (by rw [List.length_map, List.length_reverse]; exact hl) a0 a1 a2 a3 a4 a5) E rfl rfl rfl (by decide) hC rfl rfl (by decide) rfl rfl (fun i => ?_)
 simp only [go_sem, simprocAttr, hF, hsub, Av.sopJ]
 repeat (first
  | ((refine hand_rawField rfl rfl (by decide) Tryz.underlying94 rfl (m := 0) rfl rfl ?_); simp only [go_sem, simprocAttr, hF, hsub, Av.sopJ])
  | ((refine hand_eStore (i := 0) rfl rfl rfl rfl rfl rfl (by first | assumption | exact Nat.le_of_ble_eq_true rfl | (simp only [List.length_set, List.length_cons]; omega)) (by first | assumption | rfl) (by first | assumption | rfl) Tryz.sz92 ?_); simp only [go_sem, simprocAttr, hF, hsub, Av.sopJ])
  | ((with_reducible first | refine sopsJ_go ?_ | refine sopsJ_end ?_ | refine headW_end ?_); simp only [go_sem, simprocAttr, hF, hsub, Av.sopJ])
  | (refine awp_floatJ (id := 3) [1000035, 1000038, 1000039, 1000041, 1000042, 1000044] 11 [] (by kernel_rfl) (by kernel_rfl) (by kernel_rfl) rfl rfl (fun bx0 hbx => ?_); (try dsimp only [Av.addWs, Av.addW, List.modify_succ_cons, List.modify_zero_cons, List.push_toArray, List.cons_append, List.nil_append, List.take, List.drop]))
  | ((with_reducible refine headW_go ?_); simp only [go_sem, simprocAttr, hF, hsub, hbx])
  | ((first | refine ⟨_, handq_eLoad (i := 0) (dd := .slice 67) rfl rfl (by decide) rfl rfl rfl rfl Tryz.underlying27 rfl, rfl, ?_⟩ | refine ⟨_, handq_vLen (i := 8) rfl rfl (by decide) Tryz.underlying27 rfl rfl rfl, rfl, ?_⟩ | refine ⟨_, handq_vIndex (i := 8) (j := X.bs.length) rfl rfl (by decide) rfl rfl rfl rfl hjl Tryz.underlying27 Tryz.sz67, rfl, ?_⟩ | refine ⟨_, handq_rawField rfl rfl (by decide) Tryz.underlying67 rfl (m := 0) rfl rfl, rfl, ?_⟩); simp only [go_sem, simprocAttr, hF, hsub, hbx])
  | ((with_reducible first | refine sops_go ?_ | refine sops_end ?_ | refine awp_if ?_ | refine awp_ret ?_); simp only [go_sem, simprocAttr, hF, hsub])
  | (with_reducible first | refine awp_seq_k fun _ _ => ?_ | refine awp_region (id := 2) [] ?_ | refine awp_region (id := 4) [] ?_)
  | go_step)
 have h9 : ((⟨⟨a0, a1, a2, a3, a4, a5⟩, [], none, .slice none 0 0, []⟩ : Rz) :: X.bs).reverse.map Rz.vals = X.bs.reverse.map Rz.vals ++ [rqV a0 a1 a2 a3 a4 a5] := by rw [List.reverse_cons, List.map_append]; rfl
 refine ⟨i, ?_⟩
 unfold pcsX fixX
 dsimp only
 rw [h9]
 rfl

theorem rreqAF (C : World → Prop) (b : Nat) (X : RX) (a0 a1 a2 a3 a4 a5 : Int) (hl : 1024 ≤ X.zs.length) : FnX Tryz.prog C 67 [.v (wrP b), .v (.pointer (some ⟨b, 7, none⟩)), .sl 1 [[ip a0], [ip a1], [ip a2], [ip a3], [ip a4], [ip a5]]] (exts (pcsX b X)) (iv 8) (fun _ : Unit => exts (pcsX b X)) := by
 refine fn_okXn Tryz.func67 Tryz.ntmps67 Tryz.results67 (by kernel_rfl) rfl (of_decide_eq_true rfl) fun F E hF hC => ?_
 simp only [go_sem, simprocAttr, hF]
 repeat (first
  | ((with_reducible first | refine sopsJ_go ?_ | refine headW_end ?_); simp only [go_sem, simprocAttr, hF, Av.sopJ])
  | (refine awp_floatJ (id := 1) [1000029] 21 [] (by kernel_rfl) (by kernel_rfl) (by kernel_rfl) rfl rfl (fun bx0 hbx => ?_); (try dsimp only [Av.addWs, Av.addW, List.modify_succ_cons, List.modify_zero_cons, List.push_toArray, List.cons_append, List.nil_append, List.take, List.drop]))
  | ((with_reducible refine headW_go ?_); simp only [go_sem, simprocAttr, hF, hbx])
  | ((with_reducible first | refine sops_go ?_ | refine sops_end ?_); simp only [go_sem, simprocAttr, hF])
  | (with_reducible first | refine awp_seq_k fun _ _ => ?_ | refine awp_region (id := 0) [] ?_)
  | go_step)
 refine hand_call2 (i := 0) (j := 9) (addFQ C b 7 (rvals X.R X.m) X.ha.q X.ha.V rfl _ _ (by rw [List.length_map, List.length_map, List.length_reverse]; exact hl) ⟨a0, a1, a2, a3, a4, a5⟩) E rfl rfl rfl (by decide) hC rfl rfl (by decide) rfl rfl (fun i => ?_)
 simp only [go_sem, simprocAttr, hF, Av.sopJ]
 repeat (first
  | ((with_reducible first | refine sopsJ_go ?_ | refine sopsJ_end ?_); simp only [go_sem, simprocAttr, hF, Av.sopJ])
  | ((with_reducible first | refine sops_go ?_ | refine sops_end ?_ | refine awp_if ?_ | refine awp_skip ?_ | refine awp_ret ?_); simp only [go_sem, simprocAttr, hF])
  | (with_reducible first | refine awp_seq_k fun _ _ => ?_ | refine awp_region (id := 2) [] ?_ | refine awp_region (id := 4) [] ?_)
  | go_step)
 all_goals (first | rfl | exact ⟨(), rfl⟩)

theorem rreqAO (C : World → Prop) (b : Nat) (X : RX) (a0 a1 a2 a3 a4 a5 : Int) (hl : X.zs.length < 1024) : FnX Tryz.prog C 67 [.v (wrP b), .v (.pointer (some ⟨b, 7, none⟩)), .sl 1 [[ip a0], [ip a1], [ip a2], [ip a3], [ip a4], [ip a5]]] (exts (pcsX b X)) (iv 0) (fun i : Nat × Value => exts (pcsX b { X with ha := ⟨some i.1, i.2⟩, M := { X.M with rt := .pointer (some ⟨i.1, X.zs.length * 7 + 6, none⟩) }, zs := ⟨⟨a0, a1, a2, a3, a4, a5⟩, [], none, .slice none 0 0, []⟩ :: X.zs })) := by
 have hsub : IntKind.i64.wrap (((X.zs.reverse.length + 1 : Nat) : Int) - 1) = (X.zs.length : Int) := by
  rw [List.length_reverse, IntKind.wrap_i64]
  omega
 have hjl : X.zs.length < ((X.zs.reverse.map Rz.vals) ++ [rqV a0 a1 a2 a3 a4 a5]).length := by simp
 refine fn_okXn Tryz.func67 Tryz.ntmps67 Tryz.results67 (by kernel_rfl) rfl (of_decide_eq_true rfl) fun F E hF hC => ?_
 simp only [go_sem, simprocAttr, hF]
 refine awp_newPiece 68 1 (pcs b X.R X.m (fixX X ++ (((⟨⟨a0, a1, a2, a3, a4, a5⟩, [], none, .slice none 0 0, []⟩ : Rz) :: X.zs).map Rz.ext ++ (X.bs.map Rz.ext ++ X.pw.map Pz.ext)))) rfl (newP _ _ _ [] _ _) ?_
 repeat (first
  | ((with_reducible first | refine sopsJ_go ?_ | refine headW_end ?_); simp only [go_sem, simprocAttr, hF, hsub, Av.sopJ])
  | (refine awp_floatJ (id := 1) [1000029] 21 [] (by kernel_rfl) (by kernel_rfl) (by kernel_rfl) rfl rfl (fun bx0 hbx => ?_); (try dsimp only [Av.addWs, Av.addW, List.modify_succ_cons, List.modify_zero_cons, List.push_toArray, List.cons_append, List.nil_append, List.take, List.drop]))
  | ((with_reducible refine headW_go ?_); simp only [go_sem, simprocAttr, hF, hsub, hbx])
  | ((with_reducible first | refine sops_go ?_ | refine sops_end ?_); simp only [go_sem, simprocAttr, hF, hsub])
  | (with_reducible first | refine awp_seq_k fun _ _ => ?_ | refine awp_region (id := 0) [] ?_)
  | go_step)
 refine hand_call2 (i := 0) (j := 9) (addQO C b 7 (rvals X.R X.m) X.ha.q X.ha.V rfl (X.zs.reverse.map Rz.vals) (by rw [List.length_map, List.length_reverse]; exact hl) a0 a1 a2 a3 a4 a5) E rfl rfl rfl (by decide) hC rfl rfl (by decide) rfl rfl (fun i => ?_)
 simp only [go_sem, simprocAttr, hF, hsub, Av.sopJ]
 repeat (first
  | ((refine hand_rawField rfl rfl (by decide) Tryz.underlying94 rfl (m := 0) rfl rfl ?_); simp only [go_sem, simprocAttr, hF, hsub, Av.sopJ])
  | ((refine hand_eStore (i := 0) rfl rfl rfl rfl rfl rfl (by first | assumption | exact Nat.le_of_ble_eq_true rfl | (simp only [List.length_set, List.length_cons]; omega)) (by first | assumption | rfl) (by first | assumption | rfl) Tryz.sz92 ?_); simp only [go_sem, simprocAttr, hF, hsub, Av.sopJ])
  | ((with_reducible first | refine sopsJ_go ?_ | refine sopsJ_end ?_ | refine headW_end ?_); simp only [go_sem, simprocAttr, hF, hsub, Av.sopJ])
  | (refine awp_floatJ (id := 3) [1000035, 1000038, 1000039, 1000041, 1000042, 1000044] 11 [] (by kernel_rfl) (by kernel_rfl) (by kernel_rfl) rfl rfl (fun bx0 hbx => ?_); (try dsimp only [Av.addWs, Av.addW, List.modify_succ_cons, List.modify_zero_cons, List.push_toArray, List.cons_append, List.nil_append, List.take, List.drop]))
  | ((with_reducible refine headW_go ?_); simp only [go_sem, simprocAttr, hF, hsub, hbx])
  | ((first | refine ⟨_, handq_eLoad (i := 0) (dd := .slice 67) rfl rfl (by decide) rfl rfl rfl rfl Tryz.underlying27 rfl, rfl, ?_⟩ | refine ⟨_, handq_vLen (i := 9) rfl rfl (by decide) Tryz.underlying27 rfl rfl rfl, rfl, ?_⟩ | refine ⟨_, handq_vIndex (i := 9) (j := X.zs.length) rfl rfl (by decide) rfl rfl rfl rfl hjl Tryz.underlying27 Tryz.sz67, rfl, ?_⟩ | refine ⟨_, handq_rawField rfl rfl (by decide) Tryz.underlying67 rfl (m := 0) rfl rfl, rfl, ?_⟩); simp only [go_sem, simprocAttr, hF, hsub, hbx])
  | ((with_reducible first | refine sops_go ?_ | refine sops_end ?_ | refine awp_if ?_ | refine awp_ret ?_); simp only [go_sem, simprocAttr, hF, hsub])
  | (with_reducible first | refine awp_seq_k fun _ _ => ?_ | refine awp_region (id := 2) [] ?_ | refine awp_region (id := 4) [] ?_)
  | go_step)
 have h9 : ((⟨⟨a0, a1, a2, a3, a4, a5⟩, [], none, .slice none 0 0, []⟩ : Rz) :: X.zs).reverse.map Rz.vals = X.zs.reverse.map Rz.vals ++ [rqV a0 a1 a2 a3 a4 a5] := by rw [List.reverse_cons, List.map_append]; rfl
 refine ⟨i, ?_⟩
 unfold pcsX fixX
 dsimp only
 rw [h9]
 rfl
/- The reader: links. -/
theorem rlinkF (C : World → Prop) (b : Nat) (R : Rd) (M : RM) (tl : List Ext) (a0 a1 a2 a3 : Int) (hl : 1024 ≤ R.x.net.links.length) : FnX Tryz.prog C 65 [.v (wrP b), .sl 1 [[ip a0], [ip a1], [ip a2], [ip a3]]] (exts (pcs b R M tl)) (iv 8) (fun _ : Unit => exts (pcs b R M tl)) := by
 refine fn_okXn Tryz.func65 Tryz.ntmps65 Tryz.results65 (by kernel_rfl) rfl (of_decide_eq_true rfl) fun F E hF hC => ?_
 simp only [go_sem, simprocAttr, hF]
 repeat (first
  | ((with_reducible first | refine sopsJ_go ?_ | refine headW_end ?_); simp only [go_sem, simprocAttr, hF, Av.sopJ])
  | (refine awp_floatJ (id := 1) [1000008, 1000009, 1000010, 1000021] 15 [] (by kernel_rfl) (by kernel_rfl) (by kernel_rfl) rfl rfl (fun bx0 hbx => ?_); (try dsimp only [Av.addWs, Av.addW, List.modify_succ_cons, List.modify_zero_cons, List.push_toArray, List.cons_append, List.nil_append, List.take, List.drop]))
  | ((first | refine ⟨_, handq_rawField rfl rfl (by decide) Tryz.underlying94 rfl (m := 14) rfl rfl, rfl, ?_⟩ | refine ⟨_, handq_rawField rfl rfl (by decide) Tryz.underlying35 rfl (m := 5) rfl rfl, rfl, ?_⟩ | refine ⟨_, handq_rawField rfl rfl (by decide) Tryz.underlying26 rfl (m := 0) rfl rfl, rfl, ?_⟩); simp only [go_sem, simprocAttr, hF, hbx])
  | ((with_reducible refine headW_go ?_); simp only [go_sem, simprocAttr, hF, hbx])
  | ((with_reducible first | refine sops_go ?_ | refine sops_end ?_); simp only [go_sem, simprocAttr, hF])
  | (with_reducible first | refine awp_seq_k fun _ _ => ?_ | refine awp_region (id := 0) [] ?_)
  | go_step)
 refine hand_call2 (i := 0) (j := 1) (addFL C b 4 (rvals R M) M.hl.q M.hl.V rfl M.hl.xs _ (by rw [List.length_map]; omega) ⟨a0, a1, a2⟩) E rfl rfl rfl (by decide) hC rfl rfl (by decide) rfl rfl (fun i => ?_)
 simp only [go_sem, simprocAttr, hF, Av.sopJ]
 repeat (first
  | ((with_reducible first | refine sopsJ_go ?_ | refine sopsJ_end ?_); simp only [go_sem, simprocAttr, hF, Av.sopJ])
  | ((with_reducible first | refine sops_go ?_ | refine sops_end ?_ | refine awp_if ?_ | refine awp_ret ?_); simp only [go_sem, simprocAttr, hF])
  | (with_reducible first | refine awp_seq_k fun _ _ => ?_ | refine awp_region (id := 2) [] ?_ | refine awp_region (id := 3) [] ?_)
  | go_step)
 all_goals (first | rfl | exact ⟨(), rfl⟩)

theorem rlinkO (C : World → Prop) (b : Nat) (R : Rd) (M : RM) (tl : List Ext) (a0 a1 a2 a3 : Int) (hl : R.x.net.links.length < 1024) (hm : R.x.net.margin.length < 1024) : FnX Tryz.prog C 65 [.v (wrP b), .sl 1 [[ip a0], [ip a1], [ip a2], [ip a3]]] (exts (pcs b R M tl)) (iv 0) (fun i : Hdr × Hdr => exts (pcs b { R with x := { R.x with net := { R.x.net with links := R.x.net.links ++ [⟨a0, a1, a2⟩], margin := R.x.net.margin ++ [a3] } } } { M with hl := i.1, hm := i.2 } tl)) := by
 refine fn_okXn Tryz.func65 Tryz.ntmps65 Tryz.results65 (by kernel_rfl) rfl (of_decide_eq_true rfl) fun F E hF hC => ?_
 simp only [go_sem, simprocAttr, hF]
 repeat (first
  | ((with_reducible first | refine sopsJ_go ?_ | refine headW_end ?_); simp only [go_sem, simprocAttr, hF, Av.sopJ])
  | (refine awp_floatJ (id := 1) [1000008, 1000009, 1000010, 1000021] 15 [] (by kernel_rfl) (by kernel_rfl) (by kernel_rfl) rfl rfl (fun bx0 hbx => ?_); (try dsimp only [Av.addWs, Av.addW, List.modify_succ_cons, List.modify_zero_cons, List.push_toArray, List.cons_append, List.nil_append, List.take, List.drop]))
  | ((first | refine ⟨_, handq_rawField rfl rfl (by decide) Tryz.underlying94 rfl (m := 14) rfl rfl, rfl, ?_⟩ | refine ⟨_, handq_rawField rfl rfl (by decide) Tryz.underlying35 rfl (m := 5) rfl rfl, rfl, ?_⟩ | refine ⟨_, handq_rawField rfl rfl (by decide) Tryz.underlying26 rfl (m := 0) rfl rfl, rfl, ?_⟩); simp only [go_sem, simprocAttr, hF, hbx])
  | ((with_reducible refine headW_go ?_); simp only [go_sem, simprocAttr, hF, hbx])
  | ((with_reducible first | refine sops_go ?_ | refine sops_end ?_); simp only [go_sem, simprocAttr, hF])
  | (with_reducible first | refine awp_seq_k fun _ _ => ?_ | refine awp_region (id := 0) [] ?_)
  | go_step)
 refine hand_call2 (i := 0) (j := 1) (addOL C b 4 (rvals R M) M.hl.q M.hl.V rfl M.hl.xs _ (by rw [List.length_map]; omega) ⟨a0, a1, a2⟩) E rfl rfl rfl (by decide) hC rfl rfl (by decide) rfl rfl (fun i => ?_)
 simp only [go_sem, simprocAttr, hF, Av.sopJ]
 repeat (first
  | ((with_reducible first | refine sopsJ_go ?_ | refine sopsJ_end ?_ | refine headW_end ?_); simp only [go_sem, simprocAttr, hF, Av.sopJ])
  | (refine awp_floatJ (id := 4) [1000027, 1000028, 1000029, 1000033] 8 [] (by kernel_rfl) (by kernel_rfl) (by kernel_rfl) rfl rfl (fun bx0 hbx => ?_); (try dsimp only [Av.addWs, Av.addW, List.modify_succ_cons, List.modify_zero_cons, List.push_toArray, List.cons_append, List.nil_append, List.take, List.drop]))
  | ((first | refine ⟨_, handq_rawField rfl rfl (by decide) Tryz.underlying94 rfl (m := 14) rfl rfl, rfl, ?_⟩ | refine ⟨_, handq_rawField rfl rfl (by decide) Tryz.underlying35 rfl (m := 5) rfl rfl, rfl, ?_⟩ | refine ⟨_, handq_rawField rfl rfl (by decide) Tryz.underlying26 rfl (m := 0) rfl rfl, rfl, ?_⟩); simp only [go_sem, simprocAttr, hF, hbx])
  | ((with_reducible refine headW_go ?_); simp only [go_sem, simprocAttr, hF, hbx])
  | ((with_reducible first | refine sops_go ?_ | refine sops_end ?_ | refine awp_if ?_ | refine awp_skip ?_); simp only [go_sem, simprocAttr, hF])
  | (with_reducible first | refine awp_seq_k fun _ _ => ?_ | refine awp_region (id := 2) [] ?_)
  | go_step)
 refine hand_call2 (i := 0) (j := 2) (addOI C b 5 ((rvals R M).set 4 i.2.1) M.hm.q M.hm.V rfl M.hm.xs _ (by rw [List.length_map]; omega) a3) E rfl rfl rfl (by decide) hC rfl rfl (by decide) rfl rfl (fun i2 => ?_)
 simp only [go_sem, simprocAttr, hF, Av.sopJ]
 repeat (first
  | ((with_reducible first | refine sopsJ_go ?_ | refine sopsJ_end ?_); simp only [go_sem, simprocAttr, hF, Av.sopJ])
  | (with_reducible refine awp_ret ?_; simp only [go_sem, simprocAttr, hF])
  | go_step)
 refine ⟨((⟨i.1, i.2.1, i.2.2⟩ : Hdr), (⟨i2.1, i2.2.1, i2.2.2⟩ : Hdr)), ?_⟩
 simp only [pcs, List.map_append, List.map_cons, List.map_nil]
 rfl
end Go.Proofs.YtcloigoajohppaaGreatDoor

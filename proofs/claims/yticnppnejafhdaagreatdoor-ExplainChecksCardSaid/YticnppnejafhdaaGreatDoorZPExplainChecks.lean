import Derived.SevenTiedAt
import Derived.Test.YticnppnejafhdaaGreatDoorZ8
import Derived.Test.YticnppnejafhdaaGreatDoorTie
import Derived.Test.YticnppnejafhdaaGreatDoorCards
set_option linter.unusedVariables false
set_option linter.unusedSimpArgs false
/- ExplainChecks returns true for all networks, flows, routes, records and explanations, and leaves them as they were. No condition but that the listed tables are what the program's own initialisers make them; the card ties that to the program's text. -/
namespace Go.Proofs.YticnppnejafhdaaGreatDoor.explainChecks
open Go.ChangeShapes Go.WideShapes Go.ChangeAt Go.RowKit Go.Proofs.YticnppnejafhdaaGreatDoor
open Av

set_option maxRecDepth 100000 in
theorem lifted (os : Os) (started : os.Started) (H : Type) (enc : TypeId × Value → H) :
    ReturnsInHanded {} Tryz.checked os 4 .any (fun w args => (Rows.explainChecksSpec.pre enc Tryz.prog Tryz.f4 [] false w args ∧ laidMetH Tryz.prog laid3 w) ∧ sizedMet enc Tryz.prog Tryz.f4 (OpenSpec.ofChange Rows.explainChecksSpec) false w args)
      (Rows.explainChecksSpec.post enc Tryz.prog Tryz.f4 false true false false) := by
  refine returnsInHanded_of_change_and (C := Tryz.checked) (X := fun w _ => laidMetH Tryz.prog laid3 w) (fun _ _ _ hh h => h.of_heap hh) Tryz.own started (by kernel_rfl) Tryz.func4
    (ChangeSpec.witness_shaped (enc := enc) (C := Tryz.checked) (os := os) (X := fun w _ => laidMetH Tryz.prog laid3 w) false (World.doorLaid Tryz.prog 400 os) #[.agg #[.int .i64 0, .slice none 0 0, .int .i64 0, .int .i64 0, .slice none 0 0, .slice none 0 0], .agg #[.int .i64 0, .int .i64 0, .int .i64 0, .int .i64 0, .int .i64 0, .int .i64 0], .slice none 0 0, .agg #[.int .i64 0, .slice none 0 0, .slice none 0 0], .agg #[.int .i64 0, .int .i64 0, .int .i64 0, .slice none 0 0]] 8 rfl (World.shaped_of_RefB (by kernel_rfl) (by kernel_rfl)) (by kernel_rfl) (by kernel_rfl) (by kernel_rfl) (door_met os _)) ?_
  intro W base args ds gs before hval0 hW _ _ hL _
  have hval : ∀ (j : Nat) t v, Tryz.f4.params[j]? = some t → args[j]? = some v → Value.okWide Tryz.prog W .any base t v := hval0
  have hW' := hW
  obtain ⟨p, q, hA0, hV, rfl, hfz, hnd⟩ := hW
  have hA : DataW.TrodAll enc Tryz.prog W 0 (fun _ => true) true Tryz.f4.params.toList args.toList ds p := hA0
  rw [Tryz.params4] at hA hval
  obtain ⟨v0, vs0, d0, ds0, p0, q0, hargs, rfl, rfl, h0, rr0⟩ := trodAll_cons hA
  obtain ⟨v1, vs1, d1, ds1, p1, q1, rfl, rfl, rfl, h1, rr1⟩ := trodAll_cons rr0
  obtain ⟨v2, vs2, d2, ds2, p2, q2, rfl, rfl, rfl, h2, rr2⟩ := trodAll_cons rr1
  obtain ⟨v3, vs3, d3, ds3, p3, q3, rfl, rfl, rfl, h3, rr3⟩ := trodAll_cons rr2
  obtain ⟨v4, vs4, d4, ds4, p4, q4, rfl, rfl, rfl, h4, rr4⟩ := trodAll_cons rr3
  obtain ⟨rfl, rfl, rfl⟩ := trodAll_nil rr4
  obtain rfl : args = #[v0, v1, v2, v3, v4] := by cases args; simp_all
  obtain ⟨rfl, rfl⟩ := trodVars_none hV
  have k0 := h0
  obtain ⟨n0, b0, rep0⟩ := open_netP (hval 0 26 v0 rfl rfl) h0
  have k1 := h1
  obtain ⟨f1, rep1⟩ := open_flowP (hval 1 28 v1 rfl rfl) h1
  have k2 := h2
  obtain ⟨ps2, b2, rep2⟩ := open_routesP (hval 2 29 v2 rfl rfl) h2
  have k3 := h3
  obtain ⟨r3, rep3⟩ := open_recP (hval 3 35 v3 rfl rfl) h3
  have k4 := h4
  obtain ⟨x4, b4, rep4⟩ := open_exP (hval 4 42 v4 rfl rfl) h4
  clear hA0 hval0
  simp only [List.append_nil] at hW'
  have hlt : ∀ x ∈ p0 ++ (p1 ++ (p2 ++ (p3 ++ (p4)))), x.block < W.heap.size := fun x hx => hW'.lt x (by simpa using hx)
  refine (calls_trueC (lawChecks_ok n0 f1 ps2 r3 x4 b0 b2 b4) W (tab_of_laid hL) [v0, v1, v2, v3, v4] (.cons rep0 rfl (.cons rep1 rfl (.cons rep2 rfl (.cons rep3 rfl (.cons rep4 rfl .nil)))))).mono fun e W' ⟨he, hg⟩ => ?_
  subst he
  exact ⟨_, rfl, post_of_below (pa := (p0 ++ (p1 ++ (p2 ++ (p3 ++ (p4 ++ [])))))) (pv := []) hW' (fun _ _ _ => (trodAll_cons_mk (shut_bool Tryz.underlying4 _) trodAll_mk0)) (fun sp hsp => (trodAll_cons_mk (WideElems.Trod_stays Tryz.laidOut (by kernel_rfl) (of_decide_eq_true (by kernel_rfl)) k0 (fun x hx => hg.same (hlt x (by first | (simp at hx; done) | simp [hx]))) (fun x hx => hsp x (by first | (simp at hx; done) | simp [hx]))) (trodAll_cons_mk (WideElems.Trod_stays Tryz.laidOut (by kernel_rfl) (of_decide_eq_true (by kernel_rfl)) k1 (fun x hx => hg.same (hlt x (by first | (simp at hx; done) | simp [hx]))) (fun x hx => hsp x (by first | (simp at hx; done) | simp [hx]))) (trodAll_cons_mk (WideElems.Trod_stays Tryz.laidOut (by kernel_rfl) (of_decide_eq_true (by kernel_rfl)) k2 (fun x hx => hg.same (hlt x (by first | (simp at hx; done) | simp [hx]))) (fun x hx => hsp x (by first | (simp at hx; done) | simp [hx]))) (trodAll_cons_mk (WideElems.Trod_stays Tryz.laidOut (by kernel_rfl) (of_decide_eq_true (by kernel_rfl)) k3 (fun x hx => hg.same (hlt x (by first | (simp at hx; done) | simp [hx]))) (fun x hx => hsp x (by first | (simp at hx; done) | simp [hx]))) (trodAll_cons_mk (WideElems.Trod_stays Tryz.laidOut (by kernel_rfl) (of_decide_eq_true (by kernel_rfl)) k4 (fun x hx => hg.same (hlt x (by first | (simp at hx; done) | simp [hx]))) (fun x hx => hsp x (by first | (simp at hx; done) | simp [hx]))) trodAll_mk0)))))) (fun _ _ => rfl) (by simp)
    hg (ok_one (by kernel_rfl) rfl (okWide_bool_mk Tryz.underlying4 _))⟩

theorem over : Rows.ExplainChecksSaid :=
  OpenClaim.holds_of_wide 4 Tryz.f4 rfl rfl rfl rfl rfl rfl rfl ⟨rfl, rfl, rfl, rfl, rfl⟩ rfl rfl rfl rfl rfl (by kernel_rfl) Tryz.func4 (by kernel_rfl)
    (of_decide_eq_true (by kernel_rfl)) (by unfold Func.isWrapper; first | (rw [if_pos (by decide +kernel)]; kernel_rfl) | (rw [if_neg (by decide +kernel)]; exact ⟨rfl, rfl⟩))
    (fun os started H enc _ => lifted os started H enc)
end Go.Proofs.YticnppnejafhdaaGreatDoor.explainChecks
namespace Go.Proofs.YticnppnejafhdaaGreatDoor
theorem explainChecks_card : Rows.ExplainChecksCardSaid :=
  Claim7.holds_tied_plain_at .later [] [.data, .data, .data] true Rows.explainChecksCard.stood.harness true
    explainChecks.over (fun _ h => by cases h) (by kernel_rfl) (fun _ h => by cases h) explainChecks_row_tie rfl ⟨rfl, rfl⟩ (by kernel_rfl) rfl
    (fun f fn hf hfn => by
      obtain rfl : f = 4 := Option.some.inj ((show Tryz.prog.funcNamed "hopmesh/hopmeshlaw57.ExplainChecks" = some 4 by kernel_rfl).symm.trans hf) |>.symm
      obtain rfl : fn = Tryz.f4 := (Option.some.inj (Tryz.func4.symm.trans hfn)).symm
      exact ⟨by kernel_rfl, fun j t ht => by
        rw [Tryz.params4] at ht
        have hm : t ∈ [26, 28, 29, 35, 42] := by simpa using Array.mem_of_getElem? ht
        have hall : ([26, 28, 29, 35, 42].all fun u => !Tryz.prog.wantsStandIn u) = true := by kernel_rfl
        exact (show Tryz.prog.wantsStandIn t = false by simpa using List.all_eq_true.1 hall t hm)⟩)
    (by kernel_rfl)
#print axioms explainChecks_card
end Go.Proofs.YticnppnejafhdaaGreatDoor

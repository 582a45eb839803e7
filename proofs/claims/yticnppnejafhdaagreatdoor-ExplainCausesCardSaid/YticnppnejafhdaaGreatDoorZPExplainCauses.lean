import Derived.SevenTiedAt
import Derived.Test.YticnppnejafhdaaGreatDoorZ13
import Derived.Test.YticnppnejafhdaaGreatDoorTie
import Derived.Test.YticnppnejafhdaaGreatDoorCards
set_option linter.unusedVariables false
set_option linter.unusedSimpArgs false
/- ExplainCauses returns true for all networks, flows, records and numbers, and leaves them as they were. No condition but that the listed tables are what the program's own initialisers make them; the card ties that to the program's text. -/
namespace Go.Proofs.YticnppnejafhdaaGreatDoor.explainCauses
open Go.ChangeShapes Go.WideShapes Go.ChangeAt Go.RowKit Go.Proofs.YticnppnejafhdaaGreatDoor
open Av

set_option maxRecDepth 100000 in
theorem lifted (os : Os) (started : os.Started) (H : Type) (enc : TypeId × Value → H) :
    ReturnsInHanded {} Tryz.checked os 8 .any (fun w args => (Rows.explainCausesSpec.pre enc Tryz.prog Tryz.f8 [] false w args ∧ laidMetH Tryz.prog laid3 w) ∧ sizedMet enc Tryz.prog Tryz.f8 (OpenSpec.ofChange Rows.explainCausesSpec) false w args)
      (Rows.explainCausesSpec.post enc Tryz.prog Tryz.f8 false true false false) := by
  refine returnsInHanded_of_change_and (C := Tryz.checked) (X := fun w _ => laidMetH Tryz.prog laid3 w) (fun _ _ _ hh h => h.of_heap hh) Tryz.own started (by kernel_rfl) Tryz.func8
    (ChangeSpec.witness_shaped (enc := enc) (C := Tryz.checked) (os := os) (X := fun w _ => laidMetH Tryz.prog laid3 w) false (World.doorLaid Tryz.prog 400 os) #[.agg #[.int .i64 0, .slice none 0 0, .int .i64 0, .int .i64 0, .slice none 0 0, .slice none 0 0], .agg #[.int .i64 0, .int .i64 0, .int .i64 0, .int .i64 0, .int .i64 0, .int .i64 0], .agg #[.int .i64 0, .slice none 0 0, .slice none 0 0], .int .i64 0, .int .i64 0, .int .i64 0] 8 rfl (World.shaped_of_RefB (by kernel_rfl) (by kernel_rfl)) (by kernel_rfl) (by kernel_rfl) (by kernel_rfl) (door_met os _)) ?_
  intro W base args ds gs before hval0 hW _ _ hL _
  have hval : ∀ (j : Nat) t v, Tryz.f8.params[j]? = some t → args[j]? = some v → Value.okWide Tryz.prog W .any base t v := hval0
  have hW' := hW
  obtain ⟨p, q, hA0, hV, rfl, hfz, hnd⟩ := hW
  have hA : DataW.TrodAll enc Tryz.prog W 0 (fun _ => true) true Tryz.f8.params.toList args.toList ds p := hA0
  rw [Tryz.params8] at hA hval
  obtain ⟨v0, vs0, d0, ds0, p0, q0, hargs, rfl, rfl, h0, rr0⟩ := trodAll_cons hA
  obtain ⟨v1, vs1, d1, ds1, p1, q1, rfl, rfl, rfl, h1, rr1⟩ := trodAll_cons rr0
  obtain ⟨v2, vs2, d2, ds2, p2, q2, rfl, rfl, rfl, h2, rr2⟩ := trodAll_cons rr1
  obtain ⟨v3, vs3, d3, ds3, p3, q3, rfl, rfl, rfl, h3, rr3⟩ := trodAll_cons rr2
  obtain ⟨v4, vs4, d4, ds4, p4, q4, rfl, rfl, rfl, h4, rr4⟩ := trodAll_cons rr3
  obtain ⟨v5, vs5, d5, ds5, p5, q5, rfl, rfl, rfl, h5, rr5⟩ := trodAll_cons rr4
  obtain ⟨rfl, rfl, rfl⟩ := trodAll_nil rr5
  obtain rfl : args = #[v0, v1, v2, v3, v4, v5] := by cases args; simp_all
  obtain ⟨rfl, rfl⟩ := trodVars_none hV
  have k0 := h0
  obtain ⟨n0, b0, rep0⟩ := open_netP (hval 0 26 v0 rfl rfl) h0
  have k1 := h1
  obtain ⟨f1, rep1⟩ := open_flowP (hval 1 28 v1 rfl rfl) h1
  have k2 := h2
  obtain ⟨r2, rep2⟩ := open_recP (hval 2 35 v2 rfl rfl) h2
  have k3 := h3
  obtain ⟨a3, rfl, rfl, rfl, wf3⟩ := open_int Tryz.underlying3 (hval 3 3 v3 rfl rfl) h3
  have k4 := h4
  obtain ⟨a4, rfl, rfl, rfl, wf4⟩ := open_int Tryz.underlying3 (hval 4 3 v4 rfl rfl) h4
  have k5 := h5
  obtain ⟨a5, rfl, rfl, rfl, wf5⟩ := open_int Tryz.underlying3 (hval 5 3 v5 rfl rfl) h5
  clear hA0 hval0
  simp only [List.append_nil] at hW'
  have hlt : ∀ x ∈ p0 ++ (p1 ++ (p2)), x.block < W.heap.size := fun x hx => hW'.lt x (by simpa using hx)
  refine (calls_true (lawCauses_ok n0 f1 r2 a3 a4 a5 b0) W [v0, v1, v2, .int .i64 a3, .int .i64 a4, .int .i64 a5] (.cons rep0 rfl (.cons rep1 rfl (.cons rep2 rfl (.cons rfl rfl (.cons rfl rfl (.cons rfl rfl .nil))))))).mono fun e W' ⟨he, hg⟩ => ?_
  subst he
  exact ⟨_, rfl, post_of_below (pa := (p0 ++ (p1 ++ (p2 ++ ([] ++ ([] ++ ([] ++ []))))))) (pv := []) hW' (fun _ _ _ => (trodAll_cons_mk (shut_bool Tryz.underlying4 _) trodAll_mk0)) (fun sp hsp => (trodAll_cons_mk (WideElems.Trod_stays Tryz.laidOut (by kernel_rfl) (of_decide_eq_true (by kernel_rfl)) k0 (fun x hx => hg.same (hlt x (by first | (simp at hx; done) | simp [hx]))) (fun x hx => hsp x (by first | (simp at hx; done) | simp [hx]))) (trodAll_cons_mk (WideElems.Trod_stays Tryz.laidOut (by kernel_rfl) (of_decide_eq_true (by kernel_rfl)) k1 (fun x hx => hg.same (hlt x (by first | (simp at hx; done) | simp [hx]))) (fun x hx => hsp x (by first | (simp at hx; done) | simp [hx]))) (trodAll_cons_mk (WideElems.Trod_stays Tryz.laidOut (by kernel_rfl) (of_decide_eq_true (by kernel_rfl)) k2 (fun x hx => hg.same (hlt x (by first | (simp at hx; done) | simp [hx]))) (fun x hx => hsp x (by first | (simp at hx; done) | simp [hx]))) (trodAll_cons_mk (WideElems.Trod_stays Tryz.laidOut (by kernel_rfl) (of_decide_eq_true (by kernel_rfl)) k3 (fun x hx => hg.same (hlt x (by first | (simp at hx; done) | simp [hx]))) (fun x hx => hsp x (by first | (simp at hx; done) | simp [hx]))) (trodAll_cons_mk (WideElems.Trod_stays Tryz.laidOut (by kernel_rfl) (of_decide_eq_true (by kernel_rfl)) k4 (fun x hx => hg.same (hlt x (by first | (simp at hx; done) | simp [hx]))) (fun x hx => hsp x (by first | (simp at hx; done) | simp [hx]))) (trodAll_cons_mk (WideElems.Trod_stays Tryz.laidOut (by kernel_rfl) (of_decide_eq_true (by kernel_rfl)) k5 (fun x hx => hg.same (hlt x (by first | (simp at hx; done) | simp [hx]))) (fun x hx => hsp x (by first | (simp at hx; done) | simp [hx]))) trodAll_mk0))))))) (fun _ _ => rfl) (by simp)
    hg (ok_one (by kernel_rfl) rfl (okWide_bool_mk Tryz.underlying4 _))⟩

theorem over : Rows.ExplainCausesSaid :=
  OpenClaim.holds_of_wide 8 Tryz.f8 rfl rfl rfl rfl rfl rfl rfl ⟨rfl, rfl, rfl, rfl, rfl⟩ rfl rfl rfl rfl rfl (by kernel_rfl) Tryz.func8 (by kernel_rfl)
    (of_decide_eq_true (by kernel_rfl)) (by unfold Func.isWrapper; first | (rw [if_pos (by decide +kernel)]; kernel_rfl) | (rw [if_neg (by decide +kernel)]; exact ⟨rfl, rfl⟩))
    (fun os started H enc _ => lifted os started H enc)
end Go.Proofs.YticnppnejafhdaaGreatDoor.explainCauses
namespace Go.Proofs.YticnppnejafhdaaGreatDoor
theorem explainCauses_card : Rows.ExplainCausesCardSaid :=
  Claim7.holds_tied_plain_at .later [] [.data, .data, .data] true Rows.explainCausesCard.stood.harness true
    explainCauses.over (fun _ h => by cases h) (by kernel_rfl) (fun _ h => by cases h) explainCauses_row_tie rfl ⟨rfl, rfl⟩ (by kernel_rfl) rfl
    (fun f fn hf hfn => by
      obtain rfl : f = 8 := Option.some.inj ((show Tryz.prog.funcNamed "hopmesh/hopmeshlaw57.ExplainCauses" = some 8 by kernel_rfl).symm.trans hf) |>.symm
      obtain rfl : fn = Tryz.f8 := (Option.some.inj (Tryz.func8.symm.trans hfn)).symm
      exact ⟨by kernel_rfl, fun j t ht => by
        rw [Tryz.params8] at ht
        have hm : t ∈ [26, 28, 35, 3, 3, 3] := by simpa using Array.mem_of_getElem? ht
        have hall : ([26, 28, 35, 3, 3, 3].all fun u => !Tryz.prog.wantsStandIn u) = true := by kernel_rfl
        exact (show Tryz.prog.wantsStandIn t = false by simpa using List.all_eq_true.1 hall t hm)⟩)
    (by kernel_rfl)
#print axioms explainCauses_card
end Go.Proofs.YticnppnejafhdaaGreatDoor

/- NodeSends returns true for all flows, duties, numbers and holdings, and leaves them as they were. No condition. -/
import Derived.Test.YtepamedbbbfjkaaNodOd
namespace Go.Proofs.Ytepamedbbbfjkaa.nodeSends
open Go.ChangeShapes Go.WideShapes Go.ChangeAt Go.RowKit Go.Proofs.Ytepamedbbbfjkaa

set_option maxRecDepth 100000 in
theorem lifted (os : Os) (started : os.Started) (H : Type) (enc : TypeId × Value → H) :
    ReturnsInHanded {} Try.checked os 6 .any (Rows.nodeSendsSpec.pre6 enc Try.prog Try.f6 Rows.nodeSendsRow.domain false) (Rows.nodeSendsSpec.post enc Try.prog Try.f6 false true false false) := by
  refine returnsInHanded_of_change (C := Try.checked) Try.own started (by kernel_rfl) Try.func6
    (ChangeSpec.witness6 (enc := enc) (C := Try.checked) false ⟨#[], #[.slice none 0 0, .slice none 0 0, .int .i64 0, .int .i64 0, .slice none 0 0], []⟩ 8 (by kernel_rfl) (by kernel_rfl) (by kernel_rfl) (by kernel_rfl)) ?_
  intro W base args ds gs before hval0 hW hcnd _
  have hval : ∀ (j : Nat) t v, Try.f6.params[j]? = some t → args[j]? = some v → Value.okWide Try.prog W .any base t v := hval0
  have hW' := hW
  obtain ⟨p, q, hA0, hV, rfl, hfz, hnd⟩ := hW
  have hA : DataW.TrodAll enc Try.prog W 0 (fun _ => true) true Try.f6.params.toList args.toList ds p := hA0
  rw [Try.params6] at hA hval
  obtain ⟨v0, vs0, d0, ds0, p0, q0, hargs, rfl, rfl, h0, rr0⟩ := trodAll_cons hA
  obtain ⟨v1, vs1, d1, ds1, p1, q1, rfl, rfl, rfl, h1, rr1⟩ := trodAll_cons rr0
  obtain ⟨v2, vs2, d2, ds2, p2, q2, rfl, rfl, rfl, h2, rr2⟩ := trodAll_cons rr1
  obtain ⟨v3, vs3, d3, ds3, p3, q3, rfl, rfl, rfl, h3, rr3⟩ := trodAll_cons rr2
  obtain ⟨v4, vs4, d4, ds4, p4, q4, rfl, rfl, rfl, h4, rr4⟩ := trodAll_cons rr3
  obtain ⟨rfl, rfl, rfl⟩ := trodAll_nil rr4
  obtain rfl : args = #[v0, v1, v2, v3, v4] := by cases args; simp_all
  obtain ⟨rfl, rfl⟩ := trodVars_none hV
  have k0 := h0
  obtain ⟨fs0, A0, c0, rfl, lies0, hm0, hnil0⟩ := open_flows (hval 0 22 v0 rfl rfl) h0
  have k1 := h1
  obtain ⟨l1, A1, c1, rfl, lies1, hm1, hnil1⟩ := open_duties (hval 1 54 v1 rfl rfl) h1
  have k2 := h2
  obtain ⟨a2, rfl, rfl, rfl, wf2⟩ := open_int Try.underlying3 (hval 2 3 v2 rfl rfl) h2
  have k3 := h3
  obtain ⟨a3, rfl, rfl, rfl, wf3⟩ := open_int Try.underlying3 (hval 3 3 v3 rfl rfl) h3
  have k4 := h4
  obtain ⟨l4, A4, c4, rfl, lies4, inn4, hm4, hnil4⟩ := open_holds (hval 4 23 v4 rfl rfl) h4
  clear hA0 hval0
  simp only [List.append_nil] at hW'
  have hlt : ∀ x ∈ p0 ++ (p1 ++ (p4)), x.block < W.heap.size := fun x hx => hW'.lt x (by simpa using hx)
  refine (nodeSends_walk fs0 l4 A0 A4 c0 c4 l1 A1 c1 a2 a3 W lies0 lies4 inn4 hm0 hm4 hnil0 hnil4 lies1 hm1).mono fun e W' ⟨he, hg⟩ => ?_
  subst he
  exact ⟨_, rfl, post_of_below (pa := (p0 ++ (p1 ++ ([] ++ ([] ++ (p4 ++ [])))))) (pv := []) hW' (fun _ _ _ => (trodAll_cons_mk (shut_bool Try.underlying4 _) trodAll_mk0)) (fun sp hsp => (trodAll_cons_mk (WideElems.Trod_stays Try.laidOut (by kernel_rfl) (of_decide_eq_true (by kernel_rfl)) k0 (fun x hx => hg.same (hlt x (by first | (simp at hx; done) | simp [hx]))) (fun x hx => hsp x (by first | (simp at hx; done) | simp [hx]))) (trodAll_cons_mk (WideElems.Trod_stays Try.laidOut (by kernel_rfl) (of_decide_eq_true (by kernel_rfl)) k1 (fun x hx => hg.same (hlt x (by first | (simp at hx; done) | simp [hx]))) (fun x hx => hsp x (by first | (simp at hx; done) | simp [hx]))) (trodAll_cons_mk (WideElems.Trod_stays Try.laidOut (by kernel_rfl) (of_decide_eq_true (by kernel_rfl)) k2 (fun x hx => hg.same (hlt x (by first | (simp at hx; done) | simp [hx]))) (fun x hx => hsp x (by first | (simp at hx; done) | simp [hx]))) (trodAll_cons_mk (WideElems.Trod_stays Try.laidOut (by kernel_rfl) (of_decide_eq_true (by kernel_rfl)) k3 (fun x hx => hg.same (hlt x (by first | (simp at hx; done) | simp [hx]))) (fun x hx => hsp x (by first | (simp at hx; done) | simp [hx]))) (trodAll_cons_mk (WideElems.Trod_stays Try.laidOut (by kernel_rfl) (of_decide_eq_true (by kernel_rfl)) k4 (fun x hx => hg.same (hlt x (by first | (simp at hx; done) | simp [hx]))) (fun x hx => hsp x (by first | (simp at hx; done) | simp [hx]))) trodAll_mk0)))))) (fun _ _ => rfl) (by simp)
    hg (ok_one (by kernel_rfl) rfl (okWide_bool_mk Try.underlying4 _))⟩

theorem over : Rows.nodeSendsRow.holds Try.pinned (OpenSpec.ofChange Rows.nodeSendsSpec) :=
  OpenClaim.holds_of_wide 6 Try.f6 rfl rfl rfl rfl rfl rfl rfl ⟨rfl, rfl, rfl, rfl, rfl⟩ rfl rfl rfl rfl rfl (by kernel_rfl) Try.func6 (by kernel_rfl)
    (of_decide_eq_true (by kernel_rfl)) (by unfold Func.isWrapper; first | (rw [if_pos (by decide +kernel)]; kernel_rfl) | (rw [if_neg (by decide +kernel)]; exact ⟨rfl, rfl⟩))
    (fun os started H enc _ => lifted os started H enc)
end Go.Proofs.Ytepamedbbbfjkaa.nodeSends
namespace Go.Proofs.Ytepamedbbbfjkaa
theorem nodeSends_holds : Rows.NodeSendsSaid := nodeSends.over
#print axioms nodeSends_holds
end Go.Proofs.Ytepamedbbbfjkaa

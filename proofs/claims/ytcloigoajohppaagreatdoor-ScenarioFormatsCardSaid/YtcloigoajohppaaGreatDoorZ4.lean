import Derived.Shelf.Abstract
import Derived.WalkKit
import Derived.Test.YtcloigoajohppaaGreatDoorZ3
set_option linter.unusedVariables false
set_option linter.unusedSimpArgs false
/- scenario.Format. -/
namespace Go.Proofs.YtcloigoajohppaaGreatDoor
open Go.RowKit
open Av
open Sc
set_option maxRecDepth 100000
set_option linter.unusedSimpArgs false
attribute [local go_sem] Av.guardB Av.sop Av.hopx Av.hop Av.hopCall Av.hopF Av.hopB Av.evo Av.evos Av.avCells Av.loadK Av.bound Av.abin Av.aun Av.partsC Av.lfill Av.placesB Av.setAt Av.stl Av.takes Av.src Av.bxOf Av.ownOf Av.St.res Av.St.put Av.St.addBox Av.St.putOwn Av.delL Av.delS Av.look Av.lookL Av.storeSt Av.stealSt Av.St.setBox Av.keepL Av.hitB Av.snap Av.snaps Av.snapCaps Av.AV.lit Av.AV.refs Av.capRefs Av.PV.av Av.CV.av Av.startSt Av.steals Av.athen Av.ablock Av.appK Av.AllS Av.AllO Av.AllR Av.keepS Av.St.avAt Av.RetOK Av.retAll Av.retOne Av.intsOf Av.ptrB TypeDesc.isRow List.range_zero Option.some.injEq exists_eq_left' exists_eq_left exists_eq' exists_and_left exists_and_right exists_const true_and and_true and_self false_and and_false or_false false_or or_true true_or if_true if_false Bool.false_eq_true List.zipIdx_cons List.zipIdx_nil List.map_cons List.map_nil List.filter_cons List.filter_nil List.contains_cons List.contains_nil List.drop_succ_cons List.drop_zero List.take_succ_cons List.take_zero List.take_nil List.drop_nil List.length_cons List.length_nil List.cons_append List.nil_append List.append_nil List.getElem?_cons_zero List.getElem?_cons_succ List.getElem?_nil Option.bind_some Option.bind_none Option.map_some Option.map_none Option.isNone_none Option.isNone_some Option.isSome_some Option.isSome_none Bool.and_true Bool.true_and Bool.and_false Bool.false_and Bool.or_false Bool.false_or Bool.not_true Bool.not_false beq_true beq_false Bool.true_beq Bool.false_beq Loc.s.injEq Loc.b.injEq decide_true decide_false beq_self_eq_true Nat.zero_add Nat.add_zero List.getElem?_toArray List.toList_toArray List.size_toArray Value.oneCell' List.all_cons List.all_nil Value.int.injEq AV.v.injEq AV.sl.injEq AV.agg.injEq AV.ref.injEq AV.ept.injEq AV.tup.injEq Value.bool.injEq PV.v.injEq PV.sl.injEq List.isEmpty_nil List.isEmpty_cons forall_const not_true_eq_false not_false_eq_true true_implies false_implies Value.string.injEq List.length_map List.getElem?_map Int.toNat_natCast Int.natCast_nonneg List.length_append Value.cells implies_true TypeDesc.struct.injEq TypeDesc.slice.injEq TypeDesc.array.injEq List.getElem?_toArray Prod.mk.injEq and_assoc exists_false List.cons.injEq Operand.tmp.injEq ite_self AV.fnv.injEq AV.clo.injEq ne_eq eq_self Tryz.sz3 Tryz.zr3 Tryz.by3 Tryz.pl3 Tryz.is3 Tryz.underlying3 Tryz.sz4 Tryz.zr4 Tryz.by4 Tryz.pl4 Tryz.is4 Tryz.underlying4 Tryz.sz9 Tryz.zr9 Tryz.by9 Tryz.pl9 Tryz.is9 Tryz.underlying9 Tryz.sz5 Tryz.zr5 Tryz.by5 Tryz.pl5 Tryz.is5 Tryz.underlying5 Tryz.sz56 Tryz.zr56 Tryz.by56 Tryz.pl56 Tryz.is56 Tryz.underlying56 Tryz.sz24 Tryz.zr24 Tryz.by24 Tryz.pl24 Tryz.is24 Tryz.underlying24 Tryz.sz70 Tryz.zr70 Tryz.by70 Tryz.pl70 Tryz.is70 Tryz.underlying70 Tryz.sz69 Tryz.zr69 Tryz.by69 Tryz.pl69 Tryz.is69 Tryz.underlying69 Tryz.sz72 Tryz.zr72 Tryz.by72 Tryz.pl72 Tryz.is72 Tryz.underlying72 Tryz.sz74 Tryz.zr74 Tryz.by74 Tryz.pl74 Tryz.is74 Tryz.underlying74 Tryz.sz117 Tryz.zr117 Tryz.by117 Tryz.pl117 Tryz.is117 Tryz.underlying117 Tryz.sz182 Tryz.zr182 Tryz.by182 Tryz.pl182 Tryz.is182 Tryz.underlying182 Tryz.sz64 Tryz.zr64 Tryz.by64 Tryz.pl64 Tryz.is64 Tryz.underlying64 Tryz.sz67 Tryz.zr67 Tryz.by67 Tryz.pl67 Tryz.is67 Tryz.underlying67 Tryz.sz26 Tryz.zr26 Tryz.by26 Tryz.pl26 Tryz.is26 Tryz.underlying26 Tryz.sz30 Tryz.zr30 Tryz.by30 Tryz.pl30 Tryz.is30 Tryz.underlying30 Tryz.sz126 Tryz.zr126 Tryz.by126 Tryz.pl126 Tryz.is126 Tryz.underlying126 Tryz.sz79 Tryz.zr79 Tryz.by79 Tryz.pl79 Tryz.is79 Tryz.underlying79 Tryz.sz81 Tryz.zr81 Tryz.by81 Tryz.pl81 Tryz.is81 Tryz.underlying81 Tryz.sz83 Tryz.zr83 Tryz.by83 Tryz.pl83 Tryz.is83 Tryz.underlying83 Tryz.sz85 Tryz.zr85 Tryz.by85 Tryz.pl85 Tryz.is85 Tryz.underlying85 Tryz.sz35 Tryz.zr35 Tryz.by35 Tryz.pl35 Tryz.is35 Tryz.underlying35 Tryz.sz88 Tryz.zr88 Tryz.by88 Tryz.pl88 Tryz.is88 Tryz.underlying88 Tryz.sz22 Tryz.zr22 Tryz.by22 Tryz.pl22 Tryz.is22 Tryz.underlying22 Tryz.sz23 Tryz.zr23 Tryz.by23 Tryz.pl23 Tryz.is23 Tryz.underlying23 Tryz.sz27 Tryz.zr27 Tryz.by27 Tryz.pl27 Tryz.is27 Tryz.underlying27 Tryz.sz28 Tryz.zr28 Tryz.by28 Tryz.pl28 Tryz.is28 Tryz.underlying28 Tryz.sz31 Tryz.zr31 Tryz.by31 Tryz.pl31 Tryz.is31 Tryz.underlying31 Tryz.sz32 Tryz.zr32 Tryz.by32 Tryz.pl32 Tryz.is32 Tryz.underlying32 Tryz.sz33 Tryz.zr33 Tryz.by33 Tryz.pl33 Tryz.is33 Tryz.underlying33 Tryz.sz65 Tryz.zr65 Tryz.by65 Tryz.pl65 Tryz.is65 Tryz.underlying65 Tryz.sz68 Tryz.zr68 Tryz.by68 Tryz.pl68 Tryz.is68 Tryz.underlying68 Tryz.sz46 Tryz.zr46 Tryz.by46 Tryz.pl46 Tryz.is46 Tryz.underlying46 Tryz.sz38 Tryz.zr38 Tryz.by38 Tryz.pl38 Tryz.is38 Tryz.underlying38 Tryz.sz86 Tryz.zr86 Tryz.by86 Tryz.pl86 Tryz.is86 Tryz.underlying86 all_arr loc_ss loc_sb loc_bs loc_bb arr_two arr_one rg1 rg2 rg3 rg4 rg5 rg6 rg7 rg8 ResultVar.tmp.injEq Bool.not_true Bool.not_false undef List.set_cons_zero Av.startStC Sc.Fw.pv Sc.Rq.pv Sc.Ce.pv Sc.Ch.pv Sc.Wk.pv Sc.Og.pv Sc.Lk.pv Sc.Nt.pv Sc.Sn.pv Sc.rsR
def cL (c : Ce) : Ln := (wCell, c.nums)
theorem shaped_inv {n : Nt} (h : shaped n = true) : n.power.length ≤ 32 ∧ (∀ r ∈ n.power, r.length ≤ 32) ∧ n.links.length ≤ 1024 ∧ n.links.length = n.margin.length := by
 unfold shaped at h
 simp only [Bool.and_eq_true, Bool.not_eq_true', Bool.or_eq_false_iff, decide_eq_false_iff_not, bne_eq_false_iff_eq] at h
 obtain ⟨⟨⟨⟨⟨h1, h2⟩, h3⟩, h4⟩, h5⟩, h6⟩ := h
 refine ⟨by omega, fun r hr => ?_, by omega, by omega⟩
 have := List.any_eq_false.1 h6 r hr
 simp at this
 omega

set_option maxHeartbeats 2000000 in
theorem format_okC (x : Sn) (hP : x.net.power.length ≤ 1000000) (hn : Lr (linesOf x)) (hlen : (txt (linesOf x)).length ≤ 140737488355328) : FnOKC Tryz.prog TabC 11 [.agg x.pv] ⟨.tup [.c (.v (.string (fmt x).1)), .c (ip (fmt x).2)], none⟩ := by
 refine fn_okC (C := TabC) Tryz.func11 (by kernel_rfl) rfl (by rw [Tryz.ntmps11]; exact of_decide_eq_true rfl) (fun F hF => ?_)
 rw [Tryz.ntmps11] at hF
 rw [Tryz.results11]
 repeat (first
  | ((first | with_reducible refine sops_go ?_ | with_reducible refine sops_end ?_); simp only [go_sem, simprocAttr, hF])
  | with_reducible refine awp_seq_k fun _ _ => ?_
  | (with_reducible refine awp_region [1000032, 1000036, 1000040, 1000044, 1000048, 1000057, 1000078, 1000109, 1000130, 1000147, 1000153, 1000156, 1000157, 1000160, 1000161] ?_)
  | go_step)
 refine ⟨_, shaped_ok x.net hP, ?_⟩
 simp only [go_sem, simprocAttr, hF]
 repeat ((with_reducible refine sops_go ?_; simp only [go_sem, simprocAttr, hF]))
 cases hS : shaped x.net with
 | false =>
  try simp only [go_sem, simprocAttr, hF, hS, Bool.not_false]
  repeat (first
   | ((first | with_reducible refine sops_go ?_ | with_reducible refine sops_end ?_ | with_reducible refine awp_if ?_ | with_reducible refine awp_ret ?_); simp only [go_sem, simprocAttr, hF, hS])
   | with_reducible refine awp_seq_k fun _ _ => ?_
   | (with_reducible refine awp_region [1000032, 1000036, 1000040, 1000044, 1000048, 1000057, 1000078, 1000109, 1000130, 1000147, 1000153, 1000156, 1000157, 1000160, 1000161] ?_)
   | go_step)
  all_goals (try (unfold fmt; simp only [hS, Bool.not_false, Bool.true_or, if_true]))
  all_goals (try rfl)
 | true =>
  obtain ⟨hP32, hrow, hlk, hmg⟩ := shaped_inv hS
  have hmx : mx (mx (mx (x.cells.length : Int) x.changes.length) x.weak.length) x.outs.length = max (max (max (x.cells.length : Int) x.changes.length) x.weak.length) x.outs.length := by
   simp only [mx, Int.max_def]
   repeat (first | rfl | omega | split)
  have hlx : decide (max (max (max (x.cells.length : Int) x.changes.length) x.weak.length) x.outs.length > 1024) = longX x := rfl
  try simp only [go_sem, simprocAttr, hF, hS]
  repeat ((with_reducible refine sops_go ?_; simp only [go_sem, simprocAttr, hF, hS]))
  refine hand_max4 rfl rfl (by decide) rfl rfl rfl rfl ?_
  simp only [go_sem, simprocAttr, hF, hmx, hlx]
  repeat (first
   | ((first | with_reducible refine sops_go ?_ | with_reducible refine sops_end ?_ | with_reducible refine awp_if ?_); simp only [go_sem, simprocAttr, hF, hS, hmx, hlx])
   | go_step)
  cases hL0 : longX x with
  | true =>
   try simp only [go_sem, simprocAttr, hF, hS, hL0]
   repeat (first
    | ((first | with_reducible refine sops_go ?_ | with_reducible refine sops_end ?_ | with_reducible refine awp_ret ?_); simp only [go_sem, simprocAttr, hF, hS, hL0])
    | with_reducible refine awp_seq_k fun _ _ => ?_
    | (with_reducible refine awp_region [1000032, 1000036, 1000040, 1000044, 1000048, 1000057, 1000078, 1000109, 1000130, 1000147, 1000153, 1000156, 1000157, 1000160, 1000161] ?_)
    | go_step)
   all_goals (try (unfold fmt; simp only [hS, hL0, Bool.not_true, Bool.or_true, Bool.true_or, Bool.false_or, if_true]))
   all_goals (try rfl)
  | false =>
   obtain ⟨k1, k2, k3, k4⟩ : x.cells.length ≤ 1024 ∧ x.changes.length ≤ 1024 ∧ x.weak.length ≤ 1024 ∧ x.outs.length ≤ 1024 := by
    unfold longX at hL0
    rw [decide_eq_false_iff_not] at hL0
    omega
   have hfm : fmt x = if badB x = true then (⟨#[]⟩, 1) else (⟨(txt (linesOf x)).toArray⟩, 0) := by
    unfold fmt
    simp only [hS, hL0, Bool.not_true, Bool.false_or]
   have hn1 : Lr (netL x.net) := hn.left
   have hn2 : Lr (reqL wBefore x.before) := hn.right.left
   have hn3 : Lr (reqL wAfter x.after) := hn.right.right.left
   have hn4 := hn.right.right.right
   have hn5 : Lr (x.cells.map cL) := hn4.tail.left
   have hn6 : Lr (x.changes.map chL) := hn4.tail.right.left
   have hn7 : Lr (x.weak.map wkL) := hn4.tail.right.right.left
   have hn8 : Lr (x.outs.map ogL) := hn4.tail.right.right.right.left
   have hn9 : Lr [(wSlots, [x.slots])] := hn4.tail.right.right.right.right
   have hT : txt (linesOf x) = txt (netL x.net) ++ txt (reqL wBefore x.before) ++ txt (reqL wAfter x.after) ++ lineB wSchedule [x.len, x.offs] ++ [10] ++ txt (x.cells.map cL) ++ txt (x.changes.map chL) ++ txt (x.weak.map wkL) ++ txt (x.outs.map ogL) ++ lineB wSlots [x.slots] ++ [10] := by
    unfold linesOf tailL
    simp only [txt_append, txt_cons, txt_nil, List.append_assoc, List.append_nil]
    rfl
   have hB : badB x = (farL (netL x.net) || qsBad x.before || qsBad x.after || [x.len, x.offs].any farB || farL (x.cells.map cL) || farL (x.changes.map chL) || farL (x.weak.map wkL) || farL (x.outs.map ogL) || [x.slots].any farB) := by
    unfold badB tailL
    rw [show (wSchedule, [x.len, x.offs]) :: (x.cells.map (fun c => (wCell, c.nums)) ++ (x.changes.map chL ++ (x.weak.map wkL ++ (x.outs.map ogL ++ [(wSlots, [x.slots])])))) = [(wSchedule, [x.len, x.offs])] ++ (x.cells.map cL ++ (x.changes.map chL ++ (x.weak.map wkL ++ (x.outs.map ogL ++ [(wSlots, [x.slots])])))) from rfl]
    simp only [farL_append, farL_one, Bool.or_assoc]
   have hq : (txt (netL x.net)).length + ((txt (reqL wBefore x.before)).length + ((txt (reqL wAfter x.after)).length + ((lineB wSchedule [x.len, x.offs]).length + 1 + ((txt (x.cells.map cL)).length + ((txt (x.changes.map chL)).length + ((txt (x.weak.map wkL)).length + ((txt (x.outs.map ogL)).length + ((lineB wSlots [x.slots]).length + 1)))))))) ≤ 140737488355328 := by
    rw [hT] at hlen
    simp only [List.length_append, List.length_cons, List.length_nil] at hlen
    omega
   try simp only [go_sem, simprocAttr, hF, hS, hL0]
   repeat (first
    | ((first | with_reducible refine sops_go ?_ | with_reducible refine awp_skip ?_); simp only [go_sem, simprocAttr, hF, hS, hL0])
    | with_reducible refine awp_seq_k fun _ _ => ?_
    | (with_reducible refine awp_region [1000032, 1000036, 1000040, 1000044, 1000048, 1000057, 1000078, 1000109, 1000130, 1000147, 1000153, 1000156, 1000157, 1000160, 1000161] ?_)
    | go_step)
   refine hand_boxBld (rest := [.bool false]) 5 rfl rfl (by decide) rfl (fun b => ?_)
   simp only [go_sem, simprocAttr, hF]
   repeat (first
    | ((first | with_reducible refine sops_go ?_ | with_reducible refine sops_end ?_); simp only [go_sem, simprocAttr, hF])
    | with_reducible refine awp_seq_k fun _ _ => ?_
    | (with_reducible refine awp_region [1000032, 1000036, 1000040, 1000044, 1000048, 1000057, 1000078, 1000109, 1000130, 1000147, 1000153, 1000156, 1000157, 1000160, 1000161] ?_)
    | go_step)
   refine hand_callX (wnet_okX b false false [] (.slice none 0 0) x.net (by omega) (fun r hr => Nat.le_trans (hrow r hr) (by decide)) (by omega) hmg hn1 (by simp only [List.length_nil]; omega)) (laidE TabC) rfl (fun _ h => h) rfl rfl (by decide) rfl rfl (fun V1 => ?_)
   simp only [go_sem, simprocAttr, hF, List.nil_append, Bool.false_or]
   obtain ⟨T1, hT1⟩ : ∃ T, txt (netL x.net) = T := ⟨_, rfl⟩
   obtain ⟨B1, hB1⟩ : ∃ B, farL (netL x.net) = B := ⟨_, rfl⟩
   rw [hT1] at hq
   rw [hT1, hB1]
   repeat (first
    | ((first | with_reducible refine sops_go ?_ | with_reducible refine sops_end ?_); simp only [go_sem, simprocAttr, hF])
    | with_reducible refine awp_seq_k fun _ _ => ?_
    | (with_reducible refine awp_region [1000032, 1000036, 1000040, 1000044, 1000048, 1000057, 1000078, 1000109, 1000130, 1000147, 1000153, 1000156, 1000157, 1000160, 1000161] ?_)
    | go_step)
   refine hand_callX (wreq_okX b B1 T1 V1 wBefore x.before hn2 (by omega)) (laidE TabC) rfl (fun _ h => h) rfl rfl (by decide) rfl rfl (fun V2 => ?_)
   simp only [go_sem, simprocAttr, hF]
   obtain ⟨T2, hT2⟩ : ∃ T, T1 ++ txt (reqL wBefore x.before) = T := ⟨_, rfl⟩
   obtain ⟨B2, hB2⟩ : ∃ B, (B1 || qsBad x.before) = B := ⟨_, rfl⟩
   have hl2 : T2.length = T1.length + (txt (reqL wBefore x.before)).length := by rw [← hT2, List.length_append]
   rw [hT2, hB2]
   repeat (first
    | ((first | with_reducible refine sops_go ?_ | with_reducible refine sops_end ?_); simp only [go_sem, simprocAttr, hF])
    | with_reducible refine awp_seq_k fun _ _ => ?_
    | (with_reducible refine awp_region [1000032, 1000036, 1000040, 1000044, 1000048, 1000057, 1000078, 1000109, 1000130, 1000147, 1000153, 1000156, 1000157, 1000160, 1000161] ?_)
    | go_step)
   refine hand_callX (wreq_okX b B2 T2 V2 wAfter x.after hn3 (by omega)) (laidE TabC) rfl (fun _ h => h) rfl rfl (by decide) rfl rfl (fun V3 => ?_)
   simp only [go_sem, simprocAttr, hF]
   obtain ⟨T3, hT3⟩ : ∃ T, T2 ++ txt (reqL wAfter x.after) = T := ⟨_, rfl⟩
   obtain ⟨B3, hB3⟩ : ∃ B, (B2 || qsBad x.after) = B := ⟨_, rfl⟩
   have hl3 : T3.length = T2.length + (txt (reqL wAfter x.after)).length := by rw [← hT3, List.length_append]
   rw [hT3, hB3]
   repeat (first
    | ((first | with_reducible refine sops_go ?_ | with_reducible refine sops_end ?_); simp only [go_sem, simprocAttr, hF])
    | with_reducible refine awp_seq_k fun _ _ => ?_
    | (with_reducible refine awp_region [1000032, 1000036, 1000040, 1000044, 1000048, 1000057, 1000078, 1000109, 1000130, 1000147, 1000153, 1000156, 1000157, 1000160, 1000161] ?_)
    | go_step)
   refine hand_callX (wline_okX b true B3 (T3) V3 wSchedule [x.len, x.offs] hn4.head (by omega)) (laidE TabC) rfl (fun _ h => h) rfl rfl (by decide) rfl rfl (fun V4 => ?_)
   simp only [go_sem, simprocAttr, hF]
   obtain ⟨T4, hT4⟩ : ∃ T, T3 ++ lineB wSchedule [x.len, x.offs] ++ [10] = T := ⟨_, rfl⟩
   obtain ⟨B4, hB4⟩ : ∃ B, (B3 || [x.len, x.offs].any farB) = B := ⟨_, rfl⟩
   have hl4 : T4.length = T3.length + (lineB wSchedule [x.len, x.offs]).length + 1 := by rw [← hT4, List.length_append, List.length_append]; rfl
   rw [hT4, hB4]
   repeat (first
    | ((first | with_reducible refine sops_go ?_ | with_reducible refine sops_end ?_); simp only [go_sem, simprocAttr, hF])
    | with_reducible (first | refine awp_seq_k fun _ _ => ?_ | refine awp_region [1000032, 1000036, 1000040, 1000044, 1000048, 1000057, 1000078, 1000109, 1000130, 1000147, 1000153, 1000156, 1000157, 1000160, 1000161] ?_ | refine awp_block ?_)
    | go_step)
   refine awp_loop_by (ι := {k : Nat // k ≤ x.cells.length} × Value) (fun k σ => ⟨(62, iv (k.1.1 : Int)) :: keepS [1, 4, 60, 61] σ.slot, [(1, x.pv)], [], (laidE TabC).and (wrE b (true, T4 ++ txt ((x.cells.take k.1.1).map cL), B4 || farL ((x.cells.take k.1.1).map cL)) k.2)⟩) (fun k => x.cells.length - k.1.1) (⟨0, Nat.zero_le _⟩, V4) (sub_mk ?_) (fun R5 hR5 k => ?_)
   · simp only [go_sem, simprocAttr, hF]
     repeat' (first | rfl | refine ⟨?_, ?_⟩ | (simp; done))
   obtain ⟨⟨k, hk⟩, V5⟩ := k
   dsimp only
   simp only [go_sem, simprocAttr, hF]
   by_cases hlt : k < x.cells.length
   case pos =>
    obtain ⟨y, hdk⟩ := get_of_lt hlt
    have hd : decide ((k : Int) < (x.cells.length : Int)) = true := decide_eq_true (by omega)
    have hw : IntKind.i64.wrap ((k : Int) + 1) = ((k + 1 : Nat) : Int) := by rw [IntKind.wrap_i64]; omega
    have hl3 := map_room (f := cL) (T := T4) (M := 140737488355328) hdk (by omega)
    have hn3 := map_range (f := cL) hdk hn5
    have htx := map_txt_succ (f := cL) hdk
    have hfx := map_far_succ (f := cL) hdk
    obtain ⟨T9, hT9⟩ : ∃ T9, T4 ++ txt ((x.cells.take k).map cL) = T9 := ⟨_, rfl⟩
    obtain ⟨B9, hB9⟩ : ∃ B9, (B4 || farL ((x.cells.take k).map cL)) = B9 := ⟨_, rfl⟩
    rw [hT9] at hl3
    rw [hT9, hB9]
    repeat (first
     | ((first | with_reducible refine sops_go ?_ | with_reducible refine sops_end ?_ | with_reducible refine awp_if ?_ | with_reducible refine awp_skip ?_); simp only [go_sem, simprocAttr, hF, hd, hdk])
     | with_reducible (first | refine awp_seq_k fun _ _ => ?_ | refine awp_region [1000032, 1000036, 1000040, 1000044, 1000048, 1000057, 1000078, 1000109, 1000130, 1000147, 1000153, 1000156, 1000157, 1000160, 1000161] ?_ | refine awp_block ?_)
     | go_step)
    refine hand_callX (wline_okX b true B9 (T9) V5 wCell y.nums hn3 hl3) (laidE TabC) rfl (fun _ h => h) rfl rfl (by decide) rfl rfl (fun V9 => ?_)
    simp only [go_sem, simprocAttr, hF, hd, hdk]
    repeat (first
     | ((first | with_reducible refine sops_go ?_ | with_reducible refine sops_end ?_); simp only [go_sem, simprocAttr, hF, hd, hdk, hw])
     | (with_reducible refine awp_region [1000032, 1000036, 1000040, 1000044, 1000048, 1000057, 1000078, 1000109, 1000130, 1000147, 1000153, 1000156, 1000157, 1000160, 1000161] ?_)
     | go_step)
    refine ⟨(⟨k + 1, hlt⟩, V9), by dsimp only; omega, hR5 _ _ (sub_mk ?_)⟩
    simp only [go_sem, simprocAttr, hF]
    symm
    show (laidE TabC).and (wrE b (true, T9 ++ lineB wCell y.nums ++ [10], B9 || y.nums.any farB) V9) = (laidE TabC).and (wrE b (true, T4 ++ txt ((x.cells.take (k + 1)).map cL), B4 || farL ((x.cells.take (k + 1)).map cL)) V9)
    rw [htx, hfx, ← List.append_assoc, ← Bool.or_assoc, hT9, hB9]
    simp only [List.append_assoc]
    all_goals (try rfl)
   have hd : decide ((k : Int) < (x.cells.length : Int)) = false := decide_eq_false (by omega)
   obtain rfl : k = x.cells.length := by omega
   rw [List.take_length]
   obtain ⟨T5, hT5⟩ : ∃ T, T4 ++ txt (x.cells.map cL) = T := ⟨_, rfl⟩
   obtain ⟨B5, hB5⟩ : ∃ B, (B4 || farL (x.cells.map cL)) = B := ⟨_, rfl⟩
   have hl5 : T5.length = T4.length + (txt (x.cells.map cL)).length := by rw [← hT5, List.length_append]
   rw [hT5, hB5]
   repeat (first
    | ((first | with_reducible refine sops_go ?_ | with_reducible refine sops_end ?_ | with_reducible refine awp_if ?_ | with_reducible refine awp_exit ?_); simp only [go_sem, simprocAttr, hF, hd])
    | with_reducible (first | refine awp_seq_k fun _ _ => ?_ | refine awp_region [1000032, 1000036, 1000040, 1000044, 1000048, 1000057, 1000078, 1000109, 1000130, 1000147, 1000153, 1000156, 1000157, 1000160, 1000161] ?_ | refine awp_block ?_)
    | go_step)
   skip
   refine awp_loop_by (ι := {k : Nat // k ≤ x.changes.length} × Value) (fun k σ => ⟨(83, iv (k.1.1 : Int)) :: keepS [1, 4, 81, 82] σ.slot, [(1, x.pv)], [], (laidE TabC).and (wrE b (true, T5 ++ txt ((x.changes.take k.1.1).map chL), B5 || farL ((x.changes.take k.1.1).map chL)) k.2)⟩) (fun k => x.changes.length - k.1.1) (⟨0, Nat.zero_le _⟩, V5) (sub_mk ?_) (fun R6 hR6 k => ?_)
   · simp only [go_sem, simprocAttr, hF]
     repeat' (first | rfl | refine ⟨?_, ?_⟩ | (simp; done))
   obtain ⟨⟨k, hk⟩, V6⟩ := k
   dsimp only
   simp only [go_sem, simprocAttr, hF]
   by_cases hlt : k < x.changes.length
   case pos =>
    obtain ⟨y, hdk⟩ := get_of_lt hlt
    have hd : decide ((k : Int) < (x.changes.length : Int)) = true := decide_eq_true (by omega)
    have hw : IntKind.i64.wrap ((k : Int) + 1) = ((k + 1 : Nat) : Int) := by rw [IntKind.wrap_i64]; omega
    have hl3 := map_room (f := chL) (T := T5) (M := 140737488355328) hdk (by omega)
    have hn3 := map_range (f := chL) hdk hn6
    have htx := map_txt_succ (f := chL) hdk
    have hfx := map_far_succ (f := chL) hdk
    obtain ⟨T9, hT9⟩ : ∃ T9, T5 ++ txt ((x.changes.take k).map chL) = T9 := ⟨_, rfl⟩
    obtain ⟨B9, hB9⟩ : ∃ B9, (B5 || farL ((x.changes.take k).map chL)) = B9 := ⟨_, rfl⟩
    rw [hT9] at hl3
    rw [hT9, hB9]
    cases had : y.ad with
    | true =>
     simp only [chL, had, if_true] at hl3 hn3 htx hfx
     repeat (first
      | ((first | with_reducible refine sops_go ?_ | with_reducible refine sops_end ?_ | with_reducible refine awp_if ?_ | with_reducible refine awp_skip ?_); simp only [go_sem, simprocAttr, hF, hd, hdk, had])
      | with_reducible (first | refine awp_seq_k fun _ _ => ?_ | refine awp_region [1000032, 1000036, 1000040, 1000044, 1000048, 1000057, 1000078, 1000109, 1000130, 1000147, 1000153, 1000156, 1000157, 1000160, 1000161] ?_ | refine awp_block ?_)
      | go_step)
     refine hand_callX (wline_okX b true B9 (T9) V6 wAdd (y.sl :: y.c.nums) hn3 hl3) (laidE TabC) rfl (fun _ h => h) rfl rfl (by decide) rfl rfl (fun V9 => ?_)
     simp only [go_sem, simprocAttr, hF, hd, hdk, had]
     repeat (first
      | ((first | with_reducible refine sops_go ?_ | with_reducible refine sops_end ?_); simp only [go_sem, simprocAttr, hF, hd, hdk, had, hw])
      | (with_reducible refine awp_region [1000032, 1000036, 1000040, 1000044, 1000048, 1000057, 1000078, 1000109, 1000130, 1000147, 1000153, 1000156, 1000157, 1000160, 1000161] ?_)
      | go_step)
     refine ⟨(⟨k + 1, hlt⟩, V9), by dsimp only; omega, hR6 _ _ (sub_mk ?_)⟩
     simp only [go_sem, simprocAttr, hF]
     symm
     show (laidE TabC).and (wrE b (true, T9 ++ lineB wAdd (y.sl :: y.c.nums) ++ [10], B9 || (y.sl :: y.c.nums).any farB) V9) = (laidE TabC).and (wrE b (true, T5 ++ txt ((x.changes.take (k + 1)).map chL), B5 || farL ((x.changes.take (k + 1)).map chL)) V9)
     rw [htx, hfx, ← List.append_assoc, ← Bool.or_assoc, hT9, hB9]
     simp only [List.append_assoc]
     all_goals (try rfl)
    | false =>
     simp only [chL, had, Bool.false_eq_true, if_false] at hl3 hn3 htx hfx
     repeat (first
      | ((first | with_reducible refine sops_go ?_ | with_reducible refine sops_end ?_ | with_reducible refine awp_if ?_ | with_reducible refine awp_skip ?_); simp only [go_sem, simprocAttr, hF, hd, hdk, had])
      | with_reducible (first | refine awp_seq_k fun _ _ => ?_ | refine awp_region [1000032, 1000036, 1000040, 1000044, 1000048, 1000057, 1000078, 1000109, 1000130, 1000147, 1000153, 1000156, 1000157, 1000160, 1000161] ?_ | refine awp_block ?_)
      | go_step)
     refine hand_callX (wline_okX b true B9 (T9) V6 wRemove (y.sl :: y.c.nums) hn3 hl3) (laidE TabC) rfl (fun _ h => h) rfl rfl (by decide) rfl rfl (fun V9 => ?_)
     simp only [go_sem, simprocAttr, hF, hd, hdk, had]
     repeat (first
      | ((first | with_reducible refine sops_go ?_ | with_reducible refine sops_end ?_); simp only [go_sem, simprocAttr, hF, hd, hdk, had, hw])
      | (with_reducible refine awp_region [1000032, 1000036, 1000040, 1000044, 1000048, 1000057, 1000078, 1000109, 1000130, 1000147, 1000153, 1000156, 1000157, 1000160, 1000161] ?_)
      | go_step)
     refine ⟨(⟨k + 1, hlt⟩, V9), by dsimp only; omega, hR6 _ _ (sub_mk ?_)⟩
     simp only [go_sem, simprocAttr, hF]
     symm
     show (laidE TabC).and (wrE b (true, T9 ++ lineB wRemove (y.sl :: y.c.nums) ++ [10], B9 || (y.sl :: y.c.nums).any farB) V9) = (laidE TabC).and (wrE b (true, T5 ++ txt ((x.changes.take (k + 1)).map chL), B5 || farL ((x.changes.take (k + 1)).map chL)) V9)
     rw [htx, hfx, ← List.append_assoc, ← Bool.or_assoc, hT9, hB9]
     simp only [List.append_assoc]
     all_goals (try rfl)
   have hd : decide ((k : Int) < (x.changes.length : Int)) = false := decide_eq_false (by omega)
   obtain rfl : k = x.changes.length := by omega
   rw [List.take_length]
   obtain ⟨T6, hT6⟩ : ∃ T, T5 ++ txt (x.changes.map chL) = T := ⟨_, rfl⟩
   obtain ⟨B6, hB6⟩ : ∃ B, (B5 || farL (x.changes.map chL)) = B := ⟨_, rfl⟩
   have hl6 : T6.length = T5.length + (txt (x.changes.map chL)).length := by rw [← hT6, List.length_append]
   rw [hT6, hB6]
   repeat (first
    | ((first | with_reducible refine sops_go ?_ | with_reducible refine sops_end ?_ | with_reducible refine awp_if ?_ | with_reducible refine awp_exit ?_); simp only [go_sem, simprocAttr, hF, hd])
    | with_reducible (first | refine awp_seq_k fun _ _ => ?_ | refine awp_region [1000032, 1000036, 1000040, 1000044, 1000048, 1000057, 1000078, 1000109, 1000130, 1000147, 1000153, 1000156, 1000157, 1000160, 1000161] ?_ | refine awp_block ?_)
    | go_step)
   skip
   refine awp_loop_by (ι := {k : Nat // k ≤ x.weak.length} × Value) (fun k σ => ⟨(114, iv (k.1.1 : Int)) :: keepS [1, 4, 112, 113] σ.slot, [(1, x.pv)], [], (laidE TabC).and (wrE b (true, T6 ++ txt ((x.weak.take k.1.1).map wkL), B6 || farL ((x.weak.take k.1.1).map wkL)) k.2)⟩) (fun k => x.weak.length - k.1.1) (⟨0, Nat.zero_le _⟩, V6) (sub_mk ?_) (fun R7 hR7 k => ?_)
   · simp only [go_sem, simprocAttr, hF]
     repeat' (first | rfl | refine ⟨?_, ?_⟩ | (simp; done))
   obtain ⟨⟨k, hk⟩, V7⟩ := k
   dsimp only
   simp only [go_sem, simprocAttr, hF]
   by_cases hlt : k < x.weak.length
   case pos =>
    obtain ⟨y, hdk⟩ := get_of_lt hlt
    have hd : decide ((k : Int) < (x.weak.length : Int)) = true := decide_eq_true (by omega)
    have hw : IntKind.i64.wrap ((k : Int) + 1) = ((k + 1 : Nat) : Int) := by rw [IntKind.wrap_i64]; omega
    have hl3 := map_room (f := wkL) (T := T6) (M := 140737488355328) hdk (by omega)
    have hn3 := map_range (f := wkL) hdk hn7
    have htx := map_txt_succ (f := wkL) hdk
    have hfx := map_far_succ (f := wkL) hdk
    obtain ⟨T9, hT9⟩ : ∃ T9, T6 ++ txt ((x.weak.take k).map wkL) = T9 := ⟨_, rfl⟩
    obtain ⟨B9, hB9⟩ : ∃ B9, (B6 || farL ((x.weak.take k).map wkL)) = B9 := ⟨_, rfl⟩
    rw [hT9] at hl3
    rw [hT9, hB9]
    repeat (first
     | ((first | with_reducible refine sops_go ?_ | with_reducible refine sops_end ?_ | with_reducible refine awp_if ?_ | with_reducible refine awp_skip ?_); simp only [go_sem, simprocAttr, hF, hd, hdk])
     | with_reducible (first | refine awp_seq_k fun _ _ => ?_ | refine awp_region [1000032, 1000036, 1000040, 1000044, 1000048, 1000057, 1000078, 1000109, 1000130, 1000147, 1000153, 1000156, 1000157, 1000160, 1000161] ?_ | refine awp_block ?_)
     | go_step)
    refine hand_callX (wline_okX b true B9 (T9) V7 wWeak [y.fr, y.to, y.fi, y.un, y.re] hn3 hl3) (laidE TabC) rfl (fun _ h => h) rfl rfl (by decide) rfl rfl (fun V9 => ?_)
    simp only [go_sem, simprocAttr, hF, hd, hdk]
    repeat (first
     | ((first | with_reducible refine sops_go ?_ | with_reducible refine sops_end ?_); simp only [go_sem, simprocAttr, hF, hd, hdk, hw])
     | (with_reducible refine awp_region [1000032, 1000036, 1000040, 1000044, 1000048, 1000057, 1000078, 1000109, 1000130, 1000147, 1000153, 1000156, 1000157, 1000160, 1000161] ?_)
     | go_step)
    refine ⟨(⟨k + 1, hlt⟩, V9), by dsimp only; omega, hR7 _ _ (sub_mk ?_)⟩
    simp only [go_sem, simprocAttr, hF]
    symm
    show (laidE TabC).and (wrE b (true, T9 ++ lineB wWeak [y.fr, y.to, y.fi, y.un, y.re] ++ [10], B9 || [y.fr, y.to, y.fi, y.un, y.re].any farB) V9) = (laidE TabC).and (wrE b (true, T6 ++ txt ((x.weak.take (k + 1)).map wkL), B6 || farL ((x.weak.take (k + 1)).map wkL)) V9)
    rw [htx, hfx, ← List.append_assoc, ← Bool.or_assoc, hT9, hB9]
    simp only [List.append_assoc]
    all_goals (try rfl)
   have hd : decide ((k : Int) < (x.weak.length : Int)) = false := decide_eq_false (by omega)
   obtain rfl : k = x.weak.length := by omega
   rw [List.take_length]
   obtain ⟨T7, hT7⟩ : ∃ T, T6 ++ txt (x.weak.map wkL) = T := ⟨_, rfl⟩
   obtain ⟨B7, hB7⟩ : ∃ B, (B6 || farL (x.weak.map wkL)) = B := ⟨_, rfl⟩
   have hl7 : T7.length = T6.length + (txt (x.weak.map wkL)).length := by rw [← hT7, List.length_append]
   rw [hT7, hB7]
   repeat (first
    | ((first | with_reducible refine sops_go ?_ | with_reducible refine sops_end ?_ | with_reducible refine awp_if ?_ | with_reducible refine awp_exit ?_); simp only [go_sem, simprocAttr, hF, hd])
    | with_reducible (first | refine awp_seq_k fun _ _ => ?_ | refine awp_region [1000032, 1000036, 1000040, 1000044, 1000048, 1000057, 1000078, 1000109, 1000130, 1000147, 1000153, 1000156, 1000157, 1000160, 1000161] ?_ | refine awp_block ?_)
    | go_step)
   skip
   refine awp_loop_by (ι := {k : Nat // k ≤ x.outs.length} × Value) (fun k σ => ⟨(135, iv (k.1.1 : Int)) :: keepS [1, 4, 133, 134] σ.slot, [(1, x.pv)], [], (laidE TabC).and (wrE b (true, T7 ++ txt ((x.outs.take k.1.1).map ogL), B7 || farL ((x.outs.take k.1.1).map ogL)) k.2)⟩) (fun k => x.outs.length - k.1.1) (⟨0, Nat.zero_le _⟩, V7) (sub_mk ?_) (fun R8 hR8 k => ?_)
   · simp only [go_sem, simprocAttr, hF]
     repeat' (first | rfl | refine ⟨?_, ?_⟩ | (simp; done))
   obtain ⟨⟨k, hk⟩, V8⟩ := k
   dsimp only
   simp only [go_sem, simprocAttr, hF]
   by_cases hlt : k < x.outs.length
   case pos =>
    obtain ⟨y, hdk⟩ := get_of_lt hlt
    have hd : decide ((k : Int) < (x.outs.length : Int)) = true := decide_eq_true (by omega)
    have hw : IntKind.i64.wrap ((k : Int) + 1) = ((k + 1 : Nat) : Int) := by rw [IntKind.wrap_i64]; omega
    have hl3 := map_room (f := ogL) (T := T7) (M := 140737488355328) hdk (by omega)
    have hn3 := map_range (f := ogL) hdk hn8
    have htx := map_txt_succ (f := ogL) hdk
    have hfx := map_far_succ (f := ogL) hdk
    obtain ⟨T9, hT9⟩ : ∃ T9, T7 ++ txt ((x.outs.take k).map ogL) = T9 := ⟨_, rfl⟩
    obtain ⟨B9, hB9⟩ : ∃ B9, (B7 || farL ((x.outs.take k).map ogL)) = B9 := ⟨_, rfl⟩
    rw [hT9] at hl3
    rw [hT9, hB9]
    repeat (first
     | ((first | with_reducible refine sops_go ?_ | with_reducible refine sops_end ?_ | with_reducible refine awp_if ?_ | with_reducible refine awp_skip ?_); simp only [go_sem, simprocAttr, hF, hd, hdk])
     | with_reducible (first | refine awp_seq_k fun _ _ => ?_ | refine awp_region [1000032, 1000036, 1000040, 1000044, 1000048, 1000057, 1000078, 1000109, 1000130, 1000147, 1000153, 1000156, 1000157, 1000160, 1000161] ?_ | refine awp_block ?_)
     | go_step)
    refine hand_callX (wline_okX b true B9 (T9) V8 wOutage [y.nd, y.fi, y.un] hn3 hl3) (laidE TabC) rfl (fun _ h => h) rfl rfl (by decide) rfl rfl (fun V9 => ?_)
    simp only [go_sem, simprocAttr, hF, hd, hdk]
    repeat (first
     | ((first | with_reducible refine sops_go ?_ | with_reducible refine sops_end ?_); simp only [go_sem, simprocAttr, hF, hd, hdk, hw])
     | (with_reducible refine awp_region [1000032, 1000036, 1000040, 1000044, 1000048, 1000057, 1000078, 1000109, 1000130, 1000147, 1000153, 1000156, 1000157, 1000160, 1000161] ?_)
     | go_step)
    refine ⟨(⟨k + 1, hlt⟩, V9), by dsimp only; omega, hR8 _ _ (sub_mk ?_)⟩
    simp only [go_sem, simprocAttr, hF]
    symm
    show (laidE TabC).and (wrE b (true, T9 ++ lineB wOutage [y.nd, y.fi, y.un] ++ [10], B9 || [y.nd, y.fi, y.un].any farB) V9) = (laidE TabC).and (wrE b (true, T7 ++ txt ((x.outs.take (k + 1)).map ogL), B7 || farL ((x.outs.take (k + 1)).map ogL)) V9)
    rw [htx, hfx, ← List.append_assoc, ← Bool.or_assoc, hT9, hB9]
    simp only [List.append_assoc]
    all_goals (try rfl)
   have hd : decide ((k : Int) < (x.outs.length : Int)) = false := decide_eq_false (by omega)
   obtain rfl : k = x.outs.length := by omega
   rw [List.take_length]
   obtain ⟨T8, hT8⟩ : ∃ T, T7 ++ txt (x.outs.map ogL) = T := ⟨_, rfl⟩
   obtain ⟨B8, hB8⟩ : ∃ B, (B7 || farL (x.outs.map ogL)) = B := ⟨_, rfl⟩
   have hl8 : T8.length = T7.length + (txt (x.outs.map ogL)).length := by rw [← hT8, List.length_append]
   rw [hT8, hB8]
   repeat (first
    | ((first | with_reducible refine sops_go ?_ | with_reducible refine sops_end ?_ | with_reducible refine awp_if ?_ | with_reducible refine awp_exit ?_); simp only [go_sem, simprocAttr, hF, hd])
    | with_reducible refine awp_seq_k fun _ _ => ?_
    | (with_reducible refine awp_region [1000032, 1000036, 1000040, 1000044, 1000048, 1000057, 1000078, 1000109, 1000130, 1000147, 1000153, 1000156, 1000157, 1000160, 1000161] ?_)
    | go_step)
   refine hand_callX (wline_okX b true B8 (T8) V8 wSlots [x.slots] hn9.head (by omega)) (laidE TabC) rfl (fun _ h => h) rfl rfl (by decide) rfl rfl (fun V9 => ?_)
   simp only [go_sem, simprocAttr, hF]
   obtain ⟨T9, hT9⟩ : ∃ T, T8 ++ lineB wSlots [x.slots] ++ [10] = T := ⟨_, rfl⟩
   have hTx : txt (linesOf x) = T9 := by rw [hT, ← hT9, ← hT8, ← hT7, ← hT6, ← hT5, ← hT4, ← hT3, ← hT2, ← hT1]
   have hBx : badB x = (B8 || [x.slots].any farB) := by rw [hB, ← hB8, ← hB7, ← hB6, ← hB5, ← hB4, ← hB3, ← hB2, ← hB1]
   have hne : T9 ≠ [] := by rw [← hT9]; simp
   rw [hT9, ← hBx]
   cases hb : badB x with
   | true =>
    rw [hb] at hfm
    repeat (first
     | ((first | refine hand_rawField rfl rfl (by decide) Tryz.underlying74 rfl (m := 0) rfl rfl ?_ | refine hand_bldLoad (k := 0) (dd := .bool) rfl rfl (by decide) rfl rfl rfl Tryz.underlying4 rfl ?_); simp only [go_sem, simprocAttr, hF])
     | ((first | with_reducible refine sops_go ?_ | with_reducible refine sops_end ?_ | with_reducible refine awp_if ?_ | with_reducible refine awp_ret ?_); simp only [go_sem, simprocAttr, hF])
     | with_reducible refine awp_seq_k fun _ _ => ?_
     | (with_reducible refine awp_region [1000032, 1000036, 1000040, 1000044, 1000048, 1000057, 1000078, 1000109, 1000130, 1000147, 1000153, 1000156, 1000157, 1000160, 1000161] ?_)
     | go_step)
    all_goals (try (rw [hfm]; rfl))
   | false =>
    rw [hb] at hfm
    repeat (first
     | ((first | refine hand_rawField rfl rfl (by decide) Tryz.underlying74 rfl (m := 1) rfl rfl ?_ | refine hand_rawField rfl rfl (by decide) Tryz.underlying74 rfl (m := 0) rfl rfl ?_ | refine hand_bldLoad (k := 0) (dd := .bool) rfl rfl (by decide) rfl rfl rfl Tryz.underlying4 rfl ?_); simp only [go_sem, simprocAttr, hF])
     | ((first | with_reducible refine sops_go ?_ | with_reducible refine sops_end ?_ | with_reducible refine awp_if ?_ | with_reducible refine awp_skip ?_); simp only [go_sem, simprocAttr, hF])
     | with_reducible refine awp_seq_k fun _ _ => ?_
     | (with_reducible refine awp_region [1000032, 1000036, 1000040, 1000044, 1000048, 1000057, 1000078, 1000109, 1000130, 1000147, 1000153, 1000156, 1000157, 1000160, 1000161] ?_)
     | go_step)
    refine hand_callX (string_okX TabC b true false T9 V9 hne) (laidE TabC) rfl (fun _ h => h) rfl rfl (by decide) rfl rfl (fun _ => ?_)
    simp only [go_sem, simprocAttr, hF]
    repeat (first
     | ((first | with_reducible refine sops_go ?_ | with_reducible refine sops_end ?_ | with_reducible refine awp_ret ?_); simp only [go_sem, simprocAttr, hF])
     | go_step)
    all_goals (try (rw [hfm, hTx]; rfl))
/- The reader: add. -/
attribute [local go_sem] Tryz.sz94 Tryz.zr94 Tryz.by94 Tryz.pl94 Tryz.is94 Tryz.underlying94 Tryz.sz91 Tryz.zr91 Tryz.by91 Tryz.pl91 Tryz.is91 Tryz.underlying91 Fn.func.injEq Av.extSt Av.RetX List.zipIdx List.getD_cons_zero List.getD_cons_succ
set_option maxHeartbeats 2000000 in
theorem addFL (C : World → Prop) (b k : Nat) (vals : List Value) (q : Option Nat) (V : Value) (hv : vals[k]? = some V) (xs : List Value) (rows : List (List PV)) (hl : 1024 ≤ rows.length) (x : Lk) : FnX Tryz.prog C 107 [.v (.pointer (some ⟨b, k, none⟩)), .agg x.pv] (exts [rawU b vals, rowsE 126 3 q V xs rows]) (iv 8) (fun _ : Unit => exts [rawU b vals, rowsE 126 3 q V xs rows]) := by
 have hd : decide ((rows.length : Int) ≥ 1024) = true := decide_eq_true (by omega)
 refine fn_okX Tryz.func107 (by kernel_rfl) rfl (by rw [Tryz.ntmps107]; exact of_decide_eq_true rfl) (fun F E hF hC => ?_)
 rw [Tryz.ntmps107] at hF
 rw [Tryz.results107]
 simp only [go_sem, simprocAttr, hF]
 repeat (first
  | ((first | refine hand_eLoad (i := 0) (dd := .slice 126) rfl rfl (by decide) rfl rfl rfl (by first | assumption | rfl) Tryz.underlying23 rfl ?_ | refine hand_eLen (i := 1) rfl rfl (by decide) Tryz.underlying23 rfl rfl rfl ?_); simp only [go_sem, simprocAttr, hF, hd, Av.sopJ])
  | ((first | with_reducible refine sops_go ?_ | with_reducible refine sops_end ?_ | with_reducible refine awp_if ?_ | with_reducible refine awp_ret ?_); simp only [go_sem, simprocAttr, hF, hd])
  | with_reducible refine awp_seq_k fun _ _ => ?_
  | (with_reducible refine awp_region (id := 0) [13, 1000007, 1000008, 1000013, 1000016] ?_)
  | (with_reducible refine awp_region (id := 1) [13, 1000007, 1000008, 1000013, 1000016] ?_)
  | (with_reducible refine awp_region (id := 2) [13, 1000007, 1000008, 1000013, 1000016] ?_)
  | go_step)
 all_goals (try exact ⟨(), rfl⟩)

set_option maxHeartbeats 2000000 in
theorem addOL (C : World → Prop) (b k : Nat) (vals : List Value) (q : Option Nat) (V : Value) (hv : vals[k]? = some V) (xs : List Value) (rows : List (List PV)) (hl : rows.length < 1024) (x : Lk) : FnX Tryz.prog C 107 [.v (.pointer (some ⟨b, k, none⟩)), .agg x.pv] (exts [rawU b vals, rowsE 126 3 q V xs rows]) (iv 0) (fun i : Option Nat × Value × List Value => exts [rawU b (vals.set k i.2.1), rowsE 126 3 i.1 i.2.1 i.2.2 (rows ++ [x.pv])]) := by
 have hd : decide ((rows.length : Int) ≥ 1024) = false := decide_eq_false (by omega)
 have hkl : k < vals.length := (List.getElem?_eq_some_iff.1 hv).1
 refine fn_okX Tryz.func107 (by kernel_rfl) rfl (by rw [Tryz.ntmps107]; exact of_decide_eq_true rfl) (fun F E hF hC => ?_)
 rw [Tryz.ntmps107] at hF
 rw [Tryz.results107]
 simp only [go_sem, simprocAttr, hF]
 repeat (first
  | ((refine hand_eLoad (i := 0) (dd := .slice 126) rfl rfl (by decide) rfl rfl rfl (by first | assumption | rfl) Tryz.underlying23 rfl ?_); simp only [go_sem, simprocAttr, hF, hd, Av.sopJ])
  | ((refine hand_eStore (i := 0) rfl rfl rfl rfl rfl rfl (by first | assumption | (simp only [List.length_set, List.length_cons]; omega)) (by first | assumption | rfl) (by first | assumption | rfl) Tryz.sz23 ?_); simp only [go_sem, simprocAttr, hF, hd, Av.sopJ])
  | ((refine hand_eLen (i := 1) rfl rfl (by decide) Tryz.underlying23 rfl rfl rfl ?_); simp only [go_sem, simprocAttr, hF, hd, Av.sopJ])
  | ((refine hand_eApp (i := 1) (e := 126) (sz := 3) rfl rfl (by decide) Tryz.underlying23 (by kernel_rfl) rfl rfl rfl rfl (by first | assumption | (simp only [List.length_cons, List.length_nil]; omega)) (fun q2 V2 xs2 hc2 ho2 => ?_)); simp only [go_sem, simprocAttr, hF, hd, Av.sopJ])
  | ((with_reducible refine sopsJ_go ?_); simp only [go_sem, simprocAttr, hF, hd, Av.sopJ])
  | ((with_reducible refine sopsJ_end ?_); simp only [go_sem, simprocAttr, hF, hd, Av.sopJ])
  | (refine awp_floatJ (id := 3) [13, 1000007, 1000008, 1000013, 1000016] 6 [(6, 0)] (by kernel_rfl) (by kernel_rfl) (by kernel_rfl) rfl rfl (fun bx0 hbx => ?_); (try dsimp only [Av.addWs, Av.addW, List.modify_succ_cons, List.modify_zero_cons, List.push_toArray, List.cons_append, List.nil_append, List.take_succ_cons, List.take_zero, List.take_nil, List.drop_succ_cons, List.drop_zero, List.drop_nil]))
  | ((refine ⟨_, handq_eLoad (i := 0) (dd := .slice 126) rfl rfl (by decide) rfl rfl rfl (by first | assumption | rfl) Tryz.underlying23 rfl, rfl, ?_⟩); simp only [go_sem, simprocAttr, hF, hd, hbx])
  | ((with_reducible refine headW_go ?_); simp only [go_sem, simprocAttr, hF, hd, hbx])
  | ((first | with_reducible refine sops_go ?_ | with_reducible refine sops_end ?_ | with_reducible refine awp_if ?_ | with_reducible refine awp_skip ?_ | with_reducible refine awp_ret ?_); simp only [go_sem, simprocAttr, hF, hd])
  | with_reducible refine awp_seq_k fun _ _ => ?_
  | (with_reducible refine awp_region (id := 0) [13, 1000007, 1000008, 1000013, 1000016] ?_)
  | (with_reducible refine awp_region (id := 1) [13, 1000007, 1000008, 1000013, 1000016] ?_)
  | (with_reducible refine awp_region (id := 4) [13, 1000007, 1000008, 1000013, 1000016] ?_)
  | go_step)
 exact ⟨(q2, V2, xs2), rfl⟩

set_option maxHeartbeats 2000000 in
theorem addOI (C : World → Prop) (b k : Nat) (vals : List Value) (q : Option Nat) (V : Value) (hv : vals[k]? = some V) (xs : List Value) (rows : List (List PV)) (hl : rows.length < 1024) (x : Int) : FnX Tryz.prog C 108 [.v (.pointer (some ⟨b, k, none⟩)), iv x] (exts [rawU b vals, rowsE 3 1 q V xs rows]) (iv 0) (fun i : Option Nat × Value × List Value => exts [rawU b (vals.set k i.2.1), rowsE 3 1 i.1 i.2.1 i.2.2 (rows ++ [[ip x]])]) := by
 have hd : decide ((rows.length : Int) ≥ 1024) = false := decide_eq_false (by omega)
 have hkl : k < vals.length := (List.getElem?_eq_some_iff.1 hv).1
 refine fn_okX Tryz.func108 (by kernel_rfl) rfl (by rw [Tryz.ntmps108]; exact of_decide_eq_true rfl) (fun F E hF hC => ?_)
 rw [Tryz.ntmps108] at hF
 rw [Tryz.results108]
 simp only [go_sem, simprocAttr, hF]
 repeat (first
  | ((refine hand_eLoad (i := 0) (dd := .slice 3) rfl rfl (by decide) rfl rfl rfl (by first | assumption | rfl) Tryz.underlying24 rfl ?_); simp only [go_sem, simprocAttr, hF, hd, Av.sopJ])
  | ((refine hand_eStore (i := 0) rfl rfl rfl rfl rfl rfl (by first | assumption | (simp only [List.length_set, List.length_cons]; omega)) (by first | assumption | rfl) (by first | assumption | rfl) Tryz.sz24 ?_); simp only [go_sem, simprocAttr, hF, hd, Av.sopJ])
  | ((refine hand_eLen (i := 1) rfl rfl (by decide) Tryz.underlying24 rfl rfl rfl ?_); simp only [go_sem, simprocAttr, hF, hd, Av.sopJ])
  | ((refine hand_eApp (i := 1) (e := 3) (sz := 1) rfl rfl (by decide) Tryz.underlying24 (by kernel_rfl) rfl rfl rfl rfl (by first | assumption | (simp only [List.length_cons, List.length_nil]; omega)) (fun q2 V2 xs2 hc2 ho2 => ?_)); simp only [go_sem, simprocAttr, hF, hd, Av.sopJ])
  | ((with_reducible refine sopsJ_go ?_); simp only [go_sem, simprocAttr, hF, hd, Av.sopJ])
  | ((with_reducible refine sopsJ_end ?_); simp only [go_sem, simprocAttr, hF, hd, Av.sopJ])
  | ((refine awp_regionJ (id := 3) [13, 1000007, 1000008, 1000013, 1000016] ?_); simp only [go_sem, simprocAttr, hF, hd, Av.sopJ])
  | ((first | with_reducible refine sops_go ?_ | with_reducible refine sops_end ?_ | with_reducible refine awp_if ?_ | with_reducible refine awp_skip ?_ | with_reducible refine awp_ret ?_); simp only [go_sem, simprocAttr, hF, hd])
  | with_reducible refine awp_seq_k fun _ _ => ?_
  | (with_reducible refine awp_region (id := 0) [13, 1000007, 1000008, 1000013, 1000016] ?_)
  | (with_reducible refine awp_region (id := 1) [13, 1000007, 1000008, 1000013, 1000016] ?_)
  | (with_reducible refine awp_region (id := 4) [13, 1000007, 1000008, 1000013, 1000016] ?_)
  | go_step)
 exact ⟨(q2, V2, xs2), rfl⟩

set_option maxHeartbeats 2000000 in
theorem addFQ (C : World → Prop) (b k : Nat) (vals : List Value) (q : Option Nat) (V : Value) (hv : vals[k]? = some V) (xs : List Value) (rows : List (List PV)) (hl : 1024 ≤ rows.length) (x : Fw) : FnX Tryz.prog C 109 [.v (.pointer (some ⟨b, k, none⟩)), .agg [ip x.id, ip x.fr, ip x.to, ip x.pe, ip x.ph, ip x.dl, .v (.slice none 0 0)]] (exts [rawU b vals, rowsE 67 7 q V xs rows]) (iv 8) (fun _ : Unit => exts [rawU b vals, rowsE 67 7 q V xs rows]) := by
 have hd : decide ((rows.length : Int) ≥ 1024) = true := decide_eq_true (by omega)
 refine fn_okX Tryz.func109 (by kernel_rfl) rfl (by rw [Tryz.ntmps109]; exact of_decide_eq_true rfl) (fun F E hF hC => ?_)
 rw [Tryz.ntmps109] at hF
 rw [Tryz.results109]
 simp only [go_sem, simprocAttr, hF]
 repeat (first
  | ((first | refine hand_eLoad (i := 0) (dd := .slice 67) rfl rfl (by decide) rfl rfl rfl (by first | assumption | rfl) Tryz.underlying27 rfl ?_ | refine hand_eLen (i := 1) rfl rfl (by decide) Tryz.underlying27 rfl rfl rfl ?_); simp only [go_sem, simprocAttr, hF, hd, Av.sopJ])
  | ((first | with_reducible refine sops_go ?_ | with_reducible refine sops_end ?_ | with_reducible refine awp_if ?_ | with_reducible refine awp_ret ?_); simp only [go_sem, simprocAttr, hF, hd])
  | with_reducible refine awp_seq_k fun _ _ => ?_
  | (with_reducible refine awp_region (id := 0) [13, 1000007, 1000008, 1000013, 1000016] ?_)
  | (with_reducible refine awp_region (id := 1) [13, 1000007, 1000008, 1000013, 1000016] ?_)
  | (with_reducible refine awp_region (id := 2) [13, 1000007, 1000008, 1000013, 1000016] ?_)
  | go_step)
 all_goals (try exact ⟨(), rfl⟩)

set_option maxHeartbeats 2000000 in
theorem addFC (C : World → Prop) (b k : Nat) (vals : List Value) (q : Option Nat) (V : Value) (hv : vals[k]? = some V) (xs : List Value) (rows : List (List PV)) (hl : 1024 ≤ rows.length) (x : Ce) : FnX Tryz.prog C 110 [.v (.pointer (some ⟨b, k, none⟩)), .agg x.pv] (exts [rawU b vals, rowsE 79 5 q V xs rows]) (iv 8) (fun _ : Unit => exts [rawU b vals, rowsE 79 5 q V xs rows]) := by
 have hd : decide ((rows.length : Int) ≥ 1024) = true := decide_eq_true (by omega)
 refine fn_okX Tryz.func110 (by kernel_rfl) rfl (by rw [Tryz.ntmps110]; exact of_decide_eq_true rfl) (fun F E hF hC => ?_)
 rw [Tryz.ntmps110] at hF
 rw [Tryz.results110]
 simp only [go_sem, simprocAttr, hF]
 repeat (first
  | ((first | refine hand_eLoad (i := 0) (dd := .slice 79) rfl rfl (by decide) rfl rfl rfl (by first | assumption | rfl) Tryz.underlying28 rfl ?_ | refine hand_eLen (i := 1) rfl rfl (by decide) Tryz.underlying28 rfl rfl rfl ?_); simp only [go_sem, simprocAttr, hF, hd, Av.sopJ])
  | ((first | with_reducible refine sops_go ?_ | with_reducible refine sops_end ?_ | with_reducible refine awp_if ?_ | with_reducible refine awp_ret ?_); simp only [go_sem, simprocAttr, hF, hd])
  | with_reducible refine awp_seq_k fun _ _ => ?_
  | (with_reducible refine awp_region (id := 0) [13, 1000007, 1000008, 1000013, 1000016] ?_)
  | (with_reducible refine awp_region (id := 1) [13, 1000007, 1000008, 1000013, 1000016] ?_)
  | (with_reducible refine awp_region (id := 2) [13, 1000007, 1000008, 1000013, 1000016] ?_)
  | go_step)
 all_goals (try exact ⟨(), rfl⟩)

set_option maxHeartbeats 2000000 in
theorem addOC (C : World → Prop) (b k : Nat) (vals : List Value) (q : Option Nat) (V : Value) (hv : vals[k]? = some V) (xs : List Value) (rows : List (List PV)) (hl : rows.length < 1024) (x : Ce) : FnX Tryz.prog C 110 [.v (.pointer (some ⟨b, k, none⟩)), .agg x.pv] (exts [rawU b vals, rowsE 79 5 q V xs rows]) (iv 0) (fun i : Option Nat × Value × List Value => exts [rawU b (vals.set k i.2.1), rowsE 79 5 i.1 i.2.1 i.2.2 (rows ++ [x.pv])]) := by
 have hd : decide ((rows.length : Int) ≥ 1024) = false := decide_eq_false (by omega)
 have hkl : k < vals.length := (List.getElem?_eq_some_iff.1 hv).1
 refine fn_okX Tryz.func110 (by kernel_rfl) rfl (by rw [Tryz.ntmps110]; exact of_decide_eq_true rfl) (fun F E hF hC => ?_)
 rw [Tryz.ntmps110] at hF
 rw [Tryz.results110]
 simp only [go_sem, simprocAttr, hF]
 repeat (first
  | ((refine hand_eLoad (i := 0) (dd := .slice 79) rfl rfl (by decide) rfl rfl rfl (by first | assumption | rfl) Tryz.underlying28 rfl ?_); simp only [go_sem, simprocAttr, hF, hd, Av.sopJ])
  | ((refine hand_eStore (i := 0) rfl rfl rfl rfl rfl rfl (by first | assumption | (simp only [List.length_set, List.length_cons]; omega)) (by first | assumption | rfl) (by first | assumption | rfl) Tryz.sz28 ?_); simp only [go_sem, simprocAttr, hF, hd, Av.sopJ])
  | ((refine hand_eLen (i := 1) rfl rfl (by decide) Tryz.underlying28 rfl rfl rfl ?_); simp only [go_sem, simprocAttr, hF, hd, Av.sopJ])
  | ((refine hand_eApp (i := 1) (e := 79) (sz := 5) rfl rfl (by decide) Tryz.underlying28 (by kernel_rfl) rfl rfl rfl rfl (by first | assumption | (simp only [List.length_cons, List.length_nil]; omega)) (fun q2 V2 xs2 hc2 ho2 => ?_)); simp only [go_sem, simprocAttr, hF, hd, Av.sopJ])
  | ((with_reducible refine sopsJ_go ?_); simp only [go_sem, simprocAttr, hF, hd, Av.sopJ])
  | ((with_reducible refine sopsJ_end ?_); simp only [go_sem, simprocAttr, hF, hd, Av.sopJ])
  | (refine awp_floatJ (id := 3) [13, 1000007, 1000008, 1000013, 1000016] 6 [(6, 0)] (by kernel_rfl) (by kernel_rfl) (by kernel_rfl) rfl rfl (fun bx0 hbx => ?_); (try dsimp only [Av.addWs, Av.addW, List.modify_succ_cons, List.modify_zero_cons, List.push_toArray, List.cons_append, List.nil_append, List.take_succ_cons, List.take_zero, List.take_nil, List.drop_succ_cons, List.drop_zero, List.drop_nil]))
  | ((refine ⟨_, handq_eLoad (i := 0) (dd := .slice 79) rfl rfl (by decide) rfl rfl rfl (by first | assumption | rfl) Tryz.underlying28 rfl, rfl, ?_⟩); simp only [go_sem, simprocAttr, hF, hd, hbx])
  | ((with_reducible refine headW_go ?_); simp only [go_sem, simprocAttr, hF, hd, hbx])
  | ((first | with_reducible refine sops_go ?_ | with_reducible refine sops_end ?_ | with_reducible refine awp_if ?_ | with_reducible refine awp_skip ?_ | with_reducible refine awp_ret ?_); simp only [go_sem, simprocAttr, hF, hd])
  | with_reducible refine awp_seq_k fun _ _ => ?_
  | (with_reducible refine awp_region (id := 0) [13, 1000007, 1000008, 1000013, 1000016] ?_)
  | (with_reducible refine awp_region (id := 1) [13, 1000007, 1000008, 1000013, 1000016] ?_)
  | (with_reducible refine awp_region (id := 4) [13, 1000007, 1000008, 1000013, 1000016] ?_)
  | go_step)
 exact ⟨(q2, V2, xs2), rfl⟩

set_option maxHeartbeats 2000000 in
theorem addFH (C : World → Prop) (b k : Nat) (vals : List Value) (q : Option Nat) (V : Value) (hv : vals[k]? = some V) (xs : List Value) (rows : List (List PV)) (hl : 1024 ≤ rows.length) (x : Ch) : FnX Tryz.prog C 112 [.v (.pointer (some ⟨b, k, none⟩)), .agg x.pv] (exts [rawU b vals, rowsE 81 7 q V xs rows]) (iv 8) (fun _ : Unit => exts [rawU b vals, rowsE 81 7 q V xs rows]) := by
 have hd : decide ((rows.length : Int) ≥ 1024) = true := decide_eq_true (by omega)
 refine fn_okX Tryz.func112 (by kernel_rfl) rfl (by rw [Tryz.ntmps112]; exact of_decide_eq_true rfl) (fun F E hF hC => ?_)
 rw [Tryz.ntmps112] at hF
 rw [Tryz.results112]
 simp only [go_sem, simprocAttr, hF]
 repeat (first
  | ((first | refine hand_eLoad (i := 0) (dd := .slice 81) rfl rfl (by decide) rfl rfl rfl (by first | assumption | rfl) Tryz.underlying31 rfl ?_ | refine hand_eLen (i := 1) rfl rfl (by decide) Tryz.underlying31 rfl rfl rfl ?_); simp only [go_sem, simprocAttr, hF, hd, Av.sopJ])
  | ((first | with_reducible refine sops_go ?_ | with_reducible refine sops_end ?_ | with_reducible refine awp_if ?_ | with_reducible refine awp_ret ?_); simp only [go_sem, simprocAttr, hF, hd])
  | with_reducible refine awp_seq_k fun _ _ => ?_
  | (with_reducible refine awp_region (id := 0) [13, 1000007, 1000008, 1000013, 1000016] ?_)
  | (with_reducible refine awp_region (id := 1) [13, 1000007, 1000008, 1000013, 1000016] ?_)
  | (with_reducible refine awp_region (id := 2) [13, 1000007, 1000008, 1000013, 1000016] ?_)
  | go_step)
 all_goals (try exact ⟨(), rfl⟩)

set_option maxHeartbeats 2000000 in
theorem addOH (C : World → Prop) (b k : Nat) (vals : List Value) (q : Option Nat) (V : Value) (hv : vals[k]? = some V) (xs : List Value) (rows : List (List PV)) (hl : rows.length < 1024) (x : Ch) : FnX Tryz.prog C 112 [.v (.pointer (some ⟨b, k, none⟩)), .agg x.pv] (exts [rawU b vals, rowsE 81 7 q V xs rows]) (iv 0) (fun i : Option Nat × Value × List Value => exts [rawU b (vals.set k i.2.1), rowsE 81 7 i.1 i.2.1 i.2.2 (rows ++ [x.pv])]) := by
 have hd : decide ((rows.length : Int) ≥ 1024) = false := decide_eq_false (by omega)
 have hkl : k < vals.length := (List.getElem?_eq_some_iff.1 hv).1
 refine fn_okX Tryz.func112 (by kernel_rfl) rfl (by rw [Tryz.ntmps112]; exact of_decide_eq_true rfl) (fun F E hF hC => ?_)
 rw [Tryz.ntmps112] at hF
 rw [Tryz.results112]
 simp only [go_sem, simprocAttr, hF]
 repeat (first
  | ((refine hand_eLoad (i := 0) (dd := .slice 81) rfl rfl (by decide) rfl rfl rfl (by first | assumption | rfl) Tryz.underlying31 rfl ?_); simp only [go_sem, simprocAttr, hF, hd, Av.sopJ])
  | ((refine hand_eStore (i := 0) rfl rfl rfl rfl rfl rfl (by first | assumption | (simp only [List.length_set, List.length_cons]; omega)) (by first | assumption | rfl) (by first | assumption | rfl) Tryz.sz31 ?_); simp only [go_sem, simprocAttr, hF, hd, Av.sopJ])
  | ((refine hand_eLen (i := 1) rfl rfl (by decide) Tryz.underlying31 rfl rfl rfl ?_); simp only [go_sem, simprocAttr, hF, hd, Av.sopJ])
  | ((refine hand_eApp (i := 1) (e := 81) (sz := 7) rfl rfl (by decide) Tryz.underlying31 (by kernel_rfl) rfl rfl rfl rfl (by first | assumption | (simp only [List.length_cons, List.length_nil]; omega)) (fun q2 V2 xs2 hc2 ho2 => ?_)); simp only [go_sem, simprocAttr, hF, hd, Av.sopJ])
  | ((with_reducible refine sopsJ_go ?_); simp only [go_sem, simprocAttr, hF, hd, Av.sopJ])
  | ((with_reducible refine sopsJ_end ?_); simp only [go_sem, simprocAttr, hF, hd, Av.sopJ])
  | (refine awp_floatJ (id := 3) [13, 1000007, 1000008, 1000013, 1000016] 6 [(6, 0)] (by kernel_rfl) (by kernel_rfl) (by kernel_rfl) rfl rfl (fun bx0 hbx => ?_); (try dsimp only [Av.addWs, Av.addW, List.modify_succ_cons, List.modify_zero_cons, List.push_toArray, List.cons_append, List.nil_append, List.take_succ_cons, List.take_zero, List.take_nil, List.drop_succ_cons, List.drop_zero, List.drop_nil]))
  | ((refine ⟨_, handq_eLoad (i := 0) (dd := .slice 81) rfl rfl (by decide) rfl rfl rfl (by first | assumption | rfl) Tryz.underlying31 rfl, rfl, ?_⟩); simp only [go_sem, simprocAttr, hF, hd, hbx])
  | ((with_reducible refine headW_go ?_); simp only [go_sem, simprocAttr, hF, hd, hbx])
  | ((first | with_reducible refine sops_go ?_ | with_reducible refine sops_end ?_ | with_reducible refine awp_if ?_ | with_reducible refine awp_skip ?_ | with_reducible refine awp_ret ?_); simp only [go_sem, simprocAttr, hF, hd])
  | with_reducible refine awp_seq_k fun _ _ => ?_
  | (with_reducible refine awp_region (id := 0) [13, 1000007, 1000008, 1000013, 1000016] ?_)
  | (with_reducible refine awp_region (id := 1) [13, 1000007, 1000008, 1000013, 1000016] ?_)
  | (with_reducible refine awp_region (id := 4) [13, 1000007, 1000008, 1000013, 1000016] ?_)
  | go_step)
 exact ⟨(q2, V2, xs2), rfl⟩

set_option maxHeartbeats 2000000 in
theorem addFW (C : World → Prop) (b k : Nat) (vals : List Value) (q : Option Nat) (V : Value) (hv : vals[k]? = some V) (xs : List Value) (rows : List (List PV)) (hl : 1024 ≤ rows.length) (x : Wk) : FnX Tryz.prog C 113 [.v (.pointer (some ⟨b, k, none⟩)), .agg x.pv] (exts [rawU b vals, rowsE 83 5 q V xs rows]) (iv 8) (fun _ : Unit => exts [rawU b vals, rowsE 83 5 q V xs rows]) := by
 have hd : decide ((rows.length : Int) ≥ 1024) = true := decide_eq_true (by omega)
 refine fn_okX Tryz.func113 (by kernel_rfl) rfl (by rw [Tryz.ntmps113]; exact of_decide_eq_true rfl) (fun F E hF hC => ?_)
 rw [Tryz.ntmps113] at hF
 rw [Tryz.results113]
 simp only [go_sem, simprocAttr, hF]
 repeat (first
  | ((first | refine hand_eLoad (i := 0) (dd := .slice 83) rfl rfl (by decide) rfl rfl rfl (by first | assumption | rfl) Tryz.underlying32 rfl ?_ | refine hand_eLen (i := 1) rfl rfl (by decide) Tryz.underlying32 rfl rfl rfl ?_); simp only [go_sem, simprocAttr, hF, hd, Av.sopJ])
  | ((first | with_reducible refine sops_go ?_ | with_reducible refine sops_end ?_ | with_reducible refine awp_if ?_ | with_reducible refine awp_ret ?_); simp only [go_sem, simprocAttr, hF, hd])
  | with_reducible refine awp_seq_k fun _ _ => ?_
  | (with_reducible refine awp_region (id := 0) [13, 1000007, 1000008, 1000013, 1000016] ?_)
  | (with_reducible refine awp_region (id := 1) [13, 1000007, 1000008, 1000013, 1000016] ?_)
  | (with_reducible refine awp_region (id := 2) [13, 1000007, 1000008, 1000013, 1000016] ?_)
  | go_step)
 all_goals (try exact ⟨(), rfl⟩)

set_option maxHeartbeats 2000000 in
theorem addOW (C : World → Prop) (b k : Nat) (vals : List Value) (q : Option Nat) (V : Value) (hv : vals[k]? = some V) (xs : List Value) (rows : List (List PV)) (hl : rows.length < 1024) (x : Wk) : FnX Tryz.prog C 113 [.v (.pointer (some ⟨b, k, none⟩)), .agg x.pv] (exts [rawU b vals, rowsE 83 5 q V xs rows]) (iv 0) (fun i : Option Nat × Value × List Value => exts [rawU b (vals.set k i.2.1), rowsE 83 5 i.1 i.2.1 i.2.2 (rows ++ [x.pv])]) := by
 have hd : decide ((rows.length : Int) ≥ 1024) = false := decide_eq_false (by omega)
 have hkl : k < vals.length := (List.getElem?_eq_some_iff.1 hv).1
 refine fn_okX Tryz.func113 (by kernel_rfl) rfl (by rw [Tryz.ntmps113]; exact of_decide_eq_true rfl) (fun F E hF hC => ?_)
 rw [Tryz.ntmps113] at hF
 rw [Tryz.results113]
 simp only [go_sem, simprocAttr, hF]
 repeat (first
  | ((refine hand_eLoad (i := 0) (dd := .slice 83) rfl rfl (by decide) rfl rfl rfl (by first | assumption | rfl) Tryz.underlying32 rfl ?_); simp only [go_sem, simprocAttr, hF, hd, Av.sopJ])
  | ((refine hand_eStore (i := 0) rfl rfl rfl rfl rfl rfl (by first | assumption | (simp only [List.length_set, List.length_cons]; omega)) (by first | assumption | rfl) (by first | assumption | rfl) Tryz.sz32 ?_); simp only [go_sem, simprocAttr, hF, hd, Av.sopJ])
  | ((refine hand_eLen (i := 1) rfl rfl (by decide) Tryz.underlying32 rfl rfl rfl ?_); simp only [go_sem, simprocAttr, hF, hd, Av.sopJ])
  | ((refine hand_eApp (i := 1) (e := 83) (sz := 5) rfl rfl (by decide) Tryz.underlying32 (by kernel_rfl) rfl rfl rfl rfl (by first | assumption | (simp only [List.length_cons, List.length_nil]; omega)) (fun q2 V2 xs2 hc2 ho2 => ?_)); simp only [go_sem, simprocAttr, hF, hd, Av.sopJ])
  | ((with_reducible refine sopsJ_go ?_); simp only [go_sem, simprocAttr, hF, hd, Av.sopJ])
  | ((with_reducible refine sopsJ_end ?_); simp only [go_sem, simprocAttr, hF, hd, Av.sopJ])
  | (refine awp_floatJ (id := 3) [13, 1000007, 1000008, 1000013, 1000016] 6 [(6, 0)] (by kernel_rfl) (by kernel_rfl) (by kernel_rfl) rfl rfl (fun bx0 hbx => ?_); (try dsimp only [Av.addWs, Av.addW, List.modify_succ_cons, List.modify_zero_cons, List.push_toArray, List.cons_append, List.nil_append, List.take_succ_cons, List.take_zero, List.take_nil, List.drop_succ_cons, List.drop_zero, List.drop_nil]))
  | ((refine ⟨_, handq_eLoad (i := 0) (dd := .slice 83) rfl rfl (by decide) rfl rfl rfl (by first | assumption | rfl) Tryz.underlying32 rfl, rfl, ?_⟩); simp only [go_sem, simprocAttr, hF, hd, hbx])
  | ((with_reducible refine headW_go ?_); simp only [go_sem, simprocAttr, hF, hd, hbx])
  | ((first | with_reducible refine sops_go ?_ | with_reducible refine sops_end ?_ | with_reducible refine awp_if ?_ | with_reducible refine awp_skip ?_ | with_reducible refine awp_ret ?_); simp only [go_sem, simprocAttr, hF, hd])
  | with_reducible refine awp_seq_k fun _ _ => ?_
  | (with_reducible refine awp_region (id := 0) [13, 1000007, 1000008, 1000013, 1000016] ?_)
  | (with_reducible refine awp_region (id := 1) [13, 1000007, 1000008, 1000013, 1000016] ?_)
  | (with_reducible refine awp_region (id := 4) [13, 1000007, 1000008, 1000013, 1000016] ?_)
  | go_step)
 exact ⟨(q2, V2, xs2), rfl⟩

set_option maxHeartbeats 2000000 in
theorem addFO (C : World → Prop) (b k : Nat) (vals : List Value) (q : Option Nat) (V : Value) (hv : vals[k]? = some V) (xs : List Value) (rows : List (List PV)) (hl : 1024 ≤ rows.length) (x : Og) : FnX Tryz.prog C 114 [.v (.pointer (some ⟨b, k, none⟩)), .agg x.pv] (exts [rawU b vals, rowsE 85 3 q V xs rows]) (iv 8) (fun _ : Unit => exts [rawU b vals, rowsE 85 3 q V xs rows]) := by
 have hd : decide ((rows.length : Int) ≥ 1024) = true := decide_eq_true (by omega)
 refine fn_okX Tryz.func114 (by kernel_rfl) rfl (by rw [Tryz.ntmps114]; exact of_decide_eq_true rfl) (fun F E hF hC => ?_)
 rw [Tryz.ntmps114] at hF
 rw [Tryz.results114]
 simp only [go_sem, simprocAttr, hF]
 repeat (first
  | ((first | refine hand_eLoad (i := 0) (dd := .slice 85) rfl rfl (by decide) rfl rfl rfl (by first | assumption | rfl) Tryz.underlying33 rfl ?_ | refine hand_eLen (i := 1) rfl rfl (by decide) Tryz.underlying33 rfl rfl rfl ?_); simp only [go_sem, simprocAttr, hF, hd, Av.sopJ])
  | ((first | with_reducible refine sops_go ?_ | with_reducible refine sops_end ?_ | with_reducible refine awp_if ?_ | with_reducible refine awp_ret ?_); simp only [go_sem, simprocAttr, hF, hd])
  | with_reducible refine awp_seq_k fun _ _ => ?_
  | (with_reducible refine awp_region (id := 0) [13, 1000007, 1000008, 1000013, 1000016] ?_)
  | (with_reducible refine awp_region (id := 1) [13, 1000007, 1000008, 1000013, 1000016] ?_)
  | (with_reducible refine awp_region (id := 2) [13, 1000007, 1000008, 1000013, 1000016] ?_)
  | go_step)
 all_goals (try exact ⟨(), rfl⟩)

set_option maxHeartbeats 2000000 in
theorem addOO (C : World → Prop) (b k : Nat) (vals : List Value) (q : Option Nat) (V : Value) (hv : vals[k]? = some V) (xs : List Value) (rows : List (List PV)) (hl : rows.length < 1024) (x : Og) : FnX Tryz.prog C 114 [.v (.pointer (some ⟨b, k, none⟩)), .agg x.pv] (exts [rawU b vals, rowsE 85 3 q V xs rows]) (iv 0) (fun i : Option Nat × Value × List Value => exts [rawU b (vals.set k i.2.1), rowsE 85 3 i.1 i.2.1 i.2.2 (rows ++ [x.pv])]) := by
 have hd : decide ((rows.length : Int) ≥ 1024) = false := decide_eq_false (by omega)
 have hkl : k < vals.length := (List.getElem?_eq_some_iff.1 hv).1
 refine fn_okX Tryz.func114 (by kernel_rfl) rfl (by rw [Tryz.ntmps114]; exact of_decide_eq_true rfl) (fun F E hF hC => ?_)
 rw [Tryz.ntmps114] at hF
 rw [Tryz.results114]
 simp only [go_sem, simprocAttr, hF]
 repeat (first
  | ((refine hand_eLoad (i := 0) (dd := .slice 85) rfl rfl (by decide) rfl rfl rfl (by first | assumption | rfl) Tryz.underlying33 rfl ?_); simp only [go_sem, simprocAttr, hF, hd, Av.sopJ])
  | ((refine hand_eStore (i := 0) rfl rfl rfl rfl rfl rfl (by first | assumption | (simp only [List.length_set, List.length_cons]; omega)) (by first | assumption | rfl) (by first | assumption | rfl) Tryz.sz33 ?_); simp only [go_sem, simprocAttr, hF, hd, Av.sopJ])
  | ((refine hand_eLen (i := 1) rfl rfl (by decide) Tryz.underlying33 rfl rfl rfl ?_); simp only [go_sem, simprocAttr, hF, hd, Av.sopJ])
  | ((refine hand_eApp (i := 1) (e := 85) (sz := 3) rfl rfl (by decide) Tryz.underlying33 (by kernel_rfl) rfl rfl rfl rfl (by first | assumption | (simp only [List.length_cons, List.length_nil]; omega)) (fun q2 V2 xs2 hc2 ho2 => ?_)); simp only [go_sem, simprocAttr, hF, hd, Av.sopJ])
  | ((with_reducible refine sopsJ_go ?_); simp only [go_sem, simprocAttr, hF, hd, Av.sopJ])
  | ((with_reducible refine sopsJ_end ?_); simp only [go_sem, simprocAttr, hF, hd, Av.sopJ])
  | (refine awp_floatJ (id := 3) [13, 1000007, 1000008, 1000013, 1000016] 6 [(6, 0)] (by kernel_rfl) (by kernel_rfl) (by kernel_rfl) rfl rfl (fun bx0 hbx => ?_); (try dsimp only [Av.addWs, Av.addW, List.modify_succ_cons, List.modify_zero_cons, List.push_toArray, List.cons_append, List.nil_append, List.take_succ_cons, List.take_zero, List.take_nil, List.drop_succ_cons, List.drop_zero, List.drop_nil]))
  | ((refine ⟨_, handq_eLoad (i := 0) (dd := .slice 85) rfl rfl (by decide) rfl rfl rfl (by first | assumption | rfl) Tryz.underlying33 rfl, rfl, ?_⟩); simp only [go_sem, simprocAttr, hF, hd, hbx])
  | ((with_reducible refine headW_go ?_); simp only [go_sem, simprocAttr, hF, hd, hbx])
  | ((first | with_reducible refine sops_go ?_ | with_reducible refine sops_end ?_ | with_reducible refine awp_if ?_ | with_reducible refine awp_skip ?_ | with_reducible refine awp_ret ?_); simp only [go_sem, simprocAttr, hF, hd])
  | with_reducible refine awp_seq_k fun _ _ => ?_
  | (with_reducible refine awp_region (id := 0) [13, 1000007, 1000008, 1000013, 1000016] ?_)
  | (with_reducible refine awp_region (id := 1) [13, 1000007, 1000008, 1000013, 1000016] ?_)
  | (with_reducible refine awp_region (id := 4) [13, 1000007, 1000008, 1000013, 1000016] ?_)
  | go_step)
 exact ⟨(q2, V2, xs2), rfl⟩
/- The reader. -/
/-- A list's header: its block, its value, its cells. -/
structure Hdr where
 q : Option Nat
 V : Value
 xs : List Value
/-- What a reader has read. -/
structure Rd where
 x : Sn
 rank : Int
 begun : Bool
 sched : Bool
 done : Bool
/-- Where it lies. -/
structure RM where
 vp : Value
 hl : Hdr
 hm : Hdr
 vb : Value
 va : Value
 hc : Hdr
 hh : Hdr
 hw : Hdr
 ho : Hdr
 rt : Value
def rvals (R : Rd) (M : RM) : List Value :=
 [.int .i64 R.x.net.nodes, M.vp, .int .i64 R.x.net.noise, .int .i64 R.x.net.thr, M.hl.V, M.hm.V, M.vb, M.va, .int .i64 R.x.len, .int .i64 R.x.offs, M.hc.V, M.hh.V, M.hw.V, M.ho.V, .int .i64 R.x.slots, .int .i64 R.rank, .bool R.begun, .bool R.sched, .bool R.done, M.rt]
abbrev hdE (e : TypeId) (sz : Nat) (h : Hdr) (rows : List (List PV)) : Ext := rowsE e sz h.q h.V h.xs rows
/-- A reader at block b, in pieces; tl: the lists of lists. -/
def pcs (b : Nat) (R : Rd) (M : RM) (tl : List Ext) : List Ext :=
 rawU b (rvals R M) :: hdE 126 3 M.hl (R.x.net.links.map Lk.pv) :: hdE 3 1 M.hm (R.x.net.margin.map fun m => [ip m]) :: hdE 79 5 M.hc (R.x.cells.map Ce.pv) ::
 hdE 81 7 M.hh (R.x.changes.map Ch.pv) :: hdE 83 5 M.hw (R.x.weak.map Wk.pv) :: hdE 85 3 M.ho (R.x.outs.map Og.pv) :: tl

set_option maxHeartbeats 2000000 in
theorem cellOf_ok (a0 a1 a2 a3 a4 : Int) : FnOK Tryz.prog 111 [.sl 1 [[ip a0], [ip a1], [ip a2], [ip a3], [ip a4]]] ⟨.agg (Ce.mk a0 a1 a2 a3 a4).pv, none⟩ := by
 refine fn_ok Tryz.func111 (by kernel_rfl) rfl (by rw [Tryz.ntmps111]; exact of_decide_eq_true rfl) (fun F hF => ?_)
 rw [Tryz.ntmps111] at hF
 rw [Tryz.results111]
 repeat (first
  | ((first | with_reducible refine sops_go ?_ | with_reducible refine headW_end ?_ | with_reducible refine sops_end ?_ | with_reducible refine awp_ret ?_); simp only [go_sem, simprocAttr, hF])
  | ((with_reducible refine headW_go ?_); simp only [go_sem, simprocAttr, hF, hbx])
  | with_reducible refine awp_seq_k fun _ _ => ?_
  | (refine awp_draw' (id := 1) [] 16 (by kernel_rfl) (by kernel_rfl) rfl rfl (fun bx0 hbx => ?_); try dsimp only [List.take, List.drop])
  | (with_reducible refine awp_region [] ?_)
  | go_step)
 all_goals (try rfl)

set_option maxHeartbeats 2000000 in
theorem rcellF (C : World → Prop) (b : Nat) (R : Rd) (M : RM) (tl : List Ext) (a0 a1 a2 a3 a4 : Int) (hl : 1024 ≤ R.x.cells.length) :
 FnX Tryz.prog C 70 [.v (wrP b), .sl 1 [[ip a0], [ip a1], [ip a2], [ip a3], [ip a4]]] (exts (pcs b R M tl)) (iv 8) (fun _ : Unit => exts (pcs b R M tl)) := by
 refine fn_okX Tryz.func70 (by kernel_rfl) rfl (by rw [Tryz.ntmps70]; exact of_decide_eq_true rfl) (fun F E hF hC => ?_)
 rw [Tryz.ntmps70] at hF
 rw [Tryz.results70]
 simp only [go_sem, simprocAttr, hF]
 repeat (first
  | (refine awp_floatJ (id := 1) [1000007, 1000008, 1000009, 1000012] 7 [] (by kernel_rfl) (by kernel_rfl) (by kernel_rfl) rfl rfl (fun bx0 hbx => ?_); (try dsimp only [Av.addWs, Av.addW, List.modify_succ_cons, List.modify_zero_cons, List.push_toArray, List.cons_append, List.nil_append, List.take_succ_cons, List.take_zero, List.take_nil, List.drop_succ_cons, List.drop_zero, List.drop_nil]))
  | ((first | refine ⟨_, handq_rawField rfl rfl (by decide) Tryz.underlying94 rfl (m := 14) rfl rfl, rfl, ?_⟩ | refine ⟨_, handq_rawField rfl rfl (by decide) Tryz.underlying35 rfl (m := 2) rfl rfl, rfl, ?_⟩ | refine ⟨_, handq_rawField rfl rfl (by decide) Tryz.underlying30 rfl (m := 0) rfl rfl, rfl, ?_⟩); simp only [go_sem, simprocAttr, hF, hbx])
  | ((with_reducible refine headW_go ?_); simp only [go_sem, simprocAttr, hF, hbx])
  | ((first | with_reducible refine sops_go ?_ | with_reducible refine sops_end ?_); simp only [go_sem, simprocAttr, hF])
  | with_reducible refine awp_seq_k fun _ _ => ?_
  | (with_reducible refine awp_region (id := 0) [1000007, 1000008, 1000009, 1000012] ?_)
  | go_step)
 refine ⟨_, cellOf_ok a0 a1 a2 a3 a4, ?_⟩
 simp only [go_sem, simprocAttr, hF, Av.sopJ, hbx]
 repeat (first
  | ((with_reducible refine sopsJ_go ?_); simp only [go_sem, simprocAttr, hF, Av.sopJ])
  | ((with_reducible refine headW_end ?_); simp only [go_sem, simprocAttr, hF, Av.sopJ]))
 refine hand_call2 (i := 0) (j := 3) (addFC C b 10 (rvals R M) M.hc.q M.hc.V rfl M.hc.xs _ (by rw [List.length_map]; omega) ⟨a0, a1, a2, a3, a4⟩) E rfl rfl rfl (by decide) hC rfl rfl (by decide) rfl rfl (fun i => ?_)
 simp only [go_sem, simprocAttr, hF, Av.sopJ]
 repeat (first
  | ((with_reducible refine sopsJ_go ?_); simp only [go_sem, simprocAttr, hF, Av.sopJ])
  | ((with_reducible refine sopsJ_end ?_); simp only [go_sem, simprocAttr, hF, Av.sopJ])
  | (with_reducible refine awp_ret ?_; simp only [go_sem, simprocAttr, hF])
  | go_step)
 all_goals (first | rfl | exact ⟨(), rfl⟩)

set_option maxHeartbeats 2000000 in
theorem rcellO (C : World → Prop) (b : Nat) (R : Rd) (M : RM) (tl : List Ext) (a0 a1 a2 a3 a4 : Int) (hl : R.x.cells.length < 1024) :
 FnX Tryz.prog C 70 [.v (wrP b), .sl 1 [[ip a0], [ip a1], [ip a2], [ip a3], [ip a4]]] (exts (pcs b R M tl)) (iv 0) (fun i : Hdr => exts (pcs b { R with x := { R.x with cells := R.x.cells ++ [⟨a0, a1, a2, a3, a4⟩] } } { M with hc := i } tl)) := by
 refine fn_okX Tryz.func70 (by kernel_rfl) rfl (by rw [Tryz.ntmps70]; exact of_decide_eq_true rfl) (fun F E hF hC => ?_)
 rw [Tryz.ntmps70] at hF
 rw [Tryz.results70]
 simp only [go_sem, simprocAttr, hF]
 repeat (first
  | (refine awp_floatJ (id := 1) [1000007, 1000008, 1000009, 1000012] 7 [] (by kernel_rfl) (by kernel_rfl) (by kernel_rfl) rfl rfl (fun bx0 hbx => ?_); (try dsimp only [Av.addWs, Av.addW, List.modify_succ_cons, List.modify_zero_cons, List.push_toArray, List.cons_append, List.nil_append, List.take_succ_cons, List.take_zero, List.take_nil, List.drop_succ_cons, List.drop_zero, List.drop_nil]))
  | ((first | refine ⟨_, handq_rawField rfl rfl (by decide) Tryz.underlying94 rfl (m := 14) rfl rfl, rfl, ?_⟩ | refine ⟨_, handq_rawField rfl rfl (by decide) Tryz.underlying35 rfl (m := 2) rfl rfl, rfl, ?_⟩ | refine ⟨_, handq_rawField rfl rfl (by decide) Tryz.underlying30 rfl (m := 0) rfl rfl, rfl, ?_⟩); simp only [go_sem, simprocAttr, hF, hbx])
  | ((with_reducible refine headW_go ?_); simp only [go_sem, simprocAttr, hF, hbx])
  | ((first | with_reducible refine sops_go ?_ | with_reducible refine sops_end ?_); simp only [go_sem, simprocAttr, hF])
  | with_reducible refine awp_seq_k fun _ _ => ?_
  | (with_reducible refine awp_region (id := 0) [1000007, 1000008, 1000009, 1000012] ?_)
  | go_step)
 refine ⟨_, cellOf_ok a0 a1 a2 a3 a4, ?_⟩
 simp only [go_sem, simprocAttr, hF, Av.sopJ, hbx]
 repeat (first
  | ((with_reducible refine sopsJ_go ?_); simp only [go_sem, simprocAttr, hF, Av.sopJ])
  | ((with_reducible refine headW_end ?_); simp only [go_sem, simprocAttr, hF, Av.sopJ]))
 refine hand_call2 (i := 0) (j := 3) (addOC C b 10 (rvals R M) M.hc.q M.hc.V rfl M.hc.xs _ (by rw [List.length_map]; omega) ⟨a0, a1, a2, a3, a4⟩) E rfl rfl rfl (by decide) hC rfl rfl (by decide) rfl rfl (fun i => ?_)
 simp only [go_sem, simprocAttr, hF, Av.sopJ]
 repeat (first
  | ((with_reducible refine sopsJ_go ?_); simp only [go_sem, simprocAttr, hF, Av.sopJ])
  | ((with_reducible refine sopsJ_end ?_); simp only [go_sem, simprocAttr, hF, Av.sopJ])
  | (with_reducible refine awp_ret ?_; simp only [go_sem, simprocAttr, hF])
  | go_step)
 refine ⟨(⟨i.1, i.2.1, i.2.2⟩ : Hdr), ?_⟩
 simp only [pcs, List.map_append, List.map_cons, List.map_nil]
 rfl
end Go.Proofs.YtcloigoajohppaaGreatDoor
/- A reader that is being read, whole. -/
namespace Go.Proofs.YtcloigoajohppaaGreatDoor
open Go.RowKit
open Av
open Sc
set_option maxRecDepth 100000
set_option linter.unusedSimpArgs false

/-- A request that is read, with the place of its routes. -/
structure Rz where
  f : Fw
  rs : List (List Int)
  q : Option Nat
  V : Value
  xs : List Value
def Rz.vals (x : Rz) : List Value := [.int .i64 x.f.id, .int .i64 x.f.fr, .int .i64 x.f.to, .int .i64 x.f.pe, .int .i64 x.f.ph, .int .i64 x.f.dl, x.V]
def Rz.ext (x : Rz) : Ext := rowsE 68 1 x.q x.V x.xs (rsR x.rs)
/-- A row of powers, with its place. -/
structure Pz where
  row : List Int
  g : Nat
  V : Value
def Pz.ext (x : Pz) : Ext := rawR 3 1 (some x.g) x.V (x.row.map fun n => [.int .i64 n])
structure Hd where
  q : Option Nat
  V : Value
/-- A reader, and where it lies: powers, requests (the newest first). -/
structure RX where
  R : Rd
  M : RM
  hp : Hd
  hb : Hd
  ha : Hd
  pw : List Pz
  bs : List Rz
  zs : List Rz
def RX.m (X : RX) : RM := { X.M with vp := X.hp.V, vb := X.hb.V, va := X.ha.V }
def fixX (X : RX) : List Ext := [rawR 24 1 X.hp.q X.hp.V (X.pw.map fun x => [x.V]), rawR 67 7 X.hb.q X.hb.V (X.bs.reverse.map Rz.vals), rawR 67 7 X.ha.q X.ha.V (X.zs.reverse.map Rz.vals)]
def dynX (X : RX) : List Ext := X.zs.map Rz.ext ++ (X.bs.map Rz.ext ++ X.pw.map Pz.ext)
def pcsX (b : Nat) (X : RX) : List Ext := pcs b X.R X.m (fixX X ++ dynX X)
theorem pcsX_get (b : Nat) (X : RX) (k : Nat) : (pcsX b X)[10 + k]? = (dynX X)[k]? := by
  rw [Nat.add_comm]
  rfl
theorem pcsX_row {b : Nat} {X : RX} {a : Nat} {z : Pz} (h : X.pw[a]? = some z) : (pcsX b X)[10 + (X.zs.length + (X.bs.length + a))]? = some z.ext := by
  rw [pcsX_get]
  unfold dynX
  rw [List.getElem?_append_right (by rw [List.length_map]; omega), List.length_map, show X.zs.length + (X.bs.length + a) - X.zs.length = X.bs.length + a by omega,
    List.getElem?_append_right (by rw [List.length_map]; omega), List.length_map, show X.bs.length + a - X.bs.length = a by omega, List.getElem?_map, h]
  rfl
theorem pcsX_setRow {b : Nat} {X : RX} {a : Nat} {z z' : Pz} (h : X.pw[a]? = some z) (hV : z'.V = z.V) : (pcsX b X).set (10 + (X.zs.length + (X.bs.length + a))) z'.ext = pcsX b { X with pw := X.pw.set a z' } := by
  have h1 : ((X.pw.set a z').map fun x => [x.V]) = X.pw.map fun x => [x.V] := by
    rw [List.map_set, hV]
    obtain ⟨hl, rfl⟩ := List.getElem?_eq_some_iff.1 h
    apply List.ext_getElem?
    intro j
    rw [List.getElem?_set]
    split
    · rename_i e
      subst e
      simp [hl]
    · rfl
  have h2 : dynX { X with pw := X.pw.set a z' } = (dynX X).set (X.zs.length + (X.bs.length + a)) z'.ext := by
    unfold dynX
    dsimp only
    rw [List.set_append_right _ _ (by rw [List.length_map]; omega), List.length_map, show X.zs.length + (X.bs.length + a) - X.zs.length = X.bs.length + a by omega,
      List.set_append_right _ _ (by rw [List.length_map]; omega), List.length_map, show X.bs.length + a - X.bs.length = a by omega, List.map_set]
  have h3 : fixX { X with pw := X.pw.set a z' } = fixX X := by
    unfold fixX
    dsimp only
    rw [h1]
  unfold pcsX
  rw [h2, h3, Nat.add_comm]
  rfl
def nodeB (n x : Int) : Bool := decide (n ≥ 0) && decide (n < x)
theorem node_any (n x : Int) (b : Nat) (p : Addr) (w : World) (hp : w.cell? p = some (wrP b)) (hb : w.cell? ⟨b, 0, none⟩ = some (.int .i64 x)) : Calls Tryz.prog 106 #[.int .i64 n, .pointer (some p)] w fun e w' => e = .returned (.bool (nodeB n x)) ∧ w' = w := by
  unfold wrP at hp
  cases h1 : decide (n ≥ 0)
  · have h1' : ¬ 0 ≤ n := by simpa using h1
    go_enter Tryz.func106, Tryz.ntmps106
    go_wp2
    all_goals (try go_ret)
    all_goals (first | (simp_all [nodeB]; done) | (simp_all [nodeB]; omega))
  · have h1' : 0 ≤ n := by simpa using h1
    go_enter Tryz.func106, Tryz.ntmps106
    go_wp2
    all_goals (try go_ret)
    all_goals (first | (simp_all [nodeB]; done) | (simp_all [nodeB]; omega))
theorem node_rel {F : Fr} {σ : St} {γ : Gh} {a : Act} {w : World} {E : Ext} {l : List Ext} (hr : Rel F σ γ a w) {b : Nat} {X : RX} (hE : σ.ext = E.and (exts l)) (hi : l[0]? = some (rawU b (rvals X.R X.m))) {n : Int} {v : Bool} (h : nodeB n X.R.x.net.nodes = v) :
    ∀ p, w.cell? p = some (wrP b) → Calls Tryz.prog 106 #[.int .i64 n, .pointer (some p)] w fun e w' => e = .returned (.bool v) ∧ w' = w := fun p hp => by
  obtain ⟨T, h0⟩ : ∃ T, w.heap[b]? = some (.cells (rvals X.R X.m).toArray T (0, 0)) := hr.piece hE hi
  have h9 := node_any n X.R.x.net.nodes b p w hp (by rw [cell_of_row w _ _ _ T (0, 0) h0]; rfl)
  rw [h] at h9
  exact h9
end Go.Proofs.YtcloigoajohppaaGreatDoor
/- The reader: requests. -/
namespace Go.Proofs.YtcloigoajohppaaGreatDoor
open Go.RowKit
open Av
open Sc
set_option maxRecDepth 100000
set_option linter.unusedSimpArgs false
attribute [local go_sem] Av.guardB Av.sop Av.hopx Av.hop Av.hopCall Av.hopF Av.hopB Av.evo Av.evos Av.avCells Av.loadK Av.bound Av.abin Av.aun Av.partsC Av.lfill Av.placesB Av.setAt Av.stl Av.takes Av.src Av.bxOf Av.ownOf Av.St.res Av.St.put Av.St.addBox Av.St.putOwn Av.delL Av.delS Av.look Av.lookL Av.storeSt Av.stealSt Av.St.setBox Av.keepL Av.hitB Av.snap Av.snaps Av.snapCaps Av.AV.lit Av.AV.refs Av.capRefs Av.PV.av Av.CV.av Av.startSt Av.steals Av.athen Av.ablock Av.appK Av.AllS Av.AllO Av.AllR Av.keepS Av.St.avAt Av.RetOK Av.retAll Av.retOne Av.intsOf Av.ptrB TypeDesc.isRow List.range_zero Option.some.injEq exists_eq_left' exists_eq_left exists_eq' exists_and_left exists_and_right exists_const true_and and_true and_self false_and and_false or_false false_or or_true true_or if_true if_false Bool.false_eq_true List.zipIdx_cons List.zipIdx_nil List.map_cons List.map_nil List.filter_cons List.filter_nil List.contains_cons List.contains_nil List.drop_succ_cons List.drop_zero List.take_succ_cons List.take_zero List.take_nil List.drop_nil List.length_cons List.length_nil List.cons_append List.nil_append List.append_nil List.getElem?_cons_zero List.getElem?_cons_succ List.getElem?_nil Option.bind_some Option.bind_none Option.map_some Option.map_none Option.isNone_none Option.isNone_some Option.isSome_some Option.isSome_none Bool.and_true Bool.true_and Bool.and_false Bool.false_and Bool.or_false Bool.false_or Bool.not_true Bool.not_false beq_true beq_false Bool.true_beq Bool.false_beq Loc.s.injEq Loc.b.injEq decide_true decide_false beq_self_eq_true Nat.zero_add Nat.add_zero List.getElem?_toArray List.toList_toArray List.size_toArray Value.oneCell' List.all_cons List.all_nil Value.int.injEq AV.v.injEq AV.sl.injEq AV.agg.injEq AV.ref.injEq AV.ept.injEq AV.tup.injEq Value.bool.injEq PV.v.injEq PV.sl.injEq List.isEmpty_nil List.isEmpty_cons forall_const not_true_eq_false not_false_eq_true true_implies false_implies Value.string.injEq List.length_map List.getElem?_map Int.toNat_natCast Int.natCast_nonneg List.length_append Value.cells implies_true TypeDesc.struct.injEq TypeDesc.slice.injEq TypeDesc.array.injEq List.getElem?_toArray Prod.mk.injEq and_assoc exists_false List.cons.injEq Operand.tmp.injEq ite_self AV.fnv.injEq AV.clo.injEq ne_eq eq_self Tryz.sz3 Tryz.zr3 Tryz.by3 Tryz.pl3 Tryz.is3 Tryz.underlying3 Tryz.sz4 Tryz.zr4 Tryz.by4 Tryz.pl4 Tryz.is4 Tryz.underlying4 Tryz.sz9 Tryz.zr9 Tryz.by9 Tryz.pl9 Tryz.is9 Tryz.underlying9 Tryz.sz5 Tryz.zr5 Tryz.by5 Tryz.pl5 Tryz.is5 Tryz.underlying5 Tryz.sz56 Tryz.zr56 Tryz.by56 Tryz.pl56 Tryz.is56 Tryz.underlying56 Tryz.sz24 Tryz.zr24 Tryz.by24 Tryz.pl24 Tryz.is24 Tryz.underlying24 Tryz.sz70 Tryz.zr70 Tryz.by70 Tryz.pl70 Tryz.is70 Tryz.underlying70 Tryz.sz69 Tryz.zr69 Tryz.by69 Tryz.pl69 Tryz.is69 Tryz.underlying69 Tryz.sz72 Tryz.zr72 Tryz.by72 Tryz.pl72 Tryz.is72 Tryz.underlying72 Tryz.sz74 Tryz.zr74 Tryz.by74 Tryz.pl74 Tryz.is74 Tryz.underlying74 Tryz.sz117 Tryz.zr117 Tryz.by117 Tryz.pl117 Tryz.is117 Tryz.underlying117 Tryz.sz182 Tryz.zr182 Tryz.by182 Tryz.pl182 Tryz.is182 Tryz.underlying182 Tryz.sz64 Tryz.zr64 Tryz.by64 Tryz.pl64 Tryz.is64 Tryz.underlying64 Tryz.sz67 Tryz.zr67 Tryz.by67 Tryz.pl67 Tryz.is67 Tryz.underlying67 Tryz.sz26 Tryz.zr26 Tryz.by26 Tryz.pl26 Tryz.is26 Tryz.underlying26 Tryz.sz30 Tryz.zr30 Tryz.by30 Tryz.pl30 Tryz.is30 Tryz.underlying30 Tryz.sz126 Tryz.zr126 Tryz.by126 Tryz.pl126 Tryz.is126 Tryz.underlying126 Tryz.sz79 Tryz.zr79 Tryz.by79 Tryz.pl79 Tryz.is79 Tryz.underlying79 Tryz.sz81 Tryz.zr81 Tryz.by81 Tryz.pl81 Tryz.is81 Tryz.underlying81 Tryz.sz83 Tryz.zr83 Tryz.by83 Tryz.pl83 Tryz.is83 Tryz.underlying83 Tryz.sz85 Tryz.zr85 Tryz.by85 Tryz.pl85 Tryz.is85 Tryz.underlying85 Tryz.sz35 Tryz.zr35 Tryz.by35 Tryz.pl35 Tryz.is35 Tryz.underlying35 Tryz.sz88 Tryz.zr88 Tryz.by88 Tryz.pl88 Tryz.is88 Tryz.underlying88 Tryz.sz22 Tryz.zr22 Tryz.by22 Tryz.pl22 Tryz.is22 Tryz.underlying22 Tryz.sz23 Tryz.zr23 Tryz.by23 Tryz.pl23 Tryz.is23 Tryz.underlying23 Tryz.sz27 Tryz.zr27 Tryz.by27 Tryz.pl27 Tryz.is27 Tryz.underlying27 Tryz.sz28 Tryz.zr28 Tryz.by28 Tryz.pl28 Tryz.is28 Tryz.underlying28 Tryz.sz31 Tryz.zr31 Tryz.by31 Tryz.pl31 Tryz.is31 Tryz.underlying31 Tryz.sz32 Tryz.zr32 Tryz.by32 Tryz.pl32 Tryz.is32 Tryz.underlying32 Tryz.sz33 Tryz.zr33 Tryz.by33 Tryz.pl33 Tryz.is33 Tryz.underlying33 Tryz.sz65 Tryz.zr65 Tryz.by65 Tryz.pl65 Tryz.is65 Tryz.underlying65 Tryz.sz68 Tryz.zr68 Tryz.by68 Tryz.pl68 Tryz.is68 Tryz.underlying68 Tryz.sz46 Tryz.zr46 Tryz.by46 Tryz.pl46 Tryz.is46 Tryz.underlying46 Tryz.sz38 Tryz.zr38 Tryz.by38 Tryz.pl38 Tryz.is38 Tryz.underlying38 Tryz.sz94 Tryz.zr94 Tryz.by94 Tryz.pl94 Tryz.is94 Tryz.underlying94 Tryz.sz91 Tryz.zr91 Tryz.by91 Tryz.pl91 Tryz.is91 Tryz.underlying91 Tryz.sz86 Tryz.zr86 Tryz.by86 Tryz.pl86 Tryz.is86 Tryz.underlying86 all_arr loc_ss loc_sb loc_bs loc_bb arr_two arr_one rg1 rg2 rg3 rg4 rg5 rg6 rg7 rg8 ResultVar.tmp.injEq Bool.not_true Bool.not_false undef Tryz.sz92 Tryz.zr92 Tryz.by92 Tryz.pl92 Tryz.is92 Tryz.underlying92 Tryz.sz131 Tryz.zr131 Tryz.by131 Tryz.pl131 Tryz.is131 Tryz.underlying131 Tryz.sz134 Tryz.zr134 Tryz.by134 Tryz.pl134 Tryz.is134 Tryz.underlying134 Tryz.sz95 Tryz.zr95 Tryz.by95 Tryz.pl95 Tryz.is95 Tryz.underlying95 Tryz.sz136 Tryz.zr136 Tryz.by136 Tryz.pl136 Tryz.is136 Tryz.underlying136 Fn.func.injEq Av.extSt Av.RetX List.zipIdx List.getD_cons_zero List.getD_cons_succ Sc.Fw.pv Sc.Rq.pv Sc.Ce.pv Sc.Ch.pv Sc.Wk.pv Sc.Og.pv Sc.Lk.pv Sc.Nt.pv Sc.Sn.pv Sc.rsR
/-- A new piece, empty. -/
theorem awp_newPiece {P : Program} {F : Fr} {c : Code} {Q : AX → St → Prop} {σ : St} {E : Ext} {l : List Ext} (e : TypeId) (sz : Nat) (l' : List Ext) (hE : σ.ext = E.and (exts l)) (hp : (rowsE e sz none (.slice none 0 0) [] [] :: l).Perm l') (h : AWp P F c Q { σ with ext := E.and (exts l') }) : AWp P F c Q σ := by
 refine awp_rowsNil e sz (awp_eqE (E' := E.and (exts l')) ?_ h)
 show EqE (σ.ext.and _) _
 rw [hE]
 exact (EqE.assoc _ _ _).trans ((EqE.refl _).congr (EqE.perm hp))
theorem newP (b : Nat) (X : RX) (D A B : List Ext) (N : Ext) : (N :: pcs b X.R X.m (D ++ (A ++ B))).Perm (pcs b X.R X.m (D ++ (A ++ N :: B))) := by
 have : ∀ D, pcs b X.R X.m D = (pcs b X.R X.m []) ++ D := fun D => rfl
 rw [this, this (D ++ (A ++ N :: B)), ← List.append_assoc, ← List.append_assoc, ← List.append_assoc, ← List.append_assoc]
 exact List.perm_middle.symm
def rqV (a0 a1 a2 a3 a4 a5 : Int) : List Value := [.int .i64 a0, .int .i64 a1, .int .i64 a2, .int .i64 a3, .int .i64 a4, .int .i64 a5, .slice none 0 0]

set_option maxHeartbeats 2000000 in
theorem addQO (C : World → Prop) (b k : Nat) (vals : List Value) (q : Option Nat) (V : Value) (hv : vals[k]? = some V) (rvs : List (List Value)) (hl : rvs.length < 1024) (a0 a1 a2 a3 a4 a5 : Int) : FnX Tryz.prog C 109 [.v (.pointer (some ⟨b, k, none⟩)), .agg [ip a0, ip a1, ip a2, ip a3, ip a4, ip a5, .v (.slice none 0 0)]] (exts [rawU b vals, rawR 67 7 q V rvs]) (iv 0) (fun i : Nat × Value => exts [rawU b (vals.set k i.2), rawR 67 7 (some i.1) i.2 (rvs ++ [rqV a0 a1 a2 a3 a4 a5])]) := by
 have hd : decide ((rvs.length : Int) ≥ 1024) = false := decide_eq_false (by omega)
 have hkl : k < vals.length := (List.getElem?_eq_some_iff.1 hv).1
 refine fn_okX Tryz.func109 (by kernel_rfl) rfl (by rw [Tryz.ntmps109]; exact of_decide_eq_true rfl) (fun F E hF hC => ?_)
 rw [Tryz.ntmps109] at hF
 rw [Tryz.results109]
 simp only [go_sem, simprocAttr, hF]
 repeat (first
  | ((refine hand_eLoad (i := 0) (dd := .slice 67) rfl rfl (by decide) rfl rfl rfl (by first | assumption | rfl) Tryz.underlying27 rfl ?_); simp only [go_sem, simprocAttr, hF, hd, Av.sopJ])
  | ((refine hand_eStore (i := 0) rfl rfl rfl rfl rfl rfl (by first | assumption | exact Nat.le_of_ble_eq_true rfl | (simp only [List.length_set, List.length_cons]; omega)) (by first | assumption | rfl) (by first | assumption | rfl) Tryz.sz27 ?_); simp only [go_sem, simprocAttr, hF, hd, Av.sopJ])
  | ((with_reducible refine sopsJ_go ?_); simp only [go_sem, simprocAttr, hF, hd, Av.sopJ])
  | ((with_reducible refine sopsJ_end ?_); simp only [go_sem, simprocAttr, hF, hd, Av.sopJ])
  | (refine awp_floatJ (id := 3) [13, 1000007, 1000008, 1000013, 1000016] 6 [(6, 0)] (by kernel_rfl) (by kernel_rfl) (by kernel_rfl) rfl rfl (fun bx0 hbx => ?_); (try dsimp only [Av.addWs, Av.addW, List.modify_succ_cons, List.modify_zero_cons, List.push_toArray, List.cons_append, List.nil_append, List.take_succ_cons, List.take_zero, List.take_nil, List.drop_succ_cons, List.drop_zero, List.drop_nil]))
  | ((refine ⟨_, handq_eLoad (i := 0) (dd := .slice 67) rfl rfl (by decide) rfl rfl rfl (by first | assumption | rfl) Tryz.underlying27 rfl, rfl, ?_⟩); simp only [go_sem, simprocAttr, hF, hd, hbx])
  | ((with_reducible refine headW_go ?_); simp only [go_sem, simprocAttr, hF, hd, hbx])
  | ((with_reducible refine headW_end ?_); simp only [go_sem, simprocAttr, hF, hd, Av.sopJ])
  | ((first | refine hand_vLen (i := 1) rfl rfl (by decide) Tryz.underlying27 rfl rfl rfl ?_ | refine hand_vApp (i := 1) (e := 67) (sz := 7) (vs := rqV a0 a1 a2 a3 a4 a5) rfl rfl (by decide) Tryz.underlying27 (by kernel_rfl) rfl rfl rfl rfl rfl (by omega) (fun g2 V2 hc2 ho2 => ?_)); simp only [go_sem, simprocAttr, hF, hd, Av.sopJ])
  | ((first | with_reducible refine sops_go ?_ | with_reducible refine sops_end ?_ | with_reducible refine awp_if ?_ | with_reducible refine awp_skip ?_ | with_reducible refine awp_ret ?_); simp only [go_sem, simprocAttr, hF, hd])
  | with_reducible refine awp_seq_k fun _ _ => ?_
  | (with_reducible refine awp_region (id := 0) [13, 1000007, 1000008, 1000013, 1000016] ?_)
  | (with_reducible refine awp_region (id := 1) [13, 1000007, 1000008, 1000013, 1000016] ?_)
  | (with_reducible refine awp_region (id := 4) [13, 1000007, 1000008, 1000013, 1000016] ?_)
  | go_step)
 exact ⟨(g2, V2), rfl⟩

set_option maxHeartbeats 2000000 in
theorem rreqBF (C : World → Prop) (b : Nat) (X : RX) (a0 a1 a2 a3 a4 a5 : Int) (hl : 1024 ≤ X.bs.length) : FnX Tryz.prog C 67 [.v (wrP b), .v (.pointer (some ⟨b, 6, none⟩)), .sl 1 [[ip a0], [ip a1], [ip a2], [ip a3], [ip a4], [ip a5]]] (exts (pcsX b X)) (iv 8) (fun _ : Unit => exts (pcsX b X)) := by
 refine fn_okX Tryz.func67 (by kernel_rfl) rfl (by rw [Tryz.ntmps67]; exact of_decide_eq_true rfl) (fun F E hF hC => ?_)
 rw [Tryz.ntmps67] at hF
 rw [Tryz.results67]
 simp only [go_sem, simprocAttr, hF]
 repeat (first
  | ((with_reducible refine sopsJ_go ?_); simp only [go_sem, simprocAttr, hF, Av.sopJ])
  | (refine awp_floatJ (id := 1) [1000029, 1000035, 1000038, 1000039, 1000041, 1000042, 1000044] 21 [] (by kernel_rfl) (by kernel_rfl) (by kernel_rfl) rfl rfl (fun bx0 hbx => ?_); (try dsimp only [Av.addWs, Av.addW, List.modify_succ_cons, List.modify_zero_cons, List.push_toArray, List.cons_append, List.nil_append, List.take_succ_cons, List.take_zero, List.take_nil, List.drop_succ_cons, List.drop_zero, List.drop_nil]))
  | ((with_reducible refine headW_go ?_); simp only [go_sem, simprocAttr, hF, hbx])
  | ((with_reducible refine headW_end ?_); simp only [go_sem, simprocAttr, hF, Av.sopJ])
  | ((first | with_reducible refine sops_go ?_ | with_reducible refine sops_end ?_); simp only [go_sem, simprocAttr, hF])
  | with_reducible refine awp_seq_k fun _ _ => ?_
  | (with_reducible refine awp_region (id := 0) [1000029, 1000035, 1000038, 1000039, 1000041, 1000042, 1000044] ?_)
  | go_step)
 refine hand_call2 (i := 0) (j := 8) (addFQ C b 6 (rvals X.R X.m) X.hb.q X.hb.V rfl _ _ (by rw [List.length_map, List.length_map, List.length_reverse]; exact hl) ⟨a0, a1, a2, a3, a4, a5⟩) E rfl rfl rfl (by decide) hC rfl rfl (by decide) rfl rfl (fun i => ?_)
 simp only [go_sem, simprocAttr, hF, Av.sopJ]
 repeat (first
  | ((with_reducible refine sopsJ_go ?_); simp only [go_sem, simprocAttr, hF, Av.sopJ])
  | ((with_reducible refine sopsJ_end ?_); simp only [go_sem, simprocAttr, hF, Av.sopJ])
  | ((first | with_reducible refine sops_go ?_ | with_reducible refine sops_end ?_ | with_reducible refine awp_if ?_ | with_reducible refine awp_skip ?_ | with_reducible refine awp_ret ?_); simp only [go_sem, simprocAttr, hF])
  | with_reducible refine awp_seq_k fun _ _ => ?_
  | (with_reducible refine awp_region (id := 2) [1000029, 1000035, 1000038, 1000039, 1000041, 1000042, 1000044] ?_)
  | (with_reducible refine awp_region (id := 4) [1000029, 1000035, 1000038, 1000039, 1000041, 1000042, 1000044] ?_)
  | go_step)
 all_goals (first | rfl | exact ⟨(), rfl⟩)

set_option maxHeartbeats 2000000 in
theorem rreqBO (C : World → Prop) (b : Nat) (X : RX) (a0 a1 a2 a3 a4 a5 : Int) (hl : X.bs.length < 1024) : FnX Tryz.prog C 67 [.v (wrP b), .v (.pointer (some ⟨b, 6, none⟩)), .sl 1 [[ip a0], [ip a1], [ip a2], [ip a3], [ip a4], [ip a5]]] (exts (pcsX b X)) (iv 0) (fun i : Nat × Value => exts (pcsX b { X with hb := ⟨some i.1, i.2⟩, M := { X.M with rt := .pointer (some ⟨i.1, X.bs.length * 7 + 6, none⟩) }, bs := ⟨⟨a0, a1, a2, a3, a4, a5⟩, [], none, .slice none 0 0, []⟩ :: X.bs })) := by
 have hsub : IntKind.i64.wrap (((X.bs.reverse.length + 1 : Nat) : Int) - 1) = (X.bs.length : Int) := by
  rw [List.length_reverse, IntKind.wrap_i64]
  omega
 have hjl : X.bs.length < ((X.bs.reverse.map Rz.vals) ++ [rqV a0 a1 a2 a3 a4 a5]).length := by simp
 refine fn_okX Tryz.func67 (by kernel_rfl) rfl (by rw [Tryz.ntmps67]; exact of_decide_eq_true rfl) (fun F E hF hC => ?_)
 rw [Tryz.ntmps67] at hF
 rw [Tryz.results67]
 simp only [go_sem, simprocAttr, hF]
 refine awp_newPiece 68 1 (pcs b X.R X.m (fixX X ++ (X.zs.map Rz.ext ++ (((⟨⟨a0, a1, a2, a3, a4, a5⟩, [], none, .slice none 0 0, []⟩ : Rz) :: X.bs).map Rz.ext ++ X.pw.map Pz.ext)))) rfl (newP _ _ _ _ _ _) ?_
 repeat (first
  | ((with_reducible refine sopsJ_go ?_); simp only [go_sem, simprocAttr, hF, hsub, Av.sopJ])
  | (refine awp_floatJ (id := 1) [1000029, 1000035, 1000038, 1000039, 1000041, 1000042, 1000044] 21 [] (by kernel_rfl) (by kernel_rfl) (by kernel_rfl) rfl rfl (fun bx0 hbx => ?_); (try dsimp only [Av.addWs, Av.addW, List.modify_succ_cons, List.modify_zero_cons, List.push_toArray, List.cons_append, List.nil_append, List.take_succ_cons, List.take_zero, List.take_nil, List.drop_succ_cons, List.drop_zero, List.drop_nil]))
  | ((with_reducible refine headW_go ?_); simp only [go_sem, simprocAttr, hF, hsub, hbx])
  | ((with_reducible refine headW_end ?_); simp only [go_sem, simprocAttr, hF, hsub, Av.sopJ])
  | ((first | with_reducible refine sops_go ?_ | with_reducible refine sops_end ?_); simp only [go_sem, simprocAttr, hF, hsub])
  | with_reducible refine awp_seq_k fun _ _ => ?_
  | (with_reducible refine awp_region (id := 0) [1000029, 1000035, 1000038, 1000039, 1000041, 1000042, 1000044] ?_)
  | go_step)
 refine hand_call2 (i := 0) (j := 8) (addQO C b 6 (rvals X.R X.m) X.hb.q X.hb.V rfl (X.bs.reverse.map Rz.vals) (by rw [List.length_map, List.length_reverse]; exact hl) a0 a1 a2 a3 a4 a5) E rfl rfl rfl (by decide) hC rfl rfl (by decide) rfl rfl (fun i => ?_)
 simp only [go_sem, simprocAttr, hF, hsub, Av.sopJ]
 repeat (first
  | ((refine hand_rawField rfl rfl (by decide) Tryz.underlying94 rfl (m := 0) rfl rfl ?_); simp only [go_sem, simprocAttr, hF, hsub, Av.sopJ])
  | ((refine hand_eStore (i := 0) rfl rfl rfl rfl rfl rfl (by first | assumption | exact Nat.le_of_ble_eq_true rfl | (simp only [List.length_set, List.length_cons]; omega)) (by first | assumption | rfl) (by first | assumption | rfl) Tryz.sz92 ?_); simp only [go_sem, simprocAttr, hF, hsub, Av.sopJ])
  | ((with_reducible refine sopsJ_go ?_); simp only [go_sem, simprocAttr, hF, hsub, Av.sopJ])
  | ((with_reducible refine sopsJ_end ?_); simp only [go_sem, simprocAttr, hF, hsub, Av.sopJ])
  | (refine awp_floatJ (id := 3) [1000029, 1000035, 1000038, 1000039, 1000041, 1000042, 1000044] 11 [] (by kernel_rfl) (by kernel_rfl) (by kernel_rfl) rfl rfl (fun bx0 hbx => ?_); (try dsimp only [Av.addWs, Av.addW, List.modify_succ_cons, List.modify_zero_cons, List.push_toArray, List.cons_append, List.nil_append, List.take_succ_cons, List.take_zero, List.take_nil, List.drop_succ_cons, List.drop_zero, List.drop_nil]))
  | ((with_reducible refine headW_go ?_); simp only [go_sem, simprocAttr, hF, hsub, hbx])
  | ((with_reducible refine headW_end ?_); simp only [go_sem, simprocAttr, hF, hsub, Av.sopJ])
  | ((first | refine ⟨_, handq_eLoad (i := 0) (dd := .slice 67) rfl rfl (by decide) rfl rfl rfl rfl Tryz.underlying27 rfl, rfl, ?_⟩ | refine ⟨_, handq_vLen (i := 8) rfl rfl (by decide) Tryz.underlying27 rfl rfl rfl, rfl, ?_⟩ | refine ⟨_, handq_vIndex (i := 8) (j := X.bs.length) rfl rfl (by decide) rfl rfl rfl rfl hjl Tryz.underlying27 Tryz.sz67, rfl, ?_⟩ | refine ⟨_, handq_rawField rfl rfl (by decide) Tryz.underlying67 rfl (m := 0) rfl rfl, rfl, ?_⟩); simp only [go_sem, simprocAttr, hF, hsub, hbx])
  | ((first | with_reducible refine sops_go ?_ | with_reducible refine sops_end ?_ | with_reducible refine awp_if ?_ | with_reducible refine awp_ret ?_); simp only [go_sem, simprocAttr, hF, hsub])
  | with_reducible refine awp_seq_k fun _ _ => ?_
  | (with_reducible refine awp_region (id := 2) [1000029, 1000035, 1000038, 1000039, 1000041, 1000042, 1000044] ?_)
  | (with_reducible refine awp_region (id := 4) [1000029, 1000035, 1000038, 1000039, 1000041, 1000042, 1000044] ?_)
  | go_step)
 have h9 : ((⟨⟨a0, a1, a2, a3, a4, a5⟩, [], none, .slice none 0 0, []⟩ : Rz) :: X.bs).reverse.map Rz.vals = X.bs.reverse.map Rz.vals ++ [rqV a0 a1 a2 a3 a4 a5] := by rw [List.reverse_cons, List.map_append]; rfl
 refine ⟨i, ?_⟩
 unfold pcsX fixX
 dsimp only
 rw [h9]
 rfl

set_option maxHeartbeats 2000000 in
theorem rreqAF (C : World → Prop) (b : Nat) (X : RX) (a0 a1 a2 a3 a4 a5 : Int) (hl : 1024 ≤ X.zs.length) : FnX Tryz.prog C 67 [.v (wrP b), .v (.pointer (some ⟨b, 7, none⟩)), .sl 1 [[ip a0], [ip a1], [ip a2], [ip a3], [ip a4], [ip a5]]] (exts (pcsX b X)) (iv 8) (fun _ : Unit => exts (pcsX b X)) := by
 refine fn_okX Tryz.func67 (by kernel_rfl) rfl (by rw [Tryz.ntmps67]; exact of_decide_eq_true rfl) (fun F E hF hC => ?_)
 rw [Tryz.ntmps67] at hF
 rw [Tryz.results67]
 simp only [go_sem, simprocAttr, hF]
 repeat (first
  | ((with_reducible refine sopsJ_go ?_); simp only [go_sem, simprocAttr, hF, Av.sopJ])
  | (refine awp_floatJ (id := 1) [1000029, 1000035, 1000038, 1000039, 1000041, 1000042, 1000044] 21 [] (by kernel_rfl) (by kernel_rfl) (by kernel_rfl) rfl rfl (fun bx0 hbx => ?_); (try dsimp only [Av.addWs, Av.addW, List.modify_succ_cons, List.modify_zero_cons, List.push_toArray, List.cons_append, List.nil_append, List.take_succ_cons, List.take_zero, List.take_nil, List.drop_succ_cons, List.drop_zero, List.drop_nil]))
  | ((with_reducible refine headW_go ?_); simp only [go_sem, simprocAttr, hF, hbx])
  | ((with_reducible refine headW_end ?_); simp only [go_sem, simprocAttr, hF, Av.sopJ])
  | ((first | with_reducible refine sops_go ?_ | with_reducible refine sops_end ?_); simp only [go_sem, simprocAttr, hF])
  | with_reducible refine awp_seq_k fun _ _ => ?_
  | (with_reducible refine awp_region (id := 0) [1000029, 1000035, 1000038, 1000039, 1000041, 1000042, 1000044] ?_)
  | go_step)
 refine hand_call2 (i := 0) (j := 9) (addFQ C b 7 (rvals X.R X.m) X.ha.q X.ha.V rfl _ _ (by rw [List.length_map, List.length_map, List.length_reverse]; exact hl) ⟨a0, a1, a2, a3, a4, a5⟩) E rfl rfl rfl (by decide) hC rfl rfl (by decide) rfl rfl (fun i => ?_)
 simp only [go_sem, simprocAttr, hF, Av.sopJ]
 repeat (first
  | ((with_reducible refine sopsJ_go ?_); simp only [go_sem, simprocAttr, hF, Av.sopJ])
  | ((with_reducible refine sopsJ_end ?_); simp only [go_sem, simprocAttr, hF, Av.sopJ])
  | ((first | with_reducible refine sops_go ?_ | with_reducible refine sops_end ?_ | with_reducible refine awp_if ?_ | with_reducible refine awp_skip ?_ | with_reducible refine awp_ret ?_); simp only [go_sem, simprocAttr, hF])
  | with_reducible refine awp_seq_k fun _ _ => ?_
  | (with_reducible refine awp_region (id := 2) [1000029, 1000035, 1000038, 1000039, 1000041, 1000042, 1000044] ?_)
  | (with_reducible refine awp_region (id := 4) [1000029, 1000035, 1000038, 1000039, 1000041, 1000042, 1000044] ?_)
  | go_step)
 all_goals (first | rfl | exact ⟨(), rfl⟩)

set_option maxHeartbeats 2000000 in
theorem rreqAO (C : World → Prop) (b : Nat) (X : RX) (a0 a1 a2 a3 a4 a5 : Int) (hl : X.zs.length < 1024) : FnX Tryz.prog C 67 [.v (wrP b), .v (.pointer (some ⟨b, 7, none⟩)), .sl 1 [[ip a0], [ip a1], [ip a2], [ip a3], [ip a4], [ip a5]]] (exts (pcsX b X)) (iv 0) (fun i : Nat × Value => exts (pcsX b { X with ha := ⟨some i.1, i.2⟩, M := { X.M with rt := .pointer (some ⟨i.1, X.zs.length * 7 + 6, none⟩) }, zs := ⟨⟨a0, a1, a2, a3, a4, a5⟩, [], none, .slice none 0 0, []⟩ :: X.zs })) := by
 have hsub : IntKind.i64.wrap (((X.zs.reverse.length + 1 : Nat) : Int) - 1) = (X.zs.length : Int) := by
  rw [List.length_reverse, IntKind.wrap_i64]
  omega
 have hjl : X.zs.length < ((X.zs.reverse.map Rz.vals) ++ [rqV a0 a1 a2 a3 a4 a5]).length := by simp
 refine fn_okX Tryz.func67 (by kernel_rfl) rfl (by rw [Tryz.ntmps67]; exact of_decide_eq_true rfl) (fun F E hF hC => ?_)
 rw [Tryz.ntmps67] at hF
 rw [Tryz.results67]
 simp only [go_sem, simprocAttr, hF]
 refine awp_newPiece 68 1 (pcs b X.R X.m (fixX X ++ (((⟨⟨a0, a1, a2, a3, a4, a5⟩, [], none, .slice none 0 0, []⟩ : Rz) :: X.zs).map Rz.ext ++ (X.bs.map Rz.ext ++ X.pw.map Pz.ext)))) rfl (newP _ _ _ [] _ _) ?_
 repeat (first
  | ((with_reducible refine sopsJ_go ?_); simp only [go_sem, simprocAttr, hF, hsub, Av.sopJ])
  | (refine awp_floatJ (id := 1) [1000029, 1000035, 1000038, 1000039, 1000041, 1000042, 1000044] 21 [] (by kernel_rfl) (by kernel_rfl) (by kernel_rfl) rfl rfl (fun bx0 hbx => ?_); (try dsimp only [Av.addWs, Av.addW, List.modify_succ_cons, List.modify_zero_cons, List.push_toArray, List.cons_append, List.nil_append, List.take_succ_cons, List.take_zero, List.take_nil, List.drop_succ_cons, List.drop_zero, List.drop_nil]))
  | ((with_reducible refine headW_go ?_); simp only [go_sem, simprocAttr, hF, hsub, hbx])
  | ((with_reducible refine headW_end ?_); simp only [go_sem, simprocAttr, hF, hsub, Av.sopJ])
  | ((first | with_reducible refine sops_go ?_ | with_reducible refine sops_end ?_); simp only [go_sem, simprocAttr, hF, hsub])
  | with_reducible refine awp_seq_k fun _ _ => ?_
  | (with_reducible refine awp_region (id := 0) [1000029, 1000035, 1000038, 1000039, 1000041, 1000042, 1000044] ?_)
  | go_step)
 refine hand_call2 (i := 0) (j := 9) (addQO C b 7 (rvals X.R X.m) X.ha.q X.ha.V rfl (X.zs.reverse.map Rz.vals) (by rw [List.length_map, List.length_reverse]; exact hl) a0 a1 a2 a3 a4 a5) E rfl rfl rfl (by decide) hC rfl rfl (by decide) rfl rfl (fun i => ?_)
 simp only [go_sem, simprocAttr, hF, hsub, Av.sopJ]
 repeat (first
  | ((refine hand_rawField rfl rfl (by decide) Tryz.underlying94 rfl (m := 0) rfl rfl ?_); simp only [go_sem, simprocAttr, hF, hsub, Av.sopJ])
  | ((refine hand_eStore (i := 0) rfl rfl rfl rfl rfl rfl (by first | assumption | exact Nat.le_of_ble_eq_true rfl | (simp only [List.length_set, List.length_cons]; omega)) (by first | assumption | rfl) (by first | assumption | rfl) Tryz.sz92 ?_); simp only [go_sem, simprocAttr, hF, hsub, Av.sopJ])
  | ((with_reducible refine sopsJ_go ?_); simp only [go_sem, simprocAttr, hF, hsub, Av.sopJ])
  | ((with_reducible refine sopsJ_end ?_); simp only [go_sem, simprocAttr, hF, hsub, Av.sopJ])
  | (refine awp_floatJ (id := 3) [1000029, 1000035, 1000038, 1000039, 1000041, 1000042, 1000044] 11 [] (by kernel_rfl) (by kernel_rfl) (by kernel_rfl) rfl rfl (fun bx0 hbx => ?_); (try dsimp only [Av.addWs, Av.addW, List.modify_succ_cons, List.modify_zero_cons, List.push_toArray, List.cons_append, List.nil_append, List.take_succ_cons, List.take_zero, List.take_nil, List.drop_succ_cons, List.drop_zero, List.drop_nil]))
  | ((with_reducible refine headW_go ?_); simp only [go_sem, simprocAttr, hF, hsub, hbx])
  | ((with_reducible refine headW_end ?_); simp only [go_sem, simprocAttr, hF, hsub, Av.sopJ])
  | ((first | refine ⟨_, handq_eLoad (i := 0) (dd := .slice 67) rfl rfl (by decide) rfl rfl rfl rfl Tryz.underlying27 rfl, rfl, ?_⟩ | refine ⟨_, handq_vLen (i := 9) rfl rfl (by decide) Tryz.underlying27 rfl rfl rfl, rfl, ?_⟩ | refine ⟨_, handq_vIndex (i := 9) (j := X.zs.length) rfl rfl (by decide) rfl rfl rfl rfl hjl Tryz.underlying27 Tryz.sz67, rfl, ?_⟩ | refine ⟨_, handq_rawField rfl rfl (by decide) Tryz.underlying67 rfl (m := 0) rfl rfl, rfl, ?_⟩); simp only [go_sem, simprocAttr, hF, hsub, hbx])
  | ((first | with_reducible refine sops_go ?_ | with_reducible refine sops_end ?_ | with_reducible refine awp_if ?_ | with_reducible refine awp_ret ?_); simp only [go_sem, simprocAttr, hF, hsub])
  | with_reducible refine awp_seq_k fun _ _ => ?_
  | (with_reducible refine awp_region (id := 2) [1000029, 1000035, 1000038, 1000039, 1000041, 1000042, 1000044] ?_)
  | (with_reducible refine awp_region (id := 4) [1000029, 1000035, 1000038, 1000039, 1000041, 1000042, 1000044] ?_)
  | go_step)
 have h9 : ((⟨⟨a0, a1, a2, a3, a4, a5⟩, [], none, .slice none 0 0, []⟩ : Rz) :: X.zs).reverse.map Rz.vals = X.zs.reverse.map Rz.vals ++ [rqV a0 a1 a2 a3 a4 a5] := by rw [List.reverse_cons, List.map_append]; rfl
 refine ⟨i, ?_⟩
 unfold pcsX fixX
 dsimp only
 rw [h9]
 rfl
/- The reader: links. -/
set_option maxHeartbeats 2000000 in
theorem rlinkF (C : World → Prop) (b : Nat) (R : Rd) (M : RM) (tl : List Ext) (a0 a1 a2 a3 : Int) (hl : 1024 ≤ R.x.net.links.length) : FnX Tryz.prog C 65 [.v (wrP b), .sl 1 [[ip a0], [ip a1], [ip a2], [ip a3]]] (exts (pcs b R M tl)) (iv 8) (fun _ : Unit => exts (pcs b R M tl)) := by
 refine fn_okX Tryz.func65 (by kernel_rfl) rfl (by rw [Tryz.ntmps65]; exact of_decide_eq_true rfl) (fun F E hF hC => ?_)
 rw [Tryz.ntmps65] at hF
 rw [Tryz.results65]
 simp only [go_sem, simprocAttr, hF]
 repeat (first
  | ((with_reducible refine sopsJ_go ?_); simp only [go_sem, simprocAttr, hF, Av.sopJ])
  | (refine awp_floatJ (id := 1) [1000008, 1000009, 1000010, 1000021, 1000027, 1000028, 1000029, 1000033] 15 [] (by kernel_rfl) (by kernel_rfl) (by kernel_rfl) rfl rfl (fun bx0 hbx => ?_); (try dsimp only [Av.addWs, Av.addW, List.modify_succ_cons, List.modify_zero_cons, List.push_toArray, List.cons_append, List.nil_append, List.take_succ_cons, List.take_zero, List.take_nil, List.drop_succ_cons, List.drop_zero, List.drop_nil]))
  | ((first | refine ⟨_, handq_rawField rfl rfl (by decide) Tryz.underlying94 rfl (m := 14) rfl rfl, rfl, ?_⟩ | refine ⟨_, handq_rawField rfl rfl (by decide) Tryz.underlying35 rfl (m := 5) rfl rfl, rfl, ?_⟩ | refine ⟨_, handq_rawField rfl rfl (by decide) Tryz.underlying26 rfl (m := 0) rfl rfl, rfl, ?_⟩); simp only [go_sem, simprocAttr, hF, hbx])
  | ((with_reducible refine headW_go ?_); simp only [go_sem, simprocAttr, hF, hbx])
  | ((with_reducible refine headW_end ?_); simp only [go_sem, simprocAttr, hF, Av.sopJ])
  | ((first | with_reducible refine sops_go ?_ | with_reducible refine sops_end ?_); simp only [go_sem, simprocAttr, hF])
  | with_reducible refine awp_seq_k fun _ _ => ?_
  | (with_reducible refine awp_region (id := 0) [1000008, 1000009, 1000010, 1000021, 1000027, 1000028, 1000029, 1000033] ?_)
  | go_step)
 refine hand_call2 (i := 0) (j := 1) (addFL C b 4 (rvals R M) M.hl.q M.hl.V rfl M.hl.xs _ (by rw [List.length_map]; omega) ⟨a0, a1, a2⟩) E rfl rfl rfl (by decide) hC rfl rfl (by decide) rfl rfl (fun i => ?_)
 simp only [go_sem, simprocAttr, hF, Av.sopJ]
 repeat (first
  | ((with_reducible refine sopsJ_go ?_); simp only [go_sem, simprocAttr, hF, Av.sopJ])
  | ((with_reducible refine sopsJ_end ?_); simp only [go_sem, simprocAttr, hF, Av.sopJ])
  | ((first | with_reducible refine sops_go ?_ | with_reducible refine sops_end ?_ | with_reducible refine awp_if ?_ | with_reducible refine awp_ret ?_); simp only [go_sem, simprocAttr, hF])
  | with_reducible refine awp_seq_k fun _ _ => ?_
  | (with_reducible refine awp_region (id := 2) [1000008, 1000009, 1000010, 1000021, 1000027, 1000028, 1000029, 1000033] ?_)
  | (with_reducible refine awp_region (id := 3) [1000008, 1000009, 1000010, 1000021, 1000027, 1000028, 1000029, 1000033] ?_)
  | go_step)
 all_goals (first | rfl | exact ⟨(), rfl⟩)

set_option maxHeartbeats 2000000 in
theorem rlinkO (C : World → Prop) (b : Nat) (R : Rd) (M : RM) (tl : List Ext) (a0 a1 a2 a3 : Int) (hl : R.x.net.links.length < 1024) (hm : R.x.net.margin.length < 1024) : FnX Tryz.prog C 65 [.v (wrP b), .sl 1 [[ip a0], [ip a1], [ip a2], [ip a3]]] (exts (pcs b R M tl)) (iv 0) (fun i : Hdr × Hdr => exts (pcs b { R with x := { R.x with net := { R.x.net with links := R.x.net.links ++ [⟨a0, a1, a2⟩], margin := R.x.net.margin ++ [a3] } } } { M with hl := i.1, hm := i.2 } tl)) := by
 refine fn_okX Tryz.func65 (by kernel_rfl) rfl (by rw [Tryz.ntmps65]; exact of_decide_eq_true rfl) (fun F E hF hC => ?_)
 rw [Tryz.ntmps65] at hF
 rw [Tryz.results65]
 simp only [go_sem, simprocAttr, hF]
 repeat (first
  | ((with_reducible refine sopsJ_go ?_); simp only [go_sem, simprocAttr, hF, Av.sopJ])
  | (refine awp_floatJ (id := 1) [1000008, 1000009, 1000010, 1000021, 1000027, 1000028, 1000029, 1000033] 15 [] (by kernel_rfl) (by kernel_rfl) (by kernel_rfl) rfl rfl (fun bx0 hbx => ?_); (try dsimp only [Av.addWs, Av.addW, List.modify_succ_cons, List.modify_zero_cons, List.push_toArray, List.cons_append, List.nil_append, List.take_succ_cons, List.take_zero, List.take_nil, List.drop_succ_cons, List.drop_zero, List.drop_nil]))
  | ((first | refine ⟨_, handq_rawField rfl rfl (by decide) Tryz.underlying94 rfl (m := 14) rfl rfl, rfl, ?_⟩ | refine ⟨_, handq_rawField rfl rfl (by decide) Tryz.underlying35 rfl (m := 5) rfl rfl, rfl, ?_⟩ | refine ⟨_, handq_rawField rfl rfl (by decide) Tryz.underlying26 rfl (m := 0) rfl rfl, rfl, ?_⟩); simp only [go_sem, simprocAttr, hF, hbx])
  | ((with_reducible refine headW_go ?_); simp only [go_sem, simprocAttr, hF, hbx])
  | ((with_reducible refine headW_end ?_); simp only [go_sem, simprocAttr, hF, Av.sopJ])
  | ((first | with_reducible refine sops_go ?_ | with_reducible refine sops_end ?_); simp only [go_sem, simprocAttr, hF])
  | with_reducible refine awp_seq_k fun _ _ => ?_
  | (with_reducible refine awp_region (id := 0) [1000008, 1000009, 1000010, 1000021, 1000027, 1000028, 1000029, 1000033] ?_)
  | go_step)
 refine hand_call2 (i := 0) (j := 1) (addOL C b 4 (rvals R M) M.hl.q M.hl.V rfl M.hl.xs _ (by rw [List.length_map]; omega) ⟨a0, a1, a2⟩) E rfl rfl rfl (by decide) hC rfl rfl (by decide) rfl rfl (fun i => ?_)
 simp only [go_sem, simprocAttr, hF, Av.sopJ]
 repeat (first
  | ((with_reducible refine sopsJ_go ?_); simp only [go_sem, simprocAttr, hF, Av.sopJ])
  | ((with_reducible refine sopsJ_end ?_); simp only [go_sem, simprocAttr, hF, Av.sopJ])
  | (refine awp_floatJ (id := 4) [1000008, 1000009, 1000010, 1000021, 1000027, 1000028, 1000029, 1000033] 8 [] (by kernel_rfl) (by kernel_rfl) (by kernel_rfl) rfl rfl (fun bx0 hbx => ?_); (try dsimp only [Av.addWs, Av.addW, List.modify_succ_cons, List.modify_zero_cons, List.push_toArray, List.cons_append, List.nil_append, List.take_succ_cons, List.take_zero, List.take_nil, List.drop_succ_cons, List.drop_zero, List.drop_nil]))
  | ((first | refine ⟨_, handq_rawField rfl rfl (by decide) Tryz.underlying94 rfl (m := 14) rfl rfl, rfl, ?_⟩ | refine ⟨_, handq_rawField rfl rfl (by decide) Tryz.underlying35 rfl (m := 5) rfl rfl, rfl, ?_⟩ | refine ⟨_, handq_rawField rfl rfl (by decide) Tryz.underlying26 rfl (m := 0) rfl rfl, rfl, ?_⟩); simp only [go_sem, simprocAttr, hF, hbx])
  | ((with_reducible refine headW_go ?_); simp only [go_sem, simprocAttr, hF, hbx])
  | ((with_reducible refine headW_end ?_); simp only [go_sem, simprocAttr, hF, Av.sopJ])
  | ((first | with_reducible refine sops_go ?_ | with_reducible refine sops_end ?_ | with_reducible refine awp_if ?_ | with_reducible refine awp_skip ?_); simp only [go_sem, simprocAttr, hF])
  | with_reducible refine awp_seq_k fun _ _ => ?_
  | (with_reducible refine awp_region (id := 2) [1000008, 1000009, 1000010, 1000021, 1000027, 1000028, 1000029, 1000033] ?_)
  | go_step)
 refine hand_call2 (i := 0) (j := 2) (addOI C b 5 ((rvals R M).set 4 i.2.1) M.hm.q M.hm.V rfl M.hm.xs _ (by rw [List.length_map]; omega) a3) E rfl rfl rfl (by decide) hC rfl rfl (by decide) rfl rfl (fun i2 => ?_)
 simp only [go_sem, simprocAttr, hF, Av.sopJ]
 repeat (first
  | ((with_reducible refine sopsJ_go ?_); simp only [go_sem, simprocAttr, hF, Av.sopJ])
  | ((with_reducible refine sopsJ_end ?_); simp only [go_sem, simprocAttr, hF, Av.sopJ])
  | (with_reducible refine awp_ret ?_; simp only [go_sem, simprocAttr, hF])
  | go_step)
 refine ⟨((⟨i.1, i.2.1, i.2.2⟩ : Hdr), (⟨i2.1, i2.2.1, i2.2.2⟩ : Hdr)), ?_⟩
 simp only [pcs, List.map_append, List.map_cons, List.map_nil]
 rfl
/- The reader: changes, weak links, outages. -/
set_option maxHeartbeats 2000000 in
theorem rchangeF (C : World → Prop) (b : Nat) (R : Rd) (M : RM) (tl : List Ext) (adds : Bool) (a0 a1 a2 a3 a4 a5 : Int) (hl : 1024 ≤ R.x.changes.length) :
 FnX Tryz.prog C 72 [.v (wrP b), .v (.bool adds), .sl 1 [[ip a0], [ip a1], [ip a2], [ip a3], [ip a4], [ip a5]]] (exts (pcs b R M tl)) (iv 8) (fun _ : Unit => exts (pcs b R M tl)) := by
 refine fn_okX Tryz.func72 (by kernel_rfl) rfl (by rw [Tryz.ntmps72]; exact of_decide_eq_true rfl) (fun F E hF hC => ?_)
 rw [Tryz.ntmps72] at hF
 rw [Tryz.results72]
 simp only [go_sem, simprocAttr, hF]
 repeat (first
  | (refine awp_floatJ (id := 1) [1000009, 1000010, 1000019] 12 [] (by kernel_rfl) (by kernel_rfl) (by kernel_rfl) rfl rfl (fun bx0 hbx => ?_); (try dsimp only [Av.addWs, Av.addW, List.modify_succ_cons, List.modify_zero_cons, List.push_toArray, List.cons_append, List.nil_append, List.take_succ_cons, List.take_zero, List.take_nil, List.drop_succ_cons, List.drop_zero, List.drop_nil]))
  | ((first | refine ⟨_, handq_rawField rfl rfl (by decide) Tryz.underlying94 rfl (m := 14) rfl rfl, rfl, ?_⟩ | refine ⟨_, handq_rawField rfl rfl (by decide) Tryz.underlying35 rfl (m := 0) rfl rfl, rfl, ?_⟩); simp only [go_sem, simprocAttr, hF, hbx])
  | ((with_reducible refine headW_go ?_); simp only [go_sem, simprocAttr, hF, hbx])
  | ((first | with_reducible refine sops_go ?_ | with_reducible refine sops_end ?_); simp only [go_sem, simprocAttr, hF])
  | with_reducible refine awp_seq_k fun _ _ => ?_
  | (with_reducible refine awp_region (id := 0) [1000009, 1000010, 1000019] ?_)
  | go_step)
 refine ⟨_, cellOf_ok a1 a2 a3 a4 a5, ?_⟩
 simp only [go_sem, simprocAttr, hF, Av.sopJ, hbx]
 repeat (first
  | ((with_reducible refine sopsJ_go ?_); simp only [go_sem, simprocAttr, hF, Av.sopJ])
  | ((with_reducible refine headW_go ?_); simp only [go_sem, simprocAttr, hF, hbx])
  | ((with_reducible refine headW_end ?_); simp only [go_sem, simprocAttr, hF, Av.sopJ]))
 refine hand_call2 (i := 0) (j := 4) (addFH C b 11 (rvals R M) M.hh.q M.hh.V rfl M.hh.xs _ (by rw [List.length_map]; omega) ⟨a0, adds, ⟨a1, a2, a3, a4, a5⟩⟩) E rfl rfl rfl (by decide) hC rfl rfl (by decide) rfl rfl (fun i => ?_)
 simp only [go_sem, simprocAttr, hF, Av.sopJ]
 repeat (first
  | ((with_reducible refine sopsJ_go ?_); simp only [go_sem, simprocAttr, hF, Av.sopJ])
  | ((with_reducible refine sopsJ_end ?_); simp only [go_sem, simprocAttr, hF, Av.sopJ])
  | (with_reducible refine awp_ret ?_; simp only [go_sem, simprocAttr, hF])
  | go_step)
 all_goals (first | rfl | exact ⟨(), rfl⟩)

set_option maxHeartbeats 2000000 in
theorem rchangeO (C : World → Prop) (b : Nat) (R : Rd) (M : RM) (tl : List Ext) (adds : Bool) (a0 a1 a2 a3 a4 a5 : Int) (hl : R.x.changes.length < 1024) :
 FnX Tryz.prog C 72 [.v (wrP b), .v (.bool adds), .sl 1 [[ip a0], [ip a1], [ip a2], [ip a3], [ip a4], [ip a5]]] (exts (pcs b R M tl)) (iv 0) (fun i : Hdr => exts (pcs b { R with x := { R.x with changes := R.x.changes ++ [⟨a0, adds, ⟨a1, a2, a3, a4, a5⟩⟩] } } { M with hh := i } tl)) := by
 refine fn_okX Tryz.func72 (by kernel_rfl) rfl (by rw [Tryz.ntmps72]; exact of_decide_eq_true rfl) (fun F E hF hC => ?_)
 rw [Tryz.ntmps72] at hF
 rw [Tryz.results72]
 simp only [go_sem, simprocAttr, hF]
 repeat (first
  | (refine awp_floatJ (id := 1) [1000009, 1000010, 1000019] 12 [] (by kernel_rfl) (by kernel_rfl) (by kernel_rfl) rfl rfl (fun bx0 hbx => ?_); (try dsimp only [Av.addWs, Av.addW, List.modify_succ_cons, List.modify_zero_cons, List.push_toArray, List.cons_append, List.nil_append, List.take_succ_cons, List.take_zero, List.take_nil, List.drop_succ_cons, List.drop_zero, List.drop_nil]))
  | ((first | refine ⟨_, handq_rawField rfl rfl (by decide) Tryz.underlying94 rfl (m := 14) rfl rfl, rfl, ?_⟩ | refine ⟨_, handq_rawField rfl rfl (by decide) Tryz.underlying35 rfl (m := 0) rfl rfl, rfl, ?_⟩); simp only [go_sem, simprocAttr, hF, hbx])
  | ((with_reducible refine headW_go ?_); simp only [go_sem, simprocAttr, hF, hbx])
  | ((first | with_reducible refine sops_go ?_ | with_reducible refine sops_end ?_); simp only [go_sem, simprocAttr, hF])
  | with_reducible refine awp_seq_k fun _ _ => ?_
  | (with_reducible refine awp_region (id := 0) [1000009, 1000010, 1000019] ?_)
  | go_step)
 refine ⟨_, cellOf_ok a1 a2 a3 a4 a5, ?_⟩
 simp only [go_sem, simprocAttr, hF, Av.sopJ, hbx]
 repeat (first
  | ((with_reducible refine sopsJ_go ?_); simp only [go_sem, simprocAttr, hF, Av.sopJ])
  | ((with_reducible refine headW_go ?_); simp only [go_sem, simprocAttr, hF, hbx])
  | ((with_reducible refine headW_end ?_); simp only [go_sem, simprocAttr, hF, Av.sopJ]))
 refine hand_call2 (i := 0) (j := 4) (addOH C b 11 (rvals R M) M.hh.q M.hh.V rfl M.hh.xs _ (by rw [List.length_map]; omega) ⟨a0, adds, ⟨a1, a2, a3, a4, a5⟩⟩) E rfl rfl rfl (by decide) hC rfl rfl (by decide) rfl rfl (fun i => ?_)
 simp only [go_sem, simprocAttr, hF, Av.sopJ]
 repeat (first
  | ((with_reducible refine sopsJ_go ?_); simp only [go_sem, simprocAttr, hF, Av.sopJ])
  | ((with_reducible refine sopsJ_end ?_); simp only [go_sem, simprocAttr, hF, Av.sopJ])
  | (with_reducible refine awp_ret ?_; simp only [go_sem, simprocAttr, hF])
  | go_step)
 refine ⟨(⟨i.1, i.2.1, i.2.2⟩ : Hdr), ?_⟩
 simp only [pcs, List.map_append, List.map_cons, List.map_nil]
 rfl

set_option maxHeartbeats 2000000 in
theorem rweakF (C : World → Prop) (b : Nat) (R : Rd) (M : RM) (tl : List Ext) (a0 a1 a2 a3 a4 : Int) (hl : 1024 ≤ R.x.weak.length) :
 FnX Tryz.prog C 74 [.v (wrP b), .sl 1 [[ip a0], [ip a1], [ip a2], [ip a3], [ip a4]]] (exts (pcs b R M tl)) (iv 8) (fun _ : Unit => exts (pcs b R M tl)) := by
 refine fn_okX Tryz.func74 (by kernel_rfl) rfl (by rw [Tryz.ntmps74]; exact of_decide_eq_true rfl) (fun F E hF hC => ?_)
 rw [Tryz.ntmps74] at hF
 rw [Tryz.results74]
 simp only [go_sem, simprocAttr, hF]
 repeat (first
  | ((with_reducible refine sopsJ_go ?_); simp only [go_sem, simprocAttr, hF, Av.sopJ])
  | (refine awp_floatJ (id := 1) [1000007, 1000008, 1000025] 20 [] (by kernel_rfl) (by kernel_rfl) (by kernel_rfl) rfl rfl (fun bx0 hbx => ?_); (try dsimp only [Av.addWs, Av.addW, List.modify_succ_cons, List.modify_zero_cons, List.push_toArray, List.cons_append, List.nil_append, List.take_succ_cons, List.take_zero, List.take_nil, List.drop_succ_cons, List.drop_zero, List.drop_nil]))
  | ((first | refine ⟨_, handq_rawField rfl rfl (by decide) Tryz.underlying94 rfl (m := 14) rfl rfl, rfl, ?_⟩ | refine ⟨_, handq_rawField rfl rfl (by decide) Tryz.underlying35 rfl (m := 0) rfl rfl, rfl, ?_⟩); simp only [go_sem, simprocAttr, hF, hbx])
  | ((with_reducible refine headW_go ?_); simp only [go_sem, simprocAttr, hF, hbx])
  | ((with_reducible refine headW_end ?_); simp only [go_sem, simprocAttr, hF, Av.sopJ])
  | ((first | with_reducible refine sops_go ?_ | with_reducible refine sops_end ?_); simp only [go_sem, simprocAttr, hF])
  | with_reducible refine awp_seq_k fun _ _ => ?_
  | (with_reducible refine awp_region (id := 0) [1000007, 1000008, 1000025] ?_)
  | go_step)
 refine hand_call2 (i := 0) (j := 5) (addFW C b 12 (rvals R M) M.hw.q M.hw.V rfl M.hw.xs _ (by rw [List.length_map]; omega) ⟨a0, a1, a2, a3, a4⟩) E rfl rfl rfl (by decide) hC rfl rfl (by decide) rfl rfl (fun i => ?_)
 simp only [go_sem, simprocAttr, hF, Av.sopJ]
 repeat (first
  | ((with_reducible refine sopsJ_go ?_); simp only [go_sem, simprocAttr, hF, Av.sopJ])
  | ((with_reducible refine sopsJ_end ?_); simp only [go_sem, simprocAttr, hF, Av.sopJ])
  | (with_reducible refine awp_ret ?_; simp only [go_sem, simprocAttr, hF])
  | go_step)
 all_goals (first | rfl | exact ⟨(), rfl⟩)

set_option maxHeartbeats 2000000 in
theorem rweakO (C : World → Prop) (b : Nat) (R : Rd) (M : RM) (tl : List Ext) (a0 a1 a2 a3 a4 : Int) (hl : R.x.weak.length < 1024) :
 FnX Tryz.prog C 74 [.v (wrP b), .sl 1 [[ip a0], [ip a1], [ip a2], [ip a3], [ip a4]]] (exts (pcs b R M tl)) (iv 0) (fun i : Hdr => exts (pcs b { R with x := { R.x with weak := R.x.weak ++ [⟨a0, a1, a2, a3, a4⟩] } } { M with hw := i } tl)) := by
 refine fn_okX Tryz.func74 (by kernel_rfl) rfl (by rw [Tryz.ntmps74]; exact of_decide_eq_true rfl) (fun F E hF hC => ?_)
 rw [Tryz.ntmps74] at hF
 rw [Tryz.results74]
 simp only [go_sem, simprocAttr, hF]
 repeat (first
  | ((with_reducible refine sopsJ_go ?_); simp only [go_sem, simprocAttr, hF, Av.sopJ])
  | (refine awp_floatJ (id := 1) [1000007, 1000008, 1000025] 20 [] (by kernel_rfl) (by kernel_rfl) (by kernel_rfl) rfl rfl (fun bx0 hbx => ?_); (try dsimp only [Av.addWs, Av.addW, List.modify_succ_cons, List.modify_zero_cons, List.push_toArray, List.cons_append, List.nil_append, List.take_succ_cons, List.take_zero, List.take_nil, List.drop_succ_cons, List.drop_zero, List.drop_nil]))
  | ((first | refine ⟨_, handq_rawField rfl rfl (by decide) Tryz.underlying94 rfl (m := 14) rfl rfl, rfl, ?_⟩ | refine ⟨_, handq_rawField rfl rfl (by decide) Tryz.underlying35 rfl (m := 0) rfl rfl, rfl, ?_⟩); simp only [go_sem, simprocAttr, hF, hbx])
  | ((with_reducible refine headW_go ?_); simp only [go_sem, simprocAttr, hF, hbx])
  | ((with_reducible refine headW_end ?_); simp only [go_sem, simprocAttr, hF, Av.sopJ])
  | ((first | with_reducible refine sops_go ?_ | with_reducible refine sops_end ?_); simp only [go_sem, simprocAttr, hF])
  | with_reducible refine awp_seq_k fun _ _ => ?_
  | (with_reducible refine awp_region (id := 0) [1000007, 1000008, 1000025] ?_)
  | go_step)
 refine hand_call2 (i := 0) (j := 5) (addOW C b 12 (rvals R M) M.hw.q M.hw.V rfl M.hw.xs _ (by rw [List.length_map]; omega) ⟨a0, a1, a2, a3, a4⟩) E rfl rfl rfl (by decide) hC rfl rfl (by decide) rfl rfl (fun i => ?_)
 simp only [go_sem, simprocAttr, hF, Av.sopJ]
 repeat (first
  | ((with_reducible refine sopsJ_go ?_); simp only [go_sem, simprocAttr, hF, Av.sopJ])
  | ((with_reducible refine sopsJ_end ?_); simp only [go_sem, simprocAttr, hF, Av.sopJ])
  | (with_reducible refine awp_ret ?_; simp only [go_sem, simprocAttr, hF])
  | go_step)
 refine ⟨(⟨i.1, i.2.1, i.2.2⟩ : Hdr), ?_⟩
 simp only [pcs, List.map_append, List.map_cons, List.map_nil]
 rfl

set_option maxHeartbeats 2000000 in
theorem routageF (C : World → Prop) (b : Nat) (R : Rd) (M : RM) (tl : List Ext) (a0 a1 a2 : Int) (hl : 1024 ≤ R.x.outs.length) :
 FnX Tryz.prog C 75 [.v (wrP b), .sl 1 [[ip a0], [ip a1], [ip a2]]] (exts (pcs b R M tl)) (iv 8) (fun _ : Unit => exts (pcs b R M tl)) := by
 refine fn_okX Tryz.func75 (by kernel_rfl) rfl (by rw [Tryz.ntmps75]; exact of_decide_eq_true rfl) (fun F E hF hC => ?_)
 rw [Tryz.ntmps75] at hF
 rw [Tryz.results75]
 simp only [go_sem, simprocAttr, hF]
 repeat (first
  | ((with_reducible refine sopsJ_go ?_); simp only [go_sem, simprocAttr, hF, Av.sopJ])
  | (refine awp_floatJ (id := 1) [1000007, 1000008, 1000019] 14 [] (by kernel_rfl) (by kernel_rfl) (by kernel_rfl) rfl rfl (fun bx0 hbx => ?_); (try dsimp only [Av.addWs, Av.addW, List.modify_succ_cons, List.modify_zero_cons, List.push_toArray, List.cons_append, List.nil_append, List.take_succ_cons, List.take_zero, List.take_nil, List.drop_succ_cons, List.drop_zero, List.drop_nil]))
  | ((first | refine ⟨_, handq_rawField rfl rfl (by decide) Tryz.underlying94 rfl (m := 14) rfl rfl, rfl, ?_⟩ | refine ⟨_, handq_rawField rfl rfl (by decide) Tryz.underlying35 rfl (m := 0) rfl rfl, rfl, ?_⟩); simp only [go_sem, simprocAttr, hF, hbx])
  | ((with_reducible refine headW_go ?_); simp only [go_sem, simprocAttr, hF, hbx])
  | ((with_reducible refine headW_end ?_); simp only [go_sem, simprocAttr, hF, Av.sopJ])
  | ((first | with_reducible refine sops_go ?_ | with_reducible refine sops_end ?_); simp only [go_sem, simprocAttr, hF])
  | with_reducible refine awp_seq_k fun _ _ => ?_
  | (with_reducible refine awp_region (id := 0) [1000007, 1000008, 1000019] ?_)
  | go_step)
 refine hand_call2 (i := 0) (j := 6) (addFO C b 13 (rvals R M) M.ho.q M.ho.V rfl M.ho.xs _ (by rw [List.length_map]; omega) ⟨a0, a1, a2⟩) E rfl rfl rfl (by decide) hC rfl rfl (by decide) rfl rfl (fun i => ?_)
 simp only [go_sem, simprocAttr, hF, Av.sopJ]
 repeat (first
  | ((with_reducible refine sopsJ_go ?_); simp only [go_sem, simprocAttr, hF, Av.sopJ])
  | ((with_reducible refine sopsJ_end ?_); simp only [go_sem, simprocAttr, hF, Av.sopJ])
  | (with_reducible refine awp_ret ?_; simp only [go_sem, simprocAttr, hF])
  | go_step)
 all_goals (first | rfl | exact ⟨(), rfl⟩)

set_option maxHeartbeats 2000000 in
theorem routageO (C : World → Prop) (b : Nat) (R : Rd) (M : RM) (tl : List Ext) (a0 a1 a2 : Int) (hl : R.x.outs.length < 1024) :
 FnX Tryz.prog C 75 [.v (wrP b), .sl 1 [[ip a0], [ip a1], [ip a2]]] (exts (pcs b R M tl)) (iv 0) (fun i : Hdr => exts (pcs b { R with x := { R.x with outs := R.x.outs ++ [⟨a0, a1, a2⟩] } } { M with ho := i } tl)) := by
 refine fn_okX Tryz.func75 (by kernel_rfl) rfl (by rw [Tryz.ntmps75]; exact of_decide_eq_true rfl) (fun F E hF hC => ?_)
 rw [Tryz.ntmps75] at hF
 rw [Tryz.results75]
 simp only [go_sem, simprocAttr, hF]
 repeat (first
  | ((with_reducible refine sopsJ_go ?_); simp only [go_sem, simprocAttr, hF, Av.sopJ])
  | (refine awp_floatJ (id := 1) [1000007, 1000008, 1000019] 14 [] (by kernel_rfl) (by kernel_rfl) (by kernel_rfl) rfl rfl (fun bx0 hbx => ?_); (try dsimp only [Av.addWs, Av.addW, List.modify_succ_cons, List.modify_zero_cons, List.push_toArray, List.cons_append, List.nil_append, List.take_succ_cons, List.take_zero, List.take_nil, List.drop_succ_cons, List.drop_zero, List.drop_nil]))
  | ((first | refine ⟨_, handq_rawField rfl rfl (by decide) Tryz.underlying94 rfl (m := 14) rfl rfl, rfl, ?_⟩ | refine ⟨_, handq_rawField rfl rfl (by decide) Tryz.underlying35 rfl (m := 0) rfl rfl, rfl, ?_⟩); simp only [go_sem, simprocAttr, hF, hbx])
  | ((with_reducible refine headW_go ?_); simp only [go_sem, simprocAttr, hF, hbx])
  | ((with_reducible refine headW_end ?_); simp only [go_sem, simprocAttr, hF, Av.sopJ])
  | ((first | with_reducible refine sops_go ?_ | with_reducible refine sops_end ?_); simp only [go_sem, simprocAttr, hF])
  | with_reducible refine awp_seq_k fun _ _ => ?_
  | (with_reducible refine awp_region (id := 0) [1000007, 1000008, 1000019] ?_)
  | go_step)
 refine hand_call2 (i := 0) (j := 6) (addOO C b 13 (rvals R M) M.ho.q M.ho.V rfl M.ho.xs _ (by rw [List.length_map]; omega) ⟨a0, a1, a2⟩) E rfl rfl rfl (by decide) hC rfl rfl (by decide) rfl rfl (fun i => ?_)
 simp only [go_sem, simprocAttr, hF, Av.sopJ]
 repeat (first
  | ((with_reducible refine sopsJ_go ?_); simp only [go_sem, simprocAttr, hF, Av.sopJ])
  | ((with_reducible refine sopsJ_end ?_); simp only [go_sem, simprocAttr, hF, Av.sopJ])
  | (with_reducible refine awp_ret ?_; simp only [go_sem, simprocAttr, hF])
  | go_step)
 refine ⟨(⟨i.1, i.2.1, i.2.2⟩ : Hdr), ?_⟩
 simp only [pcs, List.map_append, List.map_cons, List.map_nil]
 rfl
/- The reader: schedule, slots, what can come. -/
set_option maxHeartbeats 2000000 in
theorem rschedule (C : World → Prop) (b : Nat) (R : Rd) (M : RM) (tl : List Ext) (a0 a1 : Int) : FnX Tryz.prog C 69 [.v (wrP b), .sl 1 [[ip a0], [ip a1]]] (exts (pcs b R M tl)) (iv 0) (fun _ : Unit => exts (pcs b { R with x := { R.x with len := a0, offs := a1 }, sched := true } M tl)) := by
 refine fn_okX Tryz.func69 (by kernel_rfl) rfl (by rw [Tryz.ntmps69]; exact of_decide_eq_true rfl) (fun F E hF hC => ?_)
 rw [Tryz.ntmps69] at hF
 rw [Tryz.results69]
 simp only [go_sem, simprocAttr, hF]
 repeat (first
  | ((first | refine hand_rawField rfl rfl (by decide) Tryz.underlying94 rfl (m := 14) rfl rfl ?_ | refine hand_rawField rfl rfl (by decide) Tryz.underlying94 rfl (m := 0) rfl rfl ?_ | refine hand_rawField rfl rfl (by decide) Tryz.underlying35 rfl (m := 2) rfl rfl ?_ | refine hand_rawField rfl rfl (by decide) Tryz.underlying30 rfl (m := 0) rfl rfl ?_); simp only [go_sem, simprocAttr, hF, Av.sopJ])
  | ((refine hand_eStore (i := 0) rfl rfl rfl rfl rfl rfl (by first | assumption | exact Nat.le_of_ble_eq_true rfl | (simp only [List.length_set, List.length_cons]; omega)) (by first | assumption | rfl) (by first | assumption | rfl) Tryz.sz3 ?_); simp only [go_sem, simprocAttr, hF, Av.sopJ])
  | ((with_reducible refine sopsJ_go ?_); simp only [go_sem, simprocAttr, hF, Av.sopJ])
  | ((with_reducible refine sopsJ_end ?_); simp only [go_sem, simprocAttr, hF, Av.sopJ])
  | ((refine awp_regionJ (id := 1) [1000007, 1000017, 1000018, 1000019, 1000021, 1000022, 1000023] ?_); simp only [go_sem, simprocAttr, hF, Av.sopJ])
  | (refine awp_take (id := 2) [1000007, 1000017, 1000018, 1000019, 1000021, 1000022, 1000023] 8 8 [true, true, true, true, false, true, true, false] (by kernel_rfl) (by kernel_rfl) ?_; rw [hF]; dsimp only [List.take_succ_cons, List.take_zero, List.take_nil, List.drop_succ_cons, List.drop_zero, List.drop_nil, List.zip_cons_cons, List.zip_nil_left, List.zip_nil_right])
  | ((with_reducible refine sopsS_go ?_); (refine handS_move rfl rfl (by decide) rfl ?_); simp only [go_sem, simprocAttr, hF, Av.sopJ])
  | ((with_reducible refine sopsS_go ?_); (refine handS_index rfl rfl (by decide) rfl (by decide) Tryz.underlying24 rfl Tryz.sz3 rfl ?_); simp only [go_sem, simprocAttr, hF, Av.sopJ])
  | ((with_reducible refine sopsS_go ?_); (refine handS_ptLoad (dd := .int .i64) rfl rfl (by decide) rfl Tryz.underlying3 rfl ?_); simp only [go_sem, simprocAttr, hF, Av.sopJ])
  | (with_reducible refine sopsS_end ?_)
  | ((first | with_reducible refine sops_go ?_ | with_reducible refine sops_end ?_ | with_reducible refine awp_ret ?_); simp only [go_sem, simprocAttr, hF])
  | with_reducible refine awp_seq_k fun _ _ => ?_
  | (with_reducible refine awp_region (id := 0) [1000007, 1000017, 1000018, 1000019, 1000021, 1000022, 1000023] ?_)
  | (with_reducible refine awp_region (id := 3) [1000007, 1000017, 1000018, 1000019, 1000021, 1000022, 1000023] ?_)
  | go_step)
 all_goals (first | rfl | exact ⟨(), rfl⟩)

set_option maxHeartbeats 2000000 in
theorem rslots (C : World → Prop) (b : Nat) (R : Rd) (M : RM) (tl : List Ext) (a0 : Int) : FnX Tryz.prog C 76 [.v (wrP b), .sl 1 [[ip a0]]] (exts (pcs b R M tl)) (iv 0) (fun _ : Unit => exts (pcs b { R with x := { R.x with slots := a0 }, done := true } M tl)) := by
 refine fn_okX Tryz.func76 (by kernel_rfl) rfl (by rw [Tryz.ntmps76]; exact of_decide_eq_true rfl) (fun F E hF hC => ?_)
 rw [Tryz.ntmps76] at hF
 rw [Tryz.results76]
 simp only [go_sem, simprocAttr, hF]
 repeat (first
  | ((first | refine hand_rawField rfl rfl (by decide) Tryz.underlying94 rfl (m := 14) rfl rfl ?_ | refine hand_rawField rfl rfl (by decide) Tryz.underlying94 rfl (m := 0) rfl rfl ?_ | refine hand_rawField rfl rfl (by decide) Tryz.underlying35 rfl (m := 0) rfl rfl ?_); simp only [go_sem, simprocAttr, hF, Av.sopJ])
  | ((refine hand_eStore (i := 0) rfl rfl rfl rfl rfl rfl (by first | assumption | exact Nat.le_of_ble_eq_true rfl | (simp only [List.length_set, List.length_cons]; omega)) (by first | assumption | rfl) (by first | assumption | rfl) Tryz.sz3 ?_); simp only [go_sem, simprocAttr, hF, Av.sopJ])
  | ((with_reducible refine sopsJ_go ?_); simp only [go_sem, simprocAttr, hF, Av.sopJ])
  | ((with_reducible refine sopsJ_end ?_); simp only [go_sem, simprocAttr, hF, Av.sopJ])
  | ((first | refine awp_regionJ (id := 1) [1000007, 1000013, 1000014] ?_ | refine awp_regionJ (id := 2) [1000007, 1000013, 1000014] ?_); simp only [go_sem, simprocAttr, hF, Av.sopJ])
  | ((first | with_reducible refine sops_go ?_ | with_reducible refine sops_end ?_ | with_reducible refine awp_ret ?_); simp only [go_sem, simprocAttr, hF])
  | with_reducible refine awp_seq_k fun _ _ => ?_
  | (with_reducible refine awp_region (id := 0) [1000007, 1000013, 1000014] ?_)
  | (with_reducible refine awp_region (id := 3) [1000007, 1000013, 1000014] ?_)
  | go_step)
 all_goals (first | rfl | exact ⟨(), rfl⟩)
/- The reader: routes; the closures of its table. -/
set_option maxHeartbeats 2000000 in
theorem addRF (C : World → Prop) (g k : Nat) (V : Value) (rvs : List (List Value)) (row : List Value) (hrv : ∀ r ∈ rvs, r.length = 7) (hk : rvs[k]? = some row) (q : Option Nat) (Vr : Value) (hv : row[6]? = some Vr) (xr : List Value) (rows : List (List PV)) (l : List Int) (hl : 1024 ≤ rows.length) : FnX Tryz.prog C 116 [.v (.pointer (some ⟨g, k * 7 + 6, none⟩)), .sl 1 (l.map fun n => [ip n])] (exts [rawR 67 7 (some g) V rvs, rowsE 68 1 q Vr xr rows]) (iv 8) (fun _ : Unit => exts [rawR 67 7 (some g) V rvs, rowsE 68 1 q Vr xr rows]) := by
 have hd : decide ((rows.length : Int) ≥ 1024) = true := decide_eq_true (by omega)
 refine fn_okX Tryz.func116 (by kernel_rfl) rfl (by rw [Tryz.ntmps116]; exact of_decide_eq_true rfl) (fun F E hF hC => ?_)
 rw [Tryz.ntmps116] at hF
 rw [Tryz.results116]
 simp only [go_sem, simprocAttr, hF]
 repeat (first
  | ((with_reducible refine sopsJ_go ?_); simp only [go_sem, simprocAttr, hF, hd, Av.sopJ])
  | ((with_reducible refine sopsJ_end ?_); simp only [go_sem, simprocAttr, hF, hd, Av.sopJ])
  | ((first | refine awp_regionJ (id := 1) [13, 1000007, 1000008, 1000013, 1000016] ?_ | refine hand_vLoad (i := 0) (k := k) (c := 6) (sz := 7) (dd := .slice 68) rfl rfl (by decide) rfl rfl hrv hk hv rfl Tryz.underlying65 rfl ?_ | refine hand_eLen (i := 1) rfl rfl (by decide) Tryz.underlying65 rfl rfl rfl ?_); simp only [go_sem, simprocAttr, hF, hd, Av.sopJ])
  | ((first | with_reducible refine sops_go ?_ | with_reducible refine sops_end ?_ | with_reducible refine awp_if ?_ | with_reducible refine awp_ret ?_); simp only [go_sem, simprocAttr, hF, hd])
  | with_reducible refine awp_seq_k fun _ _ => ?_
  | (with_reducible refine awp_region (id := 0) [13, 1000007, 1000008, 1000013, 1000016] ?_)
  | (with_reducible refine awp_region (id := 2) [13, 1000007, 1000008, 1000013, 1000016] ?_)
  | go_step)
 all_goals (first | rfl | exact ⟨(), rfl⟩)

set_option maxHeartbeats 2000000 in
theorem addRO (C : World → Prop) (g k : Nat) (V : Value) (rvs : List (List Value)) (row : List Value) (hrv : ∀ r ∈ rvs, r.length = 7) (hk : rvs[k]? = some row) (q : Option Nat) (Vr : Value) (hv : row[6]? = some Vr) (xr : List Value) (rows : List (List PV)) (l : List Int) (hl : rows.length < 1024) : FnX Tryz.prog C 116 [.v (.pointer (some ⟨g, k * 7 + 6, none⟩)), .sl 1 (l.map fun n => [ip n])] (exts [rawR 67 7 (some g) V rvs, rowsE 68 1 q Vr xr rows]) (iv 0) (fun i : Option Nat × Value × List Value => exts [rawR 67 7 (some g) V (rvs.set k (row.set 6 i.2.1)), rowsE 68 1 i.1 i.2.1 i.2.2 (rows ++ [[.sl 1 (l.map fun n => [ip n])]])]) := by
 have hd : decide ((rows.length : Int) ≥ 1024) = false := decide_eq_false (by omega)
 refine fn_okX Tryz.func116 (by kernel_rfl) rfl (by rw [Tryz.ntmps116]; exact of_decide_eq_true rfl) (fun F E hF hC => ?_)
 rw [Tryz.ntmps116] at hF
 rw [Tryz.results116]
 simp only [go_sem, simprocAttr, hF]
 repeat (first
  | ((with_reducible refine sopsJ_go ?_); simp only [go_sem, simprocAttr, hF, hd, Av.sopJ])
  | ((with_reducible refine sopsJ_end ?_); simp only [go_sem, simprocAttr, hF, hd, Av.sopJ])
  | ((first | refine awp_regionJ (id := 1) [13, 1000007, 1000008, 1000013, 1000016] ?_ | refine awp_regionJ (id := 3) [13, 1000007, 1000008, 1000013, 1000016] ?_ | refine hand_vLoad (i := 0) (k := k) (c := 6) (sz := 7) (dd := .slice 68) rfl rfl (by decide) rfl rfl hrv hk hv rfl Tryz.underlying65 rfl ?_ | refine hand_eLen (i := 1) rfl rfl (by decide) Tryz.underlying65 rfl rfl rfl ?_); simp only [go_sem, simprocAttr, hF, hd, Av.sopJ])
  | ((refine hand_eApp (i := 1) (e := 68) (sz := 1) rfl rfl (by decide) Tryz.underlying65 (by kernel_rfl) rfl rfl rfl rfl (by simp only [List.length_cons, List.length_nil]; omega) (fun q2 V2 xs2 hc2 ho2 => ?_)); simp only [go_sem, simprocAttr, hF, hd, Av.sopJ])
  | ((refine hand_vStore (i := 0) (k := k) (c := 6) (sz := 7) rfl rfl rfl rfl hrv hk (by decide) rfl rfl (by assumption) (by assumption) Tryz.sz65 ?_); simp only [go_sem, simprocAttr, hF, hd, Av.sopJ])
  | ((first | with_reducible refine sops_go ?_ | with_reducible refine sops_end ?_ | with_reducible refine awp_if ?_ | with_reducible refine awp_skip ?_ | with_reducible refine awp_ret ?_); simp only [go_sem, simprocAttr, hF, hd])
  | with_reducible refine awp_seq_k fun _ _ => ?_
  | (with_reducible refine awp_region (id := 0) [13, 1000007, 1000008, 1000013, 1000016] ?_)
  | (with_reducible refine awp_region (id := 4) [13, 1000007, 1000008, 1000013, 1000016] ?_)
  | go_step)
 exact ⟨(q2, V2, xs2), rfl⟩

theorem vals7 (l : List Rz) : ∀ r ∈ l.reverse.map Rz.vals, r.length = 7 := fun r hr => by
 obtain ⟨x, _, rfl⟩ := List.mem_map.1 hr
 rfl
theorem vals_last (z : Rz) (l : List Rz) : ((z :: l).reverse.map Rz.vals)[l.length]? = some z.vals := by
 rw [List.reverse_cons, List.map_append, List.getElem?_append_right (by simp)]
 simp
theorem vals_setLast (z z' : Rz) (l : List Rz) : ((z :: l).reverse.map Rz.vals).set l.length z'.vals = (z' :: l).reverse.map Rz.vals := by
 rw [List.reverse_cons, List.map_append, List.reverse_cons, List.map_append, List.set_append_right _ _ (by simp)]
 simp

set_option maxHeartbeats 2000000 in
theorem rrouteL (C : World → Prop) (b : Nat) (X : RX) (l : List Int) (hl : 1024 < l.length) : FnX Tryz.prog C 79 [.v (wrP b), .sl 1 (l.map fun n => [ip n])] (exts (pcsX b X)) (iv 8) (fun _ : Unit => exts (pcsX b X)) := by
 have hd : decide ((l.length : Int) > 1024) = true := decide_eq_true (by omega)
 refine fn_okX Tryz.func79 (by kernel_rfl) rfl (by rw [Tryz.ntmps79]; exact of_decide_eq_true rfl) (fun F E hF hC => ?_)
 rw [Tryz.ntmps79] at hF
 rw [Tryz.results79]
 simp only [go_sem, simprocAttr, hF]
 repeat (first
  | ((first | with_reducible refine sops_go ?_ | with_reducible refine sops_end ?_ | with_reducible refine awp_if ?_ | with_reducible refine awp_ret ?_); simp only [go_sem, simprocAttr, hF, hd])
  | with_reducible refine awp_seq_k fun _ _ => ?_
  | (with_reducible refine awp_region [1000010, 1000011, 1000013] ?_)
  | go_step)
 all_goals (first | rfl | exact ⟨(), rfl⟩)

set_option maxHeartbeats 2000000 in
theorem rrouteBF (C : World → Prop) (b : Nat) (X : RX) {g : Nat} {z : Rz} {l0 : List Rz} (hq : X.hb.q = some g) (hz : X.bs = z :: l0) (hrt : X.M.rt = .pointer (some ⟨g, l0.length * 7 + 6, none⟩)) (hzs : X.zs = []) (l : List Int) (hl : l.length ≤ 1024) (hr : 1024 ≤ z.rs.length) : FnX Tryz.prog C 79 [.v (wrP b), .sl 1 (l.map fun n => [ip n])] (exts (pcsX b X)) (iv 8) (fun _ : Unit => exts (pcsX b X)) := by
 obtain ⟨R, ⟨vp, hl_, hm, vb, va, hc_, hh, hw_, ho_, rt⟩, hpd, hbd, had, pw, bs, zs⟩ := X
 obtain ⟨q, V⟩ := hbd
 dsimp only at hq hz hrt
 cases hq
 subst hz
 subst hrt
 dsimp only at hzs
 subst hzs
 have hd : decide ((l.length : Int) > 1024) = false := decide_eq_false (by omega)
 refine fn_okX Tryz.func79 (by kernel_rfl) rfl (by rw [Tryz.ntmps79]; exact of_decide_eq_true rfl) (fun F E hF hC => ?_)
 rw [Tryz.ntmps79] at hF
 rw [Tryz.results79]
 simp only [go_sem, simprocAttr, hF]
 repeat (first
  | ((first | refine hand_rawField rfl rfl (by decide) Tryz.underlying94 rfl (m := 0) rfl rfl ?_ | refine hand_eLoad (i := 0) (dd := .pointer 65) rfl rfl (by decide) rfl rfl rfl (by first | assumption | rfl) Tryz.underlying92 rfl ?_); simp only [go_sem, simprocAttr, hF, hd])
  | ((first | with_reducible refine sops_go ?_ | with_reducible refine sops_end ?_ | with_reducible refine awp_if ?_ | with_reducible refine awp_skip ?_); simp only [go_sem, simprocAttr, hF, hd])
  | with_reducible refine awp_seq_k fun _ _ => ?_
  | (with_reducible refine awp_region [1000010, 1000011, 1000013] ?_)
  | go_step)
 refine hand_call2 (i := 8) (j := 10) (addRF C g l0.length V _ z.vals (vals7 _) (vals_last z l0) z.q z.V rfl z.xs (rsR z.rs) l (by unfold rsR; rw [List.length_map]; exact hr)) E rfl rfl rfl (by decide) hC rfl rfl (by decide) rfl rfl (fun i => ?_)
 simp only [go_sem, simprocAttr, hF, hd]
 repeat (first
  | ((first | with_reducible refine sops_go ?_ | with_reducible refine sops_end ?_ | with_reducible refine awp_ret ?_); simp only [go_sem, simprocAttr, hF, hd])
  | go_step)
 all_goals (first | rfl | exact ⟨(), rfl⟩)

set_option maxHeartbeats 2000000 in
theorem rrouteBO (C : World → Prop) (b : Nat) (X : RX) {g : Nat} {z : Rz} {l0 : List Rz} (hq : X.hb.q = some g) (hz : X.bs = z :: l0) (hrt : X.M.rt = .pointer (some ⟨g, l0.length * 7 + 6, none⟩)) (hzs : X.zs = []) (l : List Int) (hl : l.length ≤ 1024) (hr : z.rs.length < 1024) : FnX Tryz.prog C 79 [.v (wrP b), .sl 1 (l.map fun n => [ip n])] (exts (pcsX b X)) (iv 0) (fun i : Option Nat × Value × List Value => exts (pcsX b { X with bs := { z with rs := z.rs ++ [l], q := i.1, V := i.2.1, xs := i.2.2 } :: l0 })) := by
 obtain ⟨R, ⟨vp, hl_, hm, vb, va, hc_, hh, hw_, ho_, rt⟩, hpd, hbd, had, pw, bs, zs⟩ := X
 obtain ⟨q, V⟩ := hbd
 dsimp only at hq hz hrt
 cases hq
 subst hz
 subst hrt
 dsimp only at hzs
 subst hzs
 have hd : decide ((l.length : Int) > 1024) = false := decide_eq_false (by omega)
 refine fn_okX Tryz.func79 (by kernel_rfl) rfl (by rw [Tryz.ntmps79]; exact of_decide_eq_true rfl) (fun F E hF hC => ?_)
 rw [Tryz.ntmps79] at hF
 rw [Tryz.results79]
 simp only [go_sem, simprocAttr, hF]
 repeat (first
  | ((first | refine hand_rawField rfl rfl (by decide) Tryz.underlying94 rfl (m := 0) rfl rfl ?_ | refine hand_eLoad (i := 0) (dd := .pointer 65) rfl rfl (by decide) rfl rfl rfl (by first | assumption | rfl) Tryz.underlying92 rfl ?_); simp only [go_sem, simprocAttr, hF, hd])
  | ((first | with_reducible refine sops_go ?_ | with_reducible refine sops_end ?_ | with_reducible refine awp_if ?_ | with_reducible refine awp_skip ?_); simp only [go_sem, simprocAttr, hF, hd])
  | with_reducible refine awp_seq_k fun _ _ => ?_
  | (with_reducible refine awp_region [1000010, 1000011, 1000013] ?_)
  | go_step)
 refine hand_call2 (i := 8) (j := 10) (addRO C g l0.length V _ z.vals (vals7 _) (vals_last z l0) z.q z.V rfl z.xs (rsR z.rs) l (by unfold rsR; rw [List.length_map]; exact hr)) E rfl rfl rfl (by decide) hC rfl rfl (by decide) rfl rfl (fun i => ?_)
 simp only [go_sem, simprocAttr, hF, hd]
 repeat (first
  | ((first | with_reducible refine sops_go ?_ | with_reducible refine sops_end ?_ | with_reducible refine awp_ret ?_); simp only [go_sem, simprocAttr, hF, hd])
  | go_step)
 have h1 : ((z :: l0).reverse.map Rz.vals).set l0.length (z.vals.set 6 i.2.1) = (({ z with rs := z.rs ++ [l], q := i.1, V := i.2.1, xs := i.2.2 } : Rz) :: l0).reverse.map Rz.vals := vals_setLast z { z with rs := z.rs ++ [l], q := i.1, V := i.2.1, xs := i.2.2 } l0
 have h2 : rsR (z.rs ++ [l]) = z.rs.map (fun r => [PV.sl 1 (r.map fun n => [ip n])]) ++ [[PV.sl 1 (l.map fun n => [ip n])]] := by unfold rsR; rw [List.map_append]; rfl
 refine ⟨i, ?_⟩
 rw [h1, ← h2]
 rfl

set_option maxHeartbeats 2000000 in
theorem rrouteAF (C : World → Prop) (b : Nat) (X : RX) {g : Nat} {z : Rz} {l0 : List Rz} (hq : X.ha.q = some g) (hz : X.zs = z :: l0) (hrt : X.M.rt = .pointer (some ⟨g, l0.length * 7 + 6, none⟩)) (l : List Int) (hl : l.length ≤ 1024) (hr : 1024 ≤ z.rs.length) : FnX Tryz.prog C 79 [.v (wrP b), .sl 1 (l.map fun n => [ip n])] (exts (pcsX b X)) (iv 8) (fun _ : Unit => exts (pcsX b X)) := by
 obtain ⟨R, ⟨vp, hl_, hm, vb, va, hc_, hh, hw_, ho_, rt⟩, hpd, hbd, had, pw, bs, zs⟩ := X
 obtain ⟨q, V⟩ := had
 dsimp only at hq hz hrt
 cases hq
 subst hz
 subst hrt
 have hd : decide ((l.length : Int) > 1024) = false := decide_eq_false (by omega)
 refine fn_okX Tryz.func79 (by kernel_rfl) rfl (by rw [Tryz.ntmps79]; exact of_decide_eq_true rfl) (fun F E hF hC => ?_)
 rw [Tryz.ntmps79] at hF
 rw [Tryz.results79]
 simp only [go_sem, simprocAttr, hF]
 repeat (first
  | ((first | refine hand_rawField rfl rfl (by decide) Tryz.underlying94 rfl (m := 0) rfl rfl ?_ | refine hand_eLoad (i := 0) (dd := .pointer 65) rfl rfl (by decide) rfl rfl rfl (by first | assumption | rfl) Tryz.underlying92 rfl ?_); simp only [go_sem, simprocAttr, hF, hd])
  | ((first | with_reducible refine sops_go ?_ | with_reducible refine sops_end ?_ | with_reducible refine awp_if ?_ | with_reducible refine awp_skip ?_); simp only [go_sem, simprocAttr, hF, hd])
  | with_reducible refine awp_seq_k fun _ _ => ?_
  | (with_reducible refine awp_region [1000010, 1000011, 1000013] ?_)
  | go_step)
 refine hand_call2 (i := 9) (j := 10) (addRF C g l0.length V _ z.vals (vals7 _) (vals_last z l0) z.q z.V rfl z.xs (rsR z.rs) l (by unfold rsR; rw [List.length_map]; exact hr)) E rfl rfl rfl (by decide) hC rfl rfl (by decide) rfl rfl (fun i => ?_)
 simp only [go_sem, simprocAttr, hF, hd]
 repeat (first
  | ((first | with_reducible refine sops_go ?_ | with_reducible refine sops_end ?_ | with_reducible refine awp_ret ?_); simp only [go_sem, simprocAttr, hF, hd])
  | go_step)
 all_goals (first | rfl | exact ⟨(), rfl⟩)

set_option maxHeartbeats 2000000 in
theorem rrouteAO (C : World → Prop) (b : Nat) (X : RX) {g : Nat} {z : Rz} {l0 : List Rz} (hq : X.ha.q = some g) (hz : X.zs = z :: l0) (hrt : X.M.rt = .pointer (some ⟨g, l0.length * 7 + 6, none⟩)) (l : List Int) (hl : l.length ≤ 1024) (hr : z.rs.length < 1024) : FnX Tryz.prog C 79 [.v (wrP b), .sl 1 (l.map fun n => [ip n])] (exts (pcsX b X)) (iv 0) (fun i : Option Nat × Value × List Value => exts (pcsX b { X with zs := { z with rs := z.rs ++ [l], q := i.1, V := i.2.1, xs := i.2.2 } :: l0 })) := by
 obtain ⟨R, ⟨vp, hl_, hm, vb, va, hc_, hh, hw_, ho_, rt⟩, hpd, hbd, had, pw, bs, zs⟩ := X
 obtain ⟨q, V⟩ := had
 dsimp only at hq hz hrt
 cases hq
 subst hz
 subst hrt
 have hd : decide ((l.length : Int) > 1024) = false := decide_eq_false (by omega)
 refine fn_okX Tryz.func79 (by kernel_rfl) rfl (by rw [Tryz.ntmps79]; exact of_decide_eq_true rfl) (fun F E hF hC => ?_)
 rw [Tryz.ntmps79] at hF
 rw [Tryz.results79]
 simp only [go_sem, simprocAttr, hF]
 repeat (first
  | ((first | refine hand_rawField rfl rfl (by decide) Tryz.underlying94 rfl (m := 0) rfl rfl ?_ | refine hand_eLoad (i := 0) (dd := .pointer 65) rfl rfl (by decide) rfl rfl rfl (by first | assumption | rfl) Tryz.underlying92 rfl ?_); simp only [go_sem, simprocAttr, hF, hd])
  | ((first | with_reducible refine sops_go ?_ | with_reducible refine sops_end ?_ | with_reducible refine awp_if ?_ | with_reducible refine awp_skip ?_); simp only [go_sem, simprocAttr, hF, hd])
  | with_reducible refine awp_seq_k fun _ _ => ?_
  | (with_reducible refine awp_region [1000010, 1000011, 1000013] ?_)
  | go_step)
 refine hand_call2 (i := 9) (j := 10) (addRO C g l0.length V _ z.vals (vals7 _) (vals_last z l0) z.q z.V rfl z.xs (rsR z.rs) l (by unfold rsR; rw [List.length_map]; exact hr)) E rfl rfl rfl (by decide) hC rfl rfl (by decide) rfl rfl (fun i => ?_)
 simp only [go_sem, simprocAttr, hF, hd]
 repeat (first
  | ((first | with_reducible refine sops_go ?_ | with_reducible refine sops_end ?_ | with_reducible refine awp_ret ?_); simp only [go_sem, simprocAttr, hF, hd])
  | go_step)
 have h1 : ((z :: l0).reverse.map Rz.vals).set l0.length (z.vals.set 6 i.2.1) = (({ z with rs := z.rs ++ [l], q := i.1, V := i.2.1, xs := i.2.2 } : Rz) :: l0).reverse.map Rz.vals := vals_setLast z { z with rs := z.rs ++ [l], q := i.1, V := i.2.1, xs := i.2.2 } l0
 have h2 : rsR (z.rs ++ [l]) = z.rs.map (fun r => [PV.sl 1 (r.map fun n => [ip n])]) ++ [[PV.sl 1 (l.map fun n => [ip n])]] := by unfold rsR; rw [List.map_append]; rfl
 refine ⟨i, ?_⟩
 rw [h1, ← h2]
 rfl
/- The reader: the network. -/
theorem flat_one {α : Type} (v : α) : ∀ m : Nat, (List.replicate m [v]).flatten = List.replicate m v
 | 0 => rfl
 | m + 1 => by rw [List.replicate_succ, List.flatten_cons, flat_one v m]; rfl
theorem hand_makeP {n d : Nat} {σ : St} {o : Oper} {K : St → Prop} {E : Ext} {x : Operand} {m : Nat} {l : List Ext} (l' : Pz → List Ext) (ho : o.op = .makeSlice 24 x x) (hd : o.dst = some d) (hdn : d < n) (hE : σ.ext = E.and (exts l)) (hx : evo (Av.look σ.slot) x = some (.v (.int .i64 (m : Int)))) (hm : m ≤ 1000000)
 (hp : ∀ z : Pz, (z.ext :: l).Perm (l' z)) (h : ∀ g cap, K (({ σ with ext := E.and (exts (l' ⟨List.replicate m 0, g, .slice (some ⟨g, 0, none⟩) m cap⟩)) } : St).put d (.v (.slice (some ⟨g, 0, none⟩) m cap)))) : Hand Tryz.prog n σ o K := by
 have hs := Tryz.sz3
 have hz := Tryz.zr3
 have hby := Tryz.by3
 cases hi : Tryz.prog.info? 3 with
 | none => rw [hi] at hs; cases hs
 | some ti =>
  rw [hi] at hs hz hby
  simp only [Option.map_some, Option.some.injEq, decide_eq_true_eq] at hs hz hby
  refine hand_post (K' := fun σ' => ∃ g cap, σ' = (({ σ with ext := E.and (exts (rowsE 3 1 (some g) (.slice (some ⟨g, 0, none⟩) m cap) (List.replicate m (.int .i64 0)) (List.replicate m [.v (.int .i64 0)]) :: l)) } : St).put d (.v (.slice (some ⟨g, 0, none⟩) m cap))))
   (hand_makeInts (z := .int .i64 0) ho hd hdn Tryz.underlying24 hi hz hs rfl hby rfl hE hx hm (fun g cap => ⟨g, cap, rfl⟩)) ?_
  rintro σ' ⟨g, cap, rfl⟩
  let z : Pz := ⟨List.replicate m 0, g, .slice (some ⟨g, 0, none⟩) m cap⟩
  have hze : z.ext = rowsE 3 1 (some g) (.slice (some ⟨g, 0, none⟩) m cap) (List.replicate m (.int .i64 0)) (List.replicate m [.v (.int .i64 0)]) := by
   show rawR _ _ _ _ ((List.replicate m (0 : Int)).map fun n => [Value.int .i64 n]) = _
   unfold rawR
   rw [List.map_replicate, List.map_replicate]
   rw [flat_one]
   rfl
  refine ⟨E.and (exts (l' z)), ?_, h g cap⟩
  have := hp z
  rw [hze] at this
  exact (EqE.refl E).congr (EqE.perm this)
theorem newP2 (b : Nat) (R : Rd) (M : RM) (D A B B2 : List Ext) (N : Ext) : (N :: pcs b R M (D ++ (A ++ (B ++ B2)))).Perm (pcs b R M (D ++ (A ++ (B ++ (B2 ++ [N]))))) := by
 have : ∀ D, pcs b R M D = (pcs b R M []) ++ D := fun D => rfl
 rw [this, this (D ++ (A ++ (B ++ (B2 ++ [N]))))]
 simp only [← List.append_assoc]
 exact (List.perm_append_singleton N _).symm

set_option maxHeartbeats 2000000 in
theorem rnetA (C : World → Prop) (b : Nat) (X : RX) (a0 a1 a2 : Int) (h : a0 < 0) : FnX Tryz.prog C 63 [.v (wrP b), .sl 1 [[ip a0], [ip a1], [ip a2]]] (exts (pcsX b X)) (iv 2) (fun _ : Unit => exts (pcsX b X)) := by
 have h1 : decide (a0 < 0) = true := decide_eq_true h
 refine fn_okX Tryz.func63 (by kernel_rfl) rfl (by rw [Tryz.ntmps63]; exact of_decide_eq_true rfl) (fun F E hF hC => ?_)
 rw [Tryz.ntmps63] at hF
 rw [Tryz.results63]
 simp only [go_sem, simprocAttr, hF]
 repeat (first
  | ((first | with_reducible refine sops_go ?_ | with_reducible refine sops_end ?_ | with_reducible refine awp_if ?_ | with_reducible refine awp_ret ?_); simp only [go_sem, simprocAttr, hF, h1])
  | with_reducible refine awp_seq_k fun _ _ => ?_
  | (with_reducible refine awp_region (id := 0) [53, 1000017, 1000031, 1000032, 1000033, 1000035, 1000036, 1000037, 1000039, 1000040, 1000041, 1000050, 1000051, 1000052, 1000053, 1000057, 1000059, 1000061, 1000062, 1000063] ?_)
  | (with_reducible refine awp_region (id := 1) [53, 1000017, 1000031, 1000032, 1000033, 1000035, 1000036, 1000037, 1000039, 1000040, 1000041, 1000050, 1000051, 1000052, 1000053, 1000057, 1000059, 1000061, 1000062, 1000063] ?_)
  | (with_reducible refine awp_region (id := 2) [53, 1000017, 1000031, 1000032, 1000033, 1000035, 1000036, 1000037, 1000039, 1000040, 1000041, 1000050, 1000051, 1000052, 1000053, 1000057, 1000059, 1000061, 1000062, 1000063] ?_)
  | go_step)
 all_goals (first | rfl | exact ⟨(), rfl⟩)

set_option maxHeartbeats 2000000 in
theorem rnetB (C : World → Prop) (b : Nat) (X : RX) (a0 a1 a2 : Int) (h0 : 0 ≤ a0) (h : 32 < a0) : FnX Tryz.prog C 63 [.v (wrP b), .sl 1 [[ip a0], [ip a1], [ip a2]]] (exts (pcsX b X)) (iv 2) (fun _ : Unit => exts (pcsX b X)) := by
 have h1 : decide (a0 < 0) = false := decide_eq_false (by omega)
 have h2 : decide (a0 > 32) = true := decide_eq_true h
 refine fn_okX Tryz.func63 (by kernel_rfl) rfl (by rw [Tryz.ntmps63]; exact of_decide_eq_true rfl) (fun F E hF hC => ?_)
 rw [Tryz.ntmps63] at hF
 rw [Tryz.results63]
 simp only [go_sem, simprocAttr, hF]
 repeat (first
  | ((first | with_reducible refine sops_go ?_ | with_reducible refine sops_end ?_ | with_reducible refine awp_if ?_ | with_reducible refine awp_ret ?_); simp only [go_sem, simprocAttr, hF, h1, h2])
  | with_reducible refine awp_seq_k fun _ _ => ?_
  | (with_reducible refine awp_region (id := 0) [53, 1000017, 1000031, 1000032, 1000033, 1000035, 1000036, 1000037, 1000039, 1000040, 1000041, 1000050, 1000051, 1000052, 1000053, 1000057, 1000059, 1000061, 1000062, 1000063] ?_)
  | (with_reducible refine awp_region (id := 1) [53, 1000017, 1000031, 1000032, 1000033, 1000035, 1000036, 1000037, 1000039, 1000040, 1000041, 1000050, 1000051, 1000052, 1000053, 1000057, 1000059, 1000061, 1000062, 1000063] ?_)
  | (with_reducible refine awp_region (id := 2) [53, 1000017, 1000031, 1000032, 1000033, 1000035, 1000036, 1000037, 1000039, 1000040, 1000041, 1000050, 1000051, 1000052, 1000053, 1000057, 1000059, 1000061, 1000062, 1000063] ?_)
  | go_step)
 all_goals (first | rfl | exact ⟨(), rfl⟩)

set_option maxHeartbeats 2000000 in
theorem rnetO (C : World → Prop) (b : Nat) (X : RX) (n : Nat) (a1 a2 : Int) (hn : n ≤ 32) (hpw : X.pw = []) : FnX Tryz.prog C 63 [.v (wrP b), .sl 1 [[ip (n : Int)], [ip a1], [ip a2]]] (exts (pcsX b X)) (iv 0) (fun Y : {Y : Hd × List Pz // Y.2.length = n ∧ (∀ z ∈ Y.2, z.row = List.replicate n 0) ∧ (Y.2 ≠ [] → ∃ g, Y.1.q = some g)} => exts (pcsX b { X with R := { X.R with x := { X.R.x with net := { X.R.x.net with nodes := (n : Int), noise := a1, thr := a2 } }, begun := true }, hp := Y.1.1, pw := Y.1.2 })) := by
 obtain ⟨R, M, hpd, hbd, had, pw, bs, zs⟩ := X
 dsimp only at hpw
 subst hpw
 have h1 : decide ((n : Int) < 0) = false := decide_eq_false (by omega)
 have h2 : decide ((n : Int) > 32) = false := decide_eq_false (by omega)
 refine fn_okX Tryz.func63 (by kernel_rfl) rfl (by rw [Tryz.ntmps63]; exact of_decide_eq_true rfl) (fun F E hF hC => ?_)
 rw [Tryz.ntmps63] at hF
 rw [Tryz.results63]
 simp only [go_sem, simprocAttr, hF]
 repeat (first
  | ((first | refine hand_rawField rfl rfl (by decide) Tryz.underlying94 rfl (m := 14) rfl rfl ?_ | refine hand_rawField rfl rfl (by decide) Tryz.underlying94 rfl (m := 0) rfl rfl ?_ | refine hand_rawField rfl rfl (by decide) Tryz.underlying35 rfl (m := 5) rfl rfl ?_ | refine hand_rawField rfl rfl (by decide) Tryz.underlying26 rfl (m := 0) rfl rfl ?_); simp only [go_sem, simprocAttr, hF, h1, h2, Av.sopJ])
  | ((refine hand_eStore (i := 0) rfl rfl rfl rfl rfl rfl (by first | assumption | exact Nat.le_of_ble_eq_true rfl | (simp only [List.length_set, List.length_cons]; omega)) (by first | assumption | rfl) (by first | assumption | rfl) Tryz.sz3 ?_); simp only [go_sem, simprocAttr, hF, h1, h2, Av.sopJ])
  | ((with_reducible refine sopsJ_go ?_); simp only [go_sem, simprocAttr, hF, h1, h2, Av.sopJ])
  | ((with_reducible refine sopsJ_end ?_); simp only [go_sem, simprocAttr, hF, h1, h2, Av.sopJ])
  | ((refine awp_regionJ (id := 3) [53, 1000017, 1000031, 1000032, 1000033, 1000035, 1000036, 1000037, 1000039, 1000040, 1000041, 1000050, 1000051, 1000052, 1000053, 1000057, 1000059, 1000061, 1000062, 1000063] ?_); simp only [go_sem, simprocAttr, hF, h1, h2, Av.sopJ])
  | (refine awp_take (id := 4) [53, 1000017, 1000031, 1000032, 1000033, 1000035, 1000036, 1000037, 1000039, 1000040, 1000041, 1000050, 1000051, 1000052, 1000053, 1000057, 1000059, 1000061, 1000062, 1000063] 12 12 [true, true, true, true, true, false, true, true, false, true, true, false] (by kernel_rfl) (by kernel_rfl) ?_; rw [hF]; dsimp only [List.take_succ_cons, List.take_zero, List.take_nil, List.drop_succ_cons, List.drop_zero, List.drop_nil, List.zip_cons_cons, List.zip_nil_left, List.zip_nil_right])
  | ((with_reducible refine sopsS_go ?_); (refine handS_move rfl rfl (by decide) rfl ?_); simp only [go_sem, simprocAttr, hF, h1, h2, Av.sopJ])
  | ((with_reducible refine sopsS_go ?_); (refine handS_index rfl rfl (by decide) rfl (by decide) Tryz.underlying24 rfl Tryz.sz3 rfl ?_); simp only [go_sem, simprocAttr, hF, h1, h2, Av.sopJ])
  | ((with_reducible refine sopsS_go ?_); (refine handS_ptLoad (dd := .int .i64) rfl rfl (by decide) rfl Tryz.underlying3 rfl ?_); simp only [go_sem, simprocAttr, hF, h1, h2, Av.sopJ])
  | (with_reducible refine sopsS_end ?_)
  | ((first | with_reducible refine sops_go ?_ | with_reducible refine sops_end ?_ | with_reducible refine awp_if ?_ | with_reducible refine awp_skip ?_); simp only [go_sem, simprocAttr, hF, h1, h2])
  | with_reducible refine awp_seq_k fun _ _ => ?_
  | (with_reducible refine awp_region (id := 0) [53, 1000017, 1000031, 1000032, 1000033, 1000035, 1000036, 1000037, 1000039, 1000040, 1000041, 1000050, 1000051, 1000052, 1000053, 1000057, 1000059, 1000061, 1000062, 1000063] ?_)
  | (with_reducible refine awp_region (id := 1) [53, 1000017, 1000031, 1000032, 1000033, 1000035, 1000036, 1000037, 1000039, 1000040, 1000041, 1000050, 1000051, 1000052, 1000053, 1000057, 1000059, 1000061, 1000062, 1000063] ?_)
  | (with_reducible refine awp_region (id := 5) [53, 1000017, 1000031, 1000032, 1000033, 1000035, 1000036, 1000037, 1000039, 1000040, 1000041, 1000050, 1000051, 1000052, 1000053, 1000057, 1000059, 1000061, 1000062, 1000063] ?_)
  | (with_reducible refine awp_block ?_)
  | go_step)
 refine awp_loop_by (ι := {Y : Hd × List Pz // Y.2.length ≤ n ∧ (∀ z ∈ Y.2, z.row = List.replicate n 0) ∧ (Y.2 ≠ [] → ∃ g, Y.1.q = some g)}) (fun Y σ => ⟨(45, iv (Y.1.2.length : Int)) :: keepS [0, 1, 4, 44] σ.slot, σ.box, [], E.and (exts (pcsX b ⟨{ R with x := { R.x with net := { R.x.net with nodes := (n : Int), noise := a1, thr := a2 } }, begun := true }, M, Y.1.1, hbd, had, Y.1.2, bs, zs⟩))⟩) (fun Y => n - Y.1.2.length) ⟨(hpd, []), by simp, by simp, by simp⟩ (sub_mk ?_) (fun R9 hR9 Y => ?_)
 · simp only [go_sem, simprocAttr, hF]
   repeat' (first | rfl | refine ⟨?_, ?_⟩)
 obtain ⟨⟨hY, pY⟩, hY1, hY2, hY3⟩ := Y
 dsimp only at hY1 hY2 hY3 ⊢
 simp only [go_sem, simprocAttr, hF]
 by_cases hlt : pY.length < n
 case neg =>
  have h3 : decide ((pY.length : Int) < (n : Int)) = false := decide_eq_false (by omega)
  repeat (first
   | ((first | with_reducible refine sops_go ?_ | with_reducible refine sops_end ?_ | with_reducible refine awp_if ?_ | with_reducible refine awp_ret ?_ | with_reducible refine awp_exit ?_); simp only [go_sem, simprocAttr, hF, h1, h2, h3])
   | with_reducible refine awp_seq_k fun _ _ => ?_
   | (with_reducible refine awp_region (id := 6) [53, 1000017, 1000031, 1000032, 1000033, 1000035, 1000036, 1000037, 1000039, 1000040, 1000041, 1000050, 1000051, 1000052, 1000053, 1000057, 1000059, 1000061, 1000062, 1000063] ?_)
   | (with_reducible refine awp_region (id := 9) [53, 1000017, 1000031, 1000032, 1000033, 1000035, 1000036, 1000037, 1000039, 1000040, 1000041, 1000050, 1000051, 1000052, 1000053, 1000057, 1000059, 1000061, 1000062, 1000063] ?_)
   | go_step)
  exact ⟨⟨(hY, pY), by dsimp only; omega, hY2, hY3⟩, rfl⟩
 have h3 : decide ((pY.length : Int) < (n : Int)) = true := decide_eq_true (by omega)
 have hw : IntKind.i64.wrap ((pY.length : Int) + 1) = ((pY.length + 1 : Nat) : Int) := by rw [IntKind.wrap_i64]; omega
 repeat (first
  | ((first | refine hand_rawField rfl rfl (by decide) Tryz.underlying94 rfl (m := 14) rfl rfl ?_ | refine hand_rawField rfl rfl (by decide) Tryz.underlying35 rfl (m := 5) rfl rfl ?_ | refine hand_rawField rfl rfl (by decide) Tryz.underlying26 rfl (m := 0) rfl rfl ?_); simp only [go_sem, simprocAttr, hF, h1, h2, h3, hw, Av.sopJ])
  | ((refine hand_eStore (i := 0) rfl rfl rfl rfl rfl rfl (by first | assumption | exact Nat.le_of_ble_eq_true rfl | (simp only [List.length_set, List.length_cons]; omega)) (by first | assumption | rfl) (by first | assumption | rfl) Tryz.sz3 ?_); simp only [go_sem, simprocAttr, hF, h1, h2, h3, hw, Av.sopJ])
  | ((with_reducible refine sopsJ_go ?_); simp only [go_sem, simprocAttr, hF, h1, h2, h3, hw, Av.sopJ])
  | ((with_reducible refine sopsJ_end ?_); simp only [go_sem, simprocAttr, hF, h1, h2, h3, hw, Av.sopJ])
  | (refine awp_take (id := 7) [53, 1000017, 1000031, 1000032, 1000033, 1000035, 1000036, 1000037, 1000039, 1000040, 1000041, 1000050, 1000051, 1000052, 1000053, 1000057, 1000059, 1000061, 1000062, 1000063] 9 12 [true, true, true, true, true, true, false, true, true] (by kernel_rfl) (by kernel_rfl) ?_; rw [hF]; dsimp only [List.take_succ_cons, List.take_zero, List.take_nil, List.drop_succ_cons, List.drop_zero, List.drop_nil, List.zip_cons_cons, List.zip_nil_left, List.zip_nil_right])
  | ((with_reducible refine sopsS_go ?_); (refine handS_move rfl rfl (by decide) rfl ?_); simp only [go_sem, simprocAttr, hF, h1, h2, h3, hw, Av.sopJ])
  | ((with_reducible refine sopsS_go ?_); (refine handS_nil rfl rfl (by decide) rfl ?_); simp only [go_sem, simprocAttr, hF, h1, h2, h3, hw, Av.sopJ])
  | ((with_reducible refine sopsS_go ?_); (refine handS_field rfl rfl (by decide) Tryz.underlying94 rfl (m := 14) rfl rfl ?_); simp only [go_sem, simprocAttr, hF, h1, h2, h3, hw, Av.sopJ])
  | ((with_reducible refine sopsS_go ?_); (refine handS_field rfl rfl (by decide) Tryz.underlying35 rfl (m := 5) rfl rfl ?_); simp only [go_sem, simprocAttr, hF, h1, h2, h3, hw, Av.sopJ])
  | ((with_reducible refine sopsS_go ?_); (refine handS_field rfl rfl (by decide) Tryz.underlying26 rfl (m := 0) rfl rfl ?_); simp only [go_sem, simprocAttr, hF, h1, h2, h3, hw, Av.sopJ])
  | ((with_reducible refine sopsS_go ?_); (refine handS_index rfl rfl (by decide) rfl (by decide) Tryz.underlying24 rfl Tryz.sz3 rfl ?_); simp only [go_sem, simprocAttr, hF, h1, h2, h3, hw, Av.sopJ])
  | ((with_reducible refine sopsS_go ?_); (refine handS_eLoad (i := 0) (dd := .slice 24) rfl rfl (by decide) rfl rfl rfl (by first | assumption | rfl) Tryz.underlying22 rfl ?_); simp only [go_sem, simprocAttr, hF, h1, h2, h3, hw, Av.sopJ])
  | (with_reducible refine sopsS_end ?_)
  | ((refine hand_makeP (fun z => pcs b (RX.R ⟨{ R with x := { R.x with net := { R.x.net with nodes := (n : Int), noise := a1, thr := a2 } }, begun := true }, M, hY, hbd, had, pY, bs, zs⟩) (RX.m ⟨{ R with x := { R.x with net := { R.x.net with nodes := (n : Int), noise := a1, thr := a2 } }, begun := true }, M, hY, hbd, had, pY, bs, zs⟩) (fixX ⟨{ R with x := { R.x with net := { R.x.net with nodes := (n : Int), noise := a1, thr := a2 } }, begun := true }, M, hY, hbd, had, pY, bs, zs⟩ ++ (zs.map Rz.ext ++ (bs.map Rz.ext ++ (pY.map Pz.ext ++ [z.ext]))))) (l := pcsX b ⟨{ R with x := { R.x with net := { R.x.net with nodes := (n : Int), noise := a1, thr := a2 } }, begun := true }, M, hY, hbd, had, pY, bs, zs⟩) rfl rfl (by decide) rfl rfl (by omega) (fun z => newP2 _ _ _ _ _ _ _ _) (fun g9 c9 => ?_)); simp only [go_sem, simprocAttr, hF, h1, h2, h3, hw, Av.sopJ])
  | ((refine hand_vApp (i := 7) (e := 24) (sz := 1) (vs := [.slice (some ⟨g9, 0, none⟩) n c9]) rfl rfl (by decide) Tryz.underlying22 (by kernel_rfl) rfl rfl rfl rfl rfl (by rw [List.length_map]; show pY.length + 1 ≤ 100000000; omega) (fun g2 V2 hc2 ho2 => ?_)); simp only [go_sem, simprocAttr, hF, h1, h2, h3, hw, Av.sopJ])
  | ((first | with_reducible refine sops_go ?_ | with_reducible refine sops_end ?_ | with_reducible refine awp_if ?_ | with_reducible refine awp_skip ?_); simp only [go_sem, simprocAttr, hF, h1, h2, h3, hw])
  | with_reducible refine awp_seq_k fun _ _ => ?_
  | (with_reducible refine awp_region (id := 6) [53, 1000017, 1000031, 1000032, 1000033, 1000035, 1000036, 1000037, 1000039, 1000040, 1000041, 1000050, 1000051, 1000052, 1000053, 1000057, 1000059, 1000061, 1000062, 1000063] ?_)
  | (with_reducible refine awp_region (id := 8) [53, 1000017, 1000031, 1000032, 1000033, 1000035, 1000036, 1000037, 1000039, 1000040, 1000041, 1000050, 1000051, 1000052, 1000053, 1000057, 1000059, 1000061, 1000062, 1000063] ?_)
  | (with_reducible refine awp_block ?_)
  | go_step)
 refine ⟨⟨(⟨some g2, V2⟩, pY ++ [⟨List.replicate n 0, g9, .slice (some ⟨g9, 0, none⟩) n c9⟩]), by simp only [List.length_append, List.length_cons, List.length_nil]; omega, fun z hz => (List.mem_append.1 hz).elim (hY2 z) (fun h => by rw [List.mem_singleton.1 h]), fun _ => ⟨g2, rfl⟩⟩, by simp only [List.length_append, List.length_cons, List.length_nil]; omega, hR9 _ _ (sub_mk ?_)⟩
 have hm1 : (pY ++ [(⟨List.replicate n 0, g9, .slice (some ⟨g9, 0, none⟩) n c9⟩ : Pz)]).map (fun x => [x.V]) = pY.map (fun x => [x.V]) ++ [[.slice (some ⟨g9, 0, none⟩) n c9]] := by rw [List.map_append]; rfl
 have hm2 : (pY ++ [(⟨List.replicate n 0, g9, .slice (some ⟨g9, 0, none⟩) n c9⟩ : Pz)]).map Pz.ext = pY.map Pz.ext ++ [Pz.ext ⟨List.replicate n 0, g9, .slice (some ⟨g9, 0, none⟩) n c9⟩] := by rw [List.map_append]; rfl
 simp only [go_sem, simprocAttr, hF, h1, h2]
 conv => lhs; unfold pcsX fixX dynX
 dsimp only
 rw [hm1, hm2]
 rfl
end Go.Proofs.YtcloigoajohppaaGreatDoor

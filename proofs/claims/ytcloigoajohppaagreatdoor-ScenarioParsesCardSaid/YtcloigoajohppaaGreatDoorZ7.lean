import Derived.Test.YtcloigoajohppaaGreatDoorZ5
set_option linter.unusedVariables false
set_option linter.unusedSimpArgs false
set_option maxHeartbeats 4000000
/- The reference's parser: the tables of the schedule. -/
namespace Go.Proofs.YtcloigoajohppaaGreatDoor
open Go.RowKit
open Av
open Sc
set_option maxRecDepth 100000
set_option linter.unusedSimpArgs false
attribute [local go_sem] Av.guardB Av.sop Av.hopx Av.hop Av.hopCall Av.hopF Av.hopB Av.evo Av.evos Av.avCells Av.loadK Av.bound Av.abin Av.aun Av.partsC Av.lfill Av.placesB Av.setAt Av.stl Av.takes Av.src Av.bxOf Av.ownOf Av.St.res Av.St.put Av.St.addBox Av.St.putOwn Av.delL Av.delS Av.look Av.lookL Av.storeSt Av.stealSt Av.St.setBox Av.keepL Av.hitB Av.snap Av.snaps Av.snapCaps Av.AV.lit Av.AV.refs Av.capRefs Av.PV.av Av.CV.av Av.startSt Av.steals Av.athen Av.ablock Av.appK Av.AllS Av.AllO Av.AllR Av.keepS Av.St.avAt Av.RetOK Av.retAll Av.retOne Av.intsOf Av.ptrB TypeDesc.isRow List.range_zero Option.some.injEq exists_eq_left' exists_eq_left exists_eq' exists_and_left exists_and_right exists_const true_and and_true and_self false_and and_false or_false false_or or_true true_or if_true if_false Bool.false_eq_true List.zipIdx_cons List.zipIdx_nil List.map_cons List.map_nil List.filter_cons List.filter_nil List.contains_cons List.contains_nil List.drop_succ_cons List.drop_zero List.take_succ_cons List.take_zero List.take_nil List.drop_nil List.length_cons List.length_nil List.cons_append List.nil_append List.append_nil List.getElem?_cons_zero List.getElem?_cons_succ List.getElem?_nil Option.bind_some Option.bind_none Option.map_some Option.map_none Option.isNone_none Option.isNone_some Option.isSome_some Option.isSome_none Bool.and_true Bool.true_and Bool.and_false Bool.false_and Bool.or_false Bool.false_or Bool.not_true Bool.not_false beq_true beq_false Bool.true_beq Bool.false_beq Loc.s.injEq Loc.b.injEq decide_true decide_false beq_self_eq_true Nat.zero_add Nat.add_zero List.getElem?_toArray List.toList_toArray List.size_toArray Value.oneCell' List.all_cons List.all_nil Value.int.injEq AV.v.injEq AV.sl.injEq AV.agg.injEq AV.ref.injEq AV.ept.injEq AV.tup.injEq Value.bool.injEq PV.v.injEq PV.sl.injEq List.isEmpty_nil List.isEmpty_cons forall_const not_true_eq_false not_false_eq_true true_implies false_implies Value.string.injEq List.length_map List.getElem?_map Int.toNat_natCast Int.natCast_nonneg List.length_append Value.cells implies_true TypeDesc.struct.injEq TypeDesc.slice.injEq TypeDesc.array.injEq List.getElem?_toArray Prod.mk.injEq and_assoc exists_false List.cons.injEq Operand.tmp.injEq ite_self AV.fnv.injEq AV.clo.injEq ne_eq eq_self Tryz.sz3 Tryz.zr3 Tryz.by3 Tryz.pl3 Tryz.is3 Tryz.underlying3 Tryz.sz4 Tryz.pl4 Tryz.is4 Tryz.underlying4 Tryz.sz9 Tryz.zr9 Tryz.underlying9 Tryz.underlying5 Tryz.underlying56 Tryz.sz24 Tryz.zr24 Tryz.by24 Tryz.underlying24 Tryz.underlying70 Tryz.underlying69 Tryz.is72 Tryz.underlying72 Tryz.zr74 Tryz.underlying74 Tryz.underlying117 Tryz.underlying182 Tryz.sz64 Tryz.zr64 Tryz.pl64 Tryz.is64 Tryz.underlying64 Tryz.sz67 Tryz.zr67 Tryz.underlying67 Tryz.sz26 Tryz.underlying26 Tryz.sz30 Tryz.underlying30 Tryz.sz126 Tryz.zr126 Tryz.underlying126 Tryz.sz79 Tryz.zr79 Tryz.pl79 Tryz.is79 Tryz.underlying79 Tryz.sz81 Tryz.zr81 Tryz.underlying81 Tryz.sz83 Tryz.zr83 Tryz.underlying83 Tryz.sz85 Tryz.zr85 Tryz.underlying85 Tryz.sz35 Tryz.zr35 Tryz.is35 Tryz.underlying35 Tryz.underlying88 Tryz.sz22 Tryz.underlying22 Tryz.sz23 Tryz.underlying23 Tryz.sz27 Tryz.underlying27 Tryz.sz28 Tryz.underlying28 Tryz.sz31 Tryz.underlying31 Tryz.sz32 Tryz.underlying32 Tryz.sz33 Tryz.underlying33 Tryz.sz65 Tryz.is65 Tryz.underlying65 Tryz.sz68 Tryz.zr68 Tryz.underlying68 Tryz.underlying46 Tryz.underlying38 Tryz.underlying94 Tryz.sz91 Tryz.underlying91 Tryz.underlying86 all_arr loc_ss arr_two arr_one ResultVar.tmp.injEq Bool.not_true Bool.not_false undef Tryz.sz92 Tryz.underlying92 Tryz.sz131 Tryz.underlying131 Tryz.sz134 Tryz.zr134 Tryz.underlying134 Tryz.underlying95 Tryz.underlying136 Tryz.underlying103 Tryz.zr105 Tryz.underlying105 Tryz.underlying177 Tryz.underlying178 Tryz.underlying179 Fn.func.injEq Av.extSt Av.RetX List.zipIdx List.getD_cons_zero List.getD_cons_succ Sc.Fw.pv Sc.Rq.pv Sc.Ce.pv Sc.Ch.pv Sc.Wk.pv Sc.Og.pv Sc.Lk.pv Sc.Nt.pv Sc.Sn.pv Sc.rsR
theorem qschedule (C : World → Prop) (b : Nat) (R : Rd) (M : RM) (tl : List Ext) {w : ByteArray} (hw : w = wSchedule) (a0 a1 : Int) : FnX Tryz.prog C 90 [.v (wrP b), .v (.string w), .sl 1 [[ip a0], [ip a1]]] (exts (pcq b R M tl)) (iv 0) (fun _ : Unit => exts (pcq b { R with x := { R.x with len := a0, offs := a1 }, sched := true } M tl)) := by
 have e_schedule : (w.toList == (⟨#[115, 99, 104, 101, 100, 117, 108, 101]⟩ : ByteArray).toList) = true := by rw [str_eq, hw]; exact decide_eq_true (by decide)
 refine fn_okXn Tryz.func90 Tryz.ntmps90 Tryz.results90 (by kernel_rfl) rfl (of_decide_eq_true rfl) fun F E hF hC => ?_
 simp only [go_sem, simprocAttr, hF]
 repeat (first
  | ((with_reducible refine hand_id ?_); (first | (refine hand_rawField rfl rfl (by decide) Tryz.underlying105 rfl (m := 14) rfl rfl ?_) | (refine hand_rawField rfl rfl (by decide) Tryz.underlying105 rfl (m := 0) rfl rfl ?_) | (refine hand_rawField rfl rfl (by decide) Tryz.underlying35 rfl (m := 2) rfl rfl ?_) | (refine hand_rawField rfl rfl (by decide) Tryz.underlying30 rfl (m := 0) rfl rfl ?_) | (refine hand_eStore (i := 0) rfl rfl rfl rfl rfl rfl (by first | assumption | exact Nat.le_of_ble_eq_true rfl | (simp only [List.length_set, List.length_cons]; omega)) (by first | assumption | rfl) (by first | assumption | rfl) Tryz.sz3 ?_)); simp only [go_sem, simprocAttr, hF, e_schedule, Av.sopJ])
  | ((with_reducible first | refine sopsJ_go ?_ | refine sopsJ_end ?_); simp only [go_sem, simprocAttr, hF, e_schedule, Av.sopJ])
  | ((refine awp_regionJ (id := 4) [1000016] ?_); simp only [go_sem, simprocAttr, hF, e_schedule, Av.sopJ])
  | (refine awp_take (id := 5) [1000026, 1000027, 1000029, 1000030] 8 8 [true, true, true, true, false, true, true, false] (by kernel_rfl) (by kernel_rfl) ?_; rw [hF]; dsimp only [List.take_succ_cons, List.take_zero, List.take_nil, List.drop_succ_cons, List.drop_zero, List.drop_nil, List.zip_cons_cons, List.zip_nil_left, List.zip_nil_right])
  | ((with_reducible refine sopsS_go ?_); (refine handS_move rfl rfl (by decide) rfl ?_); simp only [go_sem, simprocAttr, hF, e_schedule, Av.sopJ])
  | ((with_reducible refine sopsS_go ?_); (refine handS_index rfl rfl (by decide) rfl (by decide) Tryz.underlying24 rfl Tryz.sz3 rfl ?_); simp only [go_sem, simprocAttr, hF, e_schedule, Av.sopJ])
  | ((with_reducible refine sopsS_go ?_); (refine handS_ptLoad (dd := .int .i64) rfl rfl (by decide) rfl Tryz.underlying3 rfl ?_); simp only [go_sem, simprocAttr, hF, e_schedule, Av.sopJ])
  | (with_reducible first | refine sopsS_end ?_ | refine awp_seq_k fun _ _ => ?_ | refine awp_region (id := 0) [] ?_ | refine awp_region (id := 1) [1000010] ?_ | refine awp_region (id := 2) [] ?_ | refine awp_region (id := 3) [] ?_ | refine awp_region (id := 26) [] ?_ | refine awp_block ?_)
  | ((with_reducible first | refine sops_go ?_ | refine sops_end ?_ | refine awp_if ?_ | refine awp_ret ?_); simp only [go_sem, simprocAttr, hF, e_schedule])
  | go_step)
 all_goals (first | rfl | exact ⟨(), rfl⟩)

theorem qslots (C : World → Prop) (b : Nat) (R : Rd) (M : RM) (tl : List Ext) {w : ByteArray} (hw : w = wSlots) (a0 : Int) : FnX Tryz.prog C 90 [.v (wrP b), .v (.string w), .sl 1 [[ip a0]]] (exts (pcq b R M tl)) (iv 0) (fun _ : Unit => exts (pcq b { R with x := { R.x with slots := a0 }, done := true } M tl)) := by
 have e_schedule : (w.toList == (⟨#[115, 99, 104, 101, 100, 117, 108, 101]⟩ : ByteArray).toList) = false := by rw [str_eq, hw]; exact decide_eq_false (by decide)
 have e_cell : (w.toList == (⟨#[99, 101, 108, 108]⟩ : ByteArray).toList) = false := by rw [str_eq, hw]; exact decide_eq_false (by decide)
 have e_add : (w.toList == (⟨#[97, 100, 100]⟩ : ByteArray).toList) = false := by rw [str_eq, hw]; exact decide_eq_false (by decide)
 have e_remove : (w.toList == (⟨#[114, 101, 109, 111, 118, 101]⟩ : ByteArray).toList) = false := by rw [str_eq, hw]; exact decide_eq_false (by decide)
 have e_weak : (w.toList == (⟨#[119, 101, 97, 107]⟩ : ByteArray).toList) = false := by rw [str_eq, hw]; exact decide_eq_false (by decide)
 have e_outage : (w.toList == (⟨#[111, 117, 116, 97, 103, 101]⟩ : ByteArray).toList) = false := by rw [str_eq, hw]; exact decide_eq_false (by decide)
 have e_slots : (w.toList == (⟨#[115, 108, 111, 116, 115]⟩ : ByteArray).toList) = true := by rw [str_eq, hw]; exact decide_eq_true (by decide)
 refine fn_okXn Tryz.func90 Tryz.ntmps90 Tryz.results90 (by kernel_rfl) rfl (of_decide_eq_true rfl) fun F E hF hC => ?_
 simp only [go_sem, simprocAttr, hF]
 repeat (first
  | ((with_reducible refine hand_id ?_); (first | (refine hand_rawField rfl rfl (by decide) Tryz.underlying105 rfl (m := 14) rfl rfl ?_) | (refine hand_rawField rfl rfl (by decide) Tryz.underlying105 rfl (m := 0) rfl rfl ?_) | (refine hand_rawField rfl rfl (by decide) Tryz.underlying35 rfl (m := 0) rfl rfl ?_) | (refine hand_eStore (i := 0) rfl rfl rfl rfl rfl rfl (by first | assumption | exact Nat.le_of_ble_eq_true rfl | (simp only [List.length_set, List.length_cons]; omega)) (by first | assumption | rfl) (by first | assumption | rfl) Tryz.sz3 ?_)); simp only [go_sem, simprocAttr, hF, e_schedule, e_cell, e_add, e_remove, e_weak, e_outage, e_slots, Av.sopJ])
  | ((with_reducible first | refine sopsJ_go ?_ | refine sopsJ_end ?_); simp only [go_sem, simprocAttr, hF, e_schedule, e_cell, e_add, e_remove, e_weak, e_outage, e_slots, Av.sopJ])
  | ((first | refine awp_regionJ (id := 24) [1000171] ?_ | refine awp_regionJ (id := 25) [1000177] ?_); simp only [go_sem, simprocAttr, hF, e_schedule, e_cell, e_add, e_remove, e_weak, e_outage, e_slots, Av.sopJ])
  | ((with_reducible first | refine sops_go ?_ | refine sops_end ?_ | refine awp_if ?_ | refine awp_ret ?_); simp only [go_sem, simprocAttr, hF, e_schedule, e_cell, e_add, e_remove, e_weak, e_outage, e_slots])
  | (with_reducible first | refine awp_seq_k fun _ _ => ?_ | refine awp_region (id := 0) [] ?_ | refine awp_region (id := 1) [1000010] ?_ | refine awp_region (id := 2) [] ?_ | refine awp_region (id := 3) [] ?_ | refine awp_region (id := 6) [] ?_ | refine awp_region (id := 10) [] ?_ | refine awp_region (id := 11) [] ?_ | refine awp_region (id := 15) [] ?_ | refine awp_region (id := 19) [] ?_ | refine awp_region (id := 23) [] ?_ | refine awp_region (id := 26) [] ?_ | refine awp_block ?_)
  | go_step)
 all_goals (first | rfl | exact ⟨(), rfl⟩)
/- The reference's parser: lists. -/
theorem qcellF (C : World → Prop) (b : Nat) (R : Rd) (M : RM) (tl : List Ext) {w : ByteArray} (hw : w = wCell) (a0 a1 a2 a3 a4 : Int) (hl : R.x.cells.length = 1024) : FnX Tryz.prog C 90 [.v (wrP b), .v (.string w), .sl 1 [[ip a0], [ip a1], [ip a2], [ip a3], [ip a4]]] (exts (pcq b R M tl)) (iv 8) (fun _ : Unit => exts (pcq b R M tl)) := by
 have e_schedule : (w.toList == (⟨#[115, 99, 104, 101, 100, 117, 108, 101]⟩ : ByteArray).toList) = false := by rw [str_eq, hw]; exact decide_eq_false (by decide)
 have e_cell : (w.toList == (⟨#[99, 101, 108, 108]⟩ : ByteArray).toList) = true := by rw [str_eq, hw]; exact decide_eq_true (by decide)
 have hd : ((R.x.cells.length : Int) == 1024) = true := by rw [hl]; rfl
 refine fn_okXn Tryz.func90 Tryz.ntmps90 Tryz.results90 (by kernel_rfl) rfl (of_decide_eq_true rfl) fun F E hF hC => ?_
 simp only [go_sem, simprocAttr, hF]
 repeat (first
  | ((with_reducible refine hand_id ?_); (first | (refine hand_rawField rfl rfl (by decide) Tryz.underlying105 rfl (m := 14) rfl rfl ?_) | (refine hand_rawField rfl rfl (by decide) Tryz.underlying35 rfl (m := 2) rfl rfl ?_) | (refine hand_rawField rfl rfl (by decide) Tryz.underlying30 rfl (m := 0) rfl rfl ?_) | (refine hand_eLoad (i := 0) (dd := .slice 79) rfl rfl (by decide) rfl rfl rfl (by first | assumption | rfl) Tryz.underlying28 rfl ?_) | (refine hand_eLen (i := 3) rfl rfl (by decide) Tryz.underlying28 rfl rfl rfl ?_)); simp only [go_sem, simprocAttr, hF, e_schedule, e_cell, hd, Av.sopJ])
  | ((with_reducible first | refine sops_go ?_ | refine sops_end ?_ | refine awp_if ?_ | refine awp_ret ?_); simp only [go_sem, simprocAttr, hF, e_schedule, e_cell, hd])
  | (with_reducible first | refine awp_seq_k fun _ _ => ?_ | refine awp_region (id := 0) [] ?_ | refine awp_region (id := 1) [1000010] ?_ | refine awp_region (id := 2) [] ?_ | refine awp_region (id := 3) [] ?_ | refine awp_region (id := 6) [] ?_ | refine awp_region (id := 7) [1000035, 1000036, 1000037, 1000038] ?_ | refine awp_region (id := 8) [] ?_ | refine awp_block ?_)
  | go_step)
 all_goals (first | rfl | exact ⟨(), rfl⟩)

theorem qcellO (C : World → Prop) (b : Nat) (R : Rd) (M : RM) (tl : List Ext) {w : ByteArray} (hw : w = wCell) (a0 a1 a2 a3 a4 : Int) (hl : R.x.cells.length < 1024) : FnX Tryz.prog C 90 [.v (wrP b), .v (.string w), .sl 1 [[ip a0], [ip a1], [ip a2], [ip a3], [ip a4]]] (exts (pcq b R M tl)) (iv 0) (fun i : Hdr => exts (pcq b { R with x := { R.x with cells := R.x.cells ++ [⟨a0, a1, a2, a3, a4⟩] } } { M with hc := i } tl)) := by
 have e_schedule : (w.toList == (⟨#[115, 99, 104, 101, 100, 117, 108, 101]⟩ : ByteArray).toList) = false := by rw [str_eq, hw]; exact decide_eq_false (by decide)
 have e_cell : (w.toList == (⟨#[99, 101, 108, 108]⟩ : ByteArray).toList) = true := by rw [str_eq, hw]; exact decide_eq_true (by decide)
 have hd : ((R.x.cells.length : Int) == 1024) = false := beq_eq_false_iff_ne.2 (by omega)
 refine fn_okXn Tryz.func90 Tryz.ntmps90 Tryz.results90 (by kernel_rfl) rfl (of_decide_eq_true rfl) fun F E hF hC => ?_
 simp only [go_sem, simprocAttr, hF]
 repeat (first
  | ((with_reducible refine hand_id ?_); (first | (refine hand_rawField rfl rfl (by decide) Tryz.underlying105 rfl (m := 14) rfl rfl ?_) | (refine hand_rawField rfl rfl (by decide) Tryz.underlying35 rfl (m := 2) rfl rfl ?_) | (refine hand_rawField rfl rfl (by decide) Tryz.underlying30 rfl (m := 0) rfl rfl ?_) | (refine hand_eLoad (i := 0) (dd := .slice 79) rfl rfl (by decide) rfl rfl rfl (by first | assumption | rfl) Tryz.underlying28 rfl ?_) | (refine hand_eStore (i := 0) rfl rfl rfl rfl rfl rfl (by first | assumption | exact Nat.le_of_ble_eq_true rfl | (simp only [List.length_set, List.length_cons]; omega)) (by first | assumption | rfl) (by first | assumption | rfl) Tryz.sz28 ?_) | (refine hand_eLen (i := 3) rfl rfl (by decide) Tryz.underlying28 rfl rfl rfl ?_) | (refine hand_eApp (i := 3) (e := 79) (sz := 5) rfl rfl (by decide) Tryz.underlying28 (by kernel_rfl) rfl rfl rfl rfl (by simp only [List.length_cons, List.length_nil, List.length_map]; omega) (fun q2 V2 xs2 hc2 ho2 => ?_))); simp only [go_sem, simprocAttr, hF, e_schedule, e_cell, hd, Av.sopJ])
  | ((with_reducible refine ex_id ?_); (first | (refine ⟨_, handq_rawField rfl rfl (by decide) Tryz.underlying35 rfl (m := 2) rfl rfl, rfl, ?_⟩) | (refine ⟨_, handq_rawField rfl rfl (by decide) Tryz.underlying30 rfl (m := 0) rfl rfl, rfl, ?_⟩) | (refine ⟨_, handq_eLoad (i := 0) (dd := .slice 79) rfl rfl (by decide) rfl rfl rfl (by first | assumption | rfl) Tryz.underlying28 rfl, rfl, ?_⟩)); simp only [go_sem, simprocAttr, hF, e_schedule, e_cell, hd, hbx])
  | ((with_reducible first | refine sopsJ_go ?_ | refine sopsJ_end ?_ | refine headW_end ?_); simp only [go_sem, simprocAttr, hF, e_schedule, e_cell, hd, Av.sopJ])
  | (refine awp_floatJ (id := 9) [45, 1000043, 1000044, 1000045, 1000063, 1000065, 1000066] 23 [(23, 0)] (by kernel_rfl) (by kernel_rfl) (by kernel_rfl) rfl rfl (fun bx0 hbx => ?_); (try dsimp only [Av.addWs, Av.addW, List.modify_succ_cons, List.modify_zero_cons, List.push_toArray, List.cons_append, List.nil_append, List.take, List.drop]))
  | ((with_reducible refine headW_go ?_); simp only [go_sem, simprocAttr, hF, e_schedule, e_cell, hd, hbx])
  | ((with_reducible first | refine sops_go ?_ | refine sops_end ?_ | refine awp_if ?_ | refine awp_skip ?_ | refine awp_ret ?_); simp only [go_sem, simprocAttr, hF, e_schedule, e_cell, hd])
  | (with_reducible first | refine awp_seq_k fun _ _ => ?_ | refine awp_region (id := 0) [] ?_ | refine awp_region (id := 1) [1000010] ?_ | refine awp_region (id := 2) [] ?_ | refine awp_region (id := 3) [] ?_ | refine awp_region (id := 6) [] ?_ | refine awp_region (id := 7) [1000035, 1000036, 1000037, 1000038] ?_ | refine awp_region (id := 26) [] ?_ | refine awp_block ?_)
  | go_step)
 refine ⟨(⟨q2, V2, xs2⟩ : Hdr), ?_⟩
 simp only [pcq, List.map_append, List.map_cons, List.map_nil]
 rfl

theorem qweakF (C : World → Prop) (b : Nat) (R : Rd) (M : RM) (tl : List Ext) {w : ByteArray} (hw : w = wWeak) (a0 a1 a2 a3 a4 : Int) (hl : R.x.weak.length = 1024) : FnX Tryz.prog C 90 [.v (wrP b), .v (.string w), .sl 1 [[ip a0], [ip a1], [ip a2], [ip a3], [ip a4]]] (exts (pcq b R M tl)) (iv 8) (fun _ : Unit => exts (pcq b R M tl)) := by
 have e_schedule : (w.toList == (⟨#[115, 99, 104, 101, 100, 117, 108, 101]⟩ : ByteArray).toList) = false := by rw [str_eq, hw]; exact decide_eq_false (by decide)
 have e_cell : (w.toList == (⟨#[99, 101, 108, 108]⟩ : ByteArray).toList) = false := by rw [str_eq, hw]; exact decide_eq_false (by decide)
 have e_add : (w.toList == (⟨#[97, 100, 100]⟩ : ByteArray).toList) = false := by rw [str_eq, hw]; exact decide_eq_false (by decide)
 have e_remove : (w.toList == (⟨#[114, 101, 109, 111, 118, 101]⟩ : ByteArray).toList) = false := by rw [str_eq, hw]; exact decide_eq_false (by decide)
 have e_weak : (w.toList == (⟨#[119, 101, 97, 107]⟩ : ByteArray).toList) = true := by rw [str_eq, hw]; exact decide_eq_true (by decide)
 have hd : ((R.x.weak.length : Int) == 1024) = true := by rw [hl]; rfl
 refine fn_okXn Tryz.func90 Tryz.ntmps90 Tryz.results90 (by kernel_rfl) rfl (of_decide_eq_true rfl) fun F E hF hC => ?_
 simp only [go_sem, simprocAttr, hF]
 repeat (first
  | ((with_reducible refine hand_id ?_); (first | (refine hand_rawField rfl rfl (by decide) Tryz.underlying105 rfl (m := 14) rfl rfl ?_) | (refine hand_rawField rfl rfl (by decide) Tryz.underlying35 rfl (m := 0) rfl rfl ?_) | (refine hand_eLoad (i := 0) (dd := .slice 83) rfl rfl (by decide) rfl rfl rfl (by first | assumption | rfl) Tryz.underlying32 rfl ?_) | (refine hand_eLen (i := 5) rfl rfl (by decide) Tryz.underlying32 rfl rfl rfl ?_)); simp only [go_sem, simprocAttr, hF, e_schedule, e_cell, e_add, e_remove, e_weak, hd, Av.sopJ])
  | ((with_reducible first | refine sops_go ?_ | refine sops_end ?_ | refine awp_if ?_ | refine awp_ret ?_); simp only [go_sem, simprocAttr, hF, e_schedule, e_cell, e_add, e_remove, e_weak, hd])
  | (with_reducible first | refine awp_seq_k fun _ _ => ?_ | refine awp_region (id := 0) [] ?_ | refine awp_region (id := 1) [1000010] ?_ | refine awp_region (id := 2) [] ?_ | refine awp_region (id := 3) [] ?_ | refine awp_region (id := 6) [] ?_ | refine awp_region (id := 10) [] ?_ | refine awp_region (id := 11) [] ?_ | refine awp_region (id := 15) [] ?_ | refine awp_region (id := 16) [1000111, 1000112, 1000113] ?_ | refine awp_region (id := 17) [] ?_ | refine awp_block ?_)
  | go_step)
 all_goals (first | rfl | exact ⟨(), rfl⟩)

theorem qweakO (C : World → Prop) (b : Nat) (R : Rd) (M : RM) (tl : List Ext) {w : ByteArray} (hw : w = wWeak) (a0 a1 a2 a3 a4 : Int) (hl : R.x.weak.length < 1024) : FnX Tryz.prog C 90 [.v (wrP b), .v (.string w), .sl 1 [[ip a0], [ip a1], [ip a2], [ip a3], [ip a4]]] (exts (pcq b R M tl)) (iv 0) (fun i : Hdr => exts (pcq b { R with x := { R.x with weak := R.x.weak ++ [⟨a0, a1, a2, a3, a4⟩] } } { M with hw := i } tl)) := by
 have e_schedule : (w.toList == (⟨#[115, 99, 104, 101, 100, 117, 108, 101]⟩ : ByteArray).toList) = false := by rw [str_eq, hw]; exact decide_eq_false (by decide)
 have e_cell : (w.toList == (⟨#[99, 101, 108, 108]⟩ : ByteArray).toList) = false := by rw [str_eq, hw]; exact decide_eq_false (by decide)
 have e_add : (w.toList == (⟨#[97, 100, 100]⟩ : ByteArray).toList) = false := by rw [str_eq, hw]; exact decide_eq_false (by decide)
 have e_remove : (w.toList == (⟨#[114, 101, 109, 111, 118, 101]⟩ : ByteArray).toList) = false := by rw [str_eq, hw]; exact decide_eq_false (by decide)
 have e_weak : (w.toList == (⟨#[119, 101, 97, 107]⟩ : ByteArray).toList) = true := by rw [str_eq, hw]; exact decide_eq_true (by decide)
 have hd : ((R.x.weak.length : Int) == 1024) = false := beq_eq_false_iff_ne.2 (by omega)
 refine fn_okXn Tryz.func90 Tryz.ntmps90 Tryz.results90 (by kernel_rfl) rfl (of_decide_eq_true rfl) fun F E hF hC => ?_
 simp only [go_sem, simprocAttr, hF]
 repeat (first
  | ((with_reducible refine hand_id ?_); (first | (refine hand_rawField rfl rfl (by decide) Tryz.underlying105 rfl (m := 14) rfl rfl ?_) | (refine hand_rawField rfl rfl (by decide) Tryz.underlying35 rfl (m := 0) rfl rfl ?_) | (refine hand_eLoad (i := 0) (dd := .slice 83) rfl rfl (by decide) rfl rfl rfl (by first | assumption | rfl) Tryz.underlying32 rfl ?_) | (refine hand_eStore (i := 0) rfl rfl rfl rfl rfl rfl (by first | assumption | exact Nat.le_of_ble_eq_true rfl | (simp only [List.length_set, List.length_cons]; omega)) (by first | assumption | rfl) (by first | assumption | rfl) Tryz.sz32 ?_) | (refine hand_eLen (i := 5) rfl rfl (by decide) Tryz.underlying32 rfl rfl rfl ?_) | (refine hand_eApp (i := 5) (e := 83) (sz := 5) rfl rfl (by decide) Tryz.underlying32 (by kernel_rfl) rfl rfl rfl rfl (by simp only [List.length_cons, List.length_nil, List.length_map]; omega) (fun q2 V2 xs2 hc2 ho2 => ?_))); simp only [go_sem, simprocAttr, hF, e_schedule, e_cell, e_add, e_remove, e_weak, hd, Av.sopJ])
  | ((with_reducible refine ex_id ?_); (first | (refine ⟨_, handq_rawField rfl rfl (by decide) Tryz.underlying35 rfl (m := 0) rfl rfl, rfl, ?_⟩) | (refine ⟨_, handq_eLoad (i := 0) (dd := .slice 83) rfl rfl (by decide) rfl rfl rfl (by first | assumption | rfl) Tryz.underlying32 rfl, rfl, ?_⟩)); simp only [go_sem, simprocAttr, hF, e_schedule, e_cell, e_add, e_remove, e_weak, hd, hbx])
  | ((with_reducible first | refine sopsJ_go ?_ | refine sopsJ_end ?_ | refine headW_end ?_); simp only [go_sem, simprocAttr, hF, e_schedule, e_cell, e_add, e_remove, e_weak, hd, Av.sopJ])
  | (refine awp_floatJ (id := 18) [119, 1000118, 1000119, 1000137, 1000139] 22 [(22, 0)] (by kernel_rfl) (by kernel_rfl) (by kernel_rfl) rfl rfl (fun bx0 hbx => ?_); (try dsimp only [Av.addWs, Av.addW, List.modify_succ_cons, List.modify_zero_cons, List.push_toArray, List.cons_append, List.nil_append, List.take, List.drop]))
  | ((with_reducible refine headW_go ?_); simp only [go_sem, simprocAttr, hF, e_schedule, e_cell, e_add, e_remove, e_weak, hd, hbx])
  | ((with_reducible first | refine sops_go ?_ | refine sops_end ?_ | refine awp_if ?_ | refine awp_skip ?_ | refine awp_ret ?_); simp only [go_sem, simprocAttr, hF, e_schedule, e_cell, e_add, e_remove, e_weak, hd])
  | (with_reducible first | refine awp_seq_k fun _ _ => ?_ | refine awp_region (id := 0) [] ?_ | refine awp_region (id := 1) [1000010] ?_ | refine awp_region (id := 2) [] ?_ | refine awp_region (id := 3) [] ?_ | refine awp_region (id := 6) [] ?_ | refine awp_region (id := 10) [] ?_ | refine awp_region (id := 11) [] ?_ | refine awp_region (id := 15) [] ?_ | refine awp_region (id := 16) [1000111, 1000112, 1000113] ?_ | refine awp_region (id := 26) [] ?_ | refine awp_block ?_)
  | go_step)
 refine ⟨(⟨q2, V2, xs2⟩ : Hdr), ?_⟩
 simp only [pcq, List.map_append, List.map_cons, List.map_nil]
 rfl

theorem qoutageF (C : World → Prop) (b : Nat) (R : Rd) (M : RM) (tl : List Ext) {w : ByteArray} (hw : w = wOutage) (a0 a1 a2 : Int) (hl : R.x.outs.length = 1024) : FnX Tryz.prog C 90 [.v (wrP b), .v (.string w), .sl 1 [[ip a0], [ip a1], [ip a2]]] (exts (pcq b R M tl)) (iv 8) (fun _ : Unit => exts (pcq b R M tl)) := by
 have e_schedule : (w.toList == (⟨#[115, 99, 104, 101, 100, 117, 108, 101]⟩ : ByteArray).toList) = false := by rw [str_eq, hw]; exact decide_eq_false (by decide)
 have e_cell : (w.toList == (⟨#[99, 101, 108, 108]⟩ : ByteArray).toList) = false := by rw [str_eq, hw]; exact decide_eq_false (by decide)
 have e_add : (w.toList == (⟨#[97, 100, 100]⟩ : ByteArray).toList) = false := by rw [str_eq, hw]; exact decide_eq_false (by decide)
 have e_remove : (w.toList == (⟨#[114, 101, 109, 111, 118, 101]⟩ : ByteArray).toList) = false := by rw [str_eq, hw]; exact decide_eq_false (by decide)
 have e_weak : (w.toList == (⟨#[119, 101, 97, 107]⟩ : ByteArray).toList) = false := by rw [str_eq, hw]; exact decide_eq_false (by decide)
 have e_outage : (w.toList == (⟨#[111, 117, 116, 97, 103, 101]⟩ : ByteArray).toList) = true := by rw [str_eq, hw]; exact decide_eq_true (by decide)
 have hd : ((R.x.outs.length : Int) == 1024) = true := by rw [hl]; rfl
 refine fn_okXn Tryz.func90 Tryz.ntmps90 Tryz.results90 (by kernel_rfl) rfl (of_decide_eq_true rfl) fun F E hF hC => ?_
 simp only [go_sem, simprocAttr, hF]
 repeat (first
  | ((with_reducible refine hand_id ?_); (first | (refine hand_rawField rfl rfl (by decide) Tryz.underlying105 rfl (m := 14) rfl rfl ?_) | (refine hand_rawField rfl rfl (by decide) Tryz.underlying35 rfl (m := 0) rfl rfl ?_) | (refine hand_eLoad (i := 0) (dd := .slice 85) rfl rfl (by decide) rfl rfl rfl (by first | assumption | rfl) Tryz.underlying33 rfl ?_) | (refine hand_eLen (i := 6) rfl rfl (by decide) Tryz.underlying33 rfl rfl rfl ?_)); simp only [go_sem, simprocAttr, hF, e_schedule, e_cell, e_add, e_remove, e_weak, e_outage, hd, Av.sopJ])
  | ((with_reducible first | refine sops_go ?_ | refine sops_end ?_ | refine awp_if ?_ | refine awp_ret ?_); simp only [go_sem, simprocAttr, hF, e_schedule, e_cell, e_add, e_remove, e_weak, e_outage, hd])
  | (with_reducible first | refine awp_seq_k fun _ _ => ?_ | refine awp_region (id := 0) [] ?_ | refine awp_region (id := 1) [1000010] ?_ | refine awp_region (id := 2) [] ?_ | refine awp_region (id := 3) [] ?_ | refine awp_region (id := 6) [] ?_ | refine awp_region (id := 10) [] ?_ | refine awp_region (id := 11) [] ?_ | refine awp_region (id := 15) [] ?_ | refine awp_region (id := 19) [] ?_ | refine awp_region (id := 20) [1000144, 1000145, 1000146] ?_ | refine awp_region (id := 21) [] ?_ | refine awp_block ?_)
  | go_step)
 all_goals (first | rfl | exact ⟨(), rfl⟩)

theorem qoutageO (C : World → Prop) (b : Nat) (R : Rd) (M : RM) (tl : List Ext) {w : ByteArray} (hw : w = wOutage) (a0 a1 a2 : Int) (hl : R.x.outs.length < 1024) : FnX Tryz.prog C 90 [.v (wrP b), .v (.string w), .sl 1 [[ip a0], [ip a1], [ip a2]]] (exts (pcq b R M tl)) (iv 0) (fun i : Hdr => exts (pcq b { R with x := { R.x with outs := R.x.outs ++ [⟨a0, a1, a2⟩] } } { M with ho := i } tl)) := by
 have e_schedule : (w.toList == (⟨#[115, 99, 104, 101, 100, 117, 108, 101]⟩ : ByteArray).toList) = false := by rw [str_eq, hw]; exact decide_eq_false (by decide)
 have e_cell : (w.toList == (⟨#[99, 101, 108, 108]⟩ : ByteArray).toList) = false := by rw [str_eq, hw]; exact decide_eq_false (by decide)
 have e_add : (w.toList == (⟨#[97, 100, 100]⟩ : ByteArray).toList) = false := by rw [str_eq, hw]; exact decide_eq_false (by decide)
 have e_remove : (w.toList == (⟨#[114, 101, 109, 111, 118, 101]⟩ : ByteArray).toList) = false := by rw [str_eq, hw]; exact decide_eq_false (by decide)
 have e_weak : (w.toList == (⟨#[119, 101, 97, 107]⟩ : ByteArray).toList) = false := by rw [str_eq, hw]; exact decide_eq_false (by decide)
 have e_outage : (w.toList == (⟨#[111, 117, 116, 97, 103, 101]⟩ : ByteArray).toList) = true := by rw [str_eq, hw]; exact decide_eq_true (by decide)
 have hd : ((R.x.outs.length : Int) == 1024) = false := beq_eq_false_iff_ne.2 (by omega)
 refine fn_okXn Tryz.func90 Tryz.ntmps90 Tryz.results90 (by kernel_rfl) rfl (of_decide_eq_true rfl) fun F E hF hC => ?_
 simp only [go_sem, simprocAttr, hF]
 repeat (first
  | ((with_reducible refine hand_id ?_); (first | (refine hand_rawField rfl rfl (by decide) Tryz.underlying105 rfl (m := 14) rfl rfl ?_) | (refine hand_rawField rfl rfl (by decide) Tryz.underlying35 rfl (m := 0) rfl rfl ?_) | (refine hand_eLoad (i := 0) (dd := .slice 85) rfl rfl (by decide) rfl rfl rfl (by first | assumption | rfl) Tryz.underlying33 rfl ?_) | (refine hand_eStore (i := 0) rfl rfl rfl rfl rfl rfl (by first | assumption | exact Nat.le_of_ble_eq_true rfl | (simp only [List.length_set, List.length_cons]; omega)) (by first | assumption | rfl) (by first | assumption | rfl) Tryz.sz33 ?_) | (refine hand_eLen (i := 6) rfl rfl (by decide) Tryz.underlying33 rfl rfl rfl ?_) | (refine hand_eApp (i := 6) (e := 85) (sz := 3) rfl rfl (by decide) Tryz.underlying33 (by kernel_rfl) rfl rfl rfl rfl (by simp only [List.length_cons, List.length_nil, List.length_map]; omega) (fun q2 V2 xs2 hc2 ho2 => ?_))); simp only [go_sem, simprocAttr, hF, e_schedule, e_cell, e_add, e_remove, e_weak, e_outage, hd, Av.sopJ])
  | ((with_reducible refine ex_id ?_); (first | (refine ⟨_, handq_rawField rfl rfl (by decide) Tryz.underlying35 rfl (m := 0) rfl rfl, rfl, ?_⟩) | (refine ⟨_, handq_eLoad (i := 0) (dd := .slice 85) rfl rfl (by decide) rfl rfl rfl (by first | assumption | rfl) Tryz.underlying33 rfl, rfl, ?_⟩)); simp only [go_sem, simprocAttr, hF, e_schedule, e_cell, e_add, e_remove, e_weak, e_outage, hd, hbx])
  | ((with_reducible first | refine sopsJ_go ?_ | refine sopsJ_end ?_ | refine headW_end ?_); simp only [go_sem, simprocAttr, hF, e_schedule, e_cell, e_add, e_remove, e_weak, e_outage, hd, Av.sopJ])
  | (refine awp_floatJ (id := 22) [152, 1000151, 1000152, 1000164, 1000166] 16 [(16, 0)] (by kernel_rfl) (by kernel_rfl) (by kernel_rfl) rfl rfl (fun bx0 hbx => ?_); (try dsimp only [Av.addWs, Av.addW, List.modify_succ_cons, List.modify_zero_cons, List.push_toArray, List.cons_append, List.nil_append, List.take, List.drop]))
  | ((with_reducible refine headW_go ?_); simp only [go_sem, simprocAttr, hF, e_schedule, e_cell, e_add, e_remove, e_weak, e_outage, hd, hbx])
  | ((with_reducible first | refine sops_go ?_ | refine sops_end ?_ | refine awp_if ?_ | refine awp_skip ?_ | refine awp_ret ?_); simp only [go_sem, simprocAttr, hF, e_schedule, e_cell, e_add, e_remove, e_weak, e_outage, hd])
  | (with_reducible first | refine awp_seq_k fun _ _ => ?_ | refine awp_region (id := 0) [] ?_ | refine awp_region (id := 1) [1000010] ?_ | refine awp_region (id := 2) [] ?_ | refine awp_region (id := 3) [] ?_ | refine awp_region (id := 6) [] ?_ | refine awp_region (id := 10) [] ?_ | refine awp_region (id := 11) [] ?_ | refine awp_region (id := 15) [] ?_ | refine awp_region (id := 19) [] ?_ | refine awp_region (id := 20) [1000144, 1000145, 1000146] ?_ | refine awp_region (id := 26) [] ?_ | refine awp_block ?_)
  | go_step)
 refine ⟨(⟨q2, V2, xs2⟩ : Hdr), ?_⟩
 simp only [pcq, List.map_append, List.map_cons, List.map_nil]
 rfl
/- The reference's parser: changes. -/
theorem qaddF (C : World → Prop) (b : Nat) (R : Rd) (M : RM) (tl : List Ext) {w : ByteArray} (hw : w = wAdd) (a0 a1 a2 a3 a4 a5 : Int) (hl : R.x.changes.length = 1024) : FnX Tryz.prog C 90 [.v (wrP b), .v (.string w), .sl 1 [[ip a0], [ip a1], [ip a2], [ip a3], [ip a4], [ip a5]]] (exts (pcq b R M tl)) (iv 8) (fun _ : Unit => exts (pcq b R M tl)) := by
 have e_schedule : (w.toList == (⟨#[115, 99, 104, 101, 100, 117, 108, 101]⟩ : ByteArray).toList) = false := by rw [str_eq, hw]; exact decide_eq_false (by decide)
 have e_cell : (w.toList == (⟨#[99, 101, 108, 108]⟩ : ByteArray).toList) = false := by rw [str_eq, hw]; exact decide_eq_false (by decide)
 have e_add : (w.toList == (⟨#[97, 100, 100]⟩ : ByteArray).toList) = true := by rw [str_eq, hw]; exact decide_eq_true (by decide)
 have hd : ((R.x.changes.length : Int) == 1024) = true := by rw [hl]; rfl
 refine fn_okXn Tryz.func90 Tryz.ntmps90 Tryz.results90 (by kernel_rfl) rfl (of_decide_eq_true rfl) fun F E hF hC => ?_
 simp only [go_sem, simprocAttr, hF]
 repeat (first
  | ((with_reducible refine hand_id ?_); (first | (refine hand_rawField rfl rfl (by decide) Tryz.underlying105 rfl (m := 14) rfl rfl ?_) | (refine hand_rawField rfl rfl (by decide) Tryz.underlying35 rfl (m := 0) rfl rfl ?_) | (refine hand_eLoad (i := 0) (dd := .slice 81) rfl rfl (by decide) rfl rfl rfl (by first | assumption | rfl) Tryz.underlying31 rfl ?_) | (refine hand_eLen (i := 4) rfl rfl (by decide) Tryz.underlying31 rfl rfl rfl ?_)); simp only [go_sem, simprocAttr, hF, e_schedule, e_cell, e_add, hd, Av.sopJ])
  | ((with_reducible first | refine sops_go ?_ | refine sops_end ?_ | refine awp_if ?_ | refine awp_skip ?_ | refine awp_ret ?_); simp only [go_sem, simprocAttr, hF, e_schedule, e_cell, e_add, hd])
  | (with_reducible first | refine awp_seq_k fun _ _ => ?_ | refine awp_region (id := 0) [] ?_ | refine awp_region (id := 1) [1000010] ?_ | refine awp_region (id := 2) [] ?_ | refine awp_region (id := 3) [] ?_ | refine awp_region (id := 6) [] ?_ | refine awp_region (id := 10) [] ?_ | refine awp_region (id := 12) [1000072, 1000073, 1000074] ?_ | refine awp_region (id := 13) [] ?_ | refine awp_block ?_)
  | go_step)
 all_goals (first | rfl | exact ⟨(), rfl⟩)

theorem qaddO (C : World → Prop) (b : Nat) (R : Rd) (M : RM) (tl : List Ext) {w : ByteArray} (hw : w = wAdd) (a0 a1 a2 a3 a4 a5 : Int) (hl : R.x.changes.length < 1024) : FnX Tryz.prog C 90 [.v (wrP b), .v (.string w), .sl 1 [[ip a0], [ip a1], [ip a2], [ip a3], [ip a4], [ip a5]]] (exts (pcq b R M tl)) (iv 0) (fun i : Hdr => exts (pcq b { R with x := { R.x with changes := R.x.changes ++ [⟨a0, true, ⟨a1, a2, a3, a4, a5⟩⟩] } } { M with hh := i } tl)) := by
 have e_schedule : (w.toList == (⟨#[115, 99, 104, 101, 100, 117, 108, 101]⟩ : ByteArray).toList) = false := by rw [str_eq, hw]; exact decide_eq_false (by decide)
 have e_cell : (w.toList == (⟨#[99, 101, 108, 108]⟩ : ByteArray).toList) = false := by rw [str_eq, hw]; exact decide_eq_false (by decide)
 have e_add : (w.toList == (⟨#[97, 100, 100]⟩ : ByteArray).toList) = true := by rw [str_eq, hw]; exact decide_eq_true (by decide)
 have hd : ((R.x.changes.length : Int) == 1024) = false := beq_eq_false_iff_ne.2 (by omega)
 refine fn_okXn Tryz.func90 Tryz.ntmps90 Tryz.results90 (by kernel_rfl) rfl (of_decide_eq_true rfl) fun F E hF hC => ?_
 simp only [go_sem, simprocAttr, hF]
 repeat (first
  | ((with_reducible refine hand_id ?_); (first | (refine hand_rawField rfl rfl (by decide) Tryz.underlying105 rfl (m := 14) rfl rfl ?_) | (refine hand_rawField rfl rfl (by decide) Tryz.underlying35 rfl (m := 0) rfl rfl ?_) | (refine hand_eLoad (i := 0) (dd := .slice 81) rfl rfl (by decide) rfl rfl rfl (by first | assumption | rfl) Tryz.underlying31 rfl ?_) | (refine hand_eStore (i := 0) rfl rfl rfl rfl rfl rfl (by first | assumption | exact Nat.le_of_ble_eq_true rfl | (simp only [List.length_set, List.length_cons]; omega)) (by first | assumption | rfl) (by first | assumption | rfl) Tryz.sz31 ?_) | (refine hand_eLen (i := 4) rfl rfl (by decide) Tryz.underlying31 rfl rfl rfl ?_) | (refine hand_eApp (i := 4) (e := 81) (sz := 7) rfl rfl (by decide) Tryz.underlying31 (by kernel_rfl) rfl rfl rfl rfl (by simp only [List.length_cons, List.length_nil, List.length_map]; omega) (fun q2 V2 xs2 hc2 ho2 => ?_))); simp only [go_sem, simprocAttr, hF, e_schedule, e_cell, e_add, hd, Av.sopJ])
  | ((with_reducible refine ex_id ?_); (first | (refine ⟨_, handq_rawField rfl rfl (by decide) Tryz.underlying35 rfl (m := 0) rfl rfl, rfl, ?_⟩) | (refine ⟨_, handq_eLoad (i := 0) (dd := .slice 81) rfl rfl (by decide) rfl rfl rfl (by first | assumption | rfl) Tryz.underlying31 rfl, rfl, ?_⟩)); simp only [go_sem, simprocAttr, hF, e_schedule, e_cell, e_add, hd, hbx])
  | ((with_reducible first | refine sopsJ_go ?_ | refine sopsJ_end ?_ | refine headW_end ?_); simp only [go_sem, simprocAttr, hF, e_schedule, e_cell, e_add, hd, Av.sopJ])
  | (refine awp_floatJ (id := 14) [80, 1000079, 1000080, 1000104, 1000106] 28 [(28, 0)] (by kernel_rfl) (by kernel_rfl) (by kernel_rfl) rfl rfl (fun bx0 hbx => ?_); (try dsimp only [Av.addWs, Av.addW, List.modify_succ_cons, List.modify_zero_cons, List.push_toArray, List.cons_append, List.nil_append, List.take, List.drop]))
  | ((with_reducible refine headW_go ?_); simp only [go_sem, simprocAttr, hF, e_schedule, e_cell, e_add, hd, hbx])
  | ((with_reducible first | refine sops_go ?_ | refine sops_end ?_ | refine awp_if ?_ | refine awp_skip ?_ | refine awp_ret ?_); simp only [go_sem, simprocAttr, hF, e_schedule, e_cell, e_add, hd])
  | (with_reducible first | refine awp_seq_k fun _ _ => ?_ | refine awp_region (id := 0) [] ?_ | refine awp_region (id := 1) [1000010] ?_ | refine awp_region (id := 2) [] ?_ | refine awp_region (id := 3) [] ?_ | refine awp_region (id := 6) [] ?_ | refine awp_region (id := 10) [] ?_ | refine awp_region (id := 12) [1000072, 1000073, 1000074] ?_ | refine awp_region (id := 26) [] ?_ | refine awp_block ?_)
  | go_step)
 refine ⟨(⟨q2, V2, xs2⟩ : Hdr), ?_⟩
 simp only [pcq, List.map_append, List.map_cons, List.map_nil]
 rfl

theorem qremoveF (C : World → Prop) (b : Nat) (R : Rd) (M : RM) (tl : List Ext) {w : ByteArray} (hw : w = wRemove) (a0 a1 a2 a3 a4 a5 : Int) (hl : R.x.changes.length = 1024) : FnX Tryz.prog C 90 [.v (wrP b), .v (.string w), .sl 1 [[ip a0], [ip a1], [ip a2], [ip a3], [ip a4], [ip a5]]] (exts (pcq b R M tl)) (iv 8) (fun _ : Unit => exts (pcq b R M tl)) := by
 have e_schedule : (w.toList == (⟨#[115, 99, 104, 101, 100, 117, 108, 101]⟩ : ByteArray).toList) = false := by rw [str_eq, hw]; exact decide_eq_false (by decide)
 have e_cell : (w.toList == (⟨#[99, 101, 108, 108]⟩ : ByteArray).toList) = false := by rw [str_eq, hw]; exact decide_eq_false (by decide)
 have e_add : (w.toList == (⟨#[97, 100, 100]⟩ : ByteArray).toList) = false := by rw [str_eq, hw]; exact decide_eq_false (by decide)
 have e_remove : (w.toList == (⟨#[114, 101, 109, 111, 118, 101]⟩ : ByteArray).toList) = true := by rw [str_eq, hw]; exact decide_eq_true (by decide)
 have hd : ((R.x.changes.length : Int) == 1024) = true := by rw [hl]; rfl
 refine fn_okXn Tryz.func90 Tryz.ntmps90 Tryz.results90 (by kernel_rfl) rfl (of_decide_eq_true rfl) fun F E hF hC => ?_
 simp only [go_sem, simprocAttr, hF]
 repeat (first
  | ((with_reducible refine hand_id ?_); (first | (refine hand_rawField rfl rfl (by decide) Tryz.underlying105 rfl (m := 14) rfl rfl ?_) | (refine hand_rawField rfl rfl (by decide) Tryz.underlying35 rfl (m := 0) rfl rfl ?_) | (refine hand_eLoad (i := 0) (dd := .slice 81) rfl rfl (by decide) rfl rfl rfl (by first | assumption | rfl) Tryz.underlying31 rfl ?_) | (refine hand_eLen (i := 4) rfl rfl (by decide) Tryz.underlying31 rfl rfl rfl ?_)); simp only [go_sem, simprocAttr, hF, e_schedule, e_cell, e_add, e_remove, hd, Av.sopJ])
  | ((with_reducible first | refine sops_go ?_ | refine sops_end ?_ | refine awp_if ?_ | refine awp_ret ?_); simp only [go_sem, simprocAttr, hF, e_schedule, e_cell, e_add, e_remove, hd])
  | (with_reducible first | refine awp_seq_k fun _ _ => ?_ | refine awp_region (id := 0) [] ?_ | refine awp_region (id := 1) [1000010] ?_ | refine awp_region (id := 2) [] ?_ | refine awp_region (id := 3) [] ?_ | refine awp_region (id := 6) [] ?_ | refine awp_region (id := 10) [] ?_ | refine awp_region (id := 11) [] ?_ | refine awp_region (id := 12) [1000072, 1000073, 1000074] ?_ | refine awp_region (id := 13) [] ?_ | refine awp_block ?_)
  | go_step)
 all_goals (first | rfl | exact ⟨(), rfl⟩)

theorem qremoveO (C : World → Prop) (b : Nat) (R : Rd) (M : RM) (tl : List Ext) {w : ByteArray} (hw : w = wRemove) (a0 a1 a2 a3 a4 a5 : Int) (hl : R.x.changes.length < 1024) : FnX Tryz.prog C 90 [.v (wrP b), .v (.string w), .sl 1 [[ip a0], [ip a1], [ip a2], [ip a3], [ip a4], [ip a5]]] (exts (pcq b R M tl)) (iv 0) (fun i : Hdr => exts (pcq b { R with x := { R.x with changes := R.x.changes ++ [⟨a0, false, ⟨a1, a2, a3, a4, a5⟩⟩] } } { M with hh := i } tl)) := by
 have e_schedule : (w.toList == (⟨#[115, 99, 104, 101, 100, 117, 108, 101]⟩ : ByteArray).toList) = false := by rw [str_eq, hw]; exact decide_eq_false (by decide)
 have e_cell : (w.toList == (⟨#[99, 101, 108, 108]⟩ : ByteArray).toList) = false := by rw [str_eq, hw]; exact decide_eq_false (by decide)
 have e_add : (w.toList == (⟨#[97, 100, 100]⟩ : ByteArray).toList) = false := by rw [str_eq, hw]; exact decide_eq_false (by decide)
 have e_remove : (w.toList == (⟨#[114, 101, 109, 111, 118, 101]⟩ : ByteArray).toList) = true := by rw [str_eq, hw]; exact decide_eq_true (by decide)
 have hd : ((R.x.changes.length : Int) == 1024) = false := beq_eq_false_iff_ne.2 (by omega)
 refine fn_okXn Tryz.func90 Tryz.ntmps90 Tryz.results90 (by kernel_rfl) rfl (of_decide_eq_true rfl) fun F E hF hC => ?_
 simp only [go_sem, simprocAttr, hF]
 repeat (first
  | ((with_reducible refine hand_id ?_); (first | (refine hand_rawField rfl rfl (by decide) Tryz.underlying105 rfl (m := 14) rfl rfl ?_) | (refine hand_rawField rfl rfl (by decide) Tryz.underlying35 rfl (m := 0) rfl rfl ?_) | (refine hand_eLoad (i := 0) (dd := .slice 81) rfl rfl (by decide) rfl rfl rfl (by first | assumption | rfl) Tryz.underlying31 rfl ?_) | (refine hand_eStore (i := 0) rfl rfl rfl rfl rfl rfl (by first | assumption | exact Nat.le_of_ble_eq_true rfl | (simp only [List.length_set, List.length_cons]; omega)) (by first | assumption | rfl) (by first | assumption | rfl) Tryz.sz31 ?_) | (refine hand_eLen (i := 4) rfl rfl (by decide) Tryz.underlying31 rfl rfl rfl ?_) | (refine hand_eApp (i := 4) (e := 81) (sz := 7) rfl rfl (by decide) Tryz.underlying31 (by kernel_rfl) rfl rfl rfl rfl (by simp only [List.length_cons, List.length_nil, List.length_map]; omega) (fun q2 V2 xs2 hc2 ho2 => ?_))); simp only [go_sem, simprocAttr, hF, e_schedule, e_cell, e_add, e_remove, hd, Av.sopJ])
  | ((with_reducible refine ex_id ?_); (first | (refine ⟨_, handq_rawField rfl rfl (by decide) Tryz.underlying35 rfl (m := 0) rfl rfl, rfl, ?_⟩) | (refine ⟨_, handq_eLoad (i := 0) (dd := .slice 81) rfl rfl (by decide) rfl rfl rfl (by first | assumption | rfl) Tryz.underlying31 rfl, rfl, ?_⟩)); simp only [go_sem, simprocAttr, hF, e_schedule, e_cell, e_add, e_remove, hd, hbx])
  | ((with_reducible first | refine sopsJ_go ?_ | refine sopsJ_end ?_ | refine headW_end ?_); simp only [go_sem, simprocAttr, hF, e_schedule, e_cell, e_add, e_remove, hd, Av.sopJ])
  | (refine awp_floatJ (id := 14) [80, 1000079, 1000080, 1000104, 1000106] 28 [(28, 0)] (by kernel_rfl) (by kernel_rfl) (by kernel_rfl) rfl rfl (fun bx0 hbx => ?_); (try dsimp only [Av.addWs, Av.addW, List.modify_succ_cons, List.modify_zero_cons, List.push_toArray, List.cons_append, List.nil_append, List.take, List.drop]))
  | ((with_reducible refine headW_go ?_); simp only [go_sem, simprocAttr, hF, e_schedule, e_cell, e_add, e_remove, hd, hbx])
  | ((with_reducible first | refine sops_go ?_ | refine sops_end ?_ | refine awp_if ?_ | refine awp_skip ?_ | refine awp_ret ?_); simp only [go_sem, simprocAttr, hF, e_schedule, e_cell, e_add, e_remove, hd])
  | (with_reducible first | refine awp_seq_k fun _ _ => ?_ | refine awp_region (id := 0) [] ?_ | refine awp_region (id := 1) [1000010] ?_ | refine awp_region (id := 2) [] ?_ | refine awp_region (id := 3) [] ?_ | refine awp_region (id := 6) [] ?_ | refine awp_region (id := 10) [] ?_ | refine awp_region (id := 11) [] ?_ | refine awp_region (id := 12) [1000072, 1000073, 1000074] ?_ | refine awp_region (id := 26) [] ?_ | refine awp_block ?_)
  | go_step)
 refine ⟨(⟨q2, V2, xs2⟩ : Hdr), ?_⟩
 simp only [pcq, List.map_append, List.map_cons, List.map_nil]
 rfl
end Go.Proofs.YtcloigoajohppaaGreatDoor

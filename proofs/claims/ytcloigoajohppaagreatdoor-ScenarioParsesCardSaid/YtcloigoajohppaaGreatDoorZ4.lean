import Derived.Lib.Bytealg
import Derived.Shelf.Abstract
import Derived.WalkKit
import Derived.OwnWalkIn
import Derived.TacticsInMore
import Derived.LoopNIn
import Derived.LoopIn
import Derived.Test.YtcloigoajohppaaGreatDoorZ3
set_option linter.unusedVariables false
set_option linter.unusedSimpArgs false
set_option maxHeartbeats 4000000
/- The reader: changes, weak links, outages. -/
namespace Go.Proofs.YtcloigoajohppaaGreatDoor
open Go.RowKit
open Av
open Sc
set_option maxRecDepth 100000
set_option linter.unusedSimpArgs false
attribute [local go_sem] Av.guardB Av.sop Av.hopx Av.hop Av.hopCall Av.hopF Av.hopB Av.evo Av.evos Av.avCells Av.loadK Av.bound Av.abin Av.aun Av.partsC Av.lfill Av.placesB Av.setAt Av.stl Av.takes Av.src Av.bxOf Av.ownOf Av.St.res Av.St.put Av.St.addBox Av.St.putOwn Av.delL Av.delS Av.look Av.lookL Av.storeSt Av.stealSt Av.St.setBox Av.keepL Av.hitB Av.snap Av.snaps Av.snapCaps Av.AV.lit Av.AV.refs Av.capRefs Av.PV.av Av.CV.av Av.startSt Av.steals Av.athen Av.ablock Av.appK Av.AllS Av.AllO Av.AllR Av.keepS Av.St.avAt Av.RetOK Av.retAll Av.retOne Av.intsOf Av.ptrB TypeDesc.isRow List.range_zero Option.some.injEq exists_eq_left' exists_eq_left exists_eq' exists_and_left exists_and_right exists_const true_and and_true and_self false_and and_false or_false false_or or_true true_or if_true if_false Bool.false_eq_true List.zipIdx_cons List.zipIdx_nil List.map_cons List.map_nil List.filter_cons List.filter_nil List.contains_cons List.contains_nil List.drop_succ_cons List.drop_zero List.take_succ_cons List.take_zero List.take_nil List.drop_nil List.length_cons List.length_nil List.cons_append List.nil_append List.append_nil List.getElem?_cons_zero List.getElem?_cons_succ List.getElem?_nil Option.bind_some Option.bind_none Option.map_some Option.map_none Option.isNone_none Option.isNone_some Option.isSome_some Option.isSome_none Bool.and_true Bool.true_and Bool.and_false Bool.false_and Bool.or_false Bool.false_or Bool.not_true Bool.not_false beq_true beq_false Bool.true_beq Bool.false_beq Loc.s.injEq Loc.b.injEq decide_true decide_false beq_self_eq_true Nat.zero_add Nat.add_zero List.getElem?_toArray List.toList_toArray List.size_toArray Value.oneCell' List.all_cons List.all_nil Value.int.injEq AV.v.injEq AV.sl.injEq AV.agg.injEq AV.ref.injEq AV.ept.injEq AV.tup.injEq Value.bool.injEq PV.v.injEq PV.sl.injEq List.isEmpty_nil List.isEmpty_cons forall_const not_true_eq_false not_false_eq_true true_implies false_implies Value.string.injEq List.length_map List.getElem?_map Int.toNat_natCast Int.natCast_nonneg List.length_append Value.cells implies_true TypeDesc.struct.injEq TypeDesc.slice.injEq TypeDesc.array.injEq List.getElem?_toArray Prod.mk.injEq and_assoc exists_false List.cons.injEq Operand.tmp.injEq ite_self AV.fnv.injEq AV.clo.injEq ne_eq eq_self Tryz.sz3 Tryz.zr3 Tryz.by3 Tryz.pl3 Tryz.is3 Tryz.underlying3 Tryz.sz4 Tryz.pl4 Tryz.is4 Tryz.underlying4 Tryz.sz9 Tryz.zr9 Tryz.underlying9 Tryz.underlying5 Tryz.underlying56 Tryz.sz24 Tryz.zr24 Tryz.by24 Tryz.underlying24 Tryz.underlying70 Tryz.underlying69 Tryz.is72 Tryz.underlying72 Tryz.zr74 Tryz.underlying74 Tryz.underlying117 Tryz.underlying182 Tryz.sz64 Tryz.zr64 Tryz.pl64 Tryz.is64 Tryz.underlying64 Tryz.sz67 Tryz.zr67 Tryz.underlying67 Tryz.sz26 Tryz.underlying26 Tryz.sz30 Tryz.underlying30 Tryz.sz126 Tryz.zr126 Tryz.underlying126 Tryz.sz79 Tryz.zr79 Tryz.pl79 Tryz.is79 Tryz.underlying79 Tryz.sz81 Tryz.zr81 Tryz.underlying81 Tryz.sz83 Tryz.zr83 Tryz.underlying83 Tryz.sz85 Tryz.zr85 Tryz.underlying85 Tryz.sz35 Tryz.zr35 Tryz.is35 Tryz.underlying35 Tryz.underlying88 Tryz.sz22 Tryz.underlying22 Tryz.sz23 Tryz.underlying23 Tryz.sz27 Tryz.underlying27 Tryz.sz28 Tryz.underlying28 Tryz.sz31 Tryz.underlying31 Tryz.sz32 Tryz.underlying32 Tryz.sz33 Tryz.underlying33 Tryz.sz65 Tryz.is65 Tryz.underlying65 Tryz.sz68 Tryz.zr68 Tryz.underlying68 Tryz.underlying46 Tryz.underlying38 Tryz.underlying94 Tryz.sz91 Tryz.underlying91 Tryz.underlying86 all_arr loc_ss arr_two arr_one ResultVar.tmp.injEq Bool.not_true Bool.not_false undef Fn.func.injEq Av.extSt Av.RetX List.zipIdx List.getD_cons_zero List.getD_cons_succ Sc.Fw.pv Sc.Rq.pv Sc.Ce.pv Sc.Ch.pv Sc.Wk.pv Sc.Og.pv Sc.Lk.pv Sc.Nt.pv Sc.Sn.pv Sc.rsR
theorem rchangeF (C : World → Prop) (b : Nat) (R : Rd) (M : RM) (tl : List Ext) (adds : Bool) (a0 a1 a2 a3 a4 a5 : Int) (hl : 1024 ≤ R.x.changes.length) :
 FnX Tryz.prog C 72 [.v (wrP b), .v (.bool adds), .sl 1 [[ip a0], [ip a1], [ip a2], [ip a3], [ip a4], [ip a5]]] (exts (pcs b R M tl)) (iv 8) (fun _ : Unit => exts (pcs b R M tl)) := by
 refine fn_okXn Tryz.func72 Tryz.ntmps72 Tryz.results72 (by kernel_rfl) rfl (of_decide_eq_true rfl) fun F E hF hC => ?_
 simp only [go_sem, simprocAttr, hF]
 repeat (first
  | (refine awp_floatJ (id := 1) [1000009, 1000010, 1000019] 12 [] (by kernel_rfl) (by kernel_rfl) (by kernel_rfl) rfl rfl (fun bx0 hbx => ?_); (try dsimp only [Av.addWs, Av.addW, List.modify_succ_cons, List.modify_zero_cons, List.push_toArray, List.cons_append, List.nil_append, List.take, List.drop]))
  | ((first | refine ⟨_, handq_rawField rfl rfl (by decide) Tryz.underlying94 rfl (m := 14) rfl rfl, rfl, ?_⟩ | refine ⟨_, handq_rawField rfl rfl (by decide) Tryz.underlying35 rfl (m := 0) rfl rfl, rfl, ?_⟩); simp only [go_sem, simprocAttr, hF, hbx])
  | ((with_reducible refine headW_go ?_); simp only [go_sem, simprocAttr, hF, hbx])
  | ((with_reducible first | refine sops_go ?_ | refine sops_end ?_); simp only [go_sem, simprocAttr, hF])
  | (with_reducible first | refine awp_seq_k fun _ _ => ?_ | refine awp_region (id := 0) [] ?_)
  | go_step)
 refine ⟨_, cellOf_ok a1 a2 a3 a4 a5, ?_⟩
 simp only [go_sem, simprocAttr, hF, Av.sopJ, hbx]
 repeat (first
  | ((with_reducible refine sopsJ_go ?_); simp only [go_sem, simprocAttr, hF, Av.sopJ])
  | ((with_reducible refine headW_go ?_); simp only [go_sem, simprocAttr, hF, hbx])
  | ((with_reducible refine headW_end ?_); simp only [go_sem, simprocAttr, hF, Av.sopJ]))
 refine hand_call2 (i := 0) (j := 4) (addFH C b 11 (rvals R M) M.hh.q M.hh.V rfl M.hh.xs _ (by rw [List.length_map]; omega) ⟨a0, adds, ⟨a1, a2, a3, a4, a5⟩⟩) E rfl rfl rfl (by decide) hC rfl rfl (by decide) rfl rfl (fun i => ?_)
 simp only [go_sem, simprocAttr, hF, Av.sopJ]
 repeat (first
  | ((with_reducible first | refine sopsJ_go ?_ | refine sopsJ_end ?_); simp only [go_sem, simprocAttr, hF, Av.sopJ])
  | (with_reducible refine awp_ret ?_; simp only [go_sem, simprocAttr, hF])
  | go_step)
 all_goals (first | rfl | exact ⟨(), rfl⟩)

theorem rchangeO (C : World → Prop) (b : Nat) (R : Rd) (M : RM) (tl : List Ext) (adds : Bool) (a0 a1 a2 a3 a4 a5 : Int) (hl : R.x.changes.length < 1024) :
 FnX Tryz.prog C 72 [.v (wrP b), .v (.bool adds), .sl 1 [[ip a0], [ip a1], [ip a2], [ip a3], [ip a4], [ip a5]]] (exts (pcs b R M tl)) (iv 0) (fun i : Hdr => exts (pcs b { R with x := { R.x with changes := R.x.changes ++ [⟨a0, adds, ⟨a1, a2, a3, a4, a5⟩⟩] } } { M with hh := i } tl)) := by
 refine fn_okXn Tryz.func72 Tryz.ntmps72 Tryz.results72 (by kernel_rfl) rfl (of_decide_eq_true rfl) fun F E hF hC => ?_
 simp only [go_sem, simprocAttr, hF]
 repeat (first
  | (refine awp_floatJ (id := 1) [1000009, 1000010, 1000019] 12 [] (by kernel_rfl) (by kernel_rfl) (by kernel_rfl) rfl rfl (fun bx0 hbx => ?_); (try dsimp only [Av.addWs, Av.addW, List.modify_succ_cons, List.modify_zero_cons, List.push_toArray, List.cons_append, List.nil_append, List.take, List.drop]))
  | ((first | refine ⟨_, handq_rawField rfl rfl (by decide) Tryz.underlying94 rfl (m := 14) rfl rfl, rfl, ?_⟩ | refine ⟨_, handq_rawField rfl rfl (by decide) Tryz.underlying35 rfl (m := 0) rfl rfl, rfl, ?_⟩); simp only [go_sem, simprocAttr, hF, hbx])
  | ((with_reducible refine headW_go ?_); simp only [go_sem, simprocAttr, hF, hbx])
  | ((with_reducible first | refine sops_go ?_ | refine sops_end ?_); simp only [go_sem, simprocAttr, hF])
  | (with_reducible first | refine awp_seq_k fun _ _ => ?_ | refine awp_region (id := 0) [] ?_)
  | go_step)
 refine ⟨_, cellOf_ok a1 a2 a3 a4 a5, ?_⟩
 simp only [go_sem, simprocAttr, hF, Av.sopJ, hbx]
 repeat (first
  | ((with_reducible refine sopsJ_go ?_); simp only [go_sem, simprocAttr, hF, Av.sopJ])
  | ((with_reducible refine headW_go ?_); simp only [go_sem, simprocAttr, hF, hbx])
  | ((with_reducible refine headW_end ?_); simp only [go_sem, simprocAttr, hF, Av.sopJ]))
 refine hand_call2 (i := 0) (j := 4) (addOH C b 11 (rvals R M) M.hh.q M.hh.V rfl M.hh.xs _ (by rw [List.length_map]; omega) ⟨a0, adds, ⟨a1, a2, a3, a4, a5⟩⟩) E rfl rfl rfl (by decide) hC rfl rfl (by decide) rfl rfl (fun i => ?_)
 simp only [go_sem, simprocAttr, hF, Av.sopJ]
 repeat (first
  | ((with_reducible first | refine sopsJ_go ?_ | refine sopsJ_end ?_); simp only [go_sem, simprocAttr, hF, Av.sopJ])
  | (with_reducible refine awp_ret ?_; simp only [go_sem, simprocAttr, hF])
  | go_step)
 refine ⟨(⟨i.1, i.2.1, i.2.2⟩ : Hdr), ?_⟩
 simp only [pcs, List.map_append, List.map_cons, List.map_nil]
 rfl

theorem rweakF (C : World → Prop) (b : Nat) (R : Rd) (M : RM) (tl : List Ext) (a0 a1 a2 a3 a4 : Int) (hl : 1024 ≤ R.x.weak.length) :
 FnX Tryz.prog C 74 [.v (wrP b), .sl 1 [[ip a0], [ip a1], [ip a2], [ip a3], [ip a4]]] (exts (pcs b R M tl)) (iv 8) (fun _ : Unit => exts (pcs b R M tl)) := by
 refine fn_okXn Tryz.func74 Tryz.ntmps74 Tryz.results74 (by kernel_rfl) rfl (of_decide_eq_true rfl) fun F E hF hC => ?_
 simp only [go_sem, simprocAttr, hF]
 repeat (first
  | ((with_reducible first | refine sopsJ_go ?_ | refine headW_end ?_); simp only [go_sem, simprocAttr, hF, Av.sopJ])
  | (refine awp_floatJ (id := 1) [1000007, 1000008, 1000025] 20 [] (by kernel_rfl) (by kernel_rfl) (by kernel_rfl) rfl rfl (fun bx0 hbx => ?_); (try dsimp only [Av.addWs, Av.addW, List.modify_succ_cons, List.modify_zero_cons, List.push_toArray, List.cons_append, List.nil_append, List.take, List.drop]))
  | ((first | refine ⟨_, handq_rawField rfl rfl (by decide) Tryz.underlying94 rfl (m := 14) rfl rfl, rfl, ?_⟩ | refine ⟨_, handq_rawField rfl rfl (by decide) Tryz.underlying35 rfl (m := 0) rfl rfl, rfl, ?_⟩); simp only [go_sem, simprocAttr, hF, hbx])
  | ((with_reducible refine headW_go ?_); simp only [go_sem, simprocAttr, hF, hbx])
  | ((with_reducible first | refine sops_go ?_ | refine sops_end ?_); simp only [go_sem, simprocAttr, hF])
  | (with_reducible first | refine awp_seq_k fun _ _ => ?_ | refine awp_region (id := 0) [] ?_)
  | go_step)
 refine hand_call2 (i := 0) (j := 5) (addFW C b 12 (rvals R M) M.hw.q M.hw.V rfl M.hw.xs _ (by rw [List.length_map]; omega) ⟨a0, a1, a2, a3, a4⟩) E rfl rfl rfl (by decide) hC rfl rfl (by decide) rfl rfl (fun i => ?_)
 simp only [go_sem, simprocAttr, hF, Av.sopJ]
 repeat (first
  | ((with_reducible first | refine sopsJ_go ?_ | refine sopsJ_end ?_); simp only [go_sem, simprocAttr, hF, Av.sopJ])
  | (with_reducible refine awp_ret ?_; simp only [go_sem, simprocAttr, hF])
  | go_step)
 all_goals (first | rfl | exact ⟨(), rfl⟩)

theorem rweakO (C : World → Prop) (b : Nat) (R : Rd) (M : RM) (tl : List Ext) (a0 a1 a2 a3 a4 : Int) (hl : R.x.weak.length < 1024) :
 FnX Tryz.prog C 74 [.v (wrP b), .sl 1 [[ip a0], [ip a1], [ip a2], [ip a3], [ip a4]]] (exts (pcs b R M tl)) (iv 0) (fun i : Hdr => exts (pcs b { R with x := { R.x with weak := R.x.weak ++ [⟨a0, a1, a2, a3, a4⟩] } } { M with hw := i } tl)) := by
 refine fn_okXn Tryz.func74 Tryz.ntmps74 Tryz.results74 (by kernel_rfl) rfl (of_decide_eq_true rfl) fun F E hF hC => ?_
 simp only [go_sem, simprocAttr, hF]
 repeat (first
  | ((with_reducible first | refine sopsJ_go ?_ | refine headW_end ?_); simp only [go_sem, simprocAttr, hF, Av.sopJ])
  | (refine awp_floatJ (id := 1) [1000007, 1000008, 1000025] 20 [] (by kernel_rfl) (by kernel_rfl) (by kernel_rfl) rfl rfl (fun bx0 hbx => ?_); (try dsimp only [Av.addWs, Av.addW, List.modify_succ_cons, List.modify_zero_cons, List.push_toArray, List.cons_append, List.nil_append, List.take, List.drop]))
  | ((first | refine ⟨_, handq_rawField rfl rfl (by decide) Tryz.underlying94 rfl (m := 14) rfl rfl, rfl, ?_⟩ | refine ⟨_, handq_rawField rfl rfl (by decide) Tryz.underlying35 rfl (m := 0) rfl rfl, rfl, ?_⟩); simp only [go_sem, simprocAttr, hF, hbx])
  | ((with_reducible refine headW_go ?_); simp only [go_sem, simprocAttr, hF, hbx])
  | ((with_reducible first | refine sops_go ?_ | refine sops_end ?_); simp only [go_sem, simprocAttr, hF])
  | (with_reducible first | refine awp_seq_k fun _ _ => ?_ | refine awp_region (id := 0) [] ?_)
  | go_step)
 refine hand_call2 (i := 0) (j := 5) (addOW C b 12 (rvals R M) M.hw.q M.hw.V rfl M.hw.xs _ (by rw [List.length_map]; omega) ⟨a0, a1, a2, a3, a4⟩) E rfl rfl rfl (by decide) hC rfl rfl (by decide) rfl rfl (fun i => ?_)
 simp only [go_sem, simprocAttr, hF, Av.sopJ]
 repeat (first
  | ((with_reducible first | refine sopsJ_go ?_ | refine sopsJ_end ?_); simp only [go_sem, simprocAttr, hF, Av.sopJ])
  | (with_reducible refine awp_ret ?_; simp only [go_sem, simprocAttr, hF])
  | go_step)
 refine ⟨(⟨i.1, i.2.1, i.2.2⟩ : Hdr), ?_⟩
 simp only [pcs, List.map_append, List.map_cons, List.map_nil]
 rfl

theorem routageF (C : World → Prop) (b : Nat) (R : Rd) (M : RM) (tl : List Ext) (a0 a1 a2 : Int) (hl : 1024 ≤ R.x.outs.length) :
 FnX Tryz.prog C 75 [.v (wrP b), .sl 1 [[ip a0], [ip a1], [ip a2]]] (exts (pcs b R M tl)) (iv 8) (fun _ : Unit => exts (pcs b R M tl)) := by
 refine fn_okXn Tryz.func75 Tryz.ntmps75 Tryz.results75 (by kernel_rfl) rfl (of_decide_eq_true rfl) fun F E hF hC => ?_
 simp only [go_sem, simprocAttr, hF]
 repeat (first
  | ((with_reducible first | refine sopsJ_go ?_ | refine headW_end ?_); simp only [go_sem, simprocAttr, hF, Av.sopJ])
  | (refine awp_floatJ (id := 1) [1000007, 1000008, 1000019] 14 [] (by kernel_rfl) (by kernel_rfl) (by kernel_rfl) rfl rfl (fun bx0 hbx => ?_); (try dsimp only [Av.addWs, Av.addW, List.modify_succ_cons, List.modify_zero_cons, List.push_toArray, List.cons_append, List.nil_append, List.take, List.drop]))
  | ((first | refine ⟨_, handq_rawField rfl rfl (by decide) Tryz.underlying94 rfl (m := 14) rfl rfl, rfl, ?_⟩ | refine ⟨_, handq_rawField rfl rfl (by decide) Tryz.underlying35 rfl (m := 0) rfl rfl, rfl, ?_⟩); simp only [go_sem, simprocAttr, hF, hbx])
  | ((with_reducible refine headW_go ?_); simp only [go_sem, simprocAttr, hF, hbx])
  | ((with_reducible first | refine sops_go ?_ | refine sops_end ?_); simp only [go_sem, simprocAttr, hF])
  | (with_reducible first | refine awp_seq_k fun _ _ => ?_ | refine awp_region (id := 0) [] ?_)
  | go_step)
 refine hand_call2 (i := 0) (j := 6) (addFO C b 13 (rvals R M) M.ho.q M.ho.V rfl M.ho.xs _ (by rw [List.length_map]; omega) ⟨a0, a1, a2⟩) E rfl rfl rfl (by decide) hC rfl rfl (by decide) rfl rfl (fun i => ?_)
 simp only [go_sem, simprocAttr, hF, Av.sopJ]
 repeat (first
  | ((with_reducible first | refine sopsJ_go ?_ | refine sopsJ_end ?_); simp only [go_sem, simprocAttr, hF, Av.sopJ])
  | (with_reducible refine awp_ret ?_; simp only [go_sem, simprocAttr, hF])
  | go_step)
 all_goals (first | rfl | exact ⟨(), rfl⟩)

theorem routageO (C : World → Prop) (b : Nat) (R : Rd) (M : RM) (tl : List Ext) (a0 a1 a2 : Int) (hl : R.x.outs.length < 1024) :
 FnX Tryz.prog C 75 [.v (wrP b), .sl 1 [[ip a0], [ip a1], [ip a2]]] (exts (pcs b R M tl)) (iv 0) (fun i : Hdr => exts (pcs b { R with x := { R.x with outs := R.x.outs ++ [⟨a0, a1, a2⟩] } } { M with ho := i } tl)) := by
 refine fn_okXn Tryz.func75 Tryz.ntmps75 Tryz.results75 (by kernel_rfl) rfl (of_decide_eq_true rfl) fun F E hF hC => ?_
 simp only [go_sem, simprocAttr, hF]
 repeat (first
  | ((with_reducible first | refine sopsJ_go ?_ | refine headW_end ?_); simp only [go_sem, simprocAttr, hF, Av.sopJ])
  | (refine awp_floatJ (id := 1) [1000007, 1000008, 1000019] 14 [] (by kernel_rfl) (by kernel_rfl) (by kernel_rfl) rfl rfl (fun bx0 hbx => ?_); (try dsimp only [Av.addWs, Av.addW, List.modify_succ_cons, List.modify_zero_cons, List.push_toArray, List.cons_append, List.nil_append, List.take, List.drop]))
  | ((first | refine ⟨_, handq_rawField rfl rfl (by decide) Tryz.underlying94 rfl (m := 14) rfl rfl, rfl, ?_⟩ | refine ⟨_, handq_rawField rfl rfl (by decide) Tryz.underlying35 rfl (m := 0) rfl rfl, rfl, ?_⟩); simp only [go_sem, simprocAttr, hF, hbx])
  | ((with_reducible refine headW_go ?_); simp only [go_sem, simprocAttr, hF, hbx])
  | ((with_reducible first | refine sops_go ?_ | refine sops_end ?_); simp only [go_sem, simprocAttr, hF])
  | (with_reducible first | refine awp_seq_k fun _ _ => ?_ | refine awp_region (id := 0) [] ?_)
  | go_step)
 refine hand_call2 (i := 0) (j := 6) (addOO C b 13 (rvals R M) M.ho.q M.ho.V rfl M.ho.xs _ (by rw [List.length_map]; omega) ⟨a0, a1, a2⟩) E rfl rfl rfl (by decide) hC rfl rfl (by decide) rfl rfl (fun i => ?_)
 simp only [go_sem, simprocAttr, hF, Av.sopJ]
 repeat (first
  | ((with_reducible first | refine sopsJ_go ?_ | refine sopsJ_end ?_); simp only [go_sem, simprocAttr, hF, Av.sopJ])
  | (with_reducible refine awp_ret ?_; simp only [go_sem, simprocAttr, hF])
  | go_step)
 refine ⟨(⟨i.1, i.2.1, i.2.2⟩ : Hdr), ?_⟩
 simp only [pcs, List.map_append, List.map_cons, List.map_nil]
 rfl
/- The reader: schedule, slots, what can come. -/
attribute [local go_sem] Tryz.sz92 Tryz.underlying92 Tryz.sz131 Tryz.underlying131 Tryz.sz134 Tryz.zr134 Tryz.underlying134 Tryz.underlying95 Tryz.underlying136
theorem rschedule (C : World → Prop) (b : Nat) (R : Rd) (M : RM) (tl : List Ext) (a0 a1 : Int) : FnX Tryz.prog C 69 [.v (wrP b), .sl 1 [[ip a0], [ip a1]]] (exts (pcs b R M tl)) (iv 0) (fun _ : Unit => exts (pcs b { R with x := { R.x with len := a0, offs := a1 }, sched := true } M tl)) := by
 refine fn_okXn Tryz.func69 Tryz.ntmps69 Tryz.results69 (by kernel_rfl) rfl (of_decide_eq_true rfl) fun F E hF hC => ?_
 simp only [go_sem, simprocAttr, hF]
 repeat (first
  | ((first | refine hand_rawField rfl rfl (by decide) Tryz.underlying94 rfl (m := 14) rfl rfl ?_ | refine hand_rawField rfl rfl (by decide) Tryz.underlying94 rfl (m := 0) rfl rfl ?_ | refine hand_rawField rfl rfl (by decide) Tryz.underlying35 rfl (m := 2) rfl rfl ?_ | refine hand_rawField rfl rfl (by decide) Tryz.underlying30 rfl (m := 0) rfl rfl ?_); simp only [go_sem, simprocAttr, hF, Av.sopJ])
  | ((refine hand_eStore (i := 0) rfl rfl rfl rfl rfl rfl (by first | assumption | exact Nat.le_of_ble_eq_true rfl | (simp only [List.length_set, List.length_cons]; omega)) (by first | assumption | rfl) (by first | assumption | rfl) Tryz.sz3 ?_); simp only [go_sem, simprocAttr, hF, Av.sopJ])
  | ((with_reducible first | refine sopsJ_go ?_ | refine sopsJ_end ?_); simp only [go_sem, simprocAttr, hF, Av.sopJ])
  | ((refine awp_regionJ (id := 1) [1000007] ?_); simp only [go_sem, simprocAttr, hF, Av.sopJ])
  | (refine awp_take (id := 2) [1000017, 1000018, 1000019, 1000021, 1000022, 1000023] 8 8 [true, true, true, true, false, true, true, false] (by kernel_rfl) (by kernel_rfl) ?_; rw [hF]; dsimp only [List.take_succ_cons, List.take_zero, List.take_nil, List.drop_succ_cons, List.drop_zero, List.drop_nil, List.zip_cons_cons, List.zip_nil_left, List.zip_nil_right])
  | ((with_reducible refine sopsS_go ?_); (refine handS_move rfl rfl (by decide) rfl ?_); simp only [go_sem, simprocAttr, hF, Av.sopJ])
  | ((with_reducible refine sopsS_go ?_); (refine handS_index rfl rfl (by decide) rfl (by decide) Tryz.underlying24 rfl Tryz.sz3 rfl ?_); simp only [go_sem, simprocAttr, hF, Av.sopJ])
  | ((with_reducible refine sopsS_go ?_); (refine handS_ptLoad (dd := .int .i64) rfl rfl (by decide) rfl Tryz.underlying3 rfl ?_); simp only [go_sem, simprocAttr, hF, Av.sopJ])
  | (with_reducible first | refine sopsS_end ?_ | refine awp_seq_k fun _ _ => ?_ | refine awp_region (id := 0) [] ?_ | refine awp_region (id := 3) [] ?_)
  | ((with_reducible first | refine sops_go ?_ | refine sops_end ?_ | refine awp_ret ?_); simp only [go_sem, simprocAttr, hF])
  | go_step)
 all_goals (first | rfl | exact ⟨(), rfl⟩)

theorem rslots (C : World → Prop) (b : Nat) (R : Rd) (M : RM) (tl : List Ext) (a0 : Int) : FnX Tryz.prog C 76 [.v (wrP b), .sl 1 [[ip a0]]] (exts (pcs b R M tl)) (iv 0) (fun _ : Unit => exts (pcs b { R with x := { R.x with slots := a0 }, done := true } M tl)) := by
 refine fn_okXn Tryz.func76 Tryz.ntmps76 Tryz.results76 (by kernel_rfl) rfl (of_decide_eq_true rfl) fun F E hF hC => ?_
 simp only [go_sem, simprocAttr, hF]
 repeat (first
  | ((first | refine hand_rawField rfl rfl (by decide) Tryz.underlying94 rfl (m := 14) rfl rfl ?_ | refine hand_rawField rfl rfl (by decide) Tryz.underlying94 rfl (m := 0) rfl rfl ?_ | refine hand_rawField rfl rfl (by decide) Tryz.underlying35 rfl (m := 0) rfl rfl ?_); simp only [go_sem, simprocAttr, hF, Av.sopJ])
  | ((refine hand_eStore (i := 0) rfl rfl rfl rfl rfl rfl (by first | assumption | exact Nat.le_of_ble_eq_true rfl | (simp only [List.length_set, List.length_cons]; omega)) (by first | assumption | rfl) (by first | assumption | rfl) Tryz.sz3 ?_); simp only [go_sem, simprocAttr, hF, Av.sopJ])
  | ((with_reducible first | refine sopsJ_go ?_ | refine sopsJ_end ?_); simp only [go_sem, simprocAttr, hF, Av.sopJ])
  | ((first | refine awp_regionJ (id := 1) [1000007] ?_ | refine awp_regionJ (id := 2) [1000013, 1000014] ?_); simp only [go_sem, simprocAttr, hF, Av.sopJ])
  | ((with_reducible first | refine sops_go ?_ | refine sops_end ?_ | refine awp_ret ?_); simp only [go_sem, simprocAttr, hF])
  | (with_reducible first | refine awp_seq_k fun _ _ => ?_ | refine awp_region (id := 0) [] ?_ | refine awp_region (id := 3) [] ?_)
  | go_step)
 all_goals (first | rfl | exact ⟨(), rfl⟩)
/- The reader: routes; the closures of its table. -/
theorem addRF (C : World → Prop) (g k : Nat) (V : Value) (rvs : List (List Value)) (row : List Value) (hrv : ∀ r ∈ rvs, r.length = 7) (hk : rvs[k]? = some row) (q : Option Nat) (Vr : Value) (hv : row[6]? = some Vr) (xr : List Value) (rows : List (List PV)) (l : List Int) (hl : 1024 ≤ rows.length) : FnX Tryz.prog C 116 [.v (.pointer (some ⟨g, k * 7 + 6, none⟩)), .sl 1 (l.map fun n => [ip n])] (exts [rawR 67 7 (some g) V rvs, rowsE 68 1 q Vr xr rows]) (iv 8) (fun _ : Unit => exts [rawR 67 7 (some g) V rvs, rowsE 68 1 q Vr xr rows]) := by
 have hd : decide ((rows.length : Int) ≥ 1024) = true := decide_eq_true (by omega)
 refine fn_okXn Tryz.func116 Tryz.ntmps116 Tryz.results116 (by kernel_rfl) rfl (of_decide_eq_true rfl) fun F E hF hC => ?_
 simp only [go_sem, simprocAttr, hF]
 repeat (first
  | ((with_reducible first | refine sopsJ_go ?_ | refine sopsJ_end ?_); simp only [go_sem, simprocAttr, hF, hd, Av.sopJ])
  | ((first | refine awp_regionJ (id := 1) [1000007, 1000008] ?_ | refine hand_vLoad (i := 0) (k := k) (c := 6) (sz := 7) (dd := .slice 68) rfl rfl (by decide) rfl rfl hrv hk hv rfl Tryz.underlying65 rfl ?_ | refine hand_eLen (i := 1) rfl rfl (by decide) Tryz.underlying65 rfl rfl rfl ?_); simp only [go_sem, simprocAttr, hF, hd, Av.sopJ])
  | ((with_reducible first | refine sops_go ?_ | refine sops_end ?_ | refine awp_if ?_ | refine awp_ret ?_); simp only [go_sem, simprocAttr, hF, hd])
  | (with_reducible first | refine awp_seq_k fun _ _ => ?_ | refine awp_region (id := 0) [] ?_ | refine awp_region (id := 2) [] ?_)
  | go_step)
 all_goals (first | rfl | exact ⟨(), rfl⟩)

theorem addRO (C : World → Prop) (g k : Nat) (V : Value) (rvs : List (List Value)) (row : List Value) (hrv : ∀ r ∈ rvs, r.length = 7) (hk : rvs[k]? = some row) (q : Option Nat) (Vr : Value) (hv : row[6]? = some Vr) (xr : List Value) (rows : List (List PV)) (l : List Int) (hl : rows.length < 1024) : FnX Tryz.prog C 116 [.v (.pointer (some ⟨g, k * 7 + 6, none⟩)), .sl 1 (l.map fun n => [ip n])] (exts [rawR 67 7 (some g) V rvs, rowsE 68 1 q Vr xr rows]) (iv 0) (fun i : Option Nat × Value × List Value => exts [rawR 67 7 (some g) V (rvs.set k (row.set 6 i.2.1)), rowsE 68 1 i.1 i.2.1 i.2.2 (rows ++ [[.sl 1 (l.map fun n => [ip n])]])]) := by
 have hd : decide ((rows.length : Int) ≥ 1024) = false := decide_eq_false (by omega)
 refine fn_okXn Tryz.func116 Tryz.ntmps116 Tryz.results116 (by kernel_rfl) rfl (of_decide_eq_true rfl) fun F E hF hC => ?_
 simp only [go_sem, simprocAttr, hF]
 repeat (first
  | ((with_reducible first | refine sopsJ_go ?_ | refine sopsJ_end ?_); simp only [go_sem, simprocAttr, hF, hd, Av.sopJ])
  | ((first | refine awp_regionJ (id := 1) [1000007, 1000008] ?_ | refine awp_regionJ (id := 3) [13, 1000013, 1000016] ?_ | refine hand_vLoad (i := 0) (k := k) (c := 6) (sz := 7) (dd := .slice 68) rfl rfl (by decide) rfl rfl hrv hk hv rfl Tryz.underlying65 rfl ?_ | refine hand_eLen (i := 1) rfl rfl (by decide) Tryz.underlying65 rfl rfl rfl ?_); simp only [go_sem, simprocAttr, hF, hd, Av.sopJ])
  | ((refine hand_eApp (i := 1) (e := 68) (sz := 1) rfl rfl (by decide) Tryz.underlying65 (by kernel_rfl) rfl rfl rfl rfl (by simp only [List.length_cons, List.length_nil]; omega) (fun q2 V2 xs2 hc2 ho2 => ?_)); simp only [go_sem, simprocAttr, hF, hd, Av.sopJ])
  | ((refine hand_vStore (i := 0) (k := k) (c := 6) (sz := 7) rfl rfl rfl rfl hrv hk (by decide) rfl rfl (by assumption) (by assumption) Tryz.sz65 ?_); simp only [go_sem, simprocAttr, hF, hd, Av.sopJ])
  | ((with_reducible first | refine sops_go ?_ | refine sops_end ?_ | refine awp_if ?_ | refine awp_skip ?_ | refine awp_ret ?_); simp only [go_sem, simprocAttr, hF, hd])
  | (with_reducible first | refine awp_seq_k fun _ _ => ?_ | refine awp_region (id := 0) [] ?_ | refine awp_region (id := 4) [] ?_)
  | go_step)
 exact ⟨(q2, V2, xs2), rfl⟩

theorem vals7 (l : List Rz) : ∀ r ∈ l.reverse.map Rz.vals, r.length = 7 := fun r hr => by
 obtain ⟨x, _, rfl⟩ := List.mem_map.1 hr
 rfl
theorem vals_last (z : Rz) (l : List Rz) : ((z :: l).reverse.map Rz.vals)[l.length]? = some z.vals := by
 rw [List.reverse_cons, List.map_append, List.getElem?_append_right (by simp)]
 simp
theorem vals_setLast (z z' : Rz) (l : List Rz) : ((z :: l).reverse.map Rz.vals).set l.length z'.vals = (z' :: l).reverse.map Rz.vals := by
 rw [List.reverse_cons, List.map_append, List.reverse_cons, List.map_append, List.set_append_right _ _ (by simp)]
 simp

theorem rrouteL (C : World → Prop) (b : Nat) (X : RX) (l : List Int) (hl : 1024 < l.length) : FnX Tryz.prog C 79 [.v (wrP b), .sl 1 (l.map fun n => [ip n])] (exts (pcsX b X)) (iv 8) (fun _ : Unit => exts (pcsX b X)) := by
 have hd : decide ((l.length : Int) > 1024) = true := decide_eq_true (by omega)
 refine fn_okXn Tryz.func79 Tryz.ntmps79 Tryz.results79 (by kernel_rfl) rfl (of_decide_eq_true rfl) fun F E hF hC => ?_
 simp only [go_sem, simprocAttr, hF]
 repeat (first
  | ((with_reducible first | refine sops_go ?_ | refine sops_end ?_ | refine awp_if ?_ | refine awp_ret ?_); simp only [go_sem, simprocAttr, hF, hd])
  | (with_reducible first | refine awp_seq_k fun _ _ => ?_ | refine awp_region [1000010, 1000011, 1000013] ?_)
  | go_step)
 all_goals (first | rfl | exact ⟨(), rfl⟩)

theorem rrouteBF (C : World → Prop) (b : Nat) (X : RX) {g : Nat} {z : Rz} {l0 : List Rz} (hq : X.hb.q = some g) (hz : X.bs = z :: l0) (hrt : X.M.rt = .pointer (some ⟨g, l0.length * 7 + 6, none⟩)) (hzs : X.zs = []) (l : List Int) (hl : l.length ≤ 1024) (hr : 1024 ≤ z.rs.length) : FnX Tryz.prog C 79 [.v (wrP b), .sl 1 (l.map fun n => [ip n])] (exts (pcsX b X)) (iv 8) (fun _ : Unit => exts (pcsX b X)) := by
 obtain ⟨R, ⟨vp, hl_, hm, vb, va, hc_, hh, hw_, ho_, rt⟩, hpd, hbd, had, pw, bs, zs⟩ := X
 obtain ⟨q, V⟩ := hbd
 dsimp only at hq hz hrt
 cases hq
 subst hz
 subst hrt
 dsimp only at hzs
 subst hzs
 have hd : decide ((l.length : Int) > 1024) = false := decide_eq_false (by omega)
 refine fn_okXn Tryz.func79 Tryz.ntmps79 Tryz.results79 (by kernel_rfl) rfl (of_decide_eq_true rfl) fun F E hF hC => ?_
 simp only [go_sem, simprocAttr, hF]
 repeat (first
  | ((first | refine hand_rawField rfl rfl (by decide) Tryz.underlying94 rfl (m := 0) rfl rfl ?_ | refine hand_eLoad (i := 0) (dd := .pointer 65) rfl rfl (by decide) rfl rfl rfl (by first | assumption | rfl) Tryz.underlying92 rfl ?_); simp only [go_sem, simprocAttr, hF, hd])
  | ((with_reducible first | refine sops_go ?_ | refine sops_end ?_ | refine awp_if ?_ | refine awp_skip ?_); simp only [go_sem, simprocAttr, hF, hd])
  | (with_reducible first | refine awp_seq_k fun _ _ => ?_ | refine awp_region [1000010, 1000011, 1000013] ?_)
  | go_step)
 refine hand_call2 (i := 8) (j := 10) (addRF C g l0.length V _ z.vals (vals7 _) (vals_last z l0) z.q z.V rfl z.xs (rsR z.rs) l (by unfold rsR; rw [List.length_map]; exact hr)) E rfl rfl rfl (by decide) hC rfl rfl (by decide) rfl rfl (fun i => ?_)
 simp only [go_sem, simprocAttr, hF, hd]
 repeat (first
  | ((with_reducible first | refine sops_go ?_ | refine sops_end ?_ | refine awp_ret ?_); simp only [go_sem, simprocAttr, hF, hd])
  | go_step)
 all_goals (first | rfl | exact ⟨(), rfl⟩)

theorem rrouteBO (C : World → Prop) (b : Nat) (X : RX) {g : Nat} {z : Rz} {l0 : List Rz} (hq : X.hb.q = some g) (hz : X.bs = z :: l0) (hrt : X.M.rt = .pointer (some ⟨g, l0.length * 7 + 6, none⟩)) (hzs : X.zs = []) (l : List Int) (hl : l.length ≤ 1024) (hr : z.rs.length < 1024) : FnX Tryz.prog C 79 [.v (wrP b), .sl 1 (l.map fun n => [ip n])] (exts (pcsX b X)) (iv 0) (fun i : Option Nat × Value × List Value => exts (pcsX b { X with bs := { z with rs := z.rs ++ [l], q := i.1, V := i.2.1, xs := i.2.2 } :: l0 })) := by
 obtain ⟨R, ⟨vp, hl_, hm, vb, va, hc_, hh, hw_, ho_, rt⟩, hpd, hbd, had, pw, bs, zs⟩ := X
 obtain ⟨q, V⟩ := hbd
 dsimp only at hq hz hrt
 cases hq
 subst hz
 subst hrt
 dsimp only at hzs
 subst hzs
 have hd : decide ((l.length : Int) > 1024) = false := decide_eq_false (by omega)
 refine fn_okXn Tryz.func79 Tryz.ntmps79 Tryz.results79 (by kernel_rfl) rfl (of_decide_eq_true rfl) fun F E hF hC => ?_
 simp only [go_sem, simprocAttr, hF]
 repeat (first
  | ((first | refine hand_rawField rfl rfl (by decide) Tryz.underlying94 rfl (m := 0) rfl rfl ?_ | refine hand_eLoad (i := 0) (dd := .pointer 65) rfl rfl (by decide) rfl rfl rfl (by first | assumption | rfl) Tryz.underlying92 rfl ?_); simp only [go_sem, simprocAttr, hF, hd])
  | ((with_reducible first | refine sops_go ?_ | refine sops_end ?_ | refine awp_if ?_ | refine awp_skip ?_); simp only [go_sem, simprocAttr, hF, hd])
  | (with_reducible first | refine awp_seq_k fun _ _ => ?_ | refine awp_region [1000010, 1000011, 1000013] ?_)
  | go_step)
 refine hand_call2 (i := 8) (j := 10) (addRO C g l0.length V _ z.vals (vals7 _) (vals_last z l0) z.q z.V rfl z.xs (rsR z.rs) l (by unfold rsR; rw [List.length_map]; exact hr)) E rfl rfl rfl (by decide) hC rfl rfl (by decide) rfl rfl (fun i => ?_)
 simp only [go_sem, simprocAttr, hF, hd]
 repeat (first
  | ((with_reducible first | refine sops_go ?_ | refine sops_end ?_ | refine awp_ret ?_); simp only [go_sem, simprocAttr, hF, hd])
  | go_step)
 have h1 : ((z :: l0).reverse.map Rz.vals).set l0.length (z.vals.set 6 i.2.1) = (({ z with rs := z.rs ++ [l], q := i.1, V := i.2.1, xs := i.2.2 } : Rz) :: l0).reverse.map Rz.vals := vals_setLast z { z with rs := z.rs ++ [l], q := i.1, V := i.2.1, xs := i.2.2 } l0
 have h2 : rsR (z.rs ++ [l]) = z.rs.map (fun r => [PV.sl 1 (r.map fun n => [ip n])]) ++ [[PV.sl 1 (l.map fun n => [ip n])]] := by unfold rsR; rw [List.map_append]; rfl
 refine ⟨i, ?_⟩
 rw [h1, ← h2]
 rfl

theorem rrouteAF (C : World → Prop) (b : Nat) (X : RX) {g : Nat} {z : Rz} {l0 : List Rz} (hq : X.ha.q = some g) (hz : X.zs = z :: l0) (hrt : X.M.rt = .pointer (some ⟨g, l0.length * 7 + 6, none⟩)) (l : List Int) (hl : l.length ≤ 1024) (hr : 1024 ≤ z.rs.length) : FnX Tryz.prog C 79 [.v (wrP b), .sl 1 (l.map fun n => [ip n])] (exts (pcsX b X)) (iv 8) (fun _ : Unit => exts (pcsX b X)) := by
 obtain ⟨R, ⟨vp, hl_, hm, vb, va, hc_, hh, hw_, ho_, rt⟩, hpd, hbd, had, pw, bs, zs⟩ := X
 obtain ⟨q, V⟩ := had
 dsimp only at hq hz hrt
 cases hq
 subst hz
 subst hrt
 have hd : decide ((l.length : Int) > 1024) = false := decide_eq_false (by omega)
 refine fn_okXn Tryz.func79 Tryz.ntmps79 Tryz.results79 (by kernel_rfl) rfl (of_decide_eq_true rfl) fun F E hF hC => ?_
 simp only [go_sem, simprocAttr, hF]
 repeat (first
  | ((first | refine hand_rawField rfl rfl (by decide) Tryz.underlying94 rfl (m := 0) rfl rfl ?_ | refine hand_eLoad (i := 0) (dd := .pointer 65) rfl rfl (by decide) rfl rfl rfl (by first | assumption | rfl) Tryz.underlying92 rfl ?_); simp only [go_sem, simprocAttr, hF, hd])
  | ((with_reducible first | refine sops_go ?_ | refine sops_end ?_ | refine awp_if ?_ | refine awp_skip ?_); simp only [go_sem, simprocAttr, hF, hd])
  | (with_reducible first | refine awp_seq_k fun _ _ => ?_ | refine awp_region [1000010, 1000011, 1000013] ?_)
  | go_step)
 refine hand_call2 (i := 9) (j := 10) (addRF C g l0.length V _ z.vals (vals7 _) (vals_last z l0) z.q z.V rfl z.xs (rsR z.rs) l (by unfold rsR; rw [List.length_map]; exact hr)) E rfl rfl rfl (by decide) hC rfl rfl (by decide) rfl rfl (fun i => ?_)
 simp only [go_sem, simprocAttr, hF, hd]
 repeat (first
  | ((with_reducible first | refine sops_go ?_ | refine sops_end ?_ | refine awp_ret ?_); simp only [go_sem, simprocAttr, hF, hd])
  | go_step)
 all_goals (first | rfl | exact ⟨(), rfl⟩)

theorem rrouteAO (C : World → Prop) (b : Nat) (X : RX) {g : Nat} {z : Rz} {l0 : List Rz} (hq : X.ha.q = some g) (hz : X.zs = z :: l0) (hrt : X.M.rt = .pointer (some ⟨g, l0.length * 7 + 6, none⟩)) (l : List Int) (hl : l.length ≤ 1024) (hr : z.rs.length < 1024) : FnX Tryz.prog C 79 [.v (wrP b), .sl 1 (l.map fun n => [ip n])] (exts (pcsX b X)) (iv 0) (fun i : Option Nat × Value × List Value => exts (pcsX b { X with zs := { z with rs := z.rs ++ [l], q := i.1, V := i.2.1, xs := i.2.2 } :: l0 })) := by
 obtain ⟨R, ⟨vp, hl_, hm, vb, va, hc_, hh, hw_, ho_, rt⟩, hpd, hbd, had, pw, bs, zs⟩ := X
 obtain ⟨q, V⟩ := had
 dsimp only at hq hz hrt
 cases hq
 subst hz
 subst hrt
 have hd : decide ((l.length : Int) > 1024) = false := decide_eq_false (by omega)
 refine fn_okXn Tryz.func79 Tryz.ntmps79 Tryz.results79 (by kernel_rfl) rfl (of_decide_eq_true rfl) fun F E hF hC => ?_
 simp only [go_sem, simprocAttr, hF]
 repeat (first
  | ((first | refine hand_rawField rfl rfl (by decide) Tryz.underlying94 rfl (m := 0) rfl rfl ?_ | refine hand_eLoad (i := 0) (dd := .pointer 65) rfl rfl (by decide) rfl rfl rfl (by first | assumption | rfl) Tryz.underlying92 rfl ?_); simp only [go_sem, simprocAttr, hF, hd])
  | ((with_reducible first | refine sops_go ?_ | refine sops_end ?_ | refine awp_if ?_ | refine awp_skip ?_); simp only [go_sem, simprocAttr, hF, hd])
  | (with_reducible first | refine awp_seq_k fun _ _ => ?_ | refine awp_region [1000010, 1000011, 1000013] ?_)
  | go_step)
 refine hand_call2 (i := 9) (j := 10) (addRO C g l0.length V _ z.vals (vals7 _) (vals_last z l0) z.q z.V rfl z.xs (rsR z.rs) l (by unfold rsR; rw [List.length_map]; exact hr)) E rfl rfl rfl (by decide) hC rfl rfl (by decide) rfl rfl (fun i => ?_)
 simp only [go_sem, simprocAttr, hF, hd]
 repeat (first
  | ((with_reducible first | refine sops_go ?_ | refine sops_end ?_ | refine awp_ret ?_); simp only [go_sem, simprocAttr, hF, hd])
  | go_step)
 have h1 : ((z :: l0).reverse.map Rz.vals).set l0.length (z.vals.set 6 i.2.1) = (({ z with rs := z.rs ++ [l], q := i.1, V := i.2.1, xs := i.2.2 } : Rz) :: l0).reverse.map Rz.vals := vals_setLast z { z with rs := z.rs ++ [l], q := i.1, V := i.2.1, xs := i.2.2 } l0
 have h2 : rsR (z.rs ++ [l]) = z.rs.map (fun r => [PV.sl 1 (r.map fun n => [ip n])]) ++ [[PV.sl 1 (l.map fun n => [ip n])]] := by unfold rsR; rw [List.map_append]; rfl
 refine ⟨i, ?_⟩
 rw [h1, ← h2]
 rfl
/- The reader: the network. -/
theorem flat_one {α : Type} (v : α) : ∀ m : Nat, (List.replicate m [v]).flatten = List.replicate m v
 | 0 => rfl
 | m + 1 => by rw [List.replicate_succ, List.flatten_cons, flat_one v m]; rfl
theorem hand_makeP {n d : Nat} {σ : St} {o : Oper} {K : St → Prop} {E : Ext} {x : Operand} {m : Nat} {l : List Ext} (l' : Pz → List Ext) (ho : o.op = .makeSlice 24 x x) (hd : o.dst = some d) (hdn : d < n) (hE : σ.ext = E.and (exts l)) (hx : evo (Av.look σ.slot) x = some (.v (.int .i64 (m : Int)))) (hm : m ≤ 1000000)
 (hp : ∀ z : Pz, (z.ext :: l).Perm (l' z)) (h : ∀ g cap, K (({ σ with ext := E.and (exts (l' ⟨List.replicate m 0, g, .slice (some ⟨g, 0, none⟩) m cap⟩)) } : St).put d (.v (.slice (some ⟨g, 0, none⟩) m cap)))) : Hand Tryz.prog n σ o K := by
 have hs := Tryz.sz3
 have hz := Tryz.zr3
 have hby := Tryz.by3
 cases hi : Tryz.prog.info? 3 with
 | none => rw [hi] at hs; cases hs
 | some ti =>
  rw [hi] at hs hz hby
  simp only [Option.map_some, Option.some.injEq, decide_eq_true_eq] at hs hz hby
  refine hand_post (K' := fun σ' => ∃ g cap, σ' = (({ σ with ext := E.and (exts (rowsE 3 1 (some g) (.slice (some ⟨g, 0, none⟩) m cap) (List.replicate m (.int .i64 0)) (List.replicate m [.v (.int .i64 0)]) :: l)) } : St).put d (.v (.slice (some ⟨g, 0, none⟩) m cap))))
   (hand_makeInts (z := .int .i64 0) ho hd hdn Tryz.underlying24 hi hz hs rfl hby rfl hE hx hm (fun g cap => ⟨g, cap, rfl⟩)) ?_
  rintro σ' ⟨g, cap, rfl⟩
  let z : Pz := ⟨List.replicate m 0, g, .slice (some ⟨g, 0, none⟩) m cap⟩
  have hze : z.ext = rowsE 3 1 (some g) (.slice (some ⟨g, 0, none⟩) m cap) (List.replicate m (.int .i64 0)) (List.replicate m [.v (.int .i64 0)]) := by
   show rawR _ _ _ _ ((List.replicate m (0 : Int)).map fun n => [Value.int .i64 n]) = _
   unfold rawR
   rw [List.map_replicate, List.map_replicate]
   rw [flat_one]
   rfl
  refine ⟨E.and (exts (l' z)), ?_, h g cap⟩
  have := hp z
  rw [hze] at this
  exact (EqE.refl E).congr (EqE.perm this)
theorem newP2 (b : Nat) (R : Rd) (M : RM) (D A B B2 : List Ext) (N : Ext) : (N :: pcs b R M (D ++ (A ++ (B ++ B2)))).Perm (pcs b R M (D ++ (A ++ (B ++ (B2 ++ [N]))))) := by
 have : ∀ D, pcs b R M D = (pcs b R M []) ++ D := fun D => rfl
 rw [this, this (D ++ (A ++ (B ++ (B2 ++ [N]))))]
 simp only [← List.append_assoc]
 exact (List.perm_append_singleton N _).symm

theorem rnetA (C : World → Prop) (b : Nat) (X : RX) (a0 a1 a2 : Int) (h : a0 < 0) : FnX Tryz.prog C 63 [.v (wrP b), .sl 1 [[ip a0], [ip a1], [ip a2]]] (exts (pcsX b X)) (iv 2) (fun _ : Unit => exts (pcsX b X)) := by
 have h1 : decide (a0 < 0) = true := decide_eq_true h
 refine fn_okXn Tryz.func63 Tryz.ntmps63 Tryz.results63 (by kernel_rfl) rfl (of_decide_eq_true rfl) fun F E hF hC => ?_
 simp only [go_sem, simprocAttr, hF]
 repeat (first
  | ((with_reducible first | refine sops_go ?_ | refine sops_end ?_ | refine awp_if ?_ | refine awp_ret ?_); simp only [go_sem, simprocAttr, hF, h1])
  | (with_reducible first | refine awp_seq_k fun _ _ => ?_ | refine awp_region (id := 0) [] ?_ | refine awp_region (id := 1) [] ?_ | refine awp_region (id := 2) [] ?_)
  | go_step)
 all_goals (first | rfl | exact ⟨(), rfl⟩)

theorem rnetB (C : World → Prop) (b : Nat) (X : RX) (a0 a1 a2 : Int) (h0 : 0 ≤ a0) (h : 32 < a0) : FnX Tryz.prog C 63 [.v (wrP b), .sl 1 [[ip a0], [ip a1], [ip a2]]] (exts (pcsX b X)) (iv 2) (fun _ : Unit => exts (pcsX b X)) := by
 have h1 : decide (a0 < 0) = false := decide_eq_false (by omega)
 have h2 : decide (a0 > 32) = true := decide_eq_true h
 refine fn_okXn Tryz.func63 Tryz.ntmps63 Tryz.results63 (by kernel_rfl) rfl (of_decide_eq_true rfl) fun F E hF hC => ?_
 simp only [go_sem, simprocAttr, hF]
 repeat (first
  | ((with_reducible first | refine sops_go ?_ | refine sops_end ?_ | refine awp_if ?_ | refine awp_ret ?_); simp only [go_sem, simprocAttr, hF, h1, h2])
  | (with_reducible first | refine awp_seq_k fun _ _ => ?_ | refine awp_region (id := 0) [] ?_ | refine awp_region (id := 1) [] ?_ | refine awp_region (id := 2) [] ?_)
  | go_step)
 all_goals (first | rfl | exact ⟨(), rfl⟩)

theorem rnetO (C : World → Prop) (b : Nat) (X : RX) (n : Nat) (a1 a2 : Int) (hn : n ≤ 32) (hpw : X.pw = []) : FnX Tryz.prog C 63 [.v (wrP b), .sl 1 [[ip (n : Int)], [ip a1], [ip a2]]] (exts (pcsX b X)) (iv 0) (fun Y : {Y : Hd × List Pz // Y.2.length = n ∧ (∀ z ∈ Y.2, z.row = List.replicate n 0) ∧ (Y.2 ≠ [] → ∃ g, Y.1.q = some g)} => exts (pcsX b { X with R := { X.R with x := { X.R.x with net := { X.R.x.net with nodes := (n : Int), noise := a1, thr := a2 } }, begun := true }, hp := Y.1.1, pw := Y.1.2 })) := by
 obtain ⟨R, M, hpd, hbd, had, pw, bs, zs⟩ := X
 dsimp only at hpw
 subst hpw
 have h1 : decide ((n : Int) < 0) = false := decide_eq_false (by omega)
 have h2 : decide ((n : Int) > 32) = false := decide_eq_false (by omega)
 refine fn_okXn Tryz.func63 Tryz.ntmps63 Tryz.results63 (by kernel_rfl) rfl (of_decide_eq_true rfl) fun F E hF hC => ?_
 simp only [go_sem, simprocAttr, hF]
 repeat (first
  | ((first | refine hand_rawField rfl rfl (by decide) Tryz.underlying94 rfl (m := 14) rfl rfl ?_ | refine hand_rawField rfl rfl (by decide) Tryz.underlying94 rfl (m := 0) rfl rfl ?_ | refine hand_rawField rfl rfl (by decide) Tryz.underlying35 rfl (m := 5) rfl rfl ?_ | refine hand_rawField rfl rfl (by decide) Tryz.underlying26 rfl (m := 0) rfl rfl ?_); simp only [go_sem, simprocAttr, hF, h1, h2, Av.sopJ])
  | ((refine hand_eStore (i := 0) rfl rfl rfl rfl rfl rfl (by first | assumption | exact Nat.le_of_ble_eq_true rfl | (simp only [List.length_set, List.length_cons]; omega)) (by first | assumption | rfl) (by first | assumption | rfl) Tryz.sz3 ?_); simp only [go_sem, simprocAttr, hF, h1, h2, Av.sopJ])
  | ((with_reducible first | refine sopsJ_go ?_ | refine sopsJ_end ?_); simp only [go_sem, simprocAttr, hF, h1, h2, Av.sopJ])
  | ((refine awp_regionJ (id := 3) [1000017] ?_); simp only [go_sem, simprocAttr, hF, h1, h2, Av.sopJ])
  | (refine awp_take (id := 4) [1000031, 1000032, 1000033, 1000035, 1000036, 1000037, 1000039, 1000040, 1000041] 12 12 [true, true, true, true, true, false, true, true, false, true, true, false] (by kernel_rfl) (by kernel_rfl) ?_; rw [hF]; dsimp only [List.take_succ_cons, List.take_zero, List.take_nil, List.drop_succ_cons, List.drop_zero, List.drop_nil, List.zip_cons_cons, List.zip_nil_left, List.zip_nil_right])
  | ((with_reducible refine sopsS_go ?_); (refine handS_move rfl rfl (by decide) rfl ?_); simp only [go_sem, simprocAttr, hF, h1, h2, Av.sopJ])
  | ((with_reducible refine sopsS_go ?_); (refine handS_index rfl rfl (by decide) rfl (by decide) Tryz.underlying24 rfl Tryz.sz3 rfl ?_); simp only [go_sem, simprocAttr, hF, h1, h2, Av.sopJ])
  | ((with_reducible refine sopsS_go ?_); (refine handS_ptLoad (dd := .int .i64) rfl rfl (by decide) rfl Tryz.underlying3 rfl ?_); simp only [go_sem, simprocAttr, hF, h1, h2, Av.sopJ])
  | (with_reducible first | refine sopsS_end ?_ | refine awp_seq_k fun _ _ => ?_ | refine awp_region (id := 0) [] ?_ | refine awp_region (id := 1) [] ?_ | refine awp_region (id := 5) [] ?_ | refine awp_block ?_)
  | ((with_reducible first | refine sops_go ?_ | refine sops_end ?_ | refine awp_if ?_ | refine awp_skip ?_); simp only [go_sem, simprocAttr, hF, h1, h2])
  | go_step)
 refine awp_loop_by (ι := {Y : Hd × List Pz // Y.2.length ≤ n ∧ (∀ z ∈ Y.2, z.row = List.replicate n 0) ∧ (Y.2 ≠ [] → ∃ g, Y.1.q = some g)}) (fun Y σ => ⟨(45, iv (Y.1.2.length : Int)) :: keepS [0, 1, 4, 44] σ.slot, σ.box, [], E.and (exts (pcsX b ⟨{ R with x := { R.x with net := { R.x.net with nodes := (n : Int), noise := a1, thr := a2 } }, begun := true }, M, Y.1.1, hbd, had, Y.1.2, bs, zs⟩))⟩) (fun Y => n - Y.1.2.length) ⟨(hpd, []), by simp, by simp, by simp⟩ (sub_mk ?_) (fun R9 hR9 Y => ?_)
 · simp only [go_sem, simprocAttr, hF]
   repeat' (first | rfl | refine ⟨?_, ?_⟩)
 obtain ⟨⟨hY, pY⟩, hY1, hY2, hY3⟩ := Y
 dsimp only at hY1 hY2 hY3 ⊢
 simp only [go_sem, simprocAttr, hF]
 by_cases hlt : pY.length < n
 case neg =>
  have h3 : decide ((pY.length : Int) < (n : Int)) = false := decide_eq_false (by omega)
  repeat (first
   | ((with_reducible first | refine sops_go ?_ | refine sops_end ?_ | refine awp_if ?_ | refine awp_ret ?_ | refine awp_exit ?_); simp only [go_sem, simprocAttr, hF, h1, h2, h3])
   | (with_reducible first | refine awp_seq_k fun _ _ => ?_ | refine awp_region (id := 6) [] ?_ | refine awp_region (id := 9) [] ?_)
   | go_step)
  exact ⟨⟨(hY, pY), by dsimp only; omega, hY2, hY3⟩, rfl⟩
 have h3 : decide ((pY.length : Int) < (n : Int)) = true := decide_eq_true (by omega)
 have hw : IntKind.i64.wrap ((pY.length : Int) + 1) = ((pY.length + 1 : Nat) : Int) := by rw [IntKind.wrap_i64]; omega
 repeat (first
  | ((first | refine hand_rawField rfl rfl (by decide) Tryz.underlying94 rfl (m := 14) rfl rfl ?_ | refine hand_rawField rfl rfl (by decide) Tryz.underlying35 rfl (m := 5) rfl rfl ?_ | refine hand_rawField rfl rfl (by decide) Tryz.underlying26 rfl (m := 0) rfl rfl ?_); simp only [go_sem, simprocAttr, hF, h1, h2, h3, hw, Av.sopJ])
  | ((refine hand_eStore (i := 0) rfl rfl rfl rfl rfl rfl (by first | assumption | exact Nat.le_of_ble_eq_true rfl | (simp only [List.length_set, List.length_cons]; omega)) (by first | assumption | rfl) (by first | assumption | rfl) Tryz.sz3 ?_); simp only [go_sem, simprocAttr, hF, h1, h2, h3, hw, Av.sopJ])
  | ((with_reducible first | refine sopsJ_go ?_ | refine sopsJ_end ?_); simp only [go_sem, simprocAttr, hF, h1, h2, h3, hw, Av.sopJ])
  | (refine awp_take (id := 7) [53, 1000050, 1000051, 1000052, 1000053, 1000057, 1000059, 1000061, 1000062, 1000063] 9 12 [true, true, true, true, true, true, false, true, true] (by kernel_rfl) (by kernel_rfl) ?_; rw [hF]; dsimp only [List.take_succ_cons, List.take_zero, List.take_nil, List.drop_succ_cons, List.drop_zero, List.drop_nil, List.zip_cons_cons, List.zip_nil_left, List.zip_nil_right])
  | ((with_reducible refine sopsS_go ?_); (refine handS_move rfl rfl (by decide) rfl ?_); simp only [go_sem, simprocAttr, hF, h1, h2, h3, hw, Av.sopJ])
  | ((with_reducible refine sopsS_go ?_); (refine handS_nil rfl rfl (by decide) rfl ?_); simp only [go_sem, simprocAttr, hF, h1, h2, h3, hw, Av.sopJ])
  | ((with_reducible refine sopsS_go ?_); (refine handS_field rfl rfl (by decide) Tryz.underlying94 rfl (m := 14) rfl rfl ?_); simp only [go_sem, simprocAttr, hF, h1, h2, h3, hw, Av.sopJ])
  | ((with_reducible refine sopsS_go ?_); (refine handS_field rfl rfl (by decide) Tryz.underlying35 rfl (m := 5) rfl rfl ?_); simp only [go_sem, simprocAttr, hF, h1, h2, h3, hw, Av.sopJ])
  | ((with_reducible refine sopsS_go ?_); (refine handS_field rfl rfl (by decide) Tryz.underlying26 rfl (m := 0) rfl rfl ?_); simp only [go_sem, simprocAttr, hF, h1, h2, h3, hw, Av.sopJ])
  | ((with_reducible refine sopsS_go ?_); (refine handS_index rfl rfl (by decide) rfl (by decide) Tryz.underlying24 rfl Tryz.sz3 rfl ?_); simp only [go_sem, simprocAttr, hF, h1, h2, h3, hw, Av.sopJ])
  | ((with_reducible refine sopsS_go ?_); (refine handS_eLoad (i := 0) (dd := .slice 24) rfl rfl (by decide) rfl rfl rfl (by first | assumption | rfl) Tryz.underlying22 rfl ?_); simp only [go_sem, simprocAttr, hF, h1, h2, h3, hw, Av.sopJ])
  | (with_reducible first | refine sopsS_end ?_ | refine awp_seq_k fun _ _ => ?_ | refine awp_region (id := 6) [] ?_ | refine awp_region (id := 8) [] ?_ | refine awp_block ?_)
  | ((refine hand_makeP (fun z => pcs b (RX.R ⟨{ R with x := { R.x with net := { R.x.net with nodes := (n : Int), noise := a1, thr := a2 } }, begun := true }, M, hY, hbd, had, pY, bs, zs⟩) (RX.m ⟨{ R with x := { R.x with net := { R.x.net with nodes := (n : Int), noise := a1, thr := a2 } }, begun := true }, M, hY, hbd, had, pY, bs, zs⟩) (fixX ⟨{ R with x := { R.x with net := { R.x.net with nodes := (n : Int), noise := a1, thr := a2 } }, begun := true }, M, hY, hbd, had, pY, bs, zs⟩ ++ (zs.map Rz.ext ++ (bs.map Rz.ext ++ (pY.map Pz.ext ++ [z.ext]))))) (l := pcsX b ⟨{ R with x := { R.x with net := { R.x.net with nodes := (n : Int), noise := a1, thr := a2 } }, begun := true }, M, hY, hbd, had, pY, bs, zs⟩) rfl rfl (by decide) rfl rfl (by omega) (fun z => newP2 _ _ _ _ _ _ _ _) (fun g9 c9 => ?_)); simp only [go_sem, simprocAttr, hF, h1, h2, h3, hw, Av.sopJ])
  | ((refine hand_vApp (i := 7) (e := 24) (sz := 1) (vs := [.slice (some ⟨g9, 0, none⟩) n c9]) rfl rfl (by decide) Tryz.underlying22 (by kernel_rfl) rfl rfl rfl rfl rfl (by rw [List.length_map]; show pY.length + 1 ≤ 100000000; omega) (fun g2 V2 hc2 ho2 => ?_)); simp only [go_sem, simprocAttr, hF, h1, h2, h3, hw, Av.sopJ])
  | ((with_reducible first | refine sops_go ?_ | refine sops_end ?_ | refine awp_if ?_ | refine awp_skip ?_); simp only [go_sem, simprocAttr, hF, h1, h2, h3, hw])
  | go_step)
 refine ⟨⟨(⟨some g2, V2⟩, pY ++ [⟨List.replicate n 0, g9, .slice (some ⟨g9, 0, none⟩) n c9⟩]), by simp only [List.length_append, List.length_cons, List.length_nil]; omega, fun z hz => (List.mem_append.1 hz).elim (hY2 z) (fun h => by rw [List.mem_singleton.1 h]), fun _ => ⟨g2, rfl⟩⟩, by simp only [List.length_append, List.length_cons, List.length_nil]; omega, hR9 _ _ (sub_mk ?_)⟩
 have hm1 : (pY ++ [(⟨List.replicate n 0, g9, .slice (some ⟨g9, 0, none⟩) n c9⟩ : Pz)]).map (fun x => [x.V]) = pY.map (fun x => [x.V]) ++ [[.slice (some ⟨g9, 0, none⟩) n c9]] := by rw [List.map_append]; rfl
 have hm2 : (pY ++ [(⟨List.replicate n 0, g9, .slice (some ⟨g9, 0, none⟩) n c9⟩ : Pz)]).map Pz.ext = pY.map Pz.ext ++ [Pz.ext ⟨List.replicate n 0, g9, .slice (some ⟨g9, 0, none⟩) n c9⟩] := by rw [List.map_append]; rfl
 simp only [go_sem, simprocAttr, hF, h1, h2]
 conv => lhs; unfold pcsX fixX dynX
 dsimp only
 rw [hm1, hm2]
 rfl
/- The reader: what can come. -/
def comesB (R : Rd) (k : Int) : Bool :=
 if (k == 0) = true then !R.begun else if (!R.begun || decide (k < R.rank) || (decide (k > 5) && !R.sched)) = true then false else if (k == 5) = true then !R.sched else if (k == 10) = true then !R.done else true
theorem dm : (decide ((7 : Nat) = 8)) = false := rfl
theorem sp {P : Prop} (b : Bool) (h : b = false → P) (g : b = true → P) : P := by
 cases b
 · exact h rfl
 · exact g rfl

set_option maxHeartbeats 20000000 in
theorem rcomes (C : World → Prop) (b : Nat) (R : Rd) (M : RM) (tl : List Ext) (k : Int) : FnX Tryz.prog C 80 [.v (wrP b), iv k] (exts (pcs b R M tl)) (bv (comesB R k)) (fun _ : Unit => exts (pcs b R M tl)) := by
 refine sp ((k == 0)) (fun h0 => ?a1) (fun h0 => ?b1)
 case' a1 =>
  refine sp (R.begun) (fun hb => ?a2) (fun hb => ?b2)
  case' a2 =>
   have hr := dm
   have h6 := dm
   have hs := dm
   have h5 := dm
   have hd := dm
   have hA := dm
  case' b2 =>
   refine sp (decide (k < R.rank)) (fun hr => ?a3) (fun hr => ?b3)
   case' a3 =>
    refine sp (decide (k > 5)) (fun h6 => ?a4) (fun h6 => ?b4)
    case' a4 =>
     refine sp ((k == 5)) (fun h5 => ?a5) (fun h5 => ?b5)
     case' a5 =>
      refine sp ((k == 10)) (fun hA => ?a6) (fun hA => ?b6)
      case' a6 =>
       have hs := dm
       have hd := dm
      case' b6 =>
       refine sp (R.done) (fun hd => ?a7) (fun hd => ?b7)
       case' a7 =>
        have hs := dm
       case' b7 =>
        have hs := dm
     case' b5 =>
      refine sp (R.sched) (fun hs => ?a8) (fun hs => ?b8)
      case' a8 =>
       have hd := dm
       have hA := dm
      case' b8 =>
       have hd := dm
       have hA := dm
    case' b4 =>
     refine sp (R.sched) (fun hs => ?a9) (fun hs => ?b9)
     case' a9 =>
      have h5 := dm
      have hd := dm
      have hA := dm
     case' b9 =>
      refine sp ((k == 5)) (fun h5 => ?a10) (fun h5 => ?b10)
      case' a10 =>
       refine sp ((k == 10)) (fun hA => ?a11) (fun hA => ?b11)
       case' a11 =>
        have hd := dm
       case' b11 =>
        refine sp (R.done) (fun hd => ?a12) (fun hd => ?b12)
        case' a12 =>
         skip
        case' b12 =>
         skip
      case' b10 =>
       have hd := dm
       have hA := dm
   case' b3 =>
    have h6 := dm
    have hs := dm
    have h5 := dm
    have hd := dm
    have hA := dm
 case' b1 =>
  refine sp (R.begun) (fun hb => ?a13) (fun hb => ?b13)
  case' a13 =>
   have hr := dm
   have h6 := dm
   have hs := dm
   have h5 := dm
   have hd := dm
   have hA := dm
  case' b13 =>
   have hr := dm
   have h6 := dm
   have hs := dm
   have h5 := dm
   have hd := dm
   have hA := dm
 all_goals
  first
   | have hm : comesB R k = true := by unfold comesB; simp only [h0, hb, hr, h6, hs, h5, hd, hA]; rfl
   | have hm : comesB R k = false := by unfold comesB; simp only [h0, hb, hr, h6, hs, h5, hd, hA]; rfl
  refine fn_okXn Tryz.func80 Tryz.ntmps80 Tryz.results80 (by kernel_rfl) rfl (of_decide_eq_true rfl) fun F E hF hC => ?_
  simp only [go_sem, simprocAttr, hF]
  repeat (first
   | ((with_reducible refine hand_id ?_); first
    | ((first | refine hand_rawField rfl rfl (by decide) Tryz.underlying94 rfl (m := 14) rfl rfl ?_ | refine hand_rawField rfl rfl (by decide) Tryz.underlying94 rfl (m := 0) rfl rfl ?_ | refine hand_rawField rfl rfl (by decide) Tryz.underlying35 rfl (m := 5) rfl rfl ?_ | refine hand_rawField rfl rfl (by decide) Tryz.underlying35 rfl (m := 2) rfl rfl ?_ | refine hand_rawField rfl rfl (by decide) Tryz.underlying35 rfl (m := 0) rfl rfl ?_ | refine hand_rawField rfl rfl (by decide) Tryz.underlying26 rfl (m := 0) rfl rfl ?_ | refine hand_rawField rfl rfl (by decide) Tryz.underlying30 rfl (m := 0) rfl rfl ?_ | refine hand_eLoad (i := 0) (dd := .int .i64) rfl rfl (by decide) rfl rfl rfl (by first | assumption | rfl) Tryz.underlying3 rfl ?_); simp only [go_sem, simprocAttr, hF, h0, hb, hr, h6, hs, h5, hd, hA, hm])
    | ((refine hand_eStore (i := 0) rfl rfl rfl rfl rfl rfl (by first | assumption | exact Nat.le_of_ble_eq_true rfl | (simp only [List.length_set, List.length_cons]; omega)) (by first | assumption | rfl) (by first | assumption | rfl) Tryz.sz3 ?_); simp only [go_sem, simprocAttr, hF, h0, hb, hr, h6, hs, h5, hd, hA, hm])
    | ((refine hand_eLoad (i := 0) (dd := .bool) rfl rfl (by decide) rfl rfl rfl (by first | assumption | rfl) Tryz.underlying4 rfl ?_); simp only [go_sem, simprocAttr, hF, h0, hb, hr, h6, hs, h5, hd, hA, hm])
    | ((refine hand_eStore (i := 0) rfl rfl rfl rfl rfl rfl (by first | assumption | exact Nat.le_of_ble_eq_true rfl | (simp only [List.length_set, List.length_cons]; omega)) (by first | assumption | rfl) (by first | assumption | rfl) Tryz.sz4 ?_); simp only [go_sem, simprocAttr, hF, h0, hb, hr, h6, hs, h5, hd, hA, hm])
    | ((refine hand_eLoad (i := 0) (dd := .pointer 65) rfl rfl (by decide) rfl rfl rfl (by first | assumption | rfl) Tryz.underlying92 rfl ?_); simp only [go_sem, simprocAttr, hF, h0, hb, hr, h6, hs, h5, hd, hA, hm])
    | ((refine hand_eStore (i := 0) rfl rfl rfl rfl rfl rfl (by first | assumption | exact Nat.le_of_ble_eq_true rfl | (simp only [List.length_set, List.length_cons]; omega)) (by first | assumption | rfl) (by first | assumption | rfl) Tryz.sz92 ?_); simp only [go_sem, simprocAttr, hF, h0, hb, hr, h6, hs, h5, hd, hA, hm]))
   | (with_reducible (first | refine sops_go ?_ | refine headW_end ?_ | refine sops_end ?_ | refine awp_if ?_ | refine awp_skip ?_ | refine awp_ret ?_ | refine awp_exit ?_); simp only [go_sem, simprocAttr, hF, h0, hb, hr, h6, hs, h5, hd, hA, hm])
   | with_reducible (first | refine awp_seq_k fun _ _ => ?_ | refine awp_region [1000010, 1000011, 1000016, 1000017, 1000023, 1000024, 1000033, 1000034, 1000043, 1000044, 1000051, 1000052] ?_ | refine awp_block ?_)
   | go_step)
  all_goals (first | rfl | exact ⟨(), rfl⟩)
/- The closures of the table of forms. -/
theorem form1F (C : World → Prop) (b : Nat) (X : RX) (a0 a1 a2 a3 a4 a5 : Int) (hl : 1024 ≤ X.bs.length) : FnX Tryz.prog C 66 [.v (wrP b), .sl 1 [[ip a0], [ip a1], [ip a2], [ip a3], [ip a4], [ip a5]]] (exts (pcsX b X)) (iv 8) (fun _ : Unit => exts (pcsX b X)) := by
 refine fn_okXn Tryz.func66 Tryz.ntmps66 Tryz.results66 (by kernel_rfl) rfl (of_decide_eq_true rfl) fun F E hF hC => ?_
 simp only [go_sem, simprocAttr, hF]
 repeat (first
  | ((first | refine hand_rawField rfl rfl (by decide) Tryz.underlying94 rfl (m := 14) rfl rfl ?_ | refine hand_rawField rfl rfl (by decide) Tryz.underlying35 rfl (m := 0) rfl rfl ?_); simp only [go_sem, simprocAttr, hF])
  | ((with_reducible first | refine sops_go ?_ | refine sops_end ?_); simp only [go_sem, simprocAttr, hF])
  | (with_reducible first | refine awp_seq_k fun _ _ => ?_ | refine awp_region [1000008, 1000009, 1000011] ?_)
  | go_step)
 refine hand_callX (rreqBF C b X a0 a1 a2 a3 a4 a5 hl) E rfl hC rfl rfl (by decide) rfl rfl (fun i => ?_)
 simp only [go_sem, simprocAttr, hF]
 repeat (first
  | ((with_reducible first | refine sops_go ?_ | refine sops_end ?_ | refine awp_ret ?_); simp only [go_sem, simprocAttr, hF])
  | go_step)
 all_goals (first | rfl | exact ⟨i, rfl⟩)

theorem form1O (C : World → Prop) (b : Nat) (X : RX) (a0 a1 a2 a3 a4 a5 : Int) (hl : X.bs.length < 1024) : FnX Tryz.prog C 66 [.v (wrP b), .sl 1 [[ip a0], [ip a1], [ip a2], [ip a3], [ip a4], [ip a5]]] (exts (pcsX b X)) (iv 0) (fun i : Nat × Value => exts (pcsX b { X with hb := ⟨some i.1, i.2⟩, M := { X.M with rt := .pointer (some ⟨i.1, X.bs.length * 7 + 6, none⟩) }, bs := ⟨⟨a0, a1, a2, a3, a4, a5⟩, [], none, .slice none 0 0, []⟩ :: X.bs })) := by
 refine fn_okXn Tryz.func66 Tryz.ntmps66 Tryz.results66 (by kernel_rfl) rfl (of_decide_eq_true rfl) fun F E hF hC => ?_
 simp only [go_sem, simprocAttr, hF]
 repeat (first
  | ((first | refine hand_rawField rfl rfl (by decide) Tryz.underlying94 rfl (m := 14) rfl rfl ?_ | refine hand_rawField rfl rfl (by decide) Tryz.underlying35 rfl (m := 0) rfl rfl ?_); simp only [go_sem, simprocAttr, hF])
  | ((with_reducible first | refine sops_go ?_ | refine sops_end ?_); simp only [go_sem, simprocAttr, hF])
  | (with_reducible first | refine awp_seq_k fun _ _ => ?_ | refine awp_region [1000008, 1000009, 1000011] ?_)
  | go_step)
 refine hand_callX (rreqBO C b X a0 a1 a2 a3 a4 a5 hl) E rfl hC rfl rfl (by decide) rfl rfl (fun i => ?_)
 simp only [go_sem, simprocAttr, hF]
 repeat (first
  | ((with_reducible first | refine sops_go ?_ | refine sops_end ?_ | refine awp_ret ?_); simp only [go_sem, simprocAttr, hF])
  | go_step)
 all_goals (first | rfl | exact ⟨i, rfl⟩)

theorem form2F (C : World → Prop) (b : Nat) (X : RX) (a0 a1 a2 a3 a4 a5 : Int) (hl : 1024 ≤ X.zs.length) : FnX Tryz.prog C 68 [.v (wrP b), .sl 1 [[ip a0], [ip a1], [ip a2], [ip a3], [ip a4], [ip a5]]] (exts (pcsX b X)) (iv 8) (fun _ : Unit => exts (pcsX b X)) := by
 refine fn_okXn Tryz.func68 Tryz.ntmps68 Tryz.results68 (by kernel_rfl) rfl (of_decide_eq_true rfl) fun F E hF hC => ?_
 simp only [go_sem, simprocAttr, hF]
 repeat (first
  | ((first | refine hand_rawField rfl rfl (by decide) Tryz.underlying94 rfl (m := 14) rfl rfl ?_ | refine hand_rawField rfl rfl (by decide) Tryz.underlying35 rfl (m := 0) rfl rfl ?_); simp only [go_sem, simprocAttr, hF])
  | ((with_reducible first | refine sops_go ?_ | refine sops_end ?_); simp only [go_sem, simprocAttr, hF])
  | (with_reducible first | refine awp_seq_k fun _ _ => ?_ | refine awp_region [1000008, 1000009, 1000011] ?_)
  | go_step)
 refine hand_callX (rreqAF C b X a0 a1 a2 a3 a4 a5 hl) E rfl hC rfl rfl (by decide) rfl rfl (fun i => ?_)
 simp only [go_sem, simprocAttr, hF]
 repeat (first
  | ((with_reducible first | refine sops_go ?_ | refine sops_end ?_ | refine awp_ret ?_); simp only [go_sem, simprocAttr, hF])
  | go_step)
 all_goals (first | rfl | exact ⟨i, rfl⟩)

theorem form2O (C : World → Prop) (b : Nat) (X : RX) (a0 a1 a2 a3 a4 a5 : Int) (hl : X.zs.length < 1024) : FnX Tryz.prog C 68 [.v (wrP b), .sl 1 [[ip a0], [ip a1], [ip a2], [ip a3], [ip a4], [ip a5]]] (exts (pcsX b X)) (iv 0) (fun i : Nat × Value => exts (pcsX b { X with ha := ⟨some i.1, i.2⟩, M := { X.M with rt := .pointer (some ⟨i.1, X.zs.length * 7 + 6, none⟩) }, zs := ⟨⟨a0, a1, a2, a3, a4, a5⟩, [], none, .slice none 0 0, []⟩ :: X.zs })) := by
 refine fn_okXn Tryz.func68 Tryz.ntmps68 Tryz.results68 (by kernel_rfl) rfl (of_decide_eq_true rfl) fun F E hF hC => ?_
 simp only [go_sem, simprocAttr, hF]
 repeat (first
  | ((first | refine hand_rawField rfl rfl (by decide) Tryz.underlying94 rfl (m := 14) rfl rfl ?_ | refine hand_rawField rfl rfl (by decide) Tryz.underlying35 rfl (m := 0) rfl rfl ?_); simp only [go_sem, simprocAttr, hF])
  | ((with_reducible first | refine sops_go ?_ | refine sops_end ?_); simp only [go_sem, simprocAttr, hF])
  | (with_reducible first | refine awp_seq_k fun _ _ => ?_ | refine awp_region [1000008, 1000009, 1000011] ?_)
  | go_step)
 refine hand_callX (rreqAO C b X a0 a1 a2 a3 a4 a5 hl) E rfl hC rfl rfl (by decide) rfl rfl (fun i => ?_)
 simp only [go_sem, simprocAttr, hF]
 repeat (first
  | ((with_reducible first | refine sops_go ?_ | refine sops_end ?_ | refine awp_ret ?_); simp only [go_sem, simprocAttr, hF])
  | go_step)
 all_goals (first | rfl | exact ⟨i, rfl⟩)

theorem form3F (C : World → Prop) (b : Nat) (R : Rd) (M : RM) (tl : List Ext) (a0 a1 a2 a3 a4 a5 : Int) (hl : 1024 ≤ R.x.changes.length) : FnX Tryz.prog C 71 [.v (wrP b), .sl 1 [[ip a0], [ip a1], [ip a2], [ip a3], [ip a4], [ip a5]]] (exts (pcs b R M tl)) (iv 8) (fun _ : Unit => exts (pcs b R M tl)) := by
 refine fn_okXn Tryz.func71 Tryz.ntmps71 Tryz.results71 (by kernel_rfl) rfl (of_decide_eq_true rfl) fun F E hF hC => ?_
 simp only [go_sem, simprocAttr, hF]
 repeat (first
  | ((with_reducible first | refine sops_go ?_ | refine sops_end ?_); simp only [go_sem, simprocAttr, hF])
  | (with_reducible first | refine awp_seq_k fun _ _ => ?_ | refine awp_region [1000007] ?_)
  | go_step)
 refine hand_callX (rchangeF C b R M tl true a0 a1 a2 a3 a4 a5 hl) E rfl hC rfl rfl (by decide) rfl rfl (fun i => ?_)
 simp only [go_sem, simprocAttr, hF]
 repeat (first
  | ((with_reducible first | refine sops_go ?_ | refine sops_end ?_ | refine awp_ret ?_); simp only [go_sem, simprocAttr, hF])
  | go_step)
 all_goals (first | rfl | exact ⟨i, rfl⟩)

theorem form3O (C : World → Prop) (b : Nat) (R : Rd) (M : RM) (tl : List Ext) (a0 a1 a2 a3 a4 a5 : Int) (hl : R.x.changes.length < 1024) : FnX Tryz.prog C 71 [.v (wrP b), .sl 1 [[ip a0], [ip a1], [ip a2], [ip a3], [ip a4], [ip a5]]] (exts (pcs b R M tl)) (iv 0) (fun i : Hdr => exts (pcs b { R with x := { R.x with changes := R.x.changes ++ [⟨a0, true, ⟨a1, a2, a3, a4, a5⟩⟩] } } { M with hh := i } tl)) := by
 refine fn_okXn Tryz.func71 Tryz.ntmps71 Tryz.results71 (by kernel_rfl) rfl (of_decide_eq_true rfl) fun F E hF hC => ?_
 simp only [go_sem, simprocAttr, hF]
 repeat (first
  | ((with_reducible first | refine sops_go ?_ | refine sops_end ?_); simp only [go_sem, simprocAttr, hF])
  | (with_reducible first | refine awp_seq_k fun _ _ => ?_ | refine awp_region [1000007] ?_)
  | go_step)
 refine hand_callX (rchangeO C b R M tl true a0 a1 a2 a3 a4 a5 hl) E rfl hC rfl rfl (by decide) rfl rfl (fun i => ?_)
 simp only [go_sem, simprocAttr, hF]
 repeat (first
  | ((with_reducible first | refine sops_go ?_ | refine sops_end ?_ | refine awp_ret ?_); simp only [go_sem, simprocAttr, hF])
  | go_step)
 all_goals (first | rfl | exact ⟨i, rfl⟩)

theorem form4F (C : World → Prop) (b : Nat) (R : Rd) (M : RM) (tl : List Ext) (a0 a1 a2 a3 a4 a5 : Int) (hl : 1024 ≤ R.x.changes.length) : FnX Tryz.prog C 73 [.v (wrP b), .sl 1 [[ip a0], [ip a1], [ip a2], [ip a3], [ip a4], [ip a5]]] (exts (pcs b R M tl)) (iv 8) (fun _ : Unit => exts (pcs b R M tl)) := by
 refine fn_okXn Tryz.func73 Tryz.ntmps73 Tryz.results73 (by kernel_rfl) rfl (of_decide_eq_true rfl) fun F E hF hC => ?_
 simp only [go_sem, simprocAttr, hF]
 repeat (first
  | ((with_reducible first | refine sops_go ?_ | refine sops_end ?_); simp only [go_sem, simprocAttr, hF])
  | (with_reducible first | refine awp_seq_k fun _ _ => ?_ | refine awp_region [1000007] ?_)
  | go_step)
 refine hand_callX (rchangeF C b R M tl false a0 a1 a2 a3 a4 a5 hl) E rfl hC rfl rfl (by decide) rfl rfl (fun i => ?_)
 simp only [go_sem, simprocAttr, hF]
 repeat (first
  | ((with_reducible first | refine sops_go ?_ | refine sops_end ?_ | refine awp_ret ?_); simp only [go_sem, simprocAttr, hF])
  | go_step)
 all_goals (first | rfl | exact ⟨i, rfl⟩)

theorem form4O (C : World → Prop) (b : Nat) (R : Rd) (M : RM) (tl : List Ext) (a0 a1 a2 a3 a4 a5 : Int) (hl : R.x.changes.length < 1024) : FnX Tryz.prog C 73 [.v (wrP b), .sl 1 [[ip a0], [ip a1], [ip a2], [ip a3], [ip a4], [ip a5]]] (exts (pcs b R M tl)) (iv 0) (fun i : Hdr => exts (pcs b { R with x := { R.x with changes := R.x.changes ++ [⟨a0, false, ⟨a1, a2, a3, a4, a5⟩⟩] } } { M with hh := i } tl)) := by
 refine fn_okXn Tryz.func73 Tryz.ntmps73 Tryz.results73 (by kernel_rfl) rfl (of_decide_eq_true rfl) fun F E hF hC => ?_
 simp only [go_sem, simprocAttr, hF]
 repeat (first
  | ((with_reducible first | refine sops_go ?_ | refine sops_end ?_); simp only [go_sem, simprocAttr, hF])
  | (with_reducible first | refine awp_seq_k fun _ _ => ?_ | refine awp_region [1000007] ?_)
  | go_step)
 refine hand_callX (rchangeO C b R M tl false a0 a1 a2 a3 a4 a5 hl) E rfl hC rfl rfl (by decide) rfl rfl (fun i => ?_)
 simp only [go_sem, simprocAttr, hF]
 repeat (first
  | ((with_reducible first | refine sops_go ?_ | refine sops_end ?_ | refine awp_ret ?_); simp only [go_sem, simprocAttr, hF])
  | go_step)
 all_goals (first | rfl | exact ⟨i, rfl⟩)
/- The reader: powers. -/
theorem rpowerA (C : World → Prop) (b : Nat) (X : RX) (a0 a1 a2 : Int) (h1 : nodeB a0 X.R.x.net.nodes = false) : FnX Tryz.prog C 64 [.v (wrP b), .sl 1 [[ip a0], [ip a1], [ip a2]]] (exts (pcsX b X)) (iv 2) (fun _ : Unit => exts (pcsX b X)) := by
 refine fn_okXn Tryz.func64 Tryz.ntmps64 Tryz.results64 (by kernel_rfl) rfl (of_decide_eq_true rfl) fun F E hF hC => ?_
 simp only [go_sem, simprocAttr, hF]
 repeat (first
  | ((refine hand_callClo (v := .bool false) (u := .int .i64 a0) ⟨Tryz.f106, _, Tryz.func106, by kernel_rfl, rfl⟩ rfl rfl (by decide) rfl rfl rfl (fun F γ a w hr p hp => node_rel (X := X) hr rfl rfl h1 p hp) ?_); simp only [go_sem, simprocAttr, hF])
  | ((with_reducible first | refine sops_go ?_ | refine sops_end ?_ | refine awp_if ?_ | refine awp_ret ?_); simp only [go_sem, simprocAttr, hF])
  | (with_reducible first | refine awp_seq_k fun _ _ => ?_ | refine awp_region [1000011, 1000018, 1000023, 1000024, 1000025, 1000026, 1000030, 1000031, 1000038] ?_)
  | go_step)
 all_goals (first | rfl | exact ⟨(), rfl⟩)

theorem rpowerB (C : World → Prop) (b : Nat) (X : RX) (a0 a1 a2 : Int) (h1 : nodeB a0 X.R.x.net.nodes = true) (h2 : nodeB a1 X.R.x.net.nodes = false) : FnX Tryz.prog C 64 [.v (wrP b), .sl 1 [[ip a0], [ip a1], [ip a2]]] (exts (pcsX b X)) (iv 2) (fun _ : Unit => exts (pcsX b X)) := by
 refine fn_okXn Tryz.func64 Tryz.ntmps64 Tryz.results64 (by kernel_rfl) rfl (of_decide_eq_true rfl) fun F E hF hC => ?_
 simp only [go_sem, simprocAttr, hF]
 repeat (first
  | ((first | refine hand_callClo (v := .bool true) (u := .int .i64 a0) ⟨Tryz.f106, _, Tryz.func106, by kernel_rfl, rfl⟩ rfl rfl (by decide) rfl rfl rfl (fun F γ a w hr p hp => node_rel (X := X) hr rfl rfl h1 p hp) ?_ | refine hand_callClo (v := .bool false) (u := .int .i64 a1) ⟨Tryz.f106, _, Tryz.func106, by kernel_rfl, rfl⟩ rfl rfl (by decide) rfl rfl rfl (fun F γ a w hr p hp => node_rel (X := X) hr rfl rfl h2 p hp) ?_); simp only [go_sem, simprocAttr, hF])
  | ((with_reducible first | refine sops_go ?_ | refine sops_end ?_ | refine awp_if ?_ | refine awp_ret ?_); simp only [go_sem, simprocAttr, hF])
  | (with_reducible first | refine awp_seq_k fun _ _ => ?_ | refine awp_region [1000011, 1000018, 1000023, 1000024, 1000025, 1000026, 1000030, 1000031, 1000038] ?_)
  | go_step)
 all_goals (first | rfl | exact ⟨(), rfl⟩)

theorem rpowerO (C : World → Prop) (b : Nat) (X : RX) {g : Nat} (hq : X.hp.q = some g) (a c : Nat) (v : Int) {z : Pz} (ha : X.pw[a]? = some z) (hc2 : c < z.row.length) (h1 : nodeB a X.R.x.net.nodes = true) (h2 : nodeB c X.R.x.net.nodes = true) : FnX Tryz.prog C 64 [.v (wrP b), .sl 1 [[ip (a : Int)], [ip (c : Int)], [ip v]]] (exts (pcsX b X)) (iv 0) (fun _ : Unit => exts (pcsX b { X with pw := X.pw.set a { z with row := z.row.set c v } })) := by
 obtain ⟨R, M, ⟨q, V⟩, hbs, has, pw, bs, zs⟩ := X
 cases hq
 have hzl : (z.row.map fun n => [Value.int .i64 n]).length = z.row.length := List.length_map _
 have hpl : a < (pw.map fun x => [x.V]).length := by rw [List.length_map]; exact (List.getElem?_eq_some_iff.1 ha).1
 have hone : ∀ r ∈ pw.map fun x => [x.V], r.length = 1 := fun r hr => by obtain ⟨y, _, rfl⟩ := List.mem_map.1 hr; rfl
 have hrow : (pw.map fun x => [x.V])[a]? = some [z.V] := by rw [List.getElem?_map, ha]; rfl
 have hone2 : ∀ r ∈ z.row.map fun n => [Value.int .i64 n], r.length = 1 := fun r hr => by obtain ⟨y, _, rfl⟩ := List.mem_map.1 hr; rfl
 have hcl : c < (z.row.map fun n => [Value.int .i64 n]).length := by rw [List.length_map]; exact hc2
 have hrow2 : (z.row.map fun n => [Value.int .i64 n])[c]? = some [.int .i64 z.row[c]] := by rw [List.getElem?_map, List.getElem?_eq_getElem hc2]; rfl
 refine fn_okXn Tryz.func64 Tryz.ntmps64 Tryz.results64 (by kernel_rfl) rfl (of_decide_eq_true rfl) fun F E hF hC => ?_
 simp only [go_sem, simprocAttr, hF]
 repeat (first
  | ((with_reducible first | refine sopsJ_go ?_ | refine sopsJ_end ?_ | refine headW_end ?_); simp only [go_sem, simprocAttr, hF, Av.sopJ])
  | (refine awp_floatJ (id := 4) [1000023, 1000024, 1000025, 1000026, 1000030, 1000031, 1000038] 17 [] (by kernel_rfl) (by kernel_rfl) (by kernel_rfl) rfl rfl (fun bx0 hbx => ?_); (try dsimp only [Av.addWs, Av.addW, List.modify_succ_cons, List.modify_zero_cons, List.push_toArray, List.cons_append, List.nil_append, List.take, List.drop]))
  | ((with_reducible refine headW_go ?_); simp only [go_sem, simprocAttr, hF, hbx])
  | ((first | refine hand_callClo (v := .bool true) (u := .int .i64 (a : Int)) ⟨Tryz.f106, _, Tryz.func106, by kernel_rfl, rfl⟩ rfl rfl (by decide) rfl rfl rfl (fun F γ a w hr p hp => node_rel (X := ⟨R, M, ⟨some g, V⟩, hbs, has, pw, bs, zs⟩) hr rfl rfl h1 p hp) ?_ | refine hand_callClo (v := .bool true) (u := .int .i64 (c : Int)) ⟨Tryz.f106, _, Tryz.func106, by kernel_rfl, rfl⟩ rfl rfl (by decide) rfl rfl rfl (fun F γ a w hr p hp => node_rel (X := ⟨R, M, ⟨some g, V⟩, hbs, has, pw, bs, zs⟩) hr rfl rfl h2 p hp) ?_); simp only [go_sem, simprocAttr, hF])
  | ((first | refine ⟨_, handq_rawField rfl rfl (by decide) Tryz.underlying94 rfl (m := 14) rfl rfl, rfl, ?_⟩ | refine ⟨_, handq_rawField rfl rfl (by decide) Tryz.underlying35 rfl (m := 5) rfl rfl, rfl, ?_⟩ | refine ⟨_, handq_rawField rfl rfl (by decide) Tryz.underlying26 rfl (m := 0) rfl rfl, rfl, ?_⟩ | refine ⟨_, handq_eLoad (i := 0) (dd := .slice 24) rfl rfl (by decide) rfl rfl rfl rfl Tryz.underlying22 rfl, rfl, ?_⟩ | refine ⟨_, handq_vIndex (i := 7) (j := a) rfl rfl (by decide) rfl rfl rfl rfl hpl Tryz.underlying22 Tryz.sz24, rfl, ?_⟩ | refine ⟨_, handq_vLoad (i := 7) (k := a) (c := 0) (sz := 1) (dd := .slice 3) rfl rfl (by decide) rfl rfl hone hrow rfl rfl Tryz.underlying24 rfl, rfl, ?_⟩); simp only [go_sem, simprocAttr, hF, hbx])
  | ((first | refine hand_vIndex (i := 10 + (zs.length + (bs.length + a))) (j := c) rfl rfl (by decide) rfl (pcsX_row ha) rfl rfl hcl Tryz.underlying24 Tryz.sz3 ?_ | refine hand_vStore (i := 10 + (zs.length + (bs.length + a))) (k := c) (c := 0) (sz := 1) rfl rfl rfl (pcsX_row ha) hone2 hrow2 (by decide) rfl rfl rfl rfl Tryz.sz3 ?_); simp only [go_sem, simprocAttr, hF, Av.sopJ])
  | ((with_reducible first | refine sops_go ?_ | refine sops_end ?_ | refine awp_if ?_ | refine awp_skip ?_ | refine awp_ret ?_); simp only [go_sem, simprocAttr, hF])
  | (with_reducible first | refine awp_seq_k fun _ _ => ?_ | refine awp_region (id := 0) [] ?_ | refine awp_region (id := 1) [1000011] ?_ | refine awp_region (id := 2) [1000011, 1000018, 1000023, 1000024, 1000025, 1000026, 1000030, 1000031, 1000038] ?_ | refine awp_region (id := 5) [1000011, 1000018, 1000023, 1000024, 1000025, 1000026, 1000030, 1000031, 1000038] ?_)
  | go_step)
 have e1 : ((z.row.map fun n => [Value.int IntKind.i64 n]).set c ([Value.int IntKind.i64 z.row[c]].set 0 (.int .i64 v))) = (z.row.set c v).map fun n => [Value.int IntKind.i64 n] := by rw [List.map_set]; rfl
 rw [e1]
 exact congrArg E.and (congrArg exts (pcsX_setRow (z' := { z with row := z.row.set c v }) ha rfl))
end Go.Proofs.YtcloigoajohppaaGreatDoor
/- Parse in plain Lean: one line. -/
namespace Go.Proofs.YtcloigoajohppaaGreatDoor
open Go.RowKit
open Av
open Sc
set_option maxRecDepth 100000
set_option linter.unusedSimpArgs false

inductive Kd where
  | network | power | link | before | after | schedule | cell | add | remove | weak | outage | slots
deriving DecidableEq
namespace Kd
def rank : Kd → Nat
  | network => 0 | power => 1 | link => 2 | before => 3 | after => 4 | schedule => 5 | cell => 6 | add => 7 | remove => 7 | weak => 8 | outage => 9 | slots => 10
def count : Kd → Nat
  | network => 3 | power => 3 | link => 4 | before => 6 | after => 6 | schedule => 2 | cell => 5 | add => 6 | remove => 6 | weak => 5 | outage => 3 | slots => 1
def word : Kd → ByteArray
  | network => wNetwork | power => wPower | link => wLink | before => wBefore | after => wAfter | schedule => wSchedule | cell => wCell | add => wAdd | remove => wRemove | weak => wWeak | outage => wOutage | slots => wSlots
def all : List Kd := [slots, outage, weak, remove, add, cell, schedule, after, before, link, power, network]
def fid : Kd → Nat
  | network => 63 | power => 64 | link => 65 | before => 66 | after => 68 | schedule => 69 | cell => 70
  | add => 71 | remove => 73 | weak => 74 | outage => 75 | slots => 76
end Kd
structure Ps where
  R : Rd
  ro : Option Bool
def Ps.x (p : Ps) : Sn := p.R.x
def readP : Kd → Ps → List Int → Ps × Int
  | .network, p, [a0, a1, a2] => if a0 < 0 ∨ 32 < a0 then (p, 2) else ({ p with R := { p.R with x := { p.R.x with net := { p.R.x.net with nodes := a0, noise := a1, thr := a2, power := List.replicate a0.toNat (List.replicate a0.toNat 0) } }, begun := true } }, 0)
  | .power, p, [a0, a1, a2] => if nodeB a0 p.R.x.net.nodes && nodeB a1 p.R.x.net.nodes then ({ p with R := { p.R with x := { p.R.x with net := { p.R.x.net with power := p.R.x.net.power.set a0.toNat ((p.R.x.net.power.getD a0.toNat []).set a1.toNat a2) } } } }, 0) else (p, 2)
  | .link, p, [a0, a1, a2, a3] => if 1024 ≤ p.R.x.net.links.length then (p, 8) else ({ p with R := { p.R with x := { p.R.x with net := { p.R.x.net with links := p.R.x.net.links ++ [⟨a0, a1, a2⟩], margin := p.R.x.net.margin ++ [a3] } } } }, 0)
  | .before, p, [a0, a1, a2, a3, a4, a5] => if 1024 ≤ p.R.x.before.length then (p, 8) else (⟨{ p.R with x := { p.R.x with before := p.R.x.before ++ [⟨⟨a0, a1, a2, a3, a4, a5⟩, []⟩] } }, some false⟩, 0)
  | .after, p, [a0, a1, a2, a3, a4, a5] => if 1024 ≤ p.R.x.after.length then (p, 8) else (⟨{ p.R with x := { p.R.x with after := p.R.x.after ++ [⟨⟨a0, a1, a2, a3, a4, a5⟩, []⟩] } }, some true⟩, 0)
  | .schedule, p, [a0, a1] => ({ p with R := { p.R with x := { p.R.x with len := a0, offs := a1 }, sched := true } }, 0)
  | .cell, p, [a0, a1, a2, a3, a4] => if 1024 ≤ p.R.x.cells.length then (p, 8) else ({ p with R := { p.R with x := { p.R.x with cells := p.R.x.cells ++ [⟨a0, a1, a2, a3, a4⟩] } } }, 0)
  | .add, p, [a0, a1, a2, a3, a4, a5] => if 1024 ≤ p.R.x.changes.length then (p, 8) else ({ p with R := { p.R with x := { p.R.x with changes := p.R.x.changes ++ [⟨a0, true, ⟨a1, a2, a3, a4, a5⟩⟩] } } }, 0)
  | .remove, p, [a0, a1, a2, a3, a4, a5] => if 1024 ≤ p.R.x.changes.length then (p, 8) else ({ p with R := { p.R with x := { p.R.x with changes := p.R.x.changes ++ [⟨a0, false, ⟨a1, a2, a3, a4, a5⟩⟩] } } }, 0)
  | .weak, p, [a0, a1, a2, a3, a4] => if 1024 ≤ p.R.x.weak.length then (p, 8) else ({ p with R := { p.R with x := { p.R.x with weak := p.R.x.weak ++ [⟨a0, a1, a2, a3, a4⟩] } } }, 0)
  | .outage, p, [a0, a1, a2] => if 1024 ≤ p.R.x.outs.length then (p, 8) else ({ p with R := { p.R with x := { p.R.x with outs := p.R.x.outs ++ [⟨a0, a1, a2⟩] } } }, 0)
  | .slots, p, [a0] => ({ p with R := { p.R with x := { p.R.x with slots := a0 }, done := true } }, 0)
  | _, p, _ => (p, 3)
def lastRs : List Rq → List (List Int)
  | [] => []
  | [q] => q.rs
  | _ :: t => lastRs t
def addRt (r : List Int) : List Rq → List Rq
  | [] => []
  | [q] => [{ q with rs := q.rs ++ [r] }]
  | q :: t => q :: addRt r t
theorem lastRs_end (z : Rq) : ∀ l : List Rq, lastRs (l ++ [z]) = z.rs
  | [] => rfl
  | [x] => rfl
  | x :: y :: l => by
    show lastRs (y :: l ++ [z]) = _
    exact lastRs_end z (y :: l)
theorem addRt_end (r : List Int) (z : Rq) : ∀ l : List Rq, addRt r (l ++ [z]) = l ++ [{ z with rs := z.rs ++ [r] }]
  | [] => rfl
  | [x] => rfl
  | x :: y :: l => by
    show x :: addRt r (y :: l ++ [z]) = _
    rw [addRt_end r z (y :: l)]
    rfl
def kdOf (w : ByteArray) : Option Kd := Kd.all.find? fun k => decide (k.word = w)
def routeP (p : Ps) (l : List Int) : Ps × Int :=
  match p.ro with
  | none => (p, 5)
  | some false => if 1024 < l.length ∨ 1024 ≤ (lastRs p.R.x.before).length then (p, 8) else ({ p with R := { p.R with x := { p.R.x with before := addRt l p.R.x.before } } }, 0)
  | some true => if 1024 < l.length ∨ 1024 ≤ (lastRs p.R.x.after).length then (p, 8) else ({ p with R := { p.R with x := { p.R.x with after := addRt l p.R.x.after } } }, 0)
def stepP (p : Ps) : Option (ByteArray × List Int) → Ps × Int
  | none => (p, 3)
  | some (w, l) => if w = wRoute ∧ l ≠ [] then routeP p l else
    match kdOf w with
    | none => (p, 3)
    | some k => if l.length ≠ k.count then (p, 3) else if comesB p.R k.rank = false then (p, 5) else readP k ⟨{ p.R with rank := k.rank }, none⟩ l
structure InvP (p : Ps) : Prop where
  fresh : p.R.begun = false → p.R.x.net.nodes = 0 ∧ p.R.x.after = [] ∧ p.R.rank = 0
  late : p.R.x.after ≠ [] → 4 ≤ p.R.rank
  n0 : 0 ≤ p.R.x.net.nodes
  n32 : p.R.x.net.nodes ≤ 32
  rows : p.R.x.net.power.length = p.R.x.net.nodes.toNat
  row : ∀ r ∈ p.R.x.net.power, r.length = p.R.x.net.nodes.toNat
  lm : p.R.x.net.margin.length = p.R.x.net.links.length
end Go.Proofs.YtcloigoajohppaaGreatDoor
/- Parse: the lines of each kind. -/
namespace Go.Proofs.YtcloigoajohppaaGreatDoor
open Go.RowKit
open Av
open Sc
set_option maxRecDepth 100000
set_option linter.unusedSimpArgs false

theorem FnX.fam {ι κ : Type} {P : Program} {C : World → Prop} {f : FuncId} {args : List AV} {X : Ext} {res : AV} {X1 : ι → Ext} {X2 : κ → Ext} (h : FnX P C f args X res X1) (hk : ∀ i, ∃ j, X2 j = X1 i) : FnX P C f args X res X2 :=
  ⟨h.enters, fun F E γ a w us hC hr hus => (h.calls F E γ a w us hC hr hus).mono fun e w' ⟨u, γ', i, he, h1, h2, h3⟩ => by
    obtain ⟨j, hj⟩ := hk i
    exact ⟨u, γ', j, he, by rw [hj]; exact h1, h2, by rw [hj]; exact h3⟩⟩
def Rz.rq (x : Rz) : Rq := ⟨x.f, x.rs⟩
def RoX (ro : Option Bool) (X : RX) : Prop :=
  match ro with
  | none => X.M.rt = .pointer none
  | some false => X.zs = [] ∧ ∃ g z l0, X.hb.q = some g ∧ X.bs = z :: l0 ∧ X.M.rt = .pointer (some ⟨g, l0.length * 7 + 6, none⟩)
  | some true => ∃ g z l0, X.ha.q = some g ∧ X.zs = z :: l0 ∧ X.M.rt = .pointer (some ⟨g, l0.length * 7 + 6, none⟩)
structure OKX (p : Ps) (X : RX) : Prop where
  R : X.R = p.R
  pw : X.pw.map Pz.row = p.R.x.net.power
  bs : X.bs.reverse.map Rz.rq = p.R.x.before
  zs : X.zs.reverse.map Rz.rq = p.R.x.after
  hp : X.pw ≠ [] → ∃ g, X.hp.q = some g
  ro : RoX p.ro X
  inv : InvP p
abbrev RdX (k : Kd) (p : Ps) (l : List Int) : Type := {X' : RX // (readP k p l).2 = 0 → OKX (readP k p l).1 X'}
abbrev RdOK (C : World → Prop) (b : Nat) (k : Kd) (p : Ps) (X : RX) (l : List Int) : Prop :=
  FnX Tryz.prog C k.fid [.v (wrP b), .sl 1 (l.map fun n => [ip n])] (exts (pcsX b X)) (iv (readP k p l).2) (fun i : RdX k p l => exts (pcsX b i.1))
theorem rd_bad {C : World → Prop} {b : Nat} {k : Kd} {p : Ps} {X : RX} {l : List Int} {e : Int} (he : (readP k p l).2 = e) (h0 : e ≠ 0)
    (h : FnX Tryz.prog C k.fid [.v (wrP b), .sl 1 (l.map fun n => [ip n])] (exts (pcsX b X)) (iv e) (fun _ : Unit => exts (pcsX b X))) : RdOK C b k p X l := by
  unfold RdOK
  rw [show iv (readP k p l).2 = iv e by rw [he]]
  exact FnX.fam h fun _ => ⟨⟨X, fun h1 => absurd (he.symm.trans h1) h0⟩, rfl⟩

theorem read_link {C : World → Prop} {b : Nat} {p : Ps} {X : RX} (hX : OKX p X) (hro : p.ro = none) (a0 a1 a2 a3 : Int) : RdOK C b .link p X [a0, a1, a2, a3] := by
  obtain ⟨R, M, hpd, hbd, had, pw, bs, zs⟩ := X
  obtain rfl : R = p.R := hX.R
  by_cases hl : 1024 ≤ p.R.x.net.links.length
  · exact rd_bad (e := 8) (by simp only [readP, hl, if_true]) (by decide) (rlinkF C b p.R (RX.m ⟨p.R, M, hpd, hbd, had, pw, bs, zs⟩) (fixX ⟨p.R, M, hpd, hbd, had, pw, bs, zs⟩ ++ dynX ⟨p.R, M, hpd, hbd, had, pw, bs, zs⟩) a0 a1 a2 a3 hl)
  · have e : readP .link p [a0, a1, a2, a3] = ({ p with R := { p.R with x := { p.R.x with net := { p.R.x.net with links := p.R.x.net.links ++ [⟨a0, a1, a2⟩], margin := p.R.x.net.margin ++ [a3] } } } }, 0) := by simp only [readP, hl, if_false]
    unfold RdOK RdX
    rw [e]
    exact FnX.fam (rlinkO C b p.R (RX.m ⟨p.R, M, hpd, hbd, had, pw, bs, zs⟩) (fixX ⟨p.R, M, hpd, hbd, had, pw, bs, zs⟩ ++ dynX ⟨p.R, M, hpd, hbd, had, pw, bs, zs⟩) a0 a1 a2 a3 (by omega) (by rw [hX.inv.lm]; omega)) fun i => ⟨⟨⟨{ p.R with x := { p.R.x with net := { p.R.x.net with links := p.R.x.net.links ++ [⟨a0, a1, a2⟩], margin := p.R.x.net.margin ++ [a3] } } }, { M with hl := i.1, hm := i.2 }, hpd, hbd, had, pw, bs, zs⟩, fun _ => ⟨rfl, hX.pw, hX.bs, hX.zs, hX.hp, (by have h := hX.ro; rw [hro] at h ⊢; exact h), ⟨hX.inv.fresh, hX.inv.late, hX.inv.n0, hX.inv.n32, hX.inv.rows, hX.inv.row, (by rw [List.length_append, List.length_append, hX.inv.lm]; rfl)⟩⟩⟩, rfl⟩

theorem read_cell {C : World → Prop} {b : Nat} {p : Ps} {X : RX} (hX : OKX p X) (hro : p.ro = none) (a0 a1 a2 a3 a4 : Int) : RdOK C b .cell p X [a0, a1, a2, a3, a4] := by
  obtain ⟨R, M, hpd, hbd, had, pw, bs, zs⟩ := X
  obtain rfl : R = p.R := hX.R
  by_cases hl : 1024 ≤ p.R.x.cells.length
  · exact rd_bad (e := 8) (by simp only [readP, hl, if_true]) (by decide) (rcellF C b p.R (RX.m ⟨p.R, M, hpd, hbd, had, pw, bs, zs⟩) (fixX ⟨p.R, M, hpd, hbd, had, pw, bs, zs⟩ ++ dynX ⟨p.R, M, hpd, hbd, had, pw, bs, zs⟩) a0 a1 a2 a3 a4 hl)
  · have e : readP .cell p [a0, a1, a2, a3, a4] = ({ p with R := { p.R with x := { p.R.x with cells := p.R.x.cells ++ [⟨a0, a1, a2, a3, a4⟩] } } }, 0) := by simp only [readP, hl, if_false]
    unfold RdOK RdX
    rw [e]
    exact FnX.fam (rcellO C b p.R (RX.m ⟨p.R, M, hpd, hbd, had, pw, bs, zs⟩) (fixX ⟨p.R, M, hpd, hbd, had, pw, bs, zs⟩ ++ dynX ⟨p.R, M, hpd, hbd, had, pw, bs, zs⟩) a0 a1 a2 a3 a4 (by omega)) fun i => ⟨⟨⟨{ p.R with x := { p.R.x with cells := p.R.x.cells ++ [⟨a0, a1, a2, a3, a4⟩] } }, { M with hc := i }, hpd, hbd, had, pw, bs, zs⟩, fun _ => ⟨rfl, hX.pw, hX.bs, hX.zs, hX.hp, (by have h := hX.ro; rw [hro] at h ⊢; exact h), ⟨hX.inv.fresh, hX.inv.late, hX.inv.n0, hX.inv.n32, hX.inv.rows, hX.inv.row, hX.inv.lm⟩⟩⟩, rfl⟩

theorem read_add {C : World → Prop} {b : Nat} {p : Ps} {X : RX} (hX : OKX p X) (hro : p.ro = none) (a0 a1 a2 a3 a4 a5 : Int) : RdOK C b .add p X [a0, a1, a2, a3, a4, a5] := by
  obtain ⟨R, M, hpd, hbd, had, pw, bs, zs⟩ := X
  obtain rfl : R = p.R := hX.R
  by_cases hl : 1024 ≤ p.R.x.changes.length
  · exact rd_bad (e := 8) (by simp only [readP, hl, if_true]) (by decide) (form3F C b p.R (RX.m ⟨p.R, M, hpd, hbd, had, pw, bs, zs⟩) (fixX ⟨p.R, M, hpd, hbd, had, pw, bs, zs⟩ ++ dynX ⟨p.R, M, hpd, hbd, had, pw, bs, zs⟩) a0 a1 a2 a3 a4 a5 hl)
  · have e : readP .add p [a0, a1, a2, a3, a4, a5] = ({ p with R := { p.R with x := { p.R.x with changes := p.R.x.changes ++ [⟨a0, true, ⟨a1, a2, a3, a4, a5⟩⟩] } } }, 0) := by simp only [readP, hl, if_false]
    unfold RdOK RdX
    rw [e]
    exact FnX.fam (form3O C b p.R (RX.m ⟨p.R, M, hpd, hbd, had, pw, bs, zs⟩) (fixX ⟨p.R, M, hpd, hbd, had, pw, bs, zs⟩ ++ dynX ⟨p.R, M, hpd, hbd, had, pw, bs, zs⟩) a0 a1 a2 a3 a4 a5 (by omega)) fun i => ⟨⟨⟨{ p.R with x := { p.R.x with changes := p.R.x.changes ++ [⟨a0, true, ⟨a1, a2, a3, a4, a5⟩⟩] } }, { M with hh := i }, hpd, hbd, had, pw, bs, zs⟩, fun _ => ⟨rfl, hX.pw, hX.bs, hX.zs, hX.hp, (by have h := hX.ro; rw [hro] at h ⊢; exact h), ⟨hX.inv.fresh, hX.inv.late, hX.inv.n0, hX.inv.n32, hX.inv.rows, hX.inv.row, hX.inv.lm⟩⟩⟩, rfl⟩

theorem read_remove {C : World → Prop} {b : Nat} {p : Ps} {X : RX} (hX : OKX p X) (hro : p.ro = none) (a0 a1 a2 a3 a4 a5 : Int) : RdOK C b .remove p X [a0, a1, a2, a3, a4, a5] := by
  obtain ⟨R, M, hpd, hbd, had, pw, bs, zs⟩ := X
  obtain rfl : R = p.R := hX.R
  by_cases hl : 1024 ≤ p.R.x.changes.length
  · exact rd_bad (e := 8) (by simp only [readP, hl, if_true]) (by decide) (form4F C b p.R (RX.m ⟨p.R, M, hpd, hbd, had, pw, bs, zs⟩) (fixX ⟨p.R, M, hpd, hbd, had, pw, bs, zs⟩ ++ dynX ⟨p.R, M, hpd, hbd, had, pw, bs, zs⟩) a0 a1 a2 a3 a4 a5 hl)
  · have e : readP .remove p [a0, a1, a2, a3, a4, a5] = ({ p with R := { p.R with x := { p.R.x with changes := p.R.x.changes ++ [⟨a0, false, ⟨a1, a2, a3, a4, a5⟩⟩] } } }, 0) := by simp only [readP, hl, if_false]
    unfold RdOK RdX
    rw [e]
    exact FnX.fam (form4O C b p.R (RX.m ⟨p.R, M, hpd, hbd, had, pw, bs, zs⟩) (fixX ⟨p.R, M, hpd, hbd, had, pw, bs, zs⟩ ++ dynX ⟨p.R, M, hpd, hbd, had, pw, bs, zs⟩) a0 a1 a2 a3 a4 a5 (by omega)) fun i => ⟨⟨⟨{ p.R with x := { p.R.x with changes := p.R.x.changes ++ [⟨a0, false, ⟨a1, a2, a3, a4, a5⟩⟩] } }, { M with hh := i }, hpd, hbd, had, pw, bs, zs⟩, fun _ => ⟨rfl, hX.pw, hX.bs, hX.zs, hX.hp, (by have h := hX.ro; rw [hro] at h ⊢; exact h), ⟨hX.inv.fresh, hX.inv.late, hX.inv.n0, hX.inv.n32, hX.inv.rows, hX.inv.row, hX.inv.lm⟩⟩⟩, rfl⟩

theorem read_weak {C : World → Prop} {b : Nat} {p : Ps} {X : RX} (hX : OKX p X) (hro : p.ro = none) (a0 a1 a2 a3 a4 : Int) : RdOK C b .weak p X [a0, a1, a2, a3, a4] := by
  obtain ⟨R, M, hpd, hbd, had, pw, bs, zs⟩ := X
  obtain rfl : R = p.R := hX.R
  by_cases hl : 1024 ≤ p.R.x.weak.length
  · exact rd_bad (e := 8) (by simp only [readP, hl, if_true]) (by decide) (rweakF C b p.R (RX.m ⟨p.R, M, hpd, hbd, had, pw, bs, zs⟩) (fixX ⟨p.R, M, hpd, hbd, had, pw, bs, zs⟩ ++ dynX ⟨p.R, M, hpd, hbd, had, pw, bs, zs⟩) a0 a1 a2 a3 a4 hl)
  · have e : readP .weak p [a0, a1, a2, a3, a4] = ({ p with R := { p.R with x := { p.R.x with weak := p.R.x.weak ++ [⟨a0, a1, a2, a3, a4⟩] } } }, 0) := by simp only [readP, hl, if_false]
    unfold RdOK RdX
    rw [e]
    exact FnX.fam (rweakO C b p.R (RX.m ⟨p.R, M, hpd, hbd, had, pw, bs, zs⟩) (fixX ⟨p.R, M, hpd, hbd, had, pw, bs, zs⟩ ++ dynX ⟨p.R, M, hpd, hbd, had, pw, bs, zs⟩) a0 a1 a2 a3 a4 (by omega)) fun i => ⟨⟨⟨{ p.R with x := { p.R.x with weak := p.R.x.weak ++ [⟨a0, a1, a2, a3, a4⟩] } }, { M with hw := i }, hpd, hbd, had, pw, bs, zs⟩, fun _ => ⟨rfl, hX.pw, hX.bs, hX.zs, hX.hp, (by have h := hX.ro; rw [hro] at h ⊢; exact h), ⟨hX.inv.fresh, hX.inv.late, hX.inv.n0, hX.inv.n32, hX.inv.rows, hX.inv.row, hX.inv.lm⟩⟩⟩, rfl⟩

theorem read_outage {C : World → Prop} {b : Nat} {p : Ps} {X : RX} (hX : OKX p X) (hro : p.ro = none) (a0 a1 a2 : Int) : RdOK C b .outage p X [a0, a1, a2] := by
  obtain ⟨R, M, hpd, hbd, had, pw, bs, zs⟩ := X
  obtain rfl : R = p.R := hX.R
  by_cases hl : 1024 ≤ p.R.x.outs.length
  · exact rd_bad (e := 8) (by simp only [readP, hl, if_true]) (by decide) (routageF C b p.R (RX.m ⟨p.R, M, hpd, hbd, had, pw, bs, zs⟩) (fixX ⟨p.R, M, hpd, hbd, had, pw, bs, zs⟩ ++ dynX ⟨p.R, M, hpd, hbd, had, pw, bs, zs⟩) a0 a1 a2 hl)
  · have e : readP .outage p [a0, a1, a2] = ({ p with R := { p.R with x := { p.R.x with outs := p.R.x.outs ++ [⟨a0, a1, a2⟩] } } }, 0) := by simp only [readP, hl, if_false]
    unfold RdOK RdX
    rw [e]
    exact FnX.fam (routageO C b p.R (RX.m ⟨p.R, M, hpd, hbd, had, pw, bs, zs⟩) (fixX ⟨p.R, M, hpd, hbd, had, pw, bs, zs⟩ ++ dynX ⟨p.R, M, hpd, hbd, had, pw, bs, zs⟩) a0 a1 a2 (by omega)) fun i => ⟨⟨⟨{ p.R with x := { p.R.x with outs := p.R.x.outs ++ [⟨a0, a1, a2⟩] } }, { M with ho := i }, hpd, hbd, had, pw, bs, zs⟩, fun _ => ⟨rfl, hX.pw, hX.bs, hX.zs, hX.hp, (by have h := hX.ro; rw [hro] at h ⊢; exact h), ⟨hX.inv.fresh, hX.inv.late, hX.inv.n0, hX.inv.n32, hX.inv.rows, hX.inv.row, hX.inv.lm⟩⟩⟩, rfl⟩

theorem read_schedule {C : World → Prop} {b : Nat} {p : Ps} {X : RX} (hX : OKX p X) (hro : p.ro = none) (a0 a1 : Int) : RdOK C b .schedule p X [a0, a1] := by
  obtain ⟨R, M, hpd, hbd, had, pw, bs, zs⟩ := X
  obtain rfl : R = p.R := hX.R
  have e : readP .schedule p [a0, a1] = ({ p with R := { p.R with x := { p.R.x with len := a0, offs := a1 }, sched := true } }, 0) := rfl
  unfold RdOK RdX
  rw [e]
  exact FnX.fam (rschedule C b p.R (RX.m ⟨p.R, M, hpd, hbd, had, pw, bs, zs⟩) (fixX ⟨p.R, M, hpd, hbd, had, pw, bs, zs⟩ ++ dynX ⟨p.R, M, hpd, hbd, had, pw, bs, zs⟩) a0 a1) fun _ => ⟨⟨⟨{ p.R with x := { p.R.x with len := a0, offs := a1 }, sched := true }, M, hpd, hbd, had, pw, bs, zs⟩, fun _ => ⟨rfl, hX.pw, hX.bs, hX.zs, hX.hp, (by have h := hX.ro; rw [hro] at h ⊢; exact h), ⟨hX.inv.fresh, hX.inv.late, hX.inv.n0, hX.inv.n32, hX.inv.rows, hX.inv.row, hX.inv.lm⟩⟩⟩, rfl⟩

theorem read_slots {C : World → Prop} {b : Nat} {p : Ps} {X : RX} (hX : OKX p X) (hro : p.ro = none) (a0 : Int) : RdOK C b .slots p X [a0] := by
  obtain ⟨R, M, hpd, hbd, had, pw, bs, zs⟩ := X
  obtain rfl : R = p.R := hX.R
  have e : readP .slots p [a0] = ({ p with R := { p.R with x := { p.R.x with slots := a0 }, done := true } }, 0) := rfl
  unfold RdOK RdX
  rw [e]
  exact FnX.fam (rslots C b p.R (RX.m ⟨p.R, M, hpd, hbd, had, pw, bs, zs⟩) (fixX ⟨p.R, M, hpd, hbd, had, pw, bs, zs⟩ ++ dynX ⟨p.R, M, hpd, hbd, had, pw, bs, zs⟩) a0) fun _ => ⟨⟨⟨{ p.R with x := { p.R.x with slots := a0 }, done := true }, M, hpd, hbd, had, pw, bs, zs⟩, fun _ => ⟨rfl, hX.pw, hX.bs, hX.zs, hX.hp, (by have h := hX.ro; rw [hro] at h ⊢; exact h), ⟨hX.inv.fresh, hX.inv.late, hX.inv.n0, hX.inv.n32, hX.inv.rows, hX.inv.row, hX.inv.lm⟩⟩⟩, rfl⟩

theorem read_before {C : World → Prop} {b : Nat} {p : Ps} {X : RX} (hX : OKX p X) (hro : p.ro = none) (hz : p.R.x.after = []) (a0 a1 a2 a3 a4 a5 : Int) : RdOK C b .before p X [a0, a1, a2, a3, a4, a5] := by
  obtain ⟨R, M, hpd, hbd, had, pw, bs, zs⟩ := X
  obtain rfl : R = p.R := hX.R
  have hlen : bs.length = p.R.x.before.length := by rw [← hX.bs, List.length_map, List.length_reverse]
  by_cases hl : 1024 ≤ p.R.x.before.length
  · exact rd_bad (e := 8) (by simp only [readP, hl, if_true]) (by decide) (form1F C b ⟨p.R, M, hpd, hbd, had, pw, bs, zs⟩ a0 a1 a2 a3 a4 a5 (by dsimp only; omega))
  · have e : readP .before p [a0, a1, a2, a3, a4, a5] = (⟨{ p.R with x := { p.R.x with before := p.R.x.before ++ [⟨⟨a0, a1, a2, a3, a4, a5⟩, []⟩] } }, some false⟩, 0) := by simp only [readP, hl, if_false]
    unfold RdOK RdX
    rw [e]
    exact FnX.fam (form1O C b ⟨p.R, M, hpd, hbd, had, pw, bs, zs⟩ a0 a1 a2 a3 a4 a5 (by dsimp only; omega)) fun i => ⟨⟨⟨{ p.R with x := { p.R.x with before := p.R.x.before ++ [⟨⟨a0, a1, a2, a3, a4, a5⟩, []⟩] } }, { M with rt := .pointer (some ⟨i.1, bs.length * 7 + 6, none⟩) }, hpd, ⟨some i.1, i.2⟩, had, pw, ⟨⟨a0, a1, a2, a3, a4, a5⟩, [], none, .slice none 0 0, []⟩ :: bs, zs⟩,
      fun _ => ⟨rfl, hX.pw, (by show ((_ :: bs).reverse.map Rz.rq) = _; rw [List.reverse_cons, List.map_append, hX.bs]; rfl), hX.zs, hX.hp, ⟨(by have h := hX.zs; rw [hz] at h; simpa using h), i.1, _, _, rfl, rfl, rfl⟩,
        ⟨hX.inv.fresh, hX.inv.late, hX.inv.n0, hX.inv.n32, hX.inv.rows, hX.inv.row, hX.inv.lm⟩⟩⟩, rfl⟩

theorem read_after {C : World → Prop} {b : Nat} {p : Ps} {X : RX} (hX : OKX p X) (hro : p.ro = none) (hrk : 4 ≤ p.R.rank) (hbg : p.R.begun = true) (a0 a1 a2 a3 a4 a5 : Int) : RdOK C b .after p X [a0, a1, a2, a3, a4, a5] := by
  obtain ⟨R, M, hpd, hbd, had, pw, bs, zs⟩ := X
  obtain rfl : R = p.R := hX.R
  have hlen : zs.length = p.R.x.after.length := by rw [← hX.zs, List.length_map, List.length_reverse]
  by_cases hl : 1024 ≤ p.R.x.after.length
  · exact rd_bad (e := 8) (by simp only [readP, hl, if_true]) (by decide) (form2F C b ⟨p.R, M, hpd, hbd, had, pw, bs, zs⟩ a0 a1 a2 a3 a4 a5 (by dsimp only; omega))
  · have e : readP .after p [a0, a1, a2, a3, a4, a5] = (⟨{ p.R with x := { p.R.x with after := p.R.x.after ++ [⟨⟨a0, a1, a2, a3, a4, a5⟩, []⟩] } }, some true⟩, 0) := by simp only [readP, hl, if_false]
    unfold RdOK RdX
    rw [e]
    exact FnX.fam (form2O C b ⟨p.R, M, hpd, hbd, had, pw, bs, zs⟩ a0 a1 a2 a3 a4 a5 (by dsimp only; omega)) fun i => ⟨⟨⟨{ p.R with x := { p.R.x with after := p.R.x.after ++ [⟨⟨a0, a1, a2, a3, a4, a5⟩, []⟩] } }, { M with rt := .pointer (some ⟨i.1, zs.length * 7 + 6, none⟩) }, hpd, hbd, ⟨some i.1, i.2⟩, pw, bs, ⟨⟨a0, a1, a2, a3, a4, a5⟩, [], none, .slice none 0 0, []⟩ :: zs⟩,
      fun _ => ⟨rfl, hX.pw, hX.bs, (by show ((_ :: zs).reverse.map Rz.rq) = _; rw [List.reverse_cons, List.map_append, hX.zs]; rfl), hX.hp, ⟨i.1, _, _, rfl, rfl, rfl⟩,
        ⟨(fun h => by rw [hbg] at h; cases h), fun _ => hrk, hX.inv.n0, hX.inv.n32, hX.inv.rows, hX.inv.row, hX.inv.lm⟩⟩⟩, rfl⟩

theorem read_network {C : World → Prop} {b : Nat} {p : Ps} {X : RX} (hX : OKX p X) (hro : p.ro = none) (hbg : p.R.begun = false) (a0 a1 a2 : Int) : RdOK C b .network p X [a0, a1, a2] := by
  obtain ⟨R, M, hpd, hbd, had, pw, bs, zs⟩ := X
  obtain rfl : R = p.R := hX.R
  obtain ⟨hn, haf, hrk⟩ := hX.inv.fresh hbg
  have hpw : pw = [] := by
    have h1 := hX.inv.rows
    rw [hn, ← hX.pw, List.length_map] at h1
    exact List.eq_nil_of_length_eq_zero h1
  by_cases h0 : a0 < 0
  · exact rd_bad (e := 2) (by simp only [readP, h0, true_or, if_true]) (by decide) (rnetA C b ⟨p.R, M, hpd, hbd, had, pw, bs, zs⟩ a0 a1 a2 h0)
  · by_cases h32 : 32 < a0
    · exact rd_bad (e := 2) (by simp only [readP, h32, or_true, if_true]) (by decide) (rnetB C b ⟨p.R, M, hpd, hbd, had, pw, bs, zs⟩ a0 a1 a2 (by omega) h32)
    · obtain ⟨n, rfl⟩ : ∃ n : Nat, a0 = n := ⟨a0.toNat, by omega⟩
      have e : readP .network p [(n : Int), a1, a2] = ({ p with R := { p.R with x := { p.R.x with net := { p.R.x.net with nodes := n, noise := a1, thr := a2, power := List.replicate n (List.replicate n 0) } }, begun := true } }, 0) := by simp only [readP, h0, h32, or_self, if_false, Int.toNat_natCast]
      unfold RdOK RdX
      rw [e]
      refine FnX.fam (rnetO C b ⟨p.R, M, hpd, hbd, had, pw, bs, zs⟩ n a1 a2 (by omega) hpw) fun Y => ⟨⟨⟨{ p.R with x := { p.R.x with net := { p.R.x.net with nodes := n, noise := a1, thr := a2, power := List.replicate n (List.replicate n 0) } }, begun := true }, M, Y.1.1, hbd, had, Y.1.2, bs, zs⟩, fun _ => ⟨rfl, ?_, hX.bs, hX.zs, Y.2.2.2, (by have h := hX.ro; rw [hro] at h ⊢; exact h),
        ⟨(fun h => by cases h), fun h => absurd haf h, Int.natCast_nonneg _, (by show (n : Int) ≤ 32; omega), ?_, ?_, hX.inv.lm⟩⟩⟩, rfl⟩
      · show Y.1.2.map Pz.row = List.replicate n (List.replicate n 0)
        rw [List.eq_replicate_iff]
        refine ⟨by rw [List.length_map]; exact Y.2.1, fun r hr => ?_⟩
        obtain ⟨z, hz, rfl⟩ := List.mem_map.1 hr
        exact Y.2.2.1 z hz
      · show (List.replicate n (List.replicate n (0 : Int))).length = ((n : Int)).toNat
        rw [List.length_replicate, Int.toNat_natCast]
      · intro r hr
        rw [List.eq_of_mem_replicate hr, List.length_replicate]
        show n = ((n : Int)).toNat
        rw [Int.toNat_natCast]
theorem read_power {C : World → Prop} {b : Nat} {p : Ps} {X : RX} (hX : OKX p X) (hro : p.ro = none) (a0 a1 a2 : Int) : RdOK C b .power p X [a0, a1, a2] := by
  obtain ⟨R, M, hpd, hbd, had, pw, bs, zs⟩ := X
  obtain rfl : R = p.R := hX.R
  cases h1 : nodeB a0 p.R.x.net.nodes
  · exact rd_bad (e := 2) (by simp only [readP, h1, Bool.false_and, Bool.false_eq_true, if_false]) (by decide) (rpowerA C b ⟨p.R, M, hpd, hbd, had, pw, bs, zs⟩ a0 a1 a2 h1)
  · cases h2 : nodeB a1 p.R.x.net.nodes
    · exact rd_bad (e := 2) (by simp only [readP, h1, h2, Bool.true_and, Bool.false_eq_true, if_false]) (by decide) (rpowerB C b ⟨p.R, M, hpd, hbd, had, pw, bs, zs⟩ a0 a1 a2 h1 h2)
    · obtain ⟨i, rfl⟩ : ∃ n : Nat, a0 = n := ⟨a0.toNat, by simp [nodeB] at h1; omega⟩
      obtain ⟨j, rfl⟩ : ∃ n : Nat, a1 = n := ⟨a1.toNat, by simp [nodeB] at h2; omega⟩
      have hi : i < pw.length := by
        have h3 := hX.inv.rows
        rw [← hX.pw, List.length_map] at h3
        simp [nodeB] at h1
        show i < (RX.pw ⟨p.R, M, hpd, hbd, had, pw, bs, zs⟩).length
        omega
      have hrow : pw[i].row ∈ p.R.x.net.power := by rw [← hX.pw]; exact List.mem_map_of_mem (List.getElem_mem hi)
      have hj : j < pw[i].row.length := by
        rw [hX.inv.row _ hrow]
        simp [nodeB] at h2
        omega
      obtain ⟨g, hg⟩ := hX.hp (by intro h; dsimp only at h; rw [h] at hi; simp at hi)
      have hgd : p.R.x.net.power.getD i [] = pw[i].row := by
        rw [← hX.pw, List.getD_eq_getElem?_getD, List.getElem?_map, List.getElem?_eq_getElem hi]
        rfl
      have e : readP .power p [(i : Int), (j : Int), a2] = ({ p with R := { p.R with x := { p.R.x with net := { p.R.x.net with power := p.R.x.net.power.set i (pw[i].row.set j a2) } } } }, 0) := by simp only [readP, h1, h2, Bool.true_and, if_true, Int.toNat_natCast, hgd]
      unfold RdOK RdX
      rw [e]
      refine FnX.fam (rpowerO C b ⟨p.R, M, hpd, hbd, had, pw, bs, zs⟩ hg i j a2 (List.getElem?_eq_getElem hi) hj h1 h2) fun _ => ⟨⟨⟨{ p.R with x := { p.R.x with net := { p.R.x.net with power := p.R.x.net.power.set i (pw[i].row.set j a2) } } }, M, hpd, hbd, had, pw.set i { pw[i] with row := pw[i].row.set j a2 }, bs, zs⟩, fun _ => ⟨rfl, ?_, hX.bs, hX.zs, fun _ => ⟨g, hg⟩, (by have h := hX.ro; rw [hro] at h ⊢; exact h),
        ⟨hX.inv.fresh, hX.inv.late, hX.inv.n0, hX.inv.n32, ?_, ?_, hX.inv.lm⟩⟩⟩, rfl⟩
      · show (pw.set i _).map Pz.row = p.R.x.net.power.set i _
        rw [List.map_set, hX.pw]
      · show (p.R.x.net.power.set i _).length = _
        rw [List.length_set]; exact hX.inv.rows
      · intro r hr
        rcases List.mem_or_eq_of_mem_set hr with hr | rfl
        · exact hX.inv.row r hr
        · rw [List.length_set]; exact hX.inv.row _ hrow
theorem read_ok {C : World → Prop} {b : Nat} {p : Ps} {X : RX} (hX : OKX p X) (hro : p.ro = none) (k : Kd) (hnet : k = .network → p.R.begun = false) (hbef : k = .before → p.R.x.after = []) (hrk : p.R.rank = k.rank) (hbg : k ≠ .network → p.R.begun = true) (l : List Int) (hl : l.length = k.count) : RdOK C b k p X l := by
  have hd : ∀ (m : Nat) (l : List Int), l.length = m + 1 → ∃ a l', l = a :: l' ∧ l'.length = m := fun m l h => by
    cases l with
    | nil => cases h
    | cons a l => exact ⟨a, l, rfl, by simpa using h⟩
  have h0 : ∀ l : List Int, l.length = 0 → l = [] := fun l h => List.eq_nil_of_length_eq_zero h
  cases k
  case network =>
    obtain ⟨a0, l0, rfl, e0⟩ := hd 2 l hl; obtain ⟨a1, l1, rfl, e1⟩ := hd 1 l0 e0; obtain ⟨a2, l2, rfl, e2⟩ := hd 0 l1 e1; obtain rfl := h0 l2 e2
    exact read_network hX hro (hnet rfl) a0 a1 a2
  case power =>
    obtain ⟨a0, l0, rfl, e0⟩ := hd 2 l hl; obtain ⟨a1, l1, rfl, e1⟩ := hd 1 l0 e0; obtain ⟨a2, l2, rfl, e2⟩ := hd 0 l1 e1; obtain rfl := h0 l2 e2
    exact read_power hX hro a0 a1 a2
  case link =>
    obtain ⟨a0, l0, rfl, e0⟩ := hd 3 l hl; obtain ⟨a1, l1, rfl, e1⟩ := hd 2 l0 e0; obtain ⟨a2, l2, rfl, e2⟩ := hd 1 l1 e1; obtain ⟨a3, l3, rfl, e3⟩ := hd 0 l2 e2; obtain rfl := h0 l3 e3
    exact read_link hX hro a0 a1 a2 a3
  case before =>
    obtain ⟨a0, l0, rfl, e0⟩ := hd 5 l hl; obtain ⟨a1, l1, rfl, e1⟩ := hd 4 l0 e0; obtain ⟨a2, l2, rfl, e2⟩ := hd 3 l1 e1; obtain ⟨a3, l3, rfl, e3⟩ := hd 2 l2 e2; obtain ⟨a4, l4, rfl, e4⟩ := hd 1 l3 e3; obtain ⟨a5, l5, rfl, e5⟩ := hd 0 l4 e4; obtain rfl := h0 l5 e5
    exact read_before hX hro (hbef rfl) a0 a1 a2 a3 a4 a5
  case after =>
    obtain ⟨a0, l0, rfl, e0⟩ := hd 5 l hl; obtain ⟨a1, l1, rfl, e1⟩ := hd 4 l0 e0; obtain ⟨a2, l2, rfl, e2⟩ := hd 3 l1 e1; obtain ⟨a3, l3, rfl, e3⟩ := hd 2 l2 e2; obtain ⟨a4, l4, rfl, e4⟩ := hd 1 l3 e3; obtain ⟨a5, l5, rfl, e5⟩ := hd 0 l4 e4; obtain rfl := h0 l5 e5
    exact read_after hX hro (by rw [hrk]; decide) (hbg (by decide)) a0 a1 a2 a3 a4 a5
  case schedule =>
    obtain ⟨a0, l0, rfl, e0⟩ := hd 1 l hl; obtain ⟨a1, l1, rfl, e1⟩ := hd 0 l0 e0; obtain rfl := h0 l1 e1
    exact read_schedule hX hro a0 a1
  case cell =>
    obtain ⟨a0, l0, rfl, e0⟩ := hd 4 l hl; obtain ⟨a1, l1, rfl, e1⟩ := hd 3 l0 e0; obtain ⟨a2, l2, rfl, e2⟩ := hd 2 l1 e1; obtain ⟨a3, l3, rfl, e3⟩ := hd 1 l2 e2; obtain ⟨a4, l4, rfl, e4⟩ := hd 0 l3 e3; obtain rfl := h0 l4 e4
    exact read_cell hX hro a0 a1 a2 a3 a4
  case add =>
    obtain ⟨a0, l0, rfl, e0⟩ := hd 5 l hl; obtain ⟨a1, l1, rfl, e1⟩ := hd 4 l0 e0; obtain ⟨a2, l2, rfl, e2⟩ := hd 3 l1 e1; obtain ⟨a3, l3, rfl, e3⟩ := hd 2 l2 e2; obtain ⟨a4, l4, rfl, e4⟩ := hd 1 l3 e3; obtain ⟨a5, l5, rfl, e5⟩ := hd 0 l4 e4; obtain rfl := h0 l5 e5
    exact read_add hX hro a0 a1 a2 a3 a4 a5
  case remove =>
    obtain ⟨a0, l0, rfl, e0⟩ := hd 5 l hl; obtain ⟨a1, l1, rfl, e1⟩ := hd 4 l0 e0; obtain ⟨a2, l2, rfl, e2⟩ := hd 3 l1 e1; obtain ⟨a3, l3, rfl, e3⟩ := hd 2 l2 e2; obtain ⟨a4, l4, rfl, e4⟩ := hd 1 l3 e3; obtain ⟨a5, l5, rfl, e5⟩ := hd 0 l4 e4; obtain rfl := h0 l5 e5
    exact read_remove hX hro a0 a1 a2 a3 a4 a5
  case weak =>
    obtain ⟨a0, l0, rfl, e0⟩ := hd 4 l hl; obtain ⟨a1, l1, rfl, e1⟩ := hd 3 l0 e0; obtain ⟨a2, l2, rfl, e2⟩ := hd 2 l1 e1; obtain ⟨a3, l3, rfl, e3⟩ := hd 1 l2 e2; obtain ⟨a4, l4, rfl, e4⟩ := hd 0 l3 e3; obtain rfl := h0 l4 e4
    exact read_weak hX hro a0 a1 a2 a3 a4
  case outage =>
    obtain ⟨a0, l0, rfl, e0⟩ := hd 2 l hl; obtain ⟨a1, l1, rfl, e1⟩ := hd 1 l0 e0; obtain ⟨a2, l2, rfl, e2⟩ := hd 0 l1 e1; obtain rfl := h0 l2 e2
    exact read_outage hX hro a0 a1 a2
  case slots =>
    obtain ⟨a0, l0, rfl, e0⟩ := hd 0 l hl; obtain rfl := h0 l0 e0
    exact read_slots hX hro a0
end Go.Proofs.YtcloigoajohppaaGreatDoor
/- The table of forms. -/
namespace Go.Proofs.YtcloigoajohppaaGreatDoor
open Go.RowKit
open Av
open Sc
set_option maxRecDepth 100000
set_option linter.unusedSimpArgs false

theorem run_form (r c : Int) (f : Nat) (w : World) : (Instr.build 134 #[(0, .int .i64 r), (1, .int .i64 c), (2, .func (.func f) #[] #[])]).run Tryz.prog w = .ok (.agg #[.int .i64 r, .int .i64 c, .func (.func f) #[] #[]]) w := by kernel_rfl
def Kd.enc (k : Kd) : DataW Unit := .lit (.int .i64 (match k with
  | .network => 0 | .power => 1 | .link => 2 | .before => 3 | .after => 4 | .schedule => 5 | .cell => 6 | .add => 7 | .remove => 8 | .weak => 9 | .outage => 10 | .slots => 11))
theorem Kd.enc_inj {k j : Kd} (h : k.enc = j.enc) : k = j := by
  cases k <;> cases j <;> first | rfl | (simp [Kd.enc] at h)
def Kd.val (k : Kd) : Value := .agg #[.int .i64 (k.rank : Int), .int .i64 (k.count : Int), .func (.func k.fid) #[] #[]]
theorem Kd.val_inj {k j : Kd} (h : k.val = j.val) : k = j := by
  cases k <;> cases j <;> first | rfl | (simp [Kd.val, Kd.rank, Kd.count, Kd.fid] at h)
open Classical in
noncomputable def formR : MReader := fun v => if h : ∃ k : Kd, v = k.val then some ((Classical.choose h).enc, []) else none
theorem formR_val (k : Kd) : formR k.val = some (k.enc, []) := by
  unfold formR
  have h : ∃ j : Kd, k.val = j.val := ⟨k, rfl⟩
  rw [dif_pos h, ← Kd.val_inj (Classical.choose_spec h)]
theorem formR_inv {v : Value} {d : DataW Unit} {ps : List MemPlace} (h : formR v = some (d, ps)) : ∃ k : Kd, v = k.val ∧ d = k.enc := by
  unfold formR at h
  split at h
  · rename_i hk
    cases h
    exact ⟨_, Classical.choose_spec hk, rfl⟩
  · cases h
open Classical in
noncomputable def gOf : List Kd → Value → Option (DataW Unit)
  | [], _ => none
  | k :: l, x => if x = .string k.word then some k.enc else gOf l x
theorem gOf_word (w : ByteArray) : ∀ l : List Kd, gOf l (.string w) = (l.find? fun k => decide (k.word = w)).map Kd.enc
  | [] => rfl
  | k :: l => by
    unfold gOf
    rw [List.find?_cons]
    by_cases h : k.word = w
    · subst h; simp
    · rw [if_neg (fun e => h (by cases e; rfl)), gOf_word w l]
      simp [h]
noncomputable abbrev knownE (kb : Nat) : Ext := mapE Tryz.prog 9 formR kb 12 (gOf Kd.all)
section
variable {P : Program} {n d : Nat} {σ : St} {o : Oper} {K : St → Prop} {kt : TypeId} {R : MReader}
theorem hand_insert {T e : TypeId} {m x v : Operand} {b nn : Nat} {G : Value → Option (DataW Unit)} {s : ByteArray} {cells : List Value} {kl : Lit} {dd : DataW Unit} {ps : List MemPlace} {A : Ext} (ho : o.op = .insert T m x v) (hd : o.dst = none) (hE : σ.ext = A.and (mapE P kt R b nn G))
    (hm : evo (Av.look σ.slot) m = some (.v (.map (some b)))) (hx : evo (Av.look σ.slot) x = some (.v (.string s))) (hv : evo (Av.look σ.slot) v = some (.agg (cells.map PV.v))) (hn : nn < maxLen) (Kk : Go.Maps.Keyed P kt) (ht : P.underlying T = some (.map kt e)) (hkey : keyOf P kt (.string s) = some kl) (hR : R (.agg cells.toArray) = some (dd, ps))
    (h : ∀ G', (∀ y, G' y = open Classical in if y = .string s then some dd else G y) → K { σ with ext := A.and (mapE P kt R b (nn + 1) G') }) : Hand P n σ o K := by
  refine hand_skip hd fun F γ a w _ hr => ?_
  have e1 := eval_raw hr hm
  have e2 := eval_raw hr hx
  have e3 := eval_aggv hr hv
  have hext := hr.exth
  rw [hE] at hext
  obtain ⟨w1, hrun, h1, hg⟩ := MapIs.put (P := P) hext.2.1 Kk ht hn hkey hR
  refine ⟨w1, _, by simp [execOp, ho, e1, e2, e3, hrun], ?_, h _ fun y => rfl⟩
  rw [hE]
  exact Turn.right (fun b' hb' => (hr.extf b' (by rw [hE]; exact hb'.elim (fun h => .inl (.inl h)) (fun h => .inr (.inl h)))).2.1) hext (Turn.grown hg rfl h1 (fun _ hx => hx) (fun _ hx => hx.elim))
theorem hand_form {x y : Int} {f : Nat} (ho : o.op = .build 134 #[(0, .const (.int .i64 x)), (1, .const (.int .i64 y)), (2, .func f)]) (hd : o.dst = some d) (hdn : d < n) (h : K (σ.put d (.agg [.v (.int .i64 x), .v (.int .i64 y), .v (.func (.func f) #[] #[])]))) : Hand Tryz.prog n σ o K := by
  refine hand_value hd hdn fun F γ a w _ hr => ⟨.agg [.v (.int .i64 x), .v (.int .i64 y), .v (.func (.func f) #[] #[])], .agg #[.int .i64 x, .int .i64 y, .func (.func f) #[] #[]], w, σ.ext, ?_, Turn.same hr.exth (fun _ h => h) (fun _ h => .inr h), ⟨[.int .i64 x, .int .i64 y, .func (.func f) #[] #[]], rfl, .cons (.v _ rfl) (.cons (.v _ rfl) (.cons (.v _ rfl) .nil))⟩, (fun k hk => by cases hk), h⟩
  have e1 : a.eval (.const (.int .i64 x)) = .int .i64 x := rfl
  have e2 : a.eval (.const (.int .i64 y)) = .int .i64 y := rfl
  have e3 : a.eval (.func f) = .func (.func f) #[] #[] := rfl
  simp only [execOp, ho, List.map_toArray, List.map_cons, List.map_nil, e1, e2, e3, Sem.run_bind, run_form, Result.andThen_ok, Sem.run_pure]
theorem hand_lookupS {T e : TypeId} {m x : Operand} {b nn : Nat} {G : Value → Option (DataW Unit)} {s : ByteArray} {kl : Lit} {zs : List Value} (ho : o.op = .lookup T m x true) (hd : o.dst = some d) (hdn : d < n)
    (hm : evo (Av.look σ.slot) m = some (.v (.map (some b)))) (hx : evo (Av.look σ.slot) x = some (.v (.string s))) (hE : ∀ w, σ.ext.holds w → MapIs w P kt R b nn G) (Kk : Go.Maps.Keyed P kt) (ht : P.underlying T = some (.map kt e)) (hz : ∀ w, (zeroValue e).run P w = .ok (.agg zs.toArray) w) (hz1 : ∀ z ∈ zs, z.oneCell' = true)
    (hkey : keyOf P kt (.string s) = some kl)
    (hno : G (.string s) = none → K (σ.put d (.tup [.g (zs.map .v), .c (.v (.bool false))])))
    (hyes : ∀ v dd ps, G (.string s) = some dd → R v = some (dd, ps) → ∃ cells : List Value, v = .agg cells.toArray ∧ (∀ z ∈ cells, z.oneCell' = true) ∧ K (σ.put d (.tup [.g (cells.map .v), .c (.v (.bool true))]))) : Hand P n σ o K := by
  refine hand_value hd hdn fun F γ a w _ hr => ?_
  have e1 := eval_raw hr hm
  have e2 := eval_raw hr hx
  have hsame : Turn σ.ext w w σ.ext := Turn.same hr.exth (fun _ h => h) (fun _ h => .inr h)
  have key : ∀ (cs : List Value) (t : Bool), (∀ z ∈ cs, z.oneCell' = true) → (Instr.lookup T (.map (some b)) (.string s) true).run P w = .ok (.tuple #[.agg cs.toArray, .bool t]) w → K (σ.put d (.tup [.g (cs.map .v), .c (.v (.bool t))])) →
      ∃ X V w1 E, (execOp a.eval o).run P w = .ok (.value V) w1 ∧ Turn σ.ext w w1 E ∧ RepA (rdr F.R0 F.w0.heap.size { σ with ext := E } γ w1) γ.bx X V ∧ (∀ k ∈ X.refs, (Av.look σ.box k).isSome) ∧ K (({ σ with ext := E } : St).put d X) := fun cs t hc hrun hK => by
    refine ⟨.tup [.g (cs.map .v), .c (.v (.bool t))], .tuple #[.agg cs.toArray, .bool t], w, σ.ext, by simp [execOp, ho, e1, e2, hrun], hsame, ⟨[.agg cs.toArray, .bool t], rfl, .cons (.g (rep_of_ints hc)) (.cons (.c (.v _ rfl)) .nil)⟩, (fun k hk => by cases hk), hK⟩
  rcases (hE w hr.exth).look true Kk ht (hz w) hkey with ⟨hG, hrun⟩ | ⟨v, dd, ps, hG, hR, hrun⟩
  · exact key zs false hz1 hrun (hno hG)
  · obtain ⟨cells, rfl, hc, hK⟩ := hyes v dd ps hG hR
    exact key cells true hc hrun hK
theorem fn_okT {ι : Type} {f : FuncId} {fn : Func} {c : Code} {res : ι → Value} {X : ι → Ext} (hf : P.funcs[f]? = some fn) (hname : (fn.name == "runtime.NumGoroutine") = false) (hb : fn.body = some c) (hn : fn.ntmps ≤ 1000000)
    (h : ∀ F : Fr, F.n = fn.ntmps → AWp P F c (fun x σ => (match x with | .exit _ => False | _ => True) ∧ ∃ i, retAll P σ fn.results.toList (fun cs => cs = [.c (.v (res i))]) ∧ σ.ext = Ext.nil.and (X i)) (startSt [])) (w : World) :
    Calls P f #[] w fun e w' => ∃ i, e = .returned (res i) ∧ Below w.heap.size w w' ∧ (X i).holds w' ∧ ∀ b, (X i).all b → w.heap.size ≤ b ∧ b < w'.heap.size := by
  refine calls_of_wp hf hb ?_
  let F : Fr := ⟨fun _ => none, w, fn.ntmps⟩
  have hrel : Rel F (startSt []) ⟨fun _ => 0, fun _ => none⟩ { tmps := #[] ++ Array.replicate (fn.ntmps - (#[] : Array Value).size) undef, defers := [] } w := by
    refine ⟨rfl, ?_, Below.refl _ _, (fun p v h => by cases h), fun t x hx => (by cases hx), fun k cs hk => (by cases hk), fun k k' hk => (by cases hk), fun L e sz hL => (by cases hL), fun L L' g hL => (by cases hL), fun L k g hL => (by cases hL), trivial, fun b hb => hb.elim (fun h => h.elim) (fun h => h.elim), hn, fun k hk => (by cases hk), trivial, trivial⟩
    show _ = fn.ntmps
    simp
  refine wp_mono (h F rfl _ _ w hrel) ?_
  rintro e a' w' ⟨x, σ', γ', rfl, ⟨hx, i, hret, hext⟩, hr'⟩
  obtain ⟨cs, vs, h1, h2, h3⟩ := retAll_ok hr' hret
  have hrun : (results fn a'.tmps).run P w' = .ok (if h : vs.toArray.size = 1 then vs.toArray[0] else .tuple vs.toArray) w' := by
    rw [results_eq, Array.mapM_eq_mapM_toList, Sem.run_bind, Sem.run_map, h3]
    rfl
  subst h1
  cases h2 with
  | cons hc ht =>
    cases ht
    cases hc with
    | c hp =>
      cases hp
      have hX := hr'.exth
      rw [hext] at hX
      have hpost : ∃ i', Ending.returned (res i) = .returned (res i') ∧ Below w.heap.size w w' ∧ (X i').holds w' ∧ ∀ b, (X i').all b → w.heap.size ≤ b ∧ b < w'.heap.size :=
        ⟨i, rfl, hr'.below, hX.2.1, fun b hb => by
          have := hr'.extf b (by rw [hext]; exact hb.elim (fun h => .inl (.inr h)) (fun h => .inr (.inr h)))
          exact ⟨this.1, this.2.1⟩⟩
      cases x with
      | normal => exact ⟨hr'.defers, _, hrun, hpost⟩
      | exit id => exact hx.elim
      | ret => exact ⟨hr'.defers, _, hrun, hpost⟩
end
end Go.Proofs.YtcloigoajohppaaGreatDoor
/- The table of forms is made. -/
namespace Go.Proofs.YtcloigoajohppaaGreatDoor
open Go.RowKit
open Av
open Sc
set_option maxRecDepth 100000
set_option linter.unusedSimpArgs false
attribute [local go_sem] Av.guardB Av.sop Av.hopx Av.hop Av.hopCall Av.hopF Av.hopB Av.evo Av.evos Av.avCells Av.loadK Av.bound Av.abin Av.aun Av.partsC Av.lfill Av.placesB Av.setAt Av.stl Av.takes Av.src Av.bxOf Av.ownOf Av.St.res Av.St.put Av.St.addBox Av.St.putOwn Av.delL Av.delS Av.look Av.lookL Av.storeSt Av.stealSt Av.St.setBox Av.keepL Av.hitB Av.snap Av.snaps Av.snapCaps Av.AV.lit Av.AV.refs Av.capRefs Av.PV.av Av.CV.av Av.startSt Av.steals Av.athen Av.ablock Av.appK Av.AllS Av.AllO Av.AllR Av.keepS Av.St.avAt Av.RetOK Av.retAll Av.retOne Av.intsOf Av.ptrB TypeDesc.isRow List.range_zero Option.some.injEq exists_eq_left' exists_eq_left exists_eq' exists_and_left exists_and_right exists_const true_and and_true and_self false_and and_false or_false false_or or_true true_or if_true if_false Bool.false_eq_true List.zipIdx_cons List.zipIdx_nil List.map_cons List.map_nil List.filter_cons List.filter_nil List.contains_cons List.contains_nil List.drop_succ_cons List.drop_zero List.take_succ_cons List.take_zero List.take_nil List.drop_nil List.length_cons List.length_nil List.cons_append List.nil_append List.append_nil List.getElem?_cons_zero List.getElem?_cons_succ List.getElem?_nil Option.bind_some Option.bind_none Option.map_some Option.map_none Option.isNone_none Option.isNone_some Option.isSome_some Option.isSome_none Bool.and_true Bool.true_and Bool.and_false Bool.false_and Bool.or_false Bool.false_or Bool.not_true Bool.not_false beq_true beq_false Bool.true_beq Bool.false_beq Loc.s.injEq Loc.b.injEq decide_true decide_false beq_self_eq_true Nat.zero_add Nat.add_zero List.getElem?_toArray List.toList_toArray List.size_toArray Value.oneCell' List.all_cons List.all_nil Value.int.injEq AV.v.injEq AV.sl.injEq AV.agg.injEq AV.ref.injEq AV.ept.injEq AV.tup.injEq Value.bool.injEq PV.v.injEq PV.sl.injEq List.isEmpty_nil List.isEmpty_cons forall_const not_true_eq_false not_false_eq_true true_implies false_implies Value.string.injEq List.length_map List.getElem?_map Int.toNat_natCast Int.natCast_nonneg List.length_append Value.cells implies_true TypeDesc.struct.injEq TypeDesc.slice.injEq TypeDesc.array.injEq List.getElem?_toArray Prod.mk.injEq and_assoc exists_false List.cons.injEq Operand.tmp.injEq ite_self AV.fnv.injEq AV.clo.injEq ne_eq eq_self Tryz.sz3 Tryz.zr3 Tryz.by3 Tryz.pl3 Tryz.is3 Tryz.underlying3 Tryz.sz4 Tryz.pl4 Tryz.is4 Tryz.underlying4 Tryz.sz9 Tryz.zr9 Tryz.underlying9 Tryz.underlying5 Tryz.underlying56 Tryz.sz24 Tryz.zr24 Tryz.by24 Tryz.underlying24 Tryz.underlying70 Tryz.underlying69 Tryz.is72 Tryz.underlying72 Tryz.zr74 Tryz.underlying74 Tryz.underlying117 Tryz.underlying182 Tryz.sz64 Tryz.zr64 Tryz.pl64 Tryz.is64 Tryz.underlying64 Tryz.sz67 Tryz.zr67 Tryz.underlying67 Tryz.sz26 Tryz.underlying26 Tryz.sz30 Tryz.underlying30 Tryz.sz126 Tryz.zr126 Tryz.underlying126 Tryz.sz79 Tryz.zr79 Tryz.pl79 Tryz.is79 Tryz.underlying79 Tryz.sz81 Tryz.zr81 Tryz.underlying81 Tryz.sz83 Tryz.zr83 Tryz.underlying83 Tryz.sz85 Tryz.zr85 Tryz.underlying85 Tryz.sz35 Tryz.zr35 Tryz.is35 Tryz.underlying35 Tryz.underlying88 Tryz.sz22 Tryz.underlying22 Tryz.sz23 Tryz.underlying23 Tryz.sz27 Tryz.underlying27 Tryz.sz28 Tryz.underlying28 Tryz.sz31 Tryz.underlying31 Tryz.sz32 Tryz.underlying32 Tryz.sz33 Tryz.underlying33 Tryz.sz65 Tryz.is65 Tryz.underlying65 Tryz.sz68 Tryz.zr68 Tryz.underlying68 Tryz.underlying46 Tryz.underlying38 Tryz.underlying94 Tryz.sz91 Tryz.underlying91 Tryz.underlying86 all_arr loc_ss arr_two arr_one ResultVar.tmp.injEq Bool.not_true Bool.not_false undef Tryz.sz92 Tryz.underlying92 Tryz.sz131 Tryz.underlying131 Tryz.sz134 Tryz.zr134 Tryz.underlying134 Tryz.underlying95 Tryz.underlying136 Fn.func.injEq Av.extSt Av.RetX List.zipIdx List.getD_cons_zero List.getD_cons_succ Sc.Fw.pv Sc.Rq.pv Sc.Ce.pv Sc.Ch.pv Sc.Wk.pv Sc.Og.pv Sc.Lk.pv Sc.Nt.pv Sc.Sn.pv Sc.rsR
theorem forms_any (w : World) : Calls Tryz.prog 35 #[] w fun e w' => ∃ kb, e = .returned (.map (some kb)) ∧ Below w.heap.size w w' ∧ (knownE kb).holds w' ∧ ∀ b, (knownE kb).all b → w.heap.size ≤ b ∧ b < w'.heap.size := by
 refine fn_okT (res := fun kb => .map (some kb)) (X := fun kb => knownE kb) Tryz.func35 (by kernel_rfl) rfl (by rw [Tryz.ntmps35]; decide) (fun F hF => ?_) w
 rw [Tryz.ntmps35] at hF
 rw [Tryz.results35]
 simp only [go_sem, simprocAttr, hF]
 repeat (first
  | ((first | refine hand_makeMap 9 formR rfl rfl (by decide) (fun kb => ?_) | refine hand_form rfl rfl (by decide) ?_ | refine hand_insert (e := 134) (A := Ext.nil) (s := Kd.word .network) (cells := [.int .i64 (Kd.rank .network : Int), .int .i64 (Kd.count .network : Int), .func (.func (Kd.fid .network)) #[] #[]]) rfl rfl rfl rfl rfl rfl (by decide) (Go.Maps.string_keyed Tryz.underlying9) Tryz.underlying95 (Go.WideMaps.keyOf_string_mk Tryz.underlying9 (by decide)) (formR_val .network) (fun G_network h_network => ?_) | refine hand_insert (e := 134) (A := Ext.nil) (s := Kd.word .power) (cells := [.int .i64 (Kd.rank .power : Int), .int .i64 (Kd.count .power : Int), .func (.func (Kd.fid .power)) #[] #[]]) rfl rfl rfl rfl rfl rfl (by decide) (Go.Maps.string_keyed Tryz.underlying9) Tryz.underlying95 (Go.WideMaps.keyOf_string_mk Tryz.underlying9 (by decide)) (formR_val .power) (fun G_power h_power => ?_) | refine hand_insert (e := 134) (A := Ext.nil) (s := Kd.word .link) (cells := [.int .i64 (Kd.rank .link : Int), .int .i64 (Kd.count .link : Int), .func (.func (Kd.fid .link)) #[] #[]]) rfl rfl rfl rfl rfl rfl (by decide) (Go.Maps.string_keyed Tryz.underlying9) Tryz.underlying95 (Go.WideMaps.keyOf_string_mk Tryz.underlying9 (by decide)) (formR_val .link) (fun G_link h_link => ?_) | refine hand_insert (e := 134) (A := Ext.nil) (s := Kd.word .before) (cells := [.int .i64 (Kd.rank .before : Int), .int .i64 (Kd.count .before : Int), .func (.func (Kd.fid .before)) #[] #[]]) rfl rfl rfl rfl rfl rfl (by decide) (Go.Maps.string_keyed Tryz.underlying9) Tryz.underlying95 (Go.WideMaps.keyOf_string_mk Tryz.underlying9 (by decide)) (formR_val .before) (fun G_before h_before => ?_) | refine hand_insert (e := 134) (A := Ext.nil) (s := Kd.word .after) (cells := [.int .i64 (Kd.rank .after : Int), .int .i64 (Kd.count .after : Int), .func (.func (Kd.fid .after)) #[] #[]]) rfl rfl rfl rfl rfl rfl (by decide) (Go.Maps.string_keyed Tryz.underlying9) Tryz.underlying95 (Go.WideMaps.keyOf_string_mk Tryz.underlying9 (by decide)) (formR_val .after) (fun G_after h_after => ?_) | refine hand_insert (e := 134) (A := Ext.nil) (s := Kd.word .schedule) (cells := [.int .i64 (Kd.rank .schedule : Int), .int .i64 (Kd.count .schedule : Int), .func (.func (Kd.fid .schedule)) #[] #[]]) rfl rfl rfl rfl rfl rfl (by decide) (Go.Maps.string_keyed Tryz.underlying9) Tryz.underlying95 (Go.WideMaps.keyOf_string_mk Tryz.underlying9 (by decide)) (formR_val .schedule) (fun G_schedule h_schedule => ?_) | refine hand_insert (e := 134) (A := Ext.nil) (s := Kd.word .cell) (cells := [.int .i64 (Kd.rank .cell : Int), .int .i64 (Kd.count .cell : Int), .func (.func (Kd.fid .cell)) #[] #[]]) rfl rfl rfl rfl rfl rfl (by decide) (Go.Maps.string_keyed Tryz.underlying9) Tryz.underlying95 (Go.WideMaps.keyOf_string_mk Tryz.underlying9 (by decide)) (formR_val .cell) (fun G_cell h_cell => ?_) | refine hand_insert (e := 134) (A := Ext.nil) (s := Kd.word .add) (cells := [.int .i64 (Kd.rank .add : Int), .int .i64 (Kd.count .add : Int), .func (.func (Kd.fid .add)) #[] #[]]) rfl rfl rfl rfl rfl rfl (by decide) (Go.Maps.string_keyed Tryz.underlying9) Tryz.underlying95 (Go.WideMaps.keyOf_string_mk Tryz.underlying9 (by decide)) (formR_val .add) (fun G_add h_add => ?_) | refine hand_insert (e := 134) (A := Ext.nil) (s := Kd.word .remove) (cells := [.int .i64 (Kd.rank .remove : Int), .int .i64 (Kd.count .remove : Int), .func (.func (Kd.fid .remove)) #[] #[]]) rfl rfl rfl rfl rfl rfl (by decide) (Go.Maps.string_keyed Tryz.underlying9) Tryz.underlying95 (Go.WideMaps.keyOf_string_mk Tryz.underlying9 (by decide)) (formR_val .remove) (fun G_remove h_remove => ?_) | refine hand_insert (e := 134) (A := Ext.nil) (s := Kd.word .weak) (cells := [.int .i64 (Kd.rank .weak : Int), .int .i64 (Kd.count .weak : Int), .func (.func (Kd.fid .weak)) #[] #[]]) rfl rfl rfl rfl rfl rfl (by decide) (Go.Maps.string_keyed Tryz.underlying9) Tryz.underlying95 (Go.WideMaps.keyOf_string_mk Tryz.underlying9 (by decide)) (formR_val .weak) (fun G_weak h_weak => ?_) | refine hand_insert (e := 134) (A := Ext.nil) (s := Kd.word .outage) (cells := [.int .i64 (Kd.rank .outage : Int), .int .i64 (Kd.count .outage : Int), .func (.func (Kd.fid .outage)) #[] #[]]) rfl rfl rfl rfl rfl rfl (by decide) (Go.Maps.string_keyed Tryz.underlying9) Tryz.underlying95 (Go.WideMaps.keyOf_string_mk Tryz.underlying9 (by decide)) (formR_val .outage) (fun G_outage h_outage => ?_) | refine hand_insert (e := 134) (A := Ext.nil) (s := Kd.word .slots) (cells := [.int .i64 (Kd.rank .slots : Int), .int .i64 (Kd.count .slots : Int), .func (.func (Kd.fid .slots)) #[] #[]]) rfl rfl rfl rfl rfl rfl (by decide) (Go.Maps.string_keyed Tryz.underlying9) Tryz.underlying95 (Go.WideMaps.keyOf_string_mk Tryz.underlying9 (by decide)) (formR_val .slots) (fun G_slots h_slots => ?_)); simp only [go_sem, simprocAttr, hF])
  | ((with_reducible first | refine sops_go ?_ | refine sops_end ?_ | refine awp_ret ?_); simp only [go_sem, simprocAttr, hF])
  | (with_reducible first | refine awp_seq_k fun _ _ => ?_ | refine awp_region [1000001, 1000002, 1000003, 1000004, 1000005, 1000006, 1000007, 1000008, 1000009, 1000010, 1000011, 1000012, 1000013] ?_)
  | go_step)
 have hG : G_slots = gOf Kd.all := funext fun y => by
  rw [h_slots, h_outage, h_weak, h_remove, h_add, h_cell, h_schedule, h_after, h_before, h_link, h_power, h_network]
  rfl
 exact ⟨kb, rfl, by rw [hG]⟩
end Go.Proofs.YtcloigoajohppaaGreatDoor
/- reader.line: what it needs. -/
namespace Go.Proofs.YtcloigoajohppaaGreatDoor
open Go.RowKit
open Av
open Sc
set_option maxRecDepth 100000
set_option linter.unusedSimpArgs false

theorem str_eq (a b : ByteArray) : (a.toList == b.toList) = decide (a = b) := by
  rw [Lib.toList_data, Lib.toList_data]
  rw [Bool.eq_iff_iff, beq_iff_eq, decide_eq_true_eq]
  constructor
  · intro h
    cases a; cases b
    simpa using h
  · intro h; rw [h]
theorem awp_postE {P : Program} {F : Fr} {c : Code} {Q Q' : AX → St → Prop} {σ : St} (h : AWp P F c Q' σ) (hq : ∀ x σ', Q' x σ' → ∃ E', EqE σ'.ext E' ∧ Q x { σ' with ext := E' }) : AWp P F c Q σ := fun γ a w hr =>
  wp_mono (h γ a w hr) fun e a' w' ⟨x, σ', γ', he, h1, h2⟩ => by
    obtain ⟨E', hE, h3⟩ := hq x σ' h1
    exact ⟨x, _, γ', he, h3, h2.eqE hE⟩
theorem retAll_ext {P : Program} {σ : St} (E : Ext) : ∀ (l : List ResultVar) (K : List CV → Prop), retAll P { σ with ext := E } l K = retAll P σ l K
  | [], _ => rfl
  | r :: l, K => by
    have h : (fun c => retAll P { σ with ext := E } l fun cs => K (c :: cs)) = fun c => retAll P σ l fun cs => K (c :: cs) := funext fun c => retAll_ext E l _
    show retOne P { σ with ext := E } (fun c => retAll P { σ with ext := E } l fun cs => K (c :: cs)) r = retOne P σ _ r
    rw [h]
    cases r <;> rfl
theorem fn_okK {P : Program} {ι : Type} {C : World → Prop} {f : FuncId} {fn : Func} {c : Code} {args : List AV} {K0 X : Ext} {X' : ι → Ext} {res : AV} (hf : P.funcs[f]? = some fn) (hname : (fn.name == "runtime.NumGoroutine") = false) (hb : fn.body = some c) (hn : args.length ≤ fn.ntmps ∧ fn.ntmps ≤ 1000000)
    (h : ∀ (F : Fr) (E : Ext), F.n = fn.ntmps → (∀ w0, E.laid w0 → C w0) → AWp P F c (fun x σ => (match x with | .exit _ => False | _ => True) ∧ RetX P fn.results σ res (fun i => (E.and K0).and (X' i))) (extSt (args.zipIdx.map fun x => (x.2, x.1)) ((E.and K0).and X))) : FnX P C f args (K0.and X) res (fun i => K0.and (X' i)) := by
  refine fn_okX hf hname hb hn fun F E hF hC => awp_eqE (E' := (E.and K0).and X) (EqE.assoc E K0 X).symm (awp_postE (h F E hF hC) ?_)
  rintro x σ' ⟨hx, hret, i, hext⟩
  exact ⟨E.and (K0.and (X' i)), by rw [hext]; exact EqE.assoc _ _ _, hx, by rw [retAll_ext]; exact hret, i, rfl⟩
theorem hand_ptrNil {P : Program} {n d : Nat} {σ : St} {o : Oper} {K : St → Prop} {T T' : TypeId} {x : Operand} {q : Option Addr} (ho : o.op = .binOp .eql T x (.const (.pointer none)) T') (hd : o.dst = some d) (hdn : d < n) (hT : P.underlying T = some (.pointer (P.pointee T))) (hx : evo (Av.look σ.slot) x = some (.v (.pointer q)))
    (h : K (σ.put d (.v (.bool q.isNone)))) : Hand P n σ o K := by
  refine hand_isNil ho hd hdn hT hx (by cases q; exact .inr rfl; exact .inl rfl) ?_
  have e : (!ptrB (.v (.pointer q))) = q.isNone := by cases q <;> rfl
  rw [e]
  exact h
theorem kd_rank {p : Ps} {k : Kd} (h : InvP p) (hc : comesB p.R k.rank = true) : InvP ⟨{ p.R with rank := k.rank }, none⟩ ∧ (k = .network → p.R.begun = false) ∧ (k = .before → p.R.x.after = []) ∧ (k ≠ .network → p.R.begun = true) := by
  have hz : ((k.rank : Int) == 0) = true ↔ k = .network := by cases k <;> simp [Kd.rank]
  by_cases hk : k = .network
  · subst hk
    have hb : p.R.begun = false := by
      simp only [comesB, hz.2 rfl, if_true, Bool.not_eq_true'] at hc
      exact hc
    obtain ⟨h1, h2, h3⟩ := h.fresh hb
    exact ⟨⟨fun _ => ⟨h1, h2, rfl⟩, fun h4 => absurd h2 h4, h.n0, h.n32, h.rows, h.row, h.lm⟩, fun _ => hb, fun h => (by cases h), fun h => absurd rfl h⟩
  · have hz' : ((k.rank : Int) == 0) = false := by
      cases hq : ((k.rank : Int) == 0) with
      | false => rfl
      | true => exact absurd (hz.1 hq) hk
    have h5 : (!p.R.begun || decide ((k.rank : Int) < p.R.rank) || (decide ((k.rank : Int) > 5) && !p.R.sched)) = false := by
      cases hq : (!p.R.begun || decide ((k.rank : Int) < p.R.rank) || (decide ((k.rank : Int) > 5) && !p.R.sched)) with
      | false => rfl
      | true => simp only [comesB, hz', hq, Bool.false_eq_true, if_false, if_true] at hc
    simp only [Bool.or_eq_false_iff, Bool.not_eq_false', decide_eq_false_iff_not] at h5
    obtain ⟨⟨hb, hr⟩, _⟩ := h5
    refine ⟨⟨fun h6 => (by rw [show p.R.begun = true from hb] at h6; cases h6), fun h4 => ?_, h.n0, h.n32, h.rows, h.row, h.lm⟩, fun h => absurd h hk, fun h6 => ?_, fun _ => hb⟩
    · have := h.late h4
      show (4 : Int) ≤ (k.rank : Int)
      omega
    · subst h6
      refine Classical.byContradiction fun h7 => ?_
      have := h.late h7
      simp [Kd.rank] at hr
      omega
abbrev RtX (p : Ps) (l : List Int) : Type := {X' : RX // (routeP p l).2 = 0 → OKX (routeP p l).1 X'}
theorem route_ok {C : World → Prop} {b : Nat} {p : Ps} {X : RX} (hX : OKX p X) (hro : p.ro ≠ none) (l : List Int) :
    FnX Tryz.prog C 79 [.v (wrP b), .sl 1 (l.map fun n => [ip n])] (exts (pcsX b X)) (iv (routeP p l).2) (fun i : RtX p l => exts (pcsX b i.1)) := by
  obtain ⟨R, M, hpd, hbd, had, pw, bs, zs⟩ := X
  obtain rfl : R = p.R := hX.R
  have bad : ∀ e : Int, (routeP p l).2 = e → e ≠ 0 → FnX Tryz.prog C 79 [.v (wrP b), .sl 1 (l.map fun n => [ip n])] (exts (pcsX b ⟨p.R, M, hpd, hbd, had, pw, bs, zs⟩)) (iv e) (fun _ : Unit => exts (pcsX b ⟨p.R, M, hpd, hbd, had, pw, bs, zs⟩)) →
      FnX Tryz.prog C 79 [.v (wrP b), .sl 1 (l.map fun n => [ip n])] (exts (pcsX b ⟨p.R, M, hpd, hbd, had, pw, bs, zs⟩)) (iv (routeP p l).2) (fun i : RtX p l => exts (pcsX b i.1)) := fun e he h0 h => by
    rw [show iv (routeP p l).2 = iv e by rw [he]]
    exact FnX.fam h fun _ => ⟨⟨_, fun h1 => absurd (he.symm.trans h1) h0⟩, rfl⟩
  have hr := hX.ro
  cases hp : p.ro with
  | none => exact absurd hp hro
  | some t =>
    rw [hp] at hr
    by_cases hl : 1024 < l.length
    · exact bad 8 (by unfold routeP; rw [hp]; cases t <;> simp only [hl, true_or, if_true]) (by decide) (rrouteL C b _ l hl)
    · cases t with
      | false =>
        obtain ⟨hzs, g, z, l0, hq, hz, hrt⟩ := hr
        have hbf : p.R.x.before = l0.reverse.map Rz.rq ++ [z.rq] := by
          rw [← hX.bs, show (RX.bs ⟨p.R, M, hpd, hbd, had, pw, bs, zs⟩) = z :: l0 from hz, List.reverse_cons, List.map_append]; rfl
        have hlast : lastRs p.R.x.before = z.rs := by rw [hbf, lastRs_end]; rfl
        by_cases h2 : 1024 ≤ z.rs.length
        · exact bad 8 (by unfold routeP; rw [hp]; simp only [hlast, h2, or_true, if_true]) (by decide) (rrouteBF C b _ hq hz hrt hzs l (by omega) h2)
        · have e : routeP p l = ({ p with R := { p.R with x := { p.R.x with before := addRt l p.R.x.before } } }, 0) := by unfold routeP; rw [hp]; simp only [hlast, hl, h2, or_self, if_false]
          unfold RtX
          rw [e]
          refine FnX.fam (rrouteBO C b ⟨p.R, M, hpd, hbd, had, pw, bs, zs⟩ hq hz hrt hzs l (by omega) (by omega)) fun i => ⟨⟨⟨{ p.R with x := { p.R.x with before := addRt l p.R.x.before } }, M, hpd, hbd, had, pw, { z with rs := z.rs ++ [l], q := i.1, V := i.2.1, xs := i.2.2 } :: l0, zs⟩, fun _ => ⟨rfl, hX.pw, ?_, hX.zs, hX.hp, ?_, ⟨hX.inv.fresh, hX.inv.late, hX.inv.n0, hX.inv.n32, hX.inv.rows, hX.inv.row, hX.inv.lm⟩⟩⟩, rfl⟩
          · show ((_ :: l0).reverse.map Rz.rq) = addRt l p.R.x.before
            rw [hbf, addRt_end, List.reverse_cons, List.map_append]; rfl
          · show RoX p.ro _
            rw [hp]
            exact ⟨hzs, g, _, l0, hq, rfl, hrt⟩
      | true =>
        obtain ⟨g, z, l0, hq, hz, hrt⟩ := hr
        have hbf : p.R.x.after = l0.reverse.map Rz.rq ++ [z.rq] := by
          rw [← hX.zs, show (RX.zs ⟨p.R, M, hpd, hbd, had, pw, bs, zs⟩) = z :: l0 from hz, List.reverse_cons, List.map_append]; rfl
        have hlast : lastRs p.R.x.after = z.rs := by rw [hbf, lastRs_end]; rfl
        by_cases h2 : 1024 ≤ z.rs.length
        · exact bad 8 (by unfold routeP; rw [hp]; simp only [hlast, h2, or_true, if_true]) (by decide) (rrouteAF C b _ hq hz hrt l (by omega) h2)
        · have e : routeP p l = ({ p with R := { p.R with x := { p.R.x with after := addRt l p.R.x.after } } }, 0) := by unfold routeP; rw [hp]; simp only [hlast, hl, h2, or_self, if_false]
          unfold RtX
          rw [e]
          have hne : addRt l p.R.x.after ≠ [] := by rw [hbf, addRt_end]; simp
          have hne2 : p.R.x.after ≠ [] := by rw [hbf]; simp
          refine FnX.fam (rrouteAO C b ⟨p.R, M, hpd, hbd, had, pw, bs, zs⟩ hq hz hrt l (by omega) (by omega)) fun i => ⟨⟨⟨{ p.R with x := { p.R.x with after := addRt l p.R.x.after } }, M, hpd, hbd, had, pw, bs, { z with rs := z.rs ++ [l], q := i.1, V := i.2.1, xs := i.2.2 } :: l0⟩, fun _ => ⟨rfl, hX.pw, hX.bs, ?_, hX.hp, ?_, ⟨fun h => absurd (hX.inv.fresh h).2.1 hne2, fun _ => hX.inv.late hne2, hX.inv.n0, hX.inv.n32, hX.inv.rows, hX.inv.row, hX.inv.lm⟩⟩⟩, rfl⟩
          · show ((_ :: l0).reverse.map Rz.rq) = addRt l p.R.x.after
            rw [hbf, addRt_end, List.reverse_cons, List.map_append]; rfl
          · show RoX p.ro _
            rw [hp]
            exact ⟨g, _, l0, hq, rfl, hrt⟩
end Go.Proofs.YtcloigoajohppaaGreatDoor
/- scenario.Line. -/
namespace Go.Proofs.YtcloigoajohppaaGreatDoor
open Go.RowKit
open Av
open Sc
set_option maxRecDepth 100000
set_option linter.unusedSimpArgs false
attribute [local go_sem] Av.guardB Av.sop Av.hopx Av.hop Av.hopCall Av.hopF Av.hopB Av.evo Av.evos Av.avCells Av.loadK Av.bound Av.abin Av.aun Av.partsC Av.lfill Av.placesB Av.setAt Av.stl Av.takes Av.src Av.bxOf Av.ownOf Av.St.res Av.St.put Av.St.addBox Av.St.putOwn Av.delL Av.delS Av.look Av.lookL Av.storeSt Av.stealSt Av.St.setBox Av.keepL Av.hitB Av.snap Av.snaps Av.snapCaps Av.AV.lit Av.AV.refs Av.capRefs Av.PV.av Av.CV.av Av.startSt Av.steals Av.athen Av.ablock Av.appK Av.AllS Av.AllO Av.AllR Av.keepS Av.St.avAt Av.RetOK Av.retAll Av.retOne Av.intsOf Av.ptrB TypeDesc.isRow List.range_zero Option.some.injEq exists_eq_left' exists_eq_left exists_eq' exists_and_left exists_and_right exists_const true_and and_true and_self false_and and_false or_false false_or or_true true_or if_true if_false Bool.false_eq_true List.zipIdx_cons List.zipIdx_nil List.map_cons List.map_nil List.filter_cons List.filter_nil List.contains_cons List.contains_nil List.drop_succ_cons List.drop_zero List.take_succ_cons List.take_zero List.take_nil List.drop_nil List.length_cons List.length_nil List.cons_append List.nil_append List.append_nil List.getElem?_cons_zero List.getElem?_cons_succ List.getElem?_nil Option.bind_some Option.bind_none Option.map_some Option.map_none Option.isNone_none Option.isNone_some Option.isSome_some Option.isSome_none Bool.and_true Bool.true_and Bool.and_false Bool.false_and Bool.or_false Bool.false_or Bool.not_true Bool.not_false beq_true beq_false Bool.true_beq Bool.false_beq Loc.s.injEq Loc.b.injEq decide_true decide_false beq_self_eq_true Nat.zero_add Nat.add_zero List.getElem?_toArray List.toList_toArray List.size_toArray Value.oneCell' List.all_cons List.all_nil Value.int.injEq AV.v.injEq AV.sl.injEq AV.agg.injEq AV.ref.injEq AV.ept.injEq AV.tup.injEq Value.bool.injEq PV.v.injEq PV.sl.injEq List.isEmpty_nil List.isEmpty_cons forall_const not_true_eq_false not_false_eq_true true_implies false_implies Value.string.injEq List.length_map List.getElem?_map Int.toNat_natCast Int.natCast_nonneg List.length_append Value.cells implies_true TypeDesc.struct.injEq TypeDesc.slice.injEq TypeDesc.array.injEq List.getElem?_toArray Prod.mk.injEq and_assoc exists_false List.cons.injEq Operand.tmp.injEq ite_self AV.fnv.injEq AV.clo.injEq ne_eq eq_self Tryz.sz3 Tryz.zr3 Tryz.by3 Tryz.pl3 Tryz.is3 Tryz.underlying3 Tryz.sz4 Tryz.pl4 Tryz.is4 Tryz.underlying4 Tryz.sz9 Tryz.zr9 Tryz.underlying9 Tryz.underlying5 Tryz.underlying56 Tryz.sz24 Tryz.zr24 Tryz.by24 Tryz.underlying24 Tryz.underlying70 Tryz.underlying69 Tryz.is72 Tryz.underlying72 Tryz.zr74 Tryz.underlying74 Tryz.underlying117 Tryz.underlying182 Tryz.sz64 Tryz.zr64 Tryz.pl64 Tryz.is64 Tryz.underlying64 Tryz.sz67 Tryz.zr67 Tryz.underlying67 Tryz.sz26 Tryz.underlying26 Tryz.sz30 Tryz.underlying30 Tryz.sz126 Tryz.zr126 Tryz.underlying126 Tryz.sz79 Tryz.zr79 Tryz.pl79 Tryz.is79 Tryz.underlying79 Tryz.sz81 Tryz.zr81 Tryz.underlying81 Tryz.sz83 Tryz.zr83 Tryz.underlying83 Tryz.sz85 Tryz.zr85 Tryz.underlying85 Tryz.sz35 Tryz.zr35 Tryz.is35 Tryz.underlying35 Tryz.underlying88 Tryz.sz22 Tryz.underlying22 Tryz.sz23 Tryz.underlying23 Tryz.sz27 Tryz.underlying27 Tryz.sz28 Tryz.underlying28 Tryz.sz31 Tryz.underlying31 Tryz.sz32 Tryz.underlying32 Tryz.sz33 Tryz.underlying33 Tryz.sz65 Tryz.is65 Tryz.underlying65 Tryz.sz68 Tryz.zr68 Tryz.underlying68 Tryz.underlying46 Tryz.underlying38 Tryz.underlying86 all_arr loc_ss arr_two arr_one ResultVar.tmp.injEq Bool.not_true Bool.not_false undef Av.startStC
def wordsL (s : ByteArray) : List ByteArray := Lib.splitB ⟨#[32]⟩ 0 (Lib.countB s ⟨#[32]⟩) s
def strR (l : List ByteArray) : List (List PV) := l.map fun p => [PV.v (.string p)]
theorem wordsL_len (s : ByteArray) : (wordsL s).length = Lib.countB s ⟨#[32]⟩ + 1 := Lib.splitB_all _ (by decide) _ _ _ rfl
theorem split_okC (s : ByteArray) (hs : s.size < 4294967281) : FnOKC Tryz.prog LC 53 [.v (.string s), .v (.string ⟨#[32]⟩)] ⟨.sl 1 (strR (wordsL s)), none⟩ := by
 refine ⟨⟨Tryz.f53, _, Tryz.func53, by kernel_rfl, rfl⟩, fun w R hC hR us hus => ?_⟩
 cases hus with | cons h0 _ hus =>
 cases hus with | cons h1 _ hus =>
 cases hus
 rw [h0, h1]
 obtain ⟨-, -, m, hm⟩ := hC
 refine (Any.strings_Split { Tryz.lays146 with } Tryz.lays146.i9 s ⟨#[32]⟩ m w hs hm (by decide)).mono ?_
 rintro e w' ⟨rfl, rfl⟩
 have hb : Below w.heap.size w (w.alloc (.cells ((Lib.splitB ⟨#[32]⟩ 0 (Lib.countB s ⟨#[32]⟩) s).map Value.string).toArray 9)) := (Below.refl _ w).alloc (Nat.le_refl _) _
 refine ⟨_, rfl, hb, rfl, ?_⟩
 have hlen := wordsL_len s
 have hl2 : (strR (wordsL s)).length = Lib.countB s ⟨#[32]⟩ + 1 := by unfold strR; rw [List.length_map]; exact hlen
 have hk : ∀ (k : Nat) (row : List PV), (strR (wordsL s))[k]? = some row → ∃ p, (wordsL s)[k]? = some p ∧ row = [PV.v (.string p)] := fun k row h => by
  unfold strR at h
  rw [List.getElem?_map] at h
  cases hq : (wordsL s)[k]? with
  | none => rw [hq] at h; cases h
  | some p => rw [hq] at h; cases h; exact ⟨p, rfl, rfl⟩
 have hr := RepP.sl (R := fresh R w (w.alloc (.cells ((Lib.splitB ⟨#[32]⟩ 0 (Lib.countB s ⟨#[32]⟩) s).map Value.string).toArray 9)) none 0) 1 (strR (wordsL s)) (some ⟨w.heap.size, 0, none⟩) (Lib.countB s ⟨#[32]⟩ + 1) (fun k _ => .string ((wordsL s).getD k ByteArray.empty)) (fun k row h => by
  obtain ⟨p, _, rfl⟩ := hk k row h
  rfl) (.inr ⟨w.heap.size, 0, rfl, fun k row j p h1 h2 => by
  obtain ⟨q, hq, rfl⟩ := hk k row h1
  have hj : j = 0 := by
   cases j with
   | zero => rfl
   | succ j => simp at h2
  subst hj
  unfold fresh
  rw [if_neg (by show ¬ (w.heap.size < w.heap.size); omega)]
  rw [if_neg (by rintro ⟨h, _⟩; cases h)]
  rw [cell_of_row _ _ _ _ _ (0, 0) (heap_alloc_new w _)]
  show ((wordsL s).map Value.string).toArray[0 + k * 1 + 0]? = _
  rw [List.getElem?_toArray, List.getElem?_map, show 0 + k * 1 + 0 = k by omega, hq, List.getD_eq_getElem?_getD, hq]
  rfl⟩) (fun k row j p h1 h2 => by
  obtain ⟨q, hq, rfl⟩ := hk k row h1
  cases j with
  | zero =>
   simp at h2
   subst h2
   rw [List.getD_eq_getElem?_getD, hq]
   exact .v _ rfl
  | succ j => simp at h2) (by rw [hl2]; exact Nat.le_refl _)
 rw [hl2] at hr
 exact hr
theorem trim_ok (s : ByteArray) (hs : s.size ≤ 9223372036854775807) : FnOK Tryz.prog 54 [.v (.string s), .v (.string ⟨#[97, 98, 99, 100, 101, 102, 103, 104, 105, 106, 107, 108, 109, 110, 111, 112, 113, 114, 115, 116, 117, 118, 119, 120, 121, 122]⟩)] ⟨.v (.string ⟨(Lib.trimS s.data.toList (⟨#[97, 98, 99, 100, 101, 102, 103, 104, 105, 106, 107, 108, 109, 110, 111, 112, 113, 114, 115, 116, 117, 118, 119, 120, 121, 122]⟩ : ByteArray).data.toList).toArray⟩), none⟩ := by
 refine ⟨⟨Tryz.f54, _, Tryz.func54, by kernel_rfl, rfl⟩, fun w R hR us hus => ?_⟩
 cases hus with | cons h0 _ hus =>
 cases hus with | cons h1 _ hus =>
 cases hus
 rw [h0, h1]
 refine (Any.strings_Trim_laid Tryz.lays160 (by kernel_rfl) s ⟨#[97, 98, 99, 100, 101, 102, 103, 104, 105, 106, 107, 108, 109, 110, 111, 112, 113, 114, 115, 116, 117, 118, 119, 120, 121, 122]⟩ w hs (by decide) (ascii_of_all (by decide))).mono ?_
 rintro e w' ⟨rfl, hb⟩
 exact ⟨_, rfl, hb, rfl, rfl⟩
def badW (w : ByteArray) : Bool := (w.toList == (⟨#[]⟩ : ByteArray).toList) || !((⟨(Lib.trimS w.data.toList (⟨#[97, 98, 99, 100, 101, 102, 103, 104, 105, 106, 107, 108, 109, 110, 111, 112, 113, 114, 115, 116, 117, 118, 119, 120, 121, 122]⟩ : ByteArray).data.toList).toArray⟩ : ByteArray).toList == (⟨#[]⟩ : ByteArray).toList)
def lineO (s : ByteArray) : Option (ByteArray × List Int) :=
 if badW ((wordsL s).headD ⟨#[]⟩) = true then none else if (wordsL s).tail.all (fun p => (numR p).2) = true then some ((wordsL s).headD ⟨#[]⟩, (wordsL s).tail.map fun p => (numR p).1) else none
def lineV : Option (ByteArray × List Int) → AV
 | none => .tup [.c (.v (.string ⟨#[]⟩)), .c (.v (.slice none 0 0)), .c (.v (.bool false))]
 | some (w, l) => .tup [.c (.v (.string w)), .c (.sl 1 (l.map fun n => [ip n])), .c (.v (.bool true))]
theorem part_size {s p : ByteArray} (h : p ∈ wordsL s) : p.size ≤ s.size := by
 have key : ∀ (k : Nat) (s p : ByteArray), p ∈ Lib.splitB ⟨#[32]⟩ 0 k s → p.size ≤ s.size := fun k => by
  induction k with
  | zero => intro s p h; rw [Lib.splitB_zero] at h; simp at h; subst h; exact Nat.le_refl _
  | succ k ih =>
   intro s p h
   unfold Lib.splitB at h
   split at h
   · simp at h; subst h; exact Nat.le_refl _
   · rcases List.mem_cons.1 h with rfl | h
     · rw [ByteArray.size_extract]; omega
     · have := ih _ p h
       rw [ByteArray.size_extract] at this
       omega
 exact key _ s p h

theorem line_okC (s : ByteArray) (hs : s.size ≤ 100000) : FnOKC Tryz.prog LC 23 [.v (.string s)] ⟨lineV (lineO s), none⟩ := by
 obtain ⟨w0, ws, hws⟩ : ∃ w0 ws, wordsL s = w0 :: ws := by
  have := wordsL_len s
  cases h : wordsL s with
  | nil => rw [h] at this; simp at this
  | cons a l => exact ⟨a, l, rfl⟩
 have hlo : lineO s = if badW w0 = true then none else if ws.all (fun p => (numR p).2) = true then some (w0, ws.map fun p => (numR p).1) else none := by
  unfold lineO
  rw [hws]
  rfl
 have hps : ∀ p ∈ wordsL s, p.size ≤ 4294967281 := fun p hp => by have := part_size hp; omega
 have hsr : strR (wordsL s) = [PV.v (.string w0)] :: strR ws := by rw [hws]; rfl
 have hp0 := hps w0 (by rw [hws]; exact List.mem_cons_self)
 have hlen : ws.length ≤ s.size := by
  have h1 := wordsL_len s
  have h2 := Lib.countB_le ⟨#[32]⟩ (by decide) s.size s (Nat.le_refl _)
  rw [hws] at h1
  simp only [List.length_cons] at h1
  omega
 refine fn_okC (C := LC) Tryz.func23 (by kernel_rfl) rfl (by rw [Tryz.ntmps23]; exact of_decide_eq_true rfl) (fun F hF => ?_)
 rw [Tryz.ntmps23] at hF
 rw [Tryz.results23]
 repeat (first
  | ((with_reducible first | refine sops_go ?_ | refine sops_end ?_); simp only [go_sem, simprocAttr, hF])
  | (with_reducible first | refine awp_seq_k fun _ _ => ?_ | refine awp_region [38, 1000013, 1000033] ?_)
  | go_step)
 refine hand_fnL LC.below rfl rfl (by decide) (fun _ h => h) rfl rfl (split_okC s (by omega)) rfl ?_
 simp only [go_sem, simprocAttr, hF, hsr]
 repeat (first
  | ((with_reducible first | refine sops_go ?_ | refine sops_end ?_); simp only [go_sem, simprocAttr, hF, hsr])
  | (with_reducible first | refine awp_seq_k fun _ _ => ?_ | refine awp_region [38, 1000013, 1000033] ?_)
  | go_step)
 cases hc0 : (w0.toList == (⟨#[]⟩ : ByteArray).toList) with
 | true =>
  have hbw : badW w0 = true := by unfold badW; rw [hc0]; rfl
  try simp only [go_sem, simprocAttr, hF, hc0]
  repeat (first
   | ((with_reducible first | refine sops_go ?_ | refine sops_end ?_ | refine awp_if ?_ | refine awp_ret ?_); simp only [go_sem, simprocAttr, hF, hc0])
   | (with_reducible first | refine awp_seq_k fun _ _ => ?_ | refine awp_region [38, 1000013, 1000033] ?_)
   | go_step)
  rw [hlo, if_pos hbw]
  rfl
 | false =>
  have ht := trim_ok w0 (by omega)
  obtain ⟨tw, htw⟩ : ∃ tw : ByteArray, ⟨(Lib.trimS w0.data.toList (⟨#[97, 98, 99, 100, 101, 102, 103, 104, 105, 106, 107, 108, 109, 110, 111, 112, 113, 114, 115, 116, 117, 118, 119, 120, 121, 122]⟩ : ByteArray).data.toList).toArray⟩ = tw := ⟨_, rfl⟩
  rw [htw] at ht
  have hbe : badW w0 = !(tw.toList == (⟨#[]⟩ : ByteArray).toList) := by unfold badW; rw [hc0, htw]; rfl
  try simp only [go_sem, simprocAttr, hF, hc0]
  repeat ((with_reducible refine sops_go ?_; simp only [go_sem, simprocAttr, hF, hc0]))
  refine ⟨_, ht, ?_⟩
  simp only [go_sem, simprocAttr, hF, hc0]
  repeat (first
   | ((with_reducible first | refine sops_go ?_ | refine sops_end ?_ | refine awp_if ?_); simp only [go_sem, simprocAttr, hF, hc0])
   | go_step)
  cases hc1 : (tw.toList == (⟨#[]⟩ : ByteArray).toList) with
  | false =>
   have hbw : badW w0 = true := by rw [hbe, hc1]; rfl
   try simp only [go_sem, simprocAttr, hF, hc1]
   repeat (first
    | ((with_reducible first | refine sops_go ?_ | refine sops_end ?_ | refine awp_ret ?_); simp only [go_sem, simprocAttr, hF, hc1])
    | (with_reducible first | refine awp_seq_k fun _ _ => ?_ | refine awp_region [38, 1000013, 1000033] ?_)
    | go_step)
   rw [hlo, if_pos hbw]
   rfl
  | true =>
   have hbw : badW w0 = false := by rw [hbe, hc1]; rfl
   rw [hbw, if_neg (by decide)] at hlo
   have hdr : (List.map (fun p => [PV.v (Value.string p)]) (wordsL s)).drop 1 = List.map (fun p => [PV.v (Value.string p)]) ws := by rw [hws]; rfl
   have hone : (1 ≤ ws.length + 1) = True := eq_true (by omega)
   try simp only [go_sem, simprocAttr, hF, hc1, List.length_map, strR, List.take_length, List.take_succ_cons, List.drop_one, List.tail_cons, Nat.zero_le, Nat.le_refl, Nat.le_add_left, hone]
   repeat (first
    | ((with_reducible first | refine sops_go ?_ | refine sops_end ?_ | refine awp_skip ?_); simp only [go_sem, simprocAttr, hF, hc1, List.length_map, strR, List.take_length, List.take_succ_cons, List.drop_one, List.tail_cons, Nat.zero_le, Nat.le_refl, Nat.le_add_left, hone])
    | with_reducible (first | refine awp_seq_k fun _ _ => ?_ | refine awp_region [38, 1000013, 1000033] ?_ | refine awp_block ?_)
    | go_step)
   refine awp_nil 7 1 3 (by rw [hF]; decide) rfl ?_
   simp only [go_sem, simprocAttr, hF]
   refine awp_loop_by (ι := {k : Nat // k ≤ ws.length ∧ (ws.take k).all (fun p => (numR p).2) = true}) (fun k σ => ⟨(27, iv (k.1 : Int)) :: (7, .sl 1 ((ws.take k.1).map fun p => [ip (numR p).1])) :: keepS [6, 25, 26] σ.slot, [], [(.s 7, (3, 1))], σ.ext⟩) (fun k => ws.length - k.1) ⟨0, Nat.zero_le _, rfl⟩ (sub_mk ?_) (fun R hR k => ?_)
   · simp only [go_sem, simprocAttr, hF]
     repeat' (first | rfl | refine ⟨?_, ?_⟩)
   obtain ⟨k, hk, hT⟩ := k
   dsimp only
   simp only [go_sem, simprocAttr, hF]
   by_cases hlt : k < ws.length
   case neg =>
    have hd : decide ((k : Int) < (ws.length : Int)) = false := decide_eq_false (by omega)
    obtain rfl : k = ws.length := by omega
    rw [List.take_length] at hT
    rw [if_pos hT] at hlo
    repeat (first
     | ((with_reducible first | refine sops_go ?_ | refine sops_end ?_ | refine awp_if ?_ | refine awp_ret ?_ | refine awp_exit ?_); simp only [go_sem, simprocAttr, hF, hd, List.take_length])
     | (with_reducible first | refine awp_seq_k fun _ _ => ?_ | refine awp_region [38, 1000013, 1000033] ?_)
     | go_step)
    rw [hlo]
    simp only [lineV, List.map_map]
    first | rfl | exact .inr rfl
   obtain ⟨p, hdk⟩ := get_of_lt hlt
   have hd : decide ((k : Int) < (ws.length : Int)) = true := decide_eq_true (by omega)
   have hw : IntKind.i64.wrap ((k : Int) + 1) = ((k + 1 : Nat) : Int) := by rw [IntKind.wrap_i64]; omega
   have hpm : p ∈ ws := List.mem_of_getElem? hdk
   have hpz := hps p (by rw [hws]; exact List.mem_cons_of_mem _ hpm)
   have hlk : (ws.take k).length = k := by rw [List.length_take]; omega
   have hnl : (k ≤ 99999999) = True := eq_true (by omega)
   have hms : (ws.take (k + 1)).map (fun p => [ip (numR p).1]) = (ws.take k).map (fun p => [ip (numR p).1]) ++ [[ip (numR p).1]] := map_take_succ hdk
   repeat (first
    | ((with_reducible first | refine sops_go ?_ | refine sops_end ?_ | refine awp_if ?_ | refine awp_skip ?_); simp only [go_sem, simprocAttr, hF, hd, hdk, strR])
    | with_reducible (first | refine awp_seq_k fun _ _ => ?_ | refine awp_region [38, 1000013, 1000033] ?_ | refine awp_block ?_)
    | go_step)
   refine hand_fnL LC.below rfl rfl (by decide) (fun _ h => h) rfl rfl (number_okC p (by omega)) rfl ?_
   simp only [go_sem, simprocAttr, hF, hd, hdk, strR]
   repeat (first
    | ((with_reducible first | refine sops_go ?_ | refine sops_end ?_ | refine awp_if ?_); simp only [go_sem, simprocAttr, hF, hd, hdk, strR])
    | (with_reducible first | refine awp_seq_k fun _ _ => ?_ | refine awp_region [38, 1000013, 1000033] ?_)
    | go_step)
   cases hok : (numR p).2 with
   | false =>
    have hno : ¬ ws.all (fun p => (numR p).2) = true := fun h => by
     have := List.all_eq_true.1 h p hpm
     rw [hok] at this; cases this
    rw [if_neg hno] at hlo
    try simp only [go_sem, simprocAttr, hF, hok]
    repeat (first
     | ((with_reducible first | refine sops_go ?_ | refine sops_end ?_ | refine awp_ret ?_); simp only [go_sem, simprocAttr, hF, hok])
     | (with_reducible first | refine awp_seq_k fun _ _ => ?_ | refine awp_region [38, 1000013, 1000033] ?_)
     | go_step)
    rw [hlo]
    first | rfl | exact .inr rfl
   | true =>
    try simp only [go_sem, simprocAttr, hF, hok]
    repeat (first
     | ((with_reducible first | refine sops_go ?_ | refine sops_end ?_ | refine awp_skip ?_); simp only [go_sem, simprocAttr, hF, hok, hlk, hnl, hw])
     | (with_reducible refine awp_region [38, 1000013, 1000033] ?_)
     | go_step)
    refine ⟨⟨k + 1, hlt, by rw [List.take_add_one, hdk, Option.toList_some, List.all_append, hT]; simp [hok]⟩, by dsimp only; omega, hR _ _ (sub_mk ?_)⟩
    simp only [go_sem, simprocAttr, hF, hms]
/- reader.line. -/
attribute [local go_sem] Tryz.underlying94 Tryz.sz91 Tryz.underlying91 Tryz.sz92 Tryz.underlying92 Tryz.sz131 Tryz.underlying131 Tryz.sz134 Tryz.zr134 Tryz.underlying134 Tryz.underlying95 Tryz.underlying136 Fn.func.injEq Av.extSt Av.RetX List.zipIdx List.getD_cons_zero List.getD_cons_succ Sc.Fw.pv Sc.Rq.pv Sc.Ce.pv Sc.Ch.pv Sc.Wk.pv Sc.Og.pv Sc.Lk.pv Sc.Nt.pv Sc.Sn.pv Sc.rsR Av.sopJ lineV
section
variable {n d : Nat} {σ : St} {o : Oper} {K : St → Prop} {E X : Ext} {m x : Operand} {kb : Nat} {w : ByteArray}
theorem hand_known {r : List PV × Bool} (ho : o.op = .lookup 95 m x true) (hd : o.dst = some d) (hdn : d < n) (hE : σ.ext = (E.and (knownE kb)).and X) (hm : evo (Av.look σ.slot) m = some (.v (.map (some kb)))) (hx : evo (Av.look σ.slot) x = some (.v (.string w))) (hw : w.size ≤ 100000)
 (hr : r = match kdOf w with | none => ([.v (.int .i64 0), .v (.int .i64 0), .v .nilFunc], false) | some k => ([.v (.int .i64 (k.rank : Int)), .v (.int .i64 (k.count : Int)), .v (.func (.func k.fid) #[] #[])], true))
 (h : K (σ.put d (.tup [.g r.1, .c (.v (.bool r.2))]))) : Hand Tryz.prog n σ o K := by
 have hG : gOf Kd.all (.string w) = (kdOf w).map Kd.enc := gOf_word w Kd.all
 refine hand_lookupS (zs := [.int .i64 0, .int .i64 0, .nilFunc]) ho hd hdn hm hx (fun w' hh => by rw [hE] at hh; exact hh.1.2.1) (Go.Maps.string_keyed Tryz.underlying9) Tryz.underlying95 (fun w' => by kernel_rfl) (by decide) (Go.WideMaps.keyOf_string_mk Tryz.underlying9 (by simp only [maxLen]; omega)) (fun hn => ?_) (fun v dd ps hs hR => ?_)
 · cases hk : kdOf w with
   | none => rw [hk] at hr; subst hr; exact h
   | some k => rw [hG, hk] at hn; cases hn
 · cases hk : kdOf w with
   | none => rw [hG, hk] at hs; cases hs
   | some k =>
    rw [hG, hk] at hs
    cases hs
    obtain ⟨k', rfl, he⟩ := formR_inv hR
    obtain rfl := Kd.enc_inj he
    rw [hk] at hr
    subst hr
    exact ⟨[.int .i64 (k.rank : Int), .int .i64 (k.count : Int), .func (.func k.fid) #[] #[]], rfl, by intro z hz; simp at hz; rcases hz with rfl | rfl | rfl <;> rfl, h⟩
end
theorem word_size {s w : ByteArray} {l : List Int} (h : lineO s = some (w, l)) : w.size ≤ s.size := by
 unfold lineO at h
 split at h
 · cases h
 · split at h
   · cases h
     have hl := wordsL_len s
     cases hw : wordsL s with
     | nil => rw [hw] at hl; simp at hl
     | cons a t => exact part_size (by rw [hw]; exact List.mem_cons_self)
   · cases h

theorem line_none (b kb : Nat) {p : Ps} {X : RX} (hX : OKX p X) (s : ByteArray) (hs : s.size ≤ 100000) (ho : lineO s = none) : FnX Tryz.prog LC 37 [.v (wrP b), .v (.string s), .v (.map (some kb))] ((knownE kb).and (exts (pcsX b X))) (iv 3) (fun _ : Unit => (knownE kb).and (exts (pcsX b X))) := by
 obtain ⟨R, M, hpd, hbd, had, pw, bs, zs⟩ := X
 obtain rfl : R = p.R := hX.R
 have hws : (⟨#[]⟩ : ByteArray).size ≤ 100000 := by decide
 have hline := line_okC s hs
 rw [ho] at hline
 have hk0 : kdOf (⟨#[]⟩ : ByteArray) = none := by decide
 have hkr : (([.v (.int .i64 0), .v (.int .i64 0), .v .nilFunc], false) : List PV × Bool) = match kdOf (⟨#[]⟩ : ByteArray) with | none => ([.v (.int .i64 0), .v (.int .i64 0), .v .nilFunc], false) | some k => ([.v (.int .i64 (k.rank : Int)), .v (.int .i64 (k.count : Int)), .v (.func (.func k.fid) #[] #[])], true) := by rw [hk0]
 refine fn_okK (K0 := knownE kb) Tryz.func37 (by kernel_rfl) rfl (by rw [Tryz.ntmps37]; exact of_decide_eq_true rfl) (fun F E hF hC => ?_)
 rw [Tryz.ntmps37] at hF
 rw [Tryz.results37]
 simp only [go_sem, simprocAttr, hF]
 repeat (first
  | ((first | refine hand_fnL LC.below rfl rfl (by decide) (fun w0 h => hC w0 h.1.1) rfl rfl hline rfl ?_ | refine hand_known rfl rfl (by decide) rfl rfl rfl hws hkr ?_); simp only [go_sem, simprocAttr, hF])
  | ((with_reducible first | refine sops_go ?_ | refine sops_end ?_ | refine awp_if ?_ | refine awp_skip ?_ | refine awp_ret ?_); simp only [go_sem, simprocAttr, hF])
  | (with_reducible first | refine awp_seq_k fun _ _ => ?_ | refine awp_region (id := 0) [] ?_ | refine awp_region (id := 1) [1000014] ?_ | refine awp_region (id := 2) [] ?_ | refine awp_region (id := 6) [1000039] ?_ | refine awp_region (id := 7) [] ?_ | refine awp_region (id := 8) [] ?_ | refine awp_block ?_)
  | go_step)
 all_goals (first | rfl | exact ⟨(), rfl⟩)

theorem line_noroute (b kb : Nat) {p : Ps} {X : RX} (hX : OKX p X) (s : ByteArray) (hs : s.size ≤ 100000) {w : ByteArray} {l : List Int} (ho : lineO s = some (w, l)) (hw : w = wRoute) (hl : l ≠ []) (hro : p.ro = none) : FnX Tryz.prog LC 37 [.v (wrP b), .v (.string s), .v (.map (some kb))] ((knownE kb).and (exts (pcsX b X))) (iv 5) (fun _ : Unit => (knownE kb).and (exts (pcsX b X))) := by
 obtain ⟨R, M, hpd, hbd, had, pw, bs, zs⟩ := X
 obtain rfl : R = p.R := hX.R
 have hws : w.size ≤ 100000 := Nat.le_trans (word_size ho) hs
 have hline := line_okC s hs
 rw [ho] at hline
 have hw1 : (w.toList == (⟨#[114, 111, 117, 116, 101]⟩ : ByteArray).toList) = true := by rw [str_eq]; exact decide_eq_true hw
 have hl1 : decide ((l.length : Int) > 0) = true := decide_eq_true (by have := List.length_pos_iff.2 hl; omega)
 have hkr : ((([] : List PV), false) : List PV × Bool) = ([], false) := rfl
 have hrt := hX.ro
 rw [hro] at hrt
 obtain ⟨vp, mhl, mhm, vb, va, mhc, mhh, mhw, mho, rt⟩ := M
 obtain rfl : rt = .pointer none := hrt
 refine fn_okK (K0 := knownE kb) Tryz.func37 (by kernel_rfl) rfl (by rw [Tryz.ntmps37]; exact of_decide_eq_true rfl) (fun F E hF hC => ?_)
 rw [Tryz.ntmps37] at hF
 rw [Tryz.results37]
 simp only [go_sem, simprocAttr, hF]
 repeat (first
  | ((first | refine hand_rawField rfl rfl (by decide) Tryz.underlying94 rfl (m := 0) rfl rfl ?_ | refine hand_eLoad (i := 0) (dd := .pointer 65) rfl rfl (by decide) rfl rfl rfl (by first | assumption | rfl) Tryz.underlying92 rfl ?_); simp only [go_sem, simprocAttr, hF, hw1, hl1, Av.sopJ])
  | ((first | refine hand_fnL LC.below rfl rfl (by decide) (fun w0 h => hC w0 h.1.1) rfl rfl hline rfl ?_ | refine hand_ptrNil rfl rfl (by decide) Tryz.underlying92 rfl ?_); simp only [go_sem, simprocAttr, hF, hw1, hl1])
  | ((with_reducible first | refine sops_go ?_ | refine sops_end ?_ | refine awp_if ?_ | refine awp_ret ?_); simp only [go_sem, simprocAttr, hF, hw1, hl1])
  | (with_reducible first | refine awp_seq_k fun _ _ => ?_ | refine awp_region (id := 0) [] ?_ | refine awp_region (id := 1) [1000014] ?_ | refine awp_region (id := 2) [] ?_ | refine awp_region (id := 3) [1000030, 1000031, 1000032] ?_ | refine awp_region (id := 4) [] ?_)
  | go_step)
 all_goals (first | rfl | exact ⟨(), rfl⟩)

theorem line_route (b kb : Nat) {p : Ps} {X : RX} (hX : OKX p X) (s : ByteArray) (hs : s.size ≤ 100000) {w : ByteArray} {l : List Int} (ho : lineO s = some (w, l)) (hw : w = wRoute) (hl : l ≠ []) (hro : p.ro ≠ none) : FnX Tryz.prog LC 37 [.v (wrP b), .v (.string s), .v (.map (some kb))] ((knownE kb).and (exts (pcsX b X))) (iv (routeP p l).2) (fun i : RtX p l => (knownE kb).and (exts (pcsX b i.1))) := by
 obtain ⟨R, M, hpd, hbd, had, pw, bs, zs⟩ := X
 obtain rfl : R = p.R := hX.R
 have hws : w.size ≤ 100000 := Nat.le_trans (word_size ho) hs
 have hline := line_okC s hs
 rw [ho] at hline
 have hw1 : (w.toList == (⟨#[114, 111, 117, 116, 101]⟩ : ByteArray).toList) = true := by rw [str_eq]; exact decide_eq_true hw
 have hl1 : decide ((l.length : Int) > 0) = true := decide_eq_true (by have := List.length_pos_iff.2 hl; omega)
 have hkr : ((([] : List PV), false) : List PV × Bool) = ([], false) := rfl
 obtain ⟨q, hq⟩ : ∃ q, M.rt = .pointer (some q) := by
  have h := hX.ro
  cases hp : p.ro with
  | none => exact absurd hp hro
  | some t =>
   rw [hp] at h
   cases t with
   | false => obtain ⟨_, g, z, l0, _, _, h3⟩ := h; exact ⟨_, h3⟩
   | true => obtain ⟨g, z, l0, _, _, h3⟩ := h; exact ⟨_, h3⟩
 obtain ⟨vp, mhl, mhm, vb, va, mhc, mhh, mhw, mho, rt⟩ := M
 obtain rfl : rt = .pointer (some q) := hq
 refine fn_okK (K0 := knownE kb) Tryz.func37 (by kernel_rfl) rfl (by rw [Tryz.ntmps37]; exact of_decide_eq_true rfl) (fun F E hF hC => ?_)
 rw [Tryz.ntmps37] at hF
 rw [Tryz.results37]
 simp only [go_sem, simprocAttr, hF]
 repeat (first
  | ((first | refine hand_rawField rfl rfl (by decide) Tryz.underlying94 rfl (m := 0) rfl rfl ?_ | refine hand_eLoad (i := 0) (dd := .pointer 65) rfl rfl (by decide) rfl rfl rfl (by first | assumption | rfl) Tryz.underlying92 rfl ?_); simp only [go_sem, simprocAttr, hF, hw1, hl1, Av.sopJ])
  | ((first | refine hand_fnL LC.below rfl rfl (by decide) (fun w0 h => hC w0 h.1.1) rfl rfl hline rfl ?_ | refine hand_ptrNil rfl rfl (by decide) Tryz.underlying92 rfl ?_ | refine hand_callX (route_ok (b := b) hX hro l) (E.and (knownE kb)) rfl (fun w0 h => hC w0 h.1) rfl rfl (by decide) rfl rfl (fun i => ?_)); simp only [go_sem, simprocAttr, hF, hw1, hl1])
  | ((with_reducible first | refine sops_go ?_ | refine sops_end ?_ | refine awp_if ?_ | refine awp_skip ?_ | refine awp_ret ?_); simp only [go_sem, simprocAttr, hF, hw1, hl1])
  | (with_reducible first | refine awp_seq_k fun _ _ => ?_ | refine awp_region (id := 0) [] ?_ | refine awp_region (id := 1) [1000014] ?_ | refine awp_region (id := 2) [] ?_ | refine awp_region (id := 3) [1000030, 1000031, 1000032] ?_ | refine awp_region (id := 5) [1000035] ?_)
  | go_step)
 all_goals (first | exact ⟨i, rfl⟩)

theorem line_unknownA (b kb : Nat) {p : Ps} {X : RX} (hX : OKX p X) (s : ByteArray) (hs : s.size ≤ 100000) {w : ByteArray} {l : List Int} (ho : lineO s = some (w, l)) (hw : w ≠ wRoute) (hkd : kdOf w = none) : FnX Tryz.prog LC 37 [.v (wrP b), .v (.string s), .v (.map (some kb))] ((knownE kb).and (exts (pcsX b X))) (iv 3) (fun _ : Unit => (knownE kb).and (exts (pcsX b X))) := by
 obtain ⟨R, M, hpd, hbd, had, pw, bs, zs⟩ := X
 obtain rfl : R = p.R := hX.R
 have hws : w.size ≤ 100000 := Nat.le_trans (word_size ho) hs
 have hline := line_okC s hs
 rw [ho] at hline
 have hw1 : (w.toList == (⟨#[114, 111, 117, 116, 101]⟩ : ByteArray).toList) = false := by rw [str_eq]; exact decide_eq_false hw
 have hkr : (([.v (.int .i64 0), .v (.int .i64 0), .v .nilFunc], false) : List PV × Bool) = match kdOf w with | none => ([.v (.int .i64 0), .v (.int .i64 0), .v .nilFunc], false) | some k => ([.v (.int .i64 (k.rank : Int)), .v (.int .i64 (k.count : Int)), .v (.func (.func k.fid) #[] #[])], true) := by rw [hkd]
 refine fn_okK (K0 := knownE kb) Tryz.func37 (by kernel_rfl) rfl (by rw [Tryz.ntmps37]; exact of_decide_eq_true rfl) (fun F E hF hC => ?_)
 rw [Tryz.ntmps37] at hF
 rw [Tryz.results37]
 simp only [go_sem, simprocAttr, hF]
 repeat (first
  | ((first | refine hand_fnL LC.below rfl rfl (by decide) (fun w0 h => hC w0 h.1.1) rfl rfl hline rfl ?_ | refine hand_known rfl rfl (by decide) rfl rfl rfl hws hkr ?_); simp only [go_sem, simprocAttr, hF, hw1])
  | ((with_reducible first | refine sops_go ?_ | refine sops_end ?_ | refine awp_if ?_ | refine awp_skip ?_ | refine awp_ret ?_); simp only [go_sem, simprocAttr, hF, hw1])
  | (with_reducible first | refine awp_seq_k fun _ _ => ?_ | refine awp_region (id := 0) [] ?_ | refine awp_region (id := 1) [1000014] ?_ | refine awp_region (id := 2) [] ?_ | refine awp_region (id := 6) [1000039] ?_ | refine awp_region (id := 7) [] ?_ | refine awp_region (id := 8) [] ?_ | refine awp_block ?_)
  | go_step)
 all_goals (first | rfl | exact ⟨(), rfl⟩)

theorem line_unknownB (b kb : Nat) {p : Ps} {X : RX} (hX : OKX p X) (s : ByteArray) (hs : s.size ≤ 100000) {w : ByteArray} {l : List Int} (ho : lineO s = some (w, l)) (hw : w = wRoute) (hl : l = []) (hkd : kdOf w = none) : FnX Tryz.prog LC 37 [.v (wrP b), .v (.string s), .v (.map (some kb))] ((knownE kb).and (exts (pcsX b X))) (iv 3) (fun _ : Unit => (knownE kb).and (exts (pcsX b X))) := by
 obtain ⟨R, M, hpd, hbd, had, pw, bs, zs⟩ := X
 obtain rfl : R = p.R := hX.R
 have hws : w.size ≤ 100000 := Nat.le_trans (word_size ho) hs
 have hline := line_okC s hs
 rw [ho] at hline
 subst hl
 have hw1 : (w.toList == (⟨#[114, 111, 117, 116, 101]⟩ : ByteArray).toList) = true := by rw [str_eq]; exact decide_eq_true hw
 have hkr : (([.v (.int .i64 0), .v (.int .i64 0), .v .nilFunc], false) : List PV × Bool) = match kdOf w with | none => ([.v (.int .i64 0), .v (.int .i64 0), .v .nilFunc], false) | some k => ([.v (.int .i64 (k.rank : Int)), .v (.int .i64 (k.count : Int)), .v (.func (.func k.fid) #[] #[])], true) := by rw [hkd]
 refine fn_okK (K0 := knownE kb) Tryz.func37 (by kernel_rfl) rfl (by rw [Tryz.ntmps37]; exact of_decide_eq_true rfl) (fun F E hF hC => ?_)
 rw [Tryz.ntmps37] at hF
 rw [Tryz.results37]
 simp only [go_sem, simprocAttr, hF]
 repeat (first
  | ((first | refine hand_fnL LC.below rfl rfl (by decide) (fun w0 h => hC w0 h.1.1) rfl rfl hline rfl ?_ | refine hand_known rfl rfl (by decide) rfl rfl rfl hws hkr ?_); simp only [go_sem, simprocAttr, hF, hw1])
  | ((with_reducible first | refine sops_go ?_ | refine sops_end ?_ | refine awp_if ?_ | refine awp_skip ?_ | refine awp_ret ?_); simp only [go_sem, simprocAttr, hF, hw1])
  | (with_reducible first | refine awp_seq_k fun _ _ => ?_ | refine awp_region (id := 0) [] ?_ | refine awp_region (id := 1) [1000014] ?_ | refine awp_region (id := 2) [] ?_ | refine awp_region (id := 6) [1000039] ?_ | refine awp_region (id := 7) [] ?_ | refine awp_region (id := 8) [] ?_ | refine awp_block ?_)
  | go_step)
 all_goals (first | rfl | exact ⟨(), rfl⟩)

theorem line_count (b kb : Nat) {p : Ps} {X : RX} (hX : OKX p X) (s : ByteArray) (hs : s.size ≤ 100000) {w : ByteArray} {l : List Int} (ho : lineO s = some (w, l)) (hw : w ≠ wRoute) {k : Kd} (hkd : kdOf w = some k) (hc : l.length ≠ k.count) : FnX Tryz.prog LC 37 [.v (wrP b), .v (.string s), .v (.map (some kb))] ((knownE kb).and (exts (pcsX b X))) (iv 3) (fun _ : Unit => (knownE kb).and (exts (pcsX b X))) := by
 obtain ⟨R, M, hpd, hbd, had, pw, bs, zs⟩ := X
 obtain rfl : R = p.R := hX.R
 have hws : w.size ≤ 100000 := Nat.le_trans (word_size ho) hs
 have hline := line_okC s hs
 rw [ho] at hline
 have hw1 : (w.toList == (⟨#[114, 111, 117, 116, 101]⟩ : ByteArray).toList) = false := by rw [str_eq]; exact decide_eq_false hw
 have hkr : (([.v (.int .i64 (k.rank : Int)), .v (.int .i64 (k.count : Int)), .v (.func (.func k.fid) #[] #[])], true) : List PV × Bool) = match kdOf w with | none => ([.v (.int .i64 0), .v (.int .i64 0), .v .nilFunc], false) | some k => ([.v (.int .i64 (k.rank : Int)), .v (.int .i64 (k.count : Int)), .v (.func (.func k.fid) #[] #[])], true) := by rw [hkd]
 have hcn : ((l.length : Int) != (k.count : Int)) = true := by simp; omega
 refine fn_okK (K0 := knownE kb) Tryz.func37 (by kernel_rfl) rfl (by rw [Tryz.ntmps37]; exact of_decide_eq_true rfl) (fun F E hF hC => ?_)
 rw [Tryz.ntmps37] at hF
 rw [Tryz.results37]
 simp only [go_sem, simprocAttr, hF]
 repeat (first
  | ((first | refine hand_fnL LC.below rfl rfl (by decide) (fun w0 h => hC w0 h.1.1) rfl rfl hline rfl ?_ | refine hand_known rfl rfl (by decide) rfl rfl rfl hws hkr ?_); simp only [go_sem, simprocAttr, hF, hw1, hcn])
  | ((with_reducible first | refine sops_go ?_ | refine sops_end ?_ | refine awp_if ?_ | refine awp_skip ?_ | refine awp_ret ?_); simp only [go_sem, simprocAttr, hF, hw1, hcn])
  | (with_reducible first | refine awp_seq_k fun _ _ => ?_ | refine awp_region (id := 0) [] ?_ | refine awp_region (id := 1) [1000014] ?_ | refine awp_region (id := 2) [] ?_ | refine awp_region (id := 6) [1000039] ?_ | refine awp_region (id := 7) [] ?_ | refine awp_region (id := 8) [] ?_ | refine awp_block ?_)
  | go_step)
 all_goals (first | rfl | exact ⟨(), rfl⟩)

theorem line_order (b kb : Nat) {p : Ps} {X : RX} (hX : OKX p X) (s : ByteArray) (hs : s.size ≤ 100000) {w : ByteArray} {l : List Int} (ho : lineO s = some (w, l)) (hw : w ≠ wRoute) {k : Kd} (hkd : kdOf w = some k) (hc : l.length = k.count) (hcm : comesB p.R (k.rank : Int) = false) : FnX Tryz.prog LC 37 [.v (wrP b), .v (.string s), .v (.map (some kb))] ((knownE kb).and (exts (pcsX b X))) (iv 5) (fun _ : Unit => (knownE kb).and (exts (pcsX b X))) := by
 obtain ⟨R, M, hpd, hbd, had, pw, bs, zs⟩ := X
 obtain rfl : R = p.R := hX.R
 have hws : w.size ≤ 100000 := Nat.le_trans (word_size ho) hs
 have hline := line_okC s hs
 rw [ho] at hline
 have hw1 : (w.toList == (⟨#[114, 111, 117, 116, 101]⟩ : ByteArray).toList) = false := by rw [str_eq]; exact decide_eq_false hw
 have hkr : (([.v (.int .i64 (k.rank : Int)), .v (.int .i64 (k.count : Int)), .v (.func (.func k.fid) #[] #[])], true) : List PV × Bool) = match kdOf w with | none => ([.v (.int .i64 0), .v (.int .i64 0), .v .nilFunc], false) | some k => ([.v (.int .i64 (k.rank : Int)), .v (.int .i64 (k.count : Int)), .v (.func (.func k.fid) #[] #[])], true) := by rw [hkd]
 have hcn : ((l.length : Int) != (k.count : Int)) = false := by simp; omega
 refine fn_okK (K0 := knownE kb) Tryz.func37 (by kernel_rfl) rfl (by rw [Tryz.ntmps37]; exact of_decide_eq_true rfl) (fun F E hF hC => ?_)
 rw [Tryz.ntmps37] at hF
 rw [Tryz.results37]
 simp only [go_sem, simprocAttr, hF]
 repeat (first
  | ((first | refine hand_fnL LC.below rfl rfl (by decide) (fun w0 h => hC w0 h.1.1) rfl rfl hline rfl ?_ | refine hand_known rfl rfl (by decide) rfl rfl rfl hws hkr ?_ | refine hand_callX (rcomes LC b p.R (RX.m ⟨p.R, M, hpd, hbd, had, pw, bs, zs⟩) (fixX ⟨p.R, M, hpd, hbd, had, pw, bs, zs⟩ ++ dynX ⟨p.R, M, hpd, hbd, had, pw, bs, zs⟩) (k.rank : Int)) (E.and (knownE kb)) rfl (fun w0 h => hC w0 h.1) rfl rfl (by decide) rfl rfl (fun i => ?_)); simp only [go_sem, simprocAttr, hF, hw1, hcn, hcm])
  | ((with_reducible first | refine sops_go ?_ | refine sops_end ?_ | refine awp_if ?_ | refine awp_skip ?_ | refine awp_ret ?_); simp only [go_sem, simprocAttr, hF, hw1, hcn, hcm])
  | (with_reducible first | refine awp_seq_k fun _ _ => ?_ | refine awp_region (id := 0) [] ?_ | refine awp_region (id := 1) [1000014] ?_ | refine awp_region (id := 2) [] ?_ | refine awp_region (id := 6) [1000039] ?_ | refine awp_region (id := 7) [] ?_ | refine awp_region (id := 9) [1000060] ?_ | refine awp_region (id := 10) [] ?_ | refine awp_block ?_)
  | go_step)
 all_goals (first | rfl | exact ⟨(), rfl⟩)

theorem line_read (b kb : Nat) {p : Ps} {X : RX} (hX : OKX p X) (s : ByteArray) (hs : s.size ≤ 100000) {w : ByteArray} {l : List Int} (ho : lineO s = some (w, l)) (hw : w ≠ wRoute) {k : Kd} (hkd : kdOf w = some k) (hc : l.length = k.count) (hcm : comesB p.R (k.rank : Int) = true) : FnX Tryz.prog LC 37 [.v (wrP b), .v (.string s), .v (.map (some kb))] ((knownE kb).and (exts (pcsX b X))) (iv (readP k (⟨{ p.R with rank := (k.rank : Int) }, none⟩ : Ps) l).2) (fun i : RdX k (⟨{ p.R with rank := (k.rank : Int) }, none⟩ : Ps) l => (knownE kb).and (exts (pcsX b i.1))) := by
 obtain ⟨R, M, hpd, hbd, had, pw, bs, zs⟩ := X
 obtain rfl : R = p.R := hX.R
 have hws : w.size ≤ 100000 := Nat.le_trans (word_size ho) hs
 have hline := line_okC s hs
 rw [ho] at hline
 have hw1 : (w.toList == (⟨#[114, 111, 117, 116, 101]⟩ : ByteArray).toList) = false := by rw [str_eq]; exact decide_eq_false hw
 have hkr : (([.v (.int .i64 (k.rank : Int)), .v (.int .i64 (k.count : Int)), .v (.func (.func k.fid) #[] #[])], true) : List PV × Bool) = match kdOf w with | none => ([.v (.int .i64 0), .v (.int .i64 0), .v .nilFunc], false) | some k => ([.v (.int .i64 (k.rank : Int)), .v (.int .i64 (k.count : Int)), .v (.func (.func k.fid) #[] #[])], true) := by rw [hkd]
 have hcn : ((l.length : Int) != (k.count : Int)) = false := by simp; omega
 obtain ⟨i1, i2, i3, i4⟩ := kd_rank hX.inv hcm
 have hX1 : OKX (⟨{ p.R with rank := (k.rank : Int) }, none⟩ : Ps) (⟨{ p.R with rank := (k.rank : Int) }, { M with rt := .pointer none }, hpd, hbd, had, pw, bs, zs⟩ : RX) := ⟨rfl, hX.pw, hX.bs, hX.zs, hX.hp, rfl, i1⟩
 have hread := fun E : Ext => read_ok (C := LC) (b := b) hX1 rfl k i2 i3 rfl i4 l hc
 refine fn_okK (K0 := knownE kb) Tryz.func37 (by kernel_rfl) rfl (by rw [Tryz.ntmps37]; exact of_decide_eq_true rfl) (fun F E hF hC => ?_)
 rw [Tryz.ntmps37] at hF
 rw [Tryz.results37]
 simp only [go_sem, simprocAttr, hF]
 repeat (first
  | ((refine hand_rawField rfl rfl (by decide) Tryz.underlying94 rfl (m := 0) rfl rfl ?_); simp only [go_sem, simprocAttr, hF, hw1, hcn, hcm, Av.sopJ])
  | ((refine hand_eStore (i := 0) rfl rfl rfl rfl rfl rfl (by first | assumption | exact Nat.le_of_ble_eq_true rfl | (simp only [List.length_set, List.length_cons]; omega)) (by first | assumption | rfl) (by first | assumption | rfl) Tryz.sz3 ?_); simp only [go_sem, simprocAttr, hF, hw1, hcn, hcm, Av.sopJ])
  | ((with_reducible first | refine sopsJ_go ?_ | refine sopsJ_end ?_); simp only [go_sem, simprocAttr, hF, hw1, hcn, hcm, Av.sopJ])
  | ((refine awp_regionJ (id := 11) [1000067, 1000069] ?_); simp only [go_sem, simprocAttr, hF, hw1, hcn, hcm, Av.sopJ])
  | ((first | refine hand_fnL LC.below rfl rfl (by decide) (fun w0 h => hC w0 h.1.1) rfl rfl hline rfl ?_ | refine hand_known rfl rfl (by decide) rfl rfl rfl hws hkr ?_ | refine hand_callX (rcomes LC b p.R (RX.m ⟨p.R, M, hpd, hbd, had, pw, bs, zs⟩) (fixX ⟨p.R, M, hpd, hbd, had, pw, bs, zs⟩ ++ dynX ⟨p.R, M, hpd, hbd, had, pw, bs, zs⟩) (k.rank : Int)) (E.and (knownE kb)) rfl (fun w0 h => hC w0 h.1) rfl rfl (by decide) rfl rfl (fun i => ?_) | refine hand_callXv (hread E) (E.and (knownE kb)) rfl (fun w0 h => hC w0 h.1) rfl rfl rfl (by decide) rfl rfl (fun i => ?_)); simp only [go_sem, simprocAttr, hF, hw1, hcn, hcm])
  | ((with_reducible first | refine sops_go ?_ | refine sops_end ?_ | refine awp_if ?_ | refine awp_skip ?_ | refine awp_ret ?_); simp only [go_sem, simprocAttr, hF, hw1, hcn, hcm])
  | (with_reducible first | refine awp_seq_k fun _ _ => ?_ | refine awp_region (id := 0) [] ?_ | refine awp_region (id := 1) [1000014] ?_ | refine awp_region (id := 2) [] ?_ | refine awp_region (id := 6) [1000039] ?_ | refine awp_region (id := 7) [] ?_ | refine awp_region (id := 9) [1000060] ?_ | refine awp_region (id := 12) [1000074] ?_ | refine awp_block ?_)
  | go_step)
 all_goals (first | exact ⟨i, rfl⟩)
end Go.Proofs.YtcloigoajohppaaGreatDoor
/- reader.line, whole. -/
namespace Go.Proofs.YtcloigoajohppaaGreatDoor
open Go.RowKit
open Av
open Sc
set_option maxRecDepth 100000
set_option linter.unusedSimpArgs false

abbrev StX (p : Ps) (o : Option (ByteArray × List Int)) : Type := {X' : RX // (stepP p o).2 = 0 → OKX (stepP p o).1 X'}
theorem line_okX (b kb : Nat) {p : Ps} {X : RX} (hX : OKX p X) (s : ByteArray) (hs : s.size ≤ 100000) : FnX Tryz.prog LC 37 [.v (wrP b), .v (.string s), .v (.map (some kb))] ((knownE kb).and (exts (pcsX b X))) (iv (stepP p (lineO s)).2) (fun i : StX p (lineO s) => (knownE kb).and (exts (pcsX b i.1))) := by
  have bad : ∀ e : Int, (stepP p (lineO s)).2 = e → e ≠ 0 → FnX Tryz.prog LC 37 [.v (wrP b), .v (.string s), .v (.map (some kb))] ((knownE kb).and (exts (pcsX b X))) (iv e) (fun _ : Unit => (knownE kb).and (exts (pcsX b X))) →
      FnX Tryz.prog LC 37 [.v (wrP b), .v (.string s), .v (.map (some kb))] ((knownE kb).and (exts (pcsX b X))) (iv (stepP p (lineO s)).2) (fun i : StX p (lineO s) => (knownE kb).and (exts (pcsX b i.1))) := fun e he h0 h => by
    rw [show iv (stepP p (lineO s)).2 = iv e by rw [he]]
    exact FnX.fam h fun _ => ⟨⟨X, fun h1 => absurd (he.symm.trans h1) h0⟩, rfl⟩
  cases ho : lineO s with
  | none => rw [ho] at bad; exact bad 3 rfl (by decide) (line_none b kb hX s hs ho)
  | some x =>
    obtain ⟨w, l⟩ := x
    rw [ho] at bad
    by_cases hr : w = wRoute ∧ l ≠ []
    · have e : stepP p (some (w, l)) = routeP p l := by simp only [stepP, if_pos hr]
      by_cases hro : p.ro = none
      · exact bad 5 (by rw [e]; unfold routeP; rw [hro]) (by decide) (line_noroute b kb hX s hs ho hr.1 hr.2 hro)
      · unfold StX
        rw [e]
        exact line_route b kb hX s hs ho hr.1 hr.2 hro
    · have hnw : ∀ k, kdOf w = some k → w ≠ wRoute := fun k hk e => by subst e; cases hk
      cases hkd : kdOf w with
      | none =>
        have e : stepP p (some (w, l)) = (p, 3) := by simp only [stepP, if_neg hr, hkd]
        by_cases hw : w = wRoute
        · have hl : l = [] := Classical.byContradiction fun h => hr ⟨hw, h⟩
          exact bad 3 (by rw [e]) (by decide) (line_unknownB b kb hX s hs ho hw hl hkd)
        · exact bad 3 (by rw [e]) (by decide) (line_unknownA b kb hX s hs ho hw hkd)
      | some k =>
        have hw := hnw k hkd
        by_cases hc : l.length = k.count
        · cases hcm : comesB p.R (k.rank : Int) with
          | false =>
            have e : stepP p (some (w, l)) = (p, 5) := by simp only [stepP, if_neg hr, hkd, hc, hcm, ne_eq, not_true_eq_false, if_false, if_true]
            exact bad 5 (by rw [e]) (by decide) (line_order b kb hX s hs ho hw hkd hc hcm)
          | true =>
            have e : stepP p (some (w, l)) = readP k ⟨{ p.R with rank := (k.rank : Int) }, none⟩ l := by simp only [stepP, if_neg hr, hkd, hc, hcm, ne_eq, not_true_eq_false, if_false, Bool.true_eq_false]
            unfold StX
            rw [e]
            exact line_read b kb hX s hs ho hw hkd hc hcm
        · have e : stepP p (some (w, l)) = (p, 3) := by simp only [stepP, if_neg hr, hkd, hc, ne_eq, not_false_eq_true, if_true]
          exact bad 3 (by rw [e]) (by decide) (line_count b kb hX s hs ho hw hkd hc)
end Go.Proofs.YtcloigoajohppaaGreatDoor
/- Iterators: the lines of a text. -/
namespace Go.Proofs.YtcloigoajohppaaGreatDoor
open Go.RowKit
open Av
open Sc
set_option maxRecDepth 100000
set_option linter.unusedSimpArgs false

attribute [local go_sem] Oper.semAt_some
def linesB : Nat → ByteArray → List ByteArray
  | 0, s => [s]
  | m + 1, s => if Lib.indexByte s.data.toList 10 < 0 then [s] else s.extract 0 (Lib.indexByte s.data.toList 10).toNat :: linesB m (s.extract ((Lib.indexByte s.data.toList 10).toNat + 1) s.size)
theorem indexByte_lt : ∀ (l : List UInt8) (c : UInt8), Lib.indexByte l c < l.length
  | [], _ => by simp [Lib.indexByte]
  | b :: l, c => by
    unfold Lib.indexByte
    have := indexByte_lt l c
    split
    · simp
    · split
      · simp; omega
      · simp; omega
def szAt (B : Nat) (w : World) : Nat := match w.cell? ⟨B, 0, none⟩ with
  | some (.string s) => s.size
  | _ => 0
theorem szAt_eq {B : Nat} {w : World} {s : ByteArray} (h : w.cell? ⟨B, 0, none⟩ = some (.string s)) : szAt B w = s.size := by unfold szAt; rw [h]
set_option maxRecDepth 100000 in
theorem split_in (n l Bp Bs Bn : Nat) (text : ByteArray) (htx : text.size ≤ 1000000) (J : Nat → World → Prop) (Jx : World → Prop) (hne : Bs ≠ Bp ∧ Bs ≠ Bn)
    (hT : ∀ k W W', J k W → touch (fun b => b = Bs) W W' → J k W')
    (hY : ∀ k s W, (linesB text.size text)[k]? = some s → J k W → YieldAt Fence.wide (n - 1) Tryz.prog l #[.string s] W fun e W' =>
      (e = .returned (.bool true) ∧ J (k + 1) W' ∧ ∀ b, b = Bp ∨ b = Bs ∨ b = Bn → W'.heap[b]? = W.heap[b]?) ∨ (e = .returned (.bool false) ∧ Jx W'))
    (W : World) (hp : W.cell? ⟨Bp, 0, none⟩ = some (.string ⟨#[10]⟩)) (hs : W.cell? ⟨Bs, 0, none⟩ = some (.string text)) (hn : W.cell? ⟨Bn, 0, none⟩ = some (.int .i64 0)) (hf : W.frozen? ⟨Bs, 0, none⟩ = false) (h0 : J 0 W) :
    CallsIn Fence.wide n Tryz.prog 130 #[.func (.yield l) #[] #[], .pointer (some ⟨Bp, 0, none⟩), .pointer (some ⟨Bs, 0, none⟩), .pointer (some ⟨Bn, 0, none⟩)] W fun e W' => (∃ v, e = .returned v) ∧ (J (linesB text.size text).length W' ∨ Jx W') := by
  refine callsIn_of_wp Tryz.func130 rfl trivial ?_ rfl
  simp only [Tryz.ntmps130, List.size_toArray, List.length_cons, List.length_nil, Nat.reduceAdd, Nat.reduceSub, Array.replicate_succ, Array.replicate_zero, List.push_toArray, List.append_toArray, List.nil_append, List.cons_append]
  gi_wp2
  gi_loopw [] (fun wr => ∃ (r : ByteArray) (k m : Nat), wr.cell? ⟨Bp, 0, none⟩ = some (.string ⟨#[10]⟩) ∧ wr.cell? ⟨Bs, 0, none⟩ = some (.string r) ∧ wr.cell? ⟨Bn, 0, none⟩ = some (.int .i64 0) ∧ wr.frozen? ⟨Bs, 0, none⟩ = false ∧ r.size ≤ 1000000 ∧ r.size ≤ m ∧ (linesB text.size text).drop k = linesB m r ∧ J k wr)
    (fun wr => szAt Bs wr)
  case atStart => exact ⟨text, 0, text.size, hp, hs, hn, hf, htx, Nat.le_refl _, rfl, h0⟩
  case round =>
    obtain ⟨r, k, m, hp, hs, hn, hf, hrs, hm, hd, hJ⟩ := hrel
    have HI : ∀ W, CallsIn Fence.wide (n - 1) Tryz.prog 83 #[.string r, .string ⟨#[10]⟩] W fun e w' => e = .returned (.int .i64 (Lib.indexByte r.data.toList 10)) ∧ w' = W := fun W => callsIn_wide.2 (Any.strings_Index_one (ρ := Tryz.lays143_ren) { Tryz.lays143 with } r 10 W)
    by_cases hneg : Lib.indexByte r.data.toList 10 < 0
    · have hone : linesB m r = [r] := by
        cases m with
        | zero => rfl
        | succ m => unfold linesB; rw [if_pos hneg]
      rw [hone] at hd
      have hk : (linesB text.size text)[k]? = some r := by
        have := congrArg (fun l => l[0]?) hd
        simpa [List.getElem?_drop] using this
      have hlen : (linesB text.size text).length = k + 1 := by
        have h1 := congrArg List.length hd
        rw [List.length_drop, List.length_singleton] at h1
        omega
      obtain ⟨fn, tmps, assign, body, hy, hR⟩ := hY k r wr hk hJ
      generalize Lib.indexByte r.data.toList 10 = idx at HI hneg
      clear hd hone hY hT
      gi_wp2_with (refine ⟨trivial, (fun h => (by cases h)), ?_⟩; refine (HI _).mono ?_; rintro e w' ⟨rfl, rfl⟩)
      refine ⟨(fun h => (by cases h)), ?_⟩
      refine hR.mono ?_
      rintro e W3 (⟨rfl, hJ3, hk3⟩ | ⟨rfl, hx⟩)
      · gi_wp2
        go_end0
        exact ⟨⟨_, rfl⟩, .inl (by rw [hlen]; exact hJ3)⟩
      · gi_wp2
        go_end0
        exact ⟨⟨_, rfl⟩, .inr hx⟩
    · obtain ⟨j, hj⟩ : ∃ j : Nat, Lib.indexByte r.data.toList 10 = j := ⟨(Lib.indexByte r.data.toList 10).toNat, by omega⟩
      have hjl : j < r.size := by
        have := indexByte_lt r.data.toList 10
        rw [hj] at this
        rw [Sc.ba_size]
        omega
      obtain ⟨m', rfl⟩ : ∃ m', m = m' + 1 := ⟨m - 1, by omega⟩
      have hmore : linesB (m' + 1) r = r.extract 0 j :: linesB m' (r.extract (j + 1) r.size) := by
        rw [linesB, if_neg hneg, hj, Int.toNat_natCast]
      rw [hmore] at hd
      have hk : (linesB text.size text)[k]? = some (r.extract 0 j) := by
        have := congrArg (fun l => l[0]?) hd
        simpa [List.getElem?_drop] using this
      have hd2 : (linesB text.size text).drop (k + 1) = linesB m' (r.extract (j + 1) r.size) := by
        have := congrArg (List.drop 1) hd
        rw [List.drop_drop] at this
        simpa using this
      have hsz : (r.extract (j + 1) r.size).size = r.size - (j + 1) := by rw [ByteArray.size_extract]; omega
      obtain ⟨fn, tmps, assign, body, hy, hR⟩ := hY k _ wr hk hJ
      rw [hj] at HI
      have hw0 : IntKind.i64.wrap (j : Int) = (j : Int) := by rw [IntKind.wrap_i64]; omega
      have hw1 : IntKind.i64.wrap ((j : Int) + 1) = ((j + 1 : Nat) : Int) := by rw [IntKind.wrap_i64]; omega
      have hj0 : ¬ ((j : Int) < 0) := by omega
      have hjr : (j : Int) ≤ (r.size : Int) := by omega
      clear hd hmore hY hneg
      gi_wp2_with (refine ⟨trivial, (fun h => (by cases h)), ?_⟩; refine (HI _).mono ?_; rintro e w' ⟨rfl, rfl⟩)
      refine ⟨(fun h => (by cases h)), ?_⟩
      refine hR.mono ?_
      rintro e W3 (⟨rfl, hJ3, hk3⟩ | ⟨rfl, hx⟩)
      · have hp3 : W3.cell? ⟨Bp, 0, none⟩ = some (.string ⟨#[10]⟩) := (World.cell?_of_block (w := w') (a := ⟨Bp, 0, none⟩) (hk3 Bp (.inl rfl))).trans hp
        have hs3 : W3.cell? ⟨Bs, 0, none⟩ = some (.string r) := (World.cell?_of_block (w := w') (a := ⟨Bs, 0, none⟩) (hk3 Bs (.inr (.inl rfl)))).trans hs
        have hn3 : W3.cell? ⟨Bn, 0, none⟩ = some (.int .i64 0) := (World.cell?_of_block (w := w') (a := ⟨Bn, 0, none⟩) (hk3 Bn (.inr (.inr rfl)))).trans hn
        have hf3 : W3.frozen? ⟨Bs, 0, none⟩ = false := (World.frozen?_of_block (w := w') (a := ⟨Bs, 0, none⟩) (hk3 Bs (.inr (.inl rfl)))).trans hf
        clear hy hR
        gi_wp2
        go_roundw
        case rel =>
          refine ⟨_, k + 1, m', ?_, World.cell?_setCell_same' _ _ _ (by rw [hs3]; rfl), ?_, by rw [World.frozen?_setCell]; exact hf3, by rw [hsz]; omega, by rw [hsz]; omega, hd2, hT _ _ _ hJ3 (touch.setCell _ _ _ rfl)⟩
          · exact (World.cell?_of_block (w := W3) (a := ⟨Bp, 0, none⟩) (Below.heap_setCell W3 ⟨Bs, 0, none⟩ _ Bp (fun e => hne.1 e.symm))).trans hp3
          · exact (World.cell?_of_block (w := W3) (a := ⟨Bn, 0, none⟩) (Below.heap_setCell W3 ⟨Bs, 0, none⟩ _ Bn (fun e => hne.2 e.symm))).trans hn3
        case measure =>
          rw [szAt_eq (World.cell?_setCell_same' _ _ _ (by rw [hs3]; rfl)), szAt_eq hs, hsz]
          omega
      · gi_wp2
        refine bodyPost_ret (results_none rfl _ _ _) rfl ?_
        exact ⟨⟨_, rfl⟩, .inr hx⟩
end Go.Proofs.YtcloigoajohppaaGreatDoor
/- Iterators: the lines that count. -/
namespace Go.Proofs.YtcloigoajohppaaGreatDoor
open Go.RowKit
open Av
open Sc
set_option maxRecDepth 100000
set_option linter.unusedSimpArgs false

attribute [local go_sem] Oper.semAt_some
theorem splitSeqI_any (s p : ByteArray) (w : World) : Calls Tryz.prog 115 #[.string s, .string p, .int .i64 0] w fun e w' => e = .returned (.func (.func 130) #[] #[.pointer (some ⟨w.heap.size + 1, 0, none⟩), .pointer (some ⟨w.heap.size, 0, none⟩), .pointer (some ⟨w.heap.size + 2, 0, none⟩)]) ∧
    w' = ((w.alloc (.cells #[.string s] 9)).alloc (.cells #[.string p] 9)).alloc (.cells #[.int .i64 0] 3) := by
  go_enter Tryz.func115, Tryz.ntmps115
  go_wp2
  go_ret
  exact ⟨rfl, rfl⟩
theorem splitSeq_any (s p : ByteArray) (w : World) : Calls Tryz.prog 78 #[.string s, .string p] w fun e w' => e = .returned (.func (.func 130) #[] #[.pointer (some ⟨w.heap.size + 1, 0, none⟩), .pointer (some ⟨w.heap.size, 0, none⟩), .pointer (some ⟨w.heap.size + 2, 0, none⟩)]) ∧
    w' = ((w.alloc (.cells #[.string s] 9)).alloc (.cells #[.string p] 9)).alloc (.cells #[.int .i64 0] 3) := by
  go_enter Tryz.func78, Tryz.ntmps78
  go_wp2_with (go_at_call 115; refine (splitSeqI_any s p _).mono ?_; rintro e w' ⟨rfl, rfl⟩)
  go_ret
  exact ⟨rfl, rfl⟩
theorem lines_any (s : ByteArray) (w : World) : Calls Tryz.prog 36 #[.string s] w fun e w' => e = .returned (.func (.func 77) #[] #[.pointer (some ⟨w.heap.size, 0, none⟩)]) ∧ w' = w.alloc (.cells #[.string s] 9) := by
  go_enter Tryz.func36, Tryz.ntmps36
  go_wp2
  go_ret
  exact ⟨rfl, rfl⟩
def skipB (s : ByteArray) : Bool := match s.data.toList with
  | [] => true
  | c :: _ => c == 35
theorem linesB_len : ∀ (m : Nat) (s : ByteArray), (linesB m s).length ≤ m + 1
  | 0, s => by simp [linesB]
  | m + 1, s => by
    unfold linesB
    split
    · simp
    · have := linesB_len m (s.extract ((Lib.indexByte s.data.toList 10).toNat + 1) s.size)
      simp
      omega
theorem cell_one1 {w : World} {b : Nat} {v : Value} {T : TypeId} (h : w.heap[b]? = some (.cells #[v] T (0, 0))) : w.cell? ⟨b, 0, none⟩ = some v := by rw [cell_of_row w _ _ _ T (0, 0) h]; rfl
theorem frozen_one {w : World} {b : Nat} {v : Value} {T : TypeId} (h : w.heap[b]? = some (.cells #[v] T (0, 0))) : w.frozen? ⟨b, 0, none⟩ = false := by unfold World.frozen?; rw [h]; simp
theorem alloc_at (w : World) (o : Obj) (b : Nat) (h : b = w.heap.size) : (w.alloc o).heap[b]? = some o := by subst h; exact World.alloc_heap_new w o
theorem heap_set {w : World} {b : Nat} {v u : Value} {T : TypeId} (h : w.heap[b]? = some (.cells #[v] T (0, 0))) : (w.setCell ⟨b, 0, none⟩ u).heap[b]? = some (.cells #[u] T (0, 0)) := by
  simp [World.setCell, Array.getElem?_modify, h]
set_option maxRecDepth 100000 in
theorem lines_in (n l tb : Nat) (text : ByteArray) (htx : text.size ≤ 1000000) (B0 : Nat) (J : Nat → Nat → World → Prop) (Jx : Nat → World → Prop)
    (hE : ∀ B1 k W W', J B1 k W → B1 = W.heap.size → Below W.heap.size W W' → J W'.heap.size k W')
    (hT : ∀ B1 k W W', J B1 k W → touch (fun b => B0 ≤ b ∧ b < B1) W W' → J B1 k W')
    (hTx : ∀ B1 W W', Jx B1 W → touch (fun b => B0 ≤ b ∧ b < B1) W W' → Jx B1 W')
    (hS : ∀ B1 k s W, (linesB text.size text)[k]? = some s → skipB s = true → J B1 k W → J B1 (k + 1) W)
    (hY : ∀ m B1 k s W, (linesB text.size text)[k]? = some s → skipB s = false → J B1 k W → YieldAt Fence.wide m Tryz.prog l #[.int .i64 ((k + 1 : Nat) : Int), .string s] W fun e W' =>
      (∀ b, B0 ≤ b → b < B1 → W'.heap[b]? = W.heap[b]?) ∧ ((e = .returned (.bool true) ∧ J B1 (k + 1) W') ∨ (e = .returned (.bool false) ∧ Jx B1 W')))
    (W : World) (hB : B0 ≤ W.heap.size) (htb : W.cell? ⟨tb, 0, none⟩ = some (.string text)) (h0 : J W.heap.size 0 W) :
    CallsIn Fence.wide n Tryz.prog 77 #[.func (.yield l) #[] #[], .pointer (some ⟨tb, 0, none⟩)] W fun e W' => (∃ v, e = .returned v) ∧ ∃ B1, J B1 (linesB text.size text).length W' ∨ Jx B1 W' := by
  refine callsIn_of_wp_marks Tryz.func77 rfl trivial ?_ rfl
  simp only [Tryz.ntmps77, List.size_toArray, List.length_cons, List.length_nil, Nat.reduceAdd, Nat.reduceSub, Array.replicate_succ, Array.replicate_zero, List.push_toArray, List.append_toArray, List.nil_append, List.cons_append]
  have htb2 : ((W.alloc (.cells #[.func (.yield l) #[] #[]] 138)).alloc (.cells #[.int .i64 0] 3)).cell? ⟨tb, 0, none⟩ = some (.string text) := by
    have hlt : tb < W.heap.size := World.block_lt_of_cell? _ _ htb
    exact (World.cell?_of_block (w := W) (a := ⟨tb, 0, none⟩) ((Below.heap_alloc _ _ tb (by rw [World.size_alloc]; omega)).trans (Below.heap_alloc _ _ tb hlt))).trans htb
  gi_wp2_with (refine ⟨trivial, (fun h => (by cases h)), ?_⟩; refine (callsIn_wide.2 (splitSeq_any text _ _)).mono ?_; rintro e w' ⟨rfl, rfl⟩)
  obtain ⟨N, hN⟩ : ∃ N, W.heap.size = N := ⟨_, rfl⟩
  obtain ⟨W5, hW5⟩ : ∃ W5, (((((W.alloc (.cells #[.func (.yield l) #[] #[]] 138)).alloc (.cells #[.int .i64 0] 3)).alloc (.cells #[.string text] 9)).alloc (.cells #[.string ⟨#[10]⟩] 9)).alloc (.cells #[.int .i64 0] 3)) = W5 := ⟨_, rfl⟩
  rw [hW5, hN]
  have hsz : W5.heap.size = N + 5 := by rw [← hW5]; simp only [World.size_alloc]; omega
  have hb5 : Below N W W5 := by
    rw [← hW5, ← hN]; exact (((((Below.refl _ W).alloc (Nat.le_refl _) _).alloc (by simp) _).alloc (by simp; omega) _).alloc (by simp; omega) _).alloc (by simp; omega) _
  have c0 : W5.heap[N]? = some (.cells #[.func (.yield l) #[] #[]] 138 (0, 0)) := by rw [← hW5, ← hN]; repeat (first | (refine alloc_at _ _ _ ?_; (try simp only [World.size_alloc]) <;> omega) | refine (Below.heap_alloc _ _ _ (by simp only [World.size_alloc]; omega)).trans ?_)
  have c1 : W5.heap[N + 1]? = some (.cells #[.int .i64 0] 3 (0, 0)) := by rw [← hW5, ← hN]; repeat (first | (refine alloc_at _ _ _ ?_; (try simp only [World.size_alloc]) <;> omega) | refine (Below.heap_alloc _ _ _ (by simp only [World.size_alloc]; omega)).trans ?_)
  have c2 : W5.heap[N + 2]? = some (.cells #[.string text] 9 (0, 0)) := by rw [← hW5, ← hN]; repeat (first | (refine alloc_at _ _ _ ?_; (try simp only [World.size_alloc]) <;> omega) | refine (Below.heap_alloc _ _ _ (by simp only [World.size_alloc]; omega)).trans ?_)
  have c3 : W5.heap[N + 3]? = some (.cells #[.string ⟨#[10]⟩] 9 (0, 0)) := by rw [← hW5, ← hN]; repeat (first | (refine alloc_at _ _ _ ?_; (try simp only [World.size_alloc]) <;> omega) | refine (Below.heap_alloc _ _ _ (by simp only [World.size_alloc]; omega)).trans ?_)
  have c4 : W5.heap[N + 4]? = some (.cells #[.int .i64 0] 3 (0, 0)) := by rw [← hW5, ← hN]; repeat (first | (refine alloc_at _ _ _ ?_; (try simp only [World.size_alloc]) <;> omega) | refine (Below.heap_alloc _ _ _ (by simp only [World.size_alloc]; omega)).trans ?_)
  rw [hN] at hB h0
  clear hW5 htb htb2
  refine range_law (gf := 130) (lb := #[.pointer (some ⟨N + 1 + 1 + 1, 0, none⟩), .pointer (some ⟨N + 1 + 1, 0, none⟩), .pointer (some ⟨N + 1 + 1 + 2, 0, none⟩)]) rfl (enters_of Tryz.func130 (by kernel_rfl) rfl) ?_
  intro fn W1 rec hrec hb hs1 hD1 hl1
  rw [hsz] at hs1 hD1 hl1 hb ⊢
  have hb1 : Below N W W1 := hb5.trans (hb.mono (by omega))
  obtain ⟨rs, hrs⟩ : ∃ rs, rec = rs := ⟨_, rfl⟩
  have hst : ∀ st pe, (rec st pe).state = st := fun st pe => by rw [hrec]
  have hpe : ∀ st pe, (rec st pe).pending = pe := fun st pe => by rw [hrec]
  have hps : ∀ st pe, (rec st pe).params = #[7] := fun st pe => by rw [hrec]
  have hasn := fun st pe => congrArg (fun r => Loop.assign (r st pe)) hrec
  have hbod := fun st pe => congrArg (fun r => Loop.body (r st pe)) hrec
  have htm := fun st pe => congrArg (fun r => Loop.tmps (r st pe)) hrec
  dsimp only at hasn hbod htm
  have hset : ∀ st pe st' pe', { rec st pe with state := st', pending := pe' } = rec st' pe' := fun st pe st' pe' => by rw [hrec]
  have hset1 : ∀ st pe st', { rec st pe with state := st' } = rec st' pe := fun st pe st' => by rw [hrec]
  have lift : ∀ b o, b < N + 5 → W5.heap[b]? = some o → W1.heap[b]? = some o := fun b o hb' h => (hb.block b hb').trans h
  have hlt : ∀ {w : World} {b : Nat} {o : Obj}, w.heap[b]? = some o → b < w.heap.size := fun h => (Array.getElem?_eq_some_iff.1 h).1
  have hbe : ∀ {w : World} {b b' : Nat} {o : Obj} (o' : Obj), w.heap[b]? = some o → b ≠ b' → (w.putObj b' o').heap[b]? = some o := fun o' h hn => (World.putObj_heap_other hn).trans h
  refine (split_in (n - 1) (N + 6) (N + 3) (N + 2) (N + 4) text htx
    (fun k w => J (N + 7) k w ∧ w.heap[N + 6]? = some (.loop (rec .ready none)) ∧ w.heap[N + 5]? = some (.deferred (some [])) ∧ w.heap[N]? = some (.cells #[.func (.yield l) #[] #[]] 138 (0, 0)) ∧ w.heap[N + 1]? = some (.cells #[.int .i64 ((k : Nat) : Int)] 3 (0, 0)))
    (fun w => Jx (N + 7) w ∧ w.heap[N + 6]? = some (.loop (rec .done (some .ret))) ∧ w.heap[N + 5]? = some (.deferred (some [])))
    ⟨by omega, by omega⟩ ?hT ?hY W1 (cell_one1 (lift _ _ (by omega) c3)) (cell_one1 (lift _ _ (by omega) c2)) (cell_one1 (lift _ _ (by omega) c4)) (frozen_one (lift _ _ (by omega) c2))
    ⟨by have := hE _ 0 W W1 h0 hN.symm (by rw [hN]; exact hb1); rwa [hs1] at this, hl1, hD1, lift _ _ (by omega) c0, lift _ _ (by omega) c1⟩).mono ?_
  case hT =>
    rintro k w w' ⟨hj, h1, h2, h3, h4⟩ ht
    exact ⟨hT _ _ _ _ hj (ht.mono fun b _ e => by omega), ht.keep h1 (by omega), ht.keep h2 (by omega), ht.keep h3 (by omega), ht.keep h4 (by omega)⟩
  case hY =>
    rintro k s w hk ⟨hj, hl, hd, hy, hat⟩
    refine yield_law (A1 := ?A) hl (hst _ _) (by rw [hps]; rfl) ?asg ?bdy
    case asg =>
      rw [hasn, htm, hps]
      simp only [List.zip_toArray, List.zip_cons_cons, List.zip_nil_right, List.foldl_toArray, List.foldl_cons, List.foldl_nil, List.setIfInBounds_toArray, List.set_cons_succ, List.set_cons_zero]
      gi_wp2
      first | exact rfl | exact ⟨rfl, rfl⟩
    obtain ⟨W2, hW2⟩ : ∃ W2, w.putObj (N + 6) (.loop { rec .ready none with state := .busy }) = W2 := ⟨_, rfl⟩
    have ht2 : touch (fun b => N ≤ b ∧ b < N + 7) w W2 := by rw [← hW2]; exact touch.putObj _ _ _ ⟨by omega, by omega⟩
    have hl2 : W2.heap[N + 6]? = some (.loop (rec .busy none)) := by rw [← hW2, hset1]; exact World.putObj_heap_same (hlt hl)
    have hd2 : W2.heap[N + 5]? = some (.deferred (some [])) := by rw [← hW2]; exact hbe _ hd (by omega)
    have hy2 : W2.heap[N]? = some (.cells #[.func (.yield l) #[] #[]] 138 (0, 0)) := by rw [← hW2]; exact hbe _ hy (by omega)
    have hat2 : W2.heap[N + 1]? = some (.cells #[.int .i64 ((k : Nat) : Int)] 3 (0, 0)) := by rw [← hW2]; exact hbe _ hat (by omega)
    have hj2 : J (N + 7) k W2 := hT _ _ _ _ hj (ht2.mono fun b _ e => ⟨by omega, e.2⟩)
    rw [hW2, hbod]
    clear hrs hrec hasn hbod htm
    have hc2 := cell_one1 hat2
    have hf2 := frozen_one hat2
    have hyc2 := cell_one1 hy2
    have hkl : k ≤ text.size := by
      have h1 := (List.getElem?_eq_some_iff.1 hk).1
      have h2 := linesB_len text.size text
      omega
    have hw1 : wrap64 ((k : Int) + 1) = ((k + 1 : Nat) : Int) := by unfold wrap64; omega
    obtain ⟨W3, hW3⟩ : ∃ W3, W2.setCell ⟨N + 1, 0, none⟩ (.int .i64 ((k + 1 : Nat) : Int)) = W3 := ⟨_, rfl⟩
    have ht3 : touch (fun b => N ≤ b ∧ b < N + 7) W2 W3 := by rw [← hW3]; exact touch.setCell _ _ _ ⟨by simp, by simp⟩
    have hat3 : W3.heap[N + 1]? = some (.cells #[.int .i64 ((k + 1 : Nat) : Int)] 3 (0, 0)) := by rw [← hW3]; exact heap_set hat2
    have same3 : ∀ {b : Nat} {o : Obj}, W2.heap[b]? = some o → b ≠ N + 1 → W3.heap[b]? = some o := fun h hn => by rw [← hW3]; exact (Below.heap_setCell W2 ⟨N + 1, 0, none⟩ _ _ hn).trans h
    have hl3 := same3 hl2 (by omega)
    have hd3 := same3 hd2 (by omega)
    have hy3 := same3 hy2 (by omega)
    have hyc3 := cell_one1 hy3
    have hac3 := cell_one1 hat3
    have hj3 : J (N + 7) k W3 := hT _ _ _ _ hj2 (ht3.mono fun b _ e => ⟨by omega, e.2⟩)
    have hback : ∀ b, b = N + 3 ∨ b = N + 2 ∨ b = N + 4 → W3.heap[b]? = w.heap[b]? := by
      intro b hb'
      rw [← hW3, ← hW2]
      exact (Below.heap_setCell _ ⟨N + 1, 0, none⟩ _ _ (show b ≠ N + 1 by omega)).trans (World.putObj_heap_other (by omega))
    clear ht2 hW2 hj hl hd hy hat hj2 hl2 hd2 hy2 hat2
    have hW3' : W2.setCell ⟨N + 1, 0, none⟩ (.int .i64 ((k : Int) + 1)) = W3 := hW3
    obtain ⟨Rp, hRp⟩ : ∃ Rp, (fun (e : Ending) (W' : World) => (e = .returned (.bool true) ∧ (J (N + 7) (k + 1) W' ∧ W'.heap[N + 6]? = some (.loop (rec .ready none)) ∧ W'.heap[N + 5]? = some (.deferred (some [])) ∧ W'.heap[N]? = some (.cells #[.func (.yield l) #[] #[]] 138 (0, 0)) ∧ W'.heap[N + 1]? = some (.cells #[.int .i64 ((k + 1 : Nat) : Int)] 3 (0, 0))) ∧ ∀ b, b = N + 3 ∨ b = N + 2 ∨ b = N + 4 → W'.heap[b]? = w.heap[b]?) ∨ (e = .returned (.bool false) ∧ Jx (N + 7) W' ∧ W'.heap[N + 6]? = some (.loop (rec .done (some .ret))) ∧ W'.heap[N + 5]? = some (.deferred (some [])))) = Rp := ⟨_, rfl⟩
    rw [hRp]
    have go : ∀ W4, J (N + 7) (k + 1) W4 → (∀ b, N ≤ b → b < N + 7 → W4.heap[b]? = W3.heap[b]?) → ∃ v w', (Instr.endRound (N + 6) none).run Tryz.prog W4 = .ok v w' ∧ Rp (.returned v) w' := by
      intro W4 hj4 hk4
      have g6 := (hk4 (N + 6) (by omega) (by omega)).trans hl3
      refine ⟨_, _, run_endRound none g6, ?_⟩
      rw [← hRp]
      rw [hset]
      refine .inl ⟨rfl, ⟨hT _ _ _ _ hj4 (touch.putObj _ _ _ ⟨by omega, by omega⟩), World.putObj_heap_same (hlt g6), hbe _ ((hk4 (N + 5) (by omega) (by omega)).trans hd3) (by omega), hbe _ ((hk4 N (by omega) (by omega)).trans hy3) (by omega), hbe _ ((hk4 (N + 1) (by omega) (by omega)).trans hat3) (by omega)⟩, ?_⟩
      intro b hb'
      exact (World.putObj_heap_other (by omega)).trans ((hk4 b (by omega) (by omega)).trans (hback b hb'))
    have halt : ∀ W4, Jx (N + 7) W4 → (∀ b, N ≤ b → b < N + 7 → W4.heap[b]? = W3.heap[b]?) → ∃ v w', (Instr.endRound (N + 6) (some .ret)).run Tryz.prog W4 = .ok v w' ∧ Rp (.returned v) w' := by
      intro W4 hj4 hk4
      have g6 := (hk4 (N + 6) (by omega) (by omega)).trans hl3
      refine ⟨_, _, run_endRound (some .ret) g6, ?_⟩
      rw [← hRp]
      rw [hset]
      exact .inr ⟨rfl, hTx _ _ _ hj4 (touch.putObj _ _ _ ⟨by omega, by omega⟩), World.putObj_heap_same (hlt g6), hbe _ ((hk4 (N + 5) (by omega) (by omega)).trans hd3) (by omega)⟩
    clear hRp
    rcases hd0 : s.data.toList with _ | ⟨c, r⟩
    · obtain rfl : s = ⟨#[]⟩ := by cases s with | mk d => cases d with | mk l => simp at hd0; subst hd0; rfl
      clear hd0
      have hdone := go W3 (hS _ _ _ _ hk rfl hj3) fun _ _ _ => rfl
      clear go halt
      gi_wp2
      refine ⟨fun _ _ => trivial, ?_⟩
      gi_wp2
      exact hdone
    · have hne : s.toList.isEmpty = false := by rw [ByteArray.toList_eq, hd0]; rfl
      have hsz0 : 0 < s.size := by rw [Sc.ba_size, hd0]; simp
      have hsz1 : (0 : Int) < (s.size : Int) := by omega
      have hi0 : ∀ h, s[0]'h = c := by
        intro h
        show s.data[0]'h = c
        rw [← Array.getElem_toList]
        simp [hd0]
      by_cases hc : c = 35
      · have hcc : ((c.toNat : Int) == 35) = true := by subst hc; rfl
        have hdone := go W3 (hS _ _ _ _ hk (by unfold skipB; rw [hd0]; subst hc; rfl) hj3) fun _ _ _ => rfl
        clear go halt hd0
        gi_wp2
        refine ⟨fun _ _ => trivial, ?_⟩
        gi_wp2
        exact hdone
      · have hcc : ((c.toNat : Int) == 35) = false := by
          have : c.toNat ≠ 35 := fun e => hc (UInt8.toNat_inj.1 e)
          simpa using (by omega : (c.toNat : Int) ≠ 35)
        have hcp : ¬ ((c.toNat : Int) = 35) := by
          have : c.toNat ≠ 35 := fun e => hc (UInt8.toNat_inj.1 e)
          omega
        obtain ⟨fn', tmps', assign', body', hyy, hR⟩ := hY (n - 1 - 1 - 1) (N + 7) k s W3 hk (by unfold skipB; rw [hd0]; simpa using hc) hj3
        have hyy' : (Instr.yield l #[.int .i64 ((k : Int) + 1), .string s]).run Tryz.prog W3 = .ok (.round l fn' tmps' assign' body') W3 := hyy
        have hac3' : W3.cell? ⟨N + 1, 0, none⟩ = some (.int .i64 ((k : Int) + 1)) := hac3
        clear hd0 hyy
        gi_wp2
        first | refine ⟨fun _ _ => trivial, ?_⟩ | refine ⟨(fun h => (by cases h)), ?_⟩
        refine RoundIn.mono (F := Fence.wide.inRound (N + 6)) hR ?_
        rintro e W4 ⟨hkeep, (⟨rfl, hj4⟩ | ⟨rfl, hx4⟩)⟩
        · have hdone := go W4 hj4 fun b h1 h2 => hkeep b (by omega) h2
          clear go halt
          gi_wp2
          exact hdone
        · have hdone := halt W4 hx4 fun b h1 h2 => hkeep b (by omega) h2
          clear go halt
          gi_wp2
          exact hdone
  rintro e W' ⟨⟨v, rfl⟩, (⟨hj, hl, hd, hy, hat⟩ | ⟨hx, hl, hd⟩)⟩
  · refine ⟨_, _, run_endLoop hl (by rw [hst]; simp), ?_⟩
    rw [hpe]
    refine ⟨by simp, .inl ⟨_, _, rfl, run_takeDeferred (hbe _ hd (by omega)), ?_⟩⟩
    refine ⟨_, results_none rfl _ _ _, ⟨_, rfl⟩, N + 7, .inl ?_⟩
    exact hT _ _ _ _ hj ((touch.putObj _ _ _ ⟨by omega, by omega⟩).trans (touch.putObj _ _ _ ⟨by omega, by omega⟩))
  · refine ⟨_, _, run_endLoop hl (by rw [hst]; simp), ?_⟩
    rw [hpe]
    refine wpIn_ret ?_
    refine ⟨by simp, .inl ⟨_, _, rfl, run_takeDeferred (hbe _ hd (by omega)), ?_⟩⟩
    refine ⟨_, results_none rfl _ _ _, ⟨_, rfl⟩, N + 7, .inr ?_⟩
    exact hTx _ _ _ hx ((touch.putObj _ _ _ ⟨by omega, by omega⟩).trans (touch.putObj _ _ _ ⟨by omega, by omega⟩))
end Go.Proofs.YtcloigoajohppaaGreatDoor

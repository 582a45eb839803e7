import Derived.Test.YtcloigoajohppaaGreatDoorZ5
set_option linter.unusedVariables false
set_option linter.unusedSimpArgs false
set_option maxHeartbeats 4000000
/- The reference's parser: links, powers. -/
namespace Go.Proofs.YtcloigoajohppaaGreatDoor
open Go.RowKit
open Av
open Sc
set_option maxRecDepth 100000
set_option linter.unusedSimpArgs false
attribute [local go_sem] Av.guardB Av.sop Av.hopx Av.hop Av.hopCall Av.hopF Av.hopB Av.evo Av.evos Av.avCells Av.loadK Av.bound Av.abin Av.aun Av.partsC Av.lfill Av.placesB Av.setAt Av.stl Av.takes Av.src Av.bxOf Av.ownOf Av.St.res Av.St.put Av.St.addBox Av.St.putOwn Av.delL Av.delS Av.look Av.lookL Av.storeSt Av.stealSt Av.St.setBox Av.keepL Av.hitB Av.snap Av.snaps Av.snapCaps Av.AV.lit Av.AV.refs Av.capRefs Av.PV.av Av.CV.av Av.startSt Av.steals Av.athen Av.ablock Av.appK Av.AllS Av.AllO Av.AllR Av.keepS Av.St.avAt Av.RetOK Av.retAll Av.retOne Av.intsOf Av.ptrB TypeDesc.isRow List.range_zero Option.some.injEq exists_eq_left' exists_eq_left exists_eq' exists_and_left exists_and_right exists_const true_and and_true and_self false_and and_false or_false false_or or_true true_or if_true if_false Bool.false_eq_true List.zipIdx_cons List.zipIdx_nil List.map_cons List.map_nil List.filter_cons List.filter_nil List.contains_cons List.contains_nil List.drop_succ_cons List.drop_zero List.take_succ_cons List.take_zero List.take_nil List.drop_nil List.length_cons List.length_nil List.cons_append List.nil_append List.append_nil List.getElem?_cons_zero List.getElem?_cons_succ List.getElem?_nil Option.bind_some Option.bind_none Option.map_some Option.map_none Option.isNone_none Option.isNone_some Option.isSome_some Option.isSome_none Bool.and_true Bool.true_and Bool.and_false Bool.false_and Bool.or_false Bool.false_or Bool.not_true Bool.not_false beq_true beq_false Bool.true_beq Bool.false_beq Loc.s.injEq Loc.b.injEq decide_true decide_false beq_self_eq_true Nat.zero_add Nat.add_zero List.getElem?_toArray List.toList_toArray List.size_toArray Value.oneCell' List.all_cons List.all_nil Value.int.injEq AV.v.injEq AV.sl.injEq AV.agg.injEq AV.ref.injEq AV.ept.injEq AV.tup.injEq Value.bool.injEq PV.v.injEq PV.sl.injEq List.isEmpty_nil List.isEmpty_cons forall_const not_true_eq_false not_false_eq_true true_implies false_implies Value.string.injEq List.length_map List.getElem?_map Int.toNat_natCast Int.natCast_nonneg List.length_append Value.cells implies_true TypeDesc.struct.injEq TypeDesc.slice.injEq TypeDesc.array.injEq List.getElem?_toArray Prod.mk.injEq and_assoc exists_false List.cons.injEq Operand.tmp.injEq ite_self AV.fnv.injEq AV.clo.injEq ne_eq eq_self Tryz.sz3 Tryz.zr3 Tryz.by3 Tryz.pl3 Tryz.is3 Tryz.underlying3 Tryz.sz4 Tryz.pl4 Tryz.is4 Tryz.underlying4 Tryz.sz9 Tryz.zr9 Tryz.underlying9 Tryz.underlying5 Tryz.underlying56 Tryz.sz24 Tryz.zr24 Tryz.by24 Tryz.underlying24 Tryz.underlying70 Tryz.underlying69 Tryz.is72 Tryz.underlying72 Tryz.zr74 Tryz.underlying74 Tryz.underlying117 Tryz.underlying182 Tryz.sz64 Tryz.zr64 Tryz.pl64 Tryz.is64 Tryz.underlying64 Tryz.sz67 Tryz.zr67 Tryz.underlying67 Tryz.sz26 Tryz.underlying26 Tryz.sz30 Tryz.underlying30 Tryz.sz126 Tryz.zr126 Tryz.underlying126 Tryz.sz79 Tryz.zr79 Tryz.pl79 Tryz.is79 Tryz.underlying79 Tryz.sz81 Tryz.zr81 Tryz.underlying81 Tryz.sz83 Tryz.zr83 Tryz.underlying83 Tryz.sz85 Tryz.zr85 Tryz.underlying85 Tryz.sz35 Tryz.zr35 Tryz.is35 Tryz.underlying35 Tryz.underlying88 Tryz.sz22 Tryz.underlying22 Tryz.sz23 Tryz.underlying23 Tryz.sz27 Tryz.underlying27 Tryz.sz28 Tryz.underlying28 Tryz.sz31 Tryz.underlying31 Tryz.sz32 Tryz.underlying32 Tryz.sz33 Tryz.underlying33 Tryz.sz65 Tryz.is65 Tryz.underlying65 Tryz.sz68 Tryz.zr68 Tryz.underlying68 Tryz.underlying46 Tryz.underlying38 Tryz.underlying94 Tryz.sz91 Tryz.underlying91 Tryz.underlying86 all_arr loc_ss arr_two arr_one ResultVar.tmp.injEq Bool.not_true Bool.not_false undef Tryz.sz92 Tryz.underlying92 Tryz.sz131 Tryz.underlying131 Tryz.sz134 Tryz.zr134 Tryz.underlying134 Tryz.underlying95 Tryz.underlying136 Tryz.underlying103 Tryz.zr105 Tryz.underlying105 Tryz.underlying177 Tryz.underlying178 Tryz.underlying179 Fn.func.injEq Av.extSt Av.RetX List.zipIdx List.getD_cons_zero List.getD_cons_succ Sc.Fw.pv Sc.Rq.pv Sc.Ce.pv Sc.Ch.pv Sc.Wk.pv Sc.Og.pv Sc.Lk.pv Sc.Nt.pv Sc.Sn.pv Sc.rsR
theorem qlinkF (C : World → Prop) (b : Nat) (R : Rd) (M : RM) (tl : List Ext) {w : ByteArray} (hw : w = wLink) (a0 a1 a2 a3 : Int) (hl : R.x.net.links.length = 1024) : FnX Tryz.prog C 88 [.v (wrP b), .v (.string w), .sl 1 [[ip a0], [ip a1], [ip a2], [ip a3]]] (exts (pcq b R M tl)) (iv 8) (fun _ : Unit => exts (pcq b R M tl)) := by
 have e_network : (w.toList == (⟨#[110, 101, 116, 119, 111, 114, 107]⟩ : ByteArray).toList) = false := by rw [str_eq, hw]; exact decide_eq_false (by decide)
 have e_power : (w.toList == (⟨#[112, 111, 119, 101, 114]⟩ : ByteArray).toList) = false := by rw [str_eq, hw]; exact decide_eq_false (by decide)
 have e_link : (w.toList == (⟨#[108, 105, 110, 107]⟩ : ByteArray).toList) = true := by rw [str_eq, hw]; exact decide_eq_true (by decide)
 have hd : ((R.x.net.links.length : Int) == 1024) = true := by rw [hl]; rfl
 refine fn_okXn Tryz.func88 Tryz.ntmps88 Tryz.results88 (by kernel_rfl) rfl (of_decide_eq_true rfl) fun F E hF hC => ?_
 simp only [go_sem, simprocAttr, hF]
 repeat (first
  | ((with_reducible refine hand_id ?_); (first | (refine hand_rawField rfl rfl (by decide) Tryz.underlying105 rfl (m := 14) rfl rfl ?_) | (refine hand_rawField rfl rfl (by decide) Tryz.underlying35 rfl (m := 5) rfl rfl ?_) | (refine hand_rawField rfl rfl (by decide) Tryz.underlying26 rfl (m := 0) rfl rfl ?_) | (refine hand_eLoad (i := 0) (dd := .slice 126) rfl rfl (by decide) rfl rfl rfl (by first | assumption | rfl) Tryz.underlying23 rfl ?_) | (refine hand_eLen (i := 1) rfl rfl (by decide) Tryz.underlying23 rfl rfl rfl ?_)); simp only [go_sem, simprocAttr, hF, e_network, e_power, e_link, hd, Av.sopJ])
  | ((with_reducible first | refine sops_go ?_ | refine sops_end ?_ | refine awp_if ?_ | refine awp_ret ?_); simp only [go_sem, simprocAttr, hF, e_network, e_power, e_link, hd])
  | (with_reducible first | refine awp_seq_k fun _ _ => ?_ | refine awp_region (id := 0) [] ?_ | refine awp_region (id := 1) [1000011, 1000012] ?_ | refine awp_region (id := 2) [] ?_ | refine awp_region (id := 3) [] ?_ | refine awp_region (id := 13) [] ?_ | refine awp_region (id := 17) [] ?_ | refine awp_region (id := 18) [1000123, 1000124, 1000125] ?_ | refine awp_region (id := 19) [] ?_ | refine awp_block ?_)
  | go_step)
 all_goals (first | rfl | exact ⟨(), rfl⟩)

theorem qlinkO (C : World → Prop) (b : Nat) (R : Rd) (M : RM) (tl : List Ext) {w : ByteArray} (hw : w = wLink) (a0 a1 a2 a3 : Int) (hl : R.x.net.links.length < 1024) (hm : R.x.net.margin.length < 1024) : FnX Tryz.prog C 88 [.v (wrP b), .v (.string w), .sl 1 [[ip a0], [ip a1], [ip a2], [ip a3]]] (exts (pcq b R M tl)) (iv 0) (fun i : Hdr × Hdr => exts (pcq b { R with x := { R.x with net := { R.x.net with links := R.x.net.links ++ [⟨a0, a1, a2⟩], margin := R.x.net.margin ++ [a3] } } } { M with hl := i.1, hm := i.2 } tl)) := by
 have e_network : (w.toList == (⟨#[110, 101, 116, 119, 111, 114, 107]⟩ : ByteArray).toList) = false := by rw [str_eq, hw]; exact decide_eq_false (by decide)
 have e_power : (w.toList == (⟨#[112, 111, 119, 101, 114]⟩ : ByteArray).toList) = false := by rw [str_eq, hw]; exact decide_eq_false (by decide)
 have e_link : (w.toList == (⟨#[108, 105, 110, 107]⟩ : ByteArray).toList) = true := by rw [str_eq, hw]; exact decide_eq_true (by decide)
 have hd : ((R.x.net.links.length : Int) == 1024) = false := beq_eq_false_iff_ne.2 (by omega)
 refine fn_okXn Tryz.func88 Tryz.ntmps88 Tryz.results88 (by kernel_rfl) rfl (of_decide_eq_true rfl) fun F E hF hC => ?_
 simp only [go_sem, simprocAttr, hF]
 repeat (first
  | ((with_reducible refine hand_id ?_); (first | (refine hand_rawField rfl rfl (by decide) Tryz.underlying105 rfl (m := 14) rfl rfl ?_) | (refine hand_rawField rfl rfl (by decide) Tryz.underlying35 rfl (m := 5) rfl rfl ?_) | (refine hand_rawField rfl rfl (by decide) Tryz.underlying26 rfl (m := 0) rfl rfl ?_) | (refine hand_eLoad (i := 0) (dd := .slice 126) rfl rfl (by decide) rfl rfl rfl (by first | assumption | rfl) Tryz.underlying23 rfl ?_) | (refine hand_eStore (i := 0) rfl rfl rfl rfl rfl rfl (by first | assumption | exact Nat.le_of_ble_eq_true rfl | (simp only [List.length_set, List.length_cons]; omega)) (by first | assumption | rfl) (by first | assumption | rfl) Tryz.sz23 ?_) | (refine hand_eLen (i := 1) rfl rfl (by decide) Tryz.underlying23 rfl rfl rfl ?_) | (refine hand_eApp (i := 1) (e := 126) (sz := 3) rfl rfl (by decide) Tryz.underlying23 (by kernel_rfl) rfl rfl rfl rfl (by simp only [List.length_cons, List.length_nil, List.length_map]; omega) (fun q2 V2 xs2 hc2 ho2 => ?_)) | (refine hand_eApp (i := 2) (e := 3) (sz := 1) rfl rfl (by decide) Tryz.underlying24 (by kernel_rfl) rfl rfl rfl rfl (by simp only [List.length_cons, List.length_nil, List.length_map]; omega) (fun q3 V3 xs3 hc3 ho3 => ?_))); simp only [go_sem, simprocAttr, hF, e_network, e_power, e_link, hd, Av.sopJ])
  | ((with_reducible refine ex_id ?_); (first | (refine ⟨_, handq_rawField rfl rfl (by decide) Tryz.underlying26 rfl (m := 0) rfl rfl, rfl, ?_⟩) | (refine ⟨_, handq_eLoad (i := 0) (dd := .slice 126) rfl rfl (by decide) rfl rfl rfl (by first | assumption | rfl) Tryz.underlying23 rfl, rfl, ?_⟩) | (refine ⟨_, handq_eLoad (i := 0) (dd := .slice 3) rfl rfl (by decide) rfl rfl rfl (by first | assumption | rfl) Tryz.underlying24 rfl, rfl, ?_⟩)); simp only [go_sem, simprocAttr, hF, e_network, e_power, e_link, hd, hbx])
  | ((with_reducible first | refine sopsJ_go ?_ | refine sopsJ_end ?_ | refine headW_end ?_); simp only [go_sem, simprocAttr, hF, e_network, e_power, e_link, hd, Av.sopJ])
  | (refine awp_floatJ (id := 20) [131, 1000130, 1000131, 1000143, 1000145] 16 [(16, 0)] (by kernel_rfl) (by kernel_rfl) (by kernel_rfl) rfl rfl (fun bx0 hbx => ?_); (try dsimp only [Av.addWs, Av.addW, List.modify_succ_cons, List.modify_zero_cons, List.push_toArray, List.cons_append, List.nil_append, List.take, List.drop]))
  | (refine awp_floatJ (id := 21) [150, 1000149, 1000150, 1000155, 1000157] 9 [(9, 0)] (by kernel_rfl) (by kernel_rfl) (by kernel_rfl) rfl rfl (fun bx0 hbx => ?_); (try dsimp only [Av.addWs, Av.addW, List.modify_succ_cons, List.modify_zero_cons, List.push_toArray, List.cons_append, List.nil_append, List.take, List.drop]))
  | ((with_reducible refine headW_go ?_); simp only [go_sem, simprocAttr, hF, e_network, e_power, e_link, hd, hbx])
  | ((with_reducible first | refine sops_go ?_ | refine sops_end ?_ | refine awp_if ?_ | refine awp_skip ?_ | refine awp_ret ?_); simp only [go_sem, simprocAttr, hF, e_network, e_power, e_link, hd])
  | (with_reducible first | refine awp_seq_k fun _ _ => ?_ | refine awp_region (id := 0) [] ?_ | refine awp_region (id := 1) [1000011, 1000012] ?_ | refine awp_region (id := 2) [] ?_ | refine awp_region (id := 3) [] ?_ | refine awp_region (id := 13) [] ?_ | refine awp_region (id := 17) [] ?_ | refine awp_region (id := 18) [1000123, 1000124, 1000125] ?_ | refine awp_region (id := 22) [] ?_ | refine awp_block ?_)
  | go_step)
 refine ⟨((⟨q2, V2, xs2⟩ : Hdr), (⟨q3, V3, xs3⟩ : Hdr)), ?_⟩
 simp only [pcq, List.map_append, List.map_cons, List.map_nil]
 rfl

theorem qpower0 (C : World → Prop) (b : Nat) (X : RX) {w : ByteArray} (hw : w = wPower) (a0 a1 a2 : Int) (g1 : decide (a0 < 0) = true) : FnX Tryz.prog C 88 [.v (wrP b), .v (.string w), .sl 1 [[ip a0], [ip a1], [ip a2]]] (exts (pcsQ b X)) (iv 2) (fun _ : Unit => exts (pcsQ b X)) := by
 have e_network : (w.toList == (⟨#[110, 101, 116, 119, 111, 114, 107]⟩ : ByteArray).toList) = false := by rw [str_eq, hw]; exact decide_eq_false (by decide)
 have e_power : (w.toList == (⟨#[112, 111, 119, 101, 114]⟩ : ByteArray).toList) = true := by rw [str_eq, hw]; exact decide_eq_true (by decide)
 have e_link : (w.toList == (⟨#[108, 105, 110, 107]⟩ : ByteArray).toList) = false := by rw [str_eq, hw]; exact decide_eq_false (by decide)
 refine fn_okXn Tryz.func88 Tryz.ntmps88 Tryz.results88 (by kernel_rfl) rfl (of_decide_eq_true rfl) fun F E hF hC => ?_
 simp only [go_sem, simprocAttr, hF]
 repeat (first
  | ((with_reducible refine hand_id ?_); (first | (refine hand_rawField rfl rfl (by decide) Tryz.underlying105 rfl (m := 14) rfl rfl ?_) | (refine hand_rawField rfl rfl (by decide) Tryz.underlying35 rfl (m := 5) rfl rfl ?_)); simp only [go_sem, simprocAttr, hF, e_network, e_power, e_link, g1, Av.sopJ])
  | ((with_reducible first | refine sopsJ_end ?_ | refine headW_end ?_); simp only [go_sem, simprocAttr, hF, e_network, e_power, e_link, g1, Av.sopJ])
  | (refine awp_floatJ (id := 14) [1000083, 1000084, 1000099, 1000100] 30 [] (by kernel_rfl) (by kernel_rfl) (by kernel_rfl) rfl rfl (fun bx0 hbx => ?_); (try dsimp only [Av.addWs, Av.addW, List.modify_succ_cons, List.modify_zero_cons, List.push_toArray, List.cons_append, List.nil_append, List.take, List.drop]))
  | ((with_reducible refine headW_go ?_); simp only [go_sem, simprocAttr, hF, e_network, e_power, e_link, g1, hbx])
  | ((with_reducible first | refine sops_go ?_ | refine sops_end ?_ | refine awp_if ?_ | refine awp_ret ?_); simp only [go_sem, simprocAttr, hF, e_network, e_power, e_link, g1])
  | (with_reducible first | refine awp_seq_k fun _ _ => ?_ | refine awp_region (id := 0) [] ?_ | refine awp_region (id := 1) [1000011, 1000012] ?_ | refine awp_region (id := 2) [] ?_ | refine awp_region (id := 3) [] ?_ | refine awp_region (id := 13) [] ?_ | refine awp_region (id := 15) [] ?_ | refine awp_block ?_)
  | go_step)
 all_goals (first | rfl | exact ⟨(), rfl⟩)

theorem qpower1 (C : World → Prop) (b : Nat) (X : RX) {w : ByteArray} (hw : w = wPower) (a0 a1 a2 : Int) (g1 : decide (a0 < 0) = false) (g2 : decide (a0 ≥ X.R.x.net.nodes) = true) : FnX Tryz.prog C 88 [.v (wrP b), .v (.string w), .sl 1 [[ip a0], [ip a1], [ip a2]]] (exts (pcsQ b X)) (iv 2) (fun _ : Unit => exts (pcsQ b X)) := by
 have e_network : (w.toList == (⟨#[110, 101, 116, 119, 111, 114, 107]⟩ : ByteArray).toList) = false := by rw [str_eq, hw]; exact decide_eq_false (by decide)
 have e_power : (w.toList == (⟨#[112, 111, 119, 101, 114]⟩ : ByteArray).toList) = true := by rw [str_eq, hw]; exact decide_eq_true (by decide)
 have e_link : (w.toList == (⟨#[108, 105, 110, 107]⟩ : ByteArray).toList) = false := by rw [str_eq, hw]; exact decide_eq_false (by decide)
 refine fn_okXn Tryz.func88 Tryz.ntmps88 Tryz.results88 (by kernel_rfl) rfl (of_decide_eq_true rfl) fun F E hF hC => ?_
 simp only [go_sem, simprocAttr, hF]
 repeat (first
  | ((with_reducible refine hand_id ?_); (first | (refine hand_rawField rfl rfl (by decide) Tryz.underlying105 rfl (m := 14) rfl rfl ?_) | (refine hand_rawField rfl rfl (by decide) Tryz.underlying35 rfl (m := 5) rfl rfl ?_)); simp only [go_sem, simprocAttr, hF, e_network, e_power, e_link, g1, g2, Av.sopJ])
  | ((with_reducible refine ex_id ?_); (first | (refine ⟨_, handq_rawField rfl rfl (by decide) Tryz.underlying26 rfl (m := 0) rfl rfl, rfl, ?_⟩) | (refine ⟨_, handq_eLoad (i := 0) (dd := .int .i64) rfl rfl (by decide) rfl rfl rfl (by first | assumption | rfl) Tryz.underlying3 rfl, rfl, ?_⟩)); simp only [go_sem, simprocAttr, hF, e_network, e_power, e_link, g1, g2, hbx])
  | ((with_reducible first | refine sopsJ_end ?_ | refine headW_end ?_); simp only [go_sem, simprocAttr, hF, e_network, e_power, e_link, g1, g2, Av.sopJ])
  | (refine awp_floatJ (id := 14) [1000083, 1000084, 1000099, 1000100] 30 [] (by kernel_rfl) (by kernel_rfl) (by kernel_rfl) rfl rfl (fun bx0 hbx => ?_); (try dsimp only [Av.addWs, Av.addW, List.modify_succ_cons, List.modify_zero_cons, List.push_toArray, List.cons_append, List.nil_append, List.take, List.drop]))
  | ((with_reducible refine headW_go ?_); simp only [go_sem, simprocAttr, hF, e_network, e_power, e_link, g1, g2, hbx])
  | ((with_reducible first | refine sops_go ?_ | refine sops_end ?_ | refine awp_if ?_ | refine awp_ret ?_); simp only [go_sem, simprocAttr, hF, e_network, e_power, e_link, g1, g2])
  | (with_reducible first | refine awp_seq_k fun _ _ => ?_ | refine awp_region (id := 0) [] ?_ | refine awp_region (id := 1) [1000011, 1000012] ?_ | refine awp_region (id := 2) [] ?_ | refine awp_region (id := 3) [] ?_ | refine awp_region (id := 13) [] ?_ | refine awp_region (id := 15) [] ?_ | refine awp_block ?_)
  | go_step)
 all_goals (first | rfl | exact ⟨(), rfl⟩)

theorem qpower2 (C : World → Prop) (b : Nat) (X : RX) {w : ByteArray} (hw : w = wPower) (a0 a1 a2 : Int) (g1 : decide (a0 < 0) = false) (g2 : decide (a0 ≥ X.R.x.net.nodes) = false) (g3 : decide (a1 < 0) = true) : FnX Tryz.prog C 88 [.v (wrP b), .v (.string w), .sl 1 [[ip a0], [ip a1], [ip a2]]] (exts (pcsQ b X)) (iv 2) (fun _ : Unit => exts (pcsQ b X)) := by
 have e_network : (w.toList == (⟨#[110, 101, 116, 119, 111, 114, 107]⟩ : ByteArray).toList) = false := by rw [str_eq, hw]; exact decide_eq_false (by decide)
 have e_power : (w.toList == (⟨#[112, 111, 119, 101, 114]⟩ : ByteArray).toList) = true := by rw [str_eq, hw]; exact decide_eq_true (by decide)
 have e_link : (w.toList == (⟨#[108, 105, 110, 107]⟩ : ByteArray).toList) = false := by rw [str_eq, hw]; exact decide_eq_false (by decide)
 refine fn_okXn Tryz.func88 Tryz.ntmps88 Tryz.results88 (by kernel_rfl) rfl (of_decide_eq_true rfl) fun F E hF hC => ?_
 simp only [go_sem, simprocAttr, hF]
 repeat (first
  | ((with_reducible refine hand_id ?_); (first | (refine hand_rawField rfl rfl (by decide) Tryz.underlying105 rfl (m := 14) rfl rfl ?_) | (refine hand_rawField rfl rfl (by decide) Tryz.underlying35 rfl (m := 5) rfl rfl ?_)); simp only [go_sem, simprocAttr, hF, e_network, e_power, e_link, g1, g2, g3, Av.sopJ])
  | ((with_reducible refine ex_id ?_); (first | (refine ⟨_, handq_rawField rfl rfl (by decide) Tryz.underlying26 rfl (m := 0) rfl rfl, rfl, ?_⟩) | (refine ⟨_, handq_eLoad (i := 0) (dd := .int .i64) rfl rfl (by decide) rfl rfl rfl (by first | assumption | rfl) Tryz.underlying3 rfl, rfl, ?_⟩)); simp only [go_sem, simprocAttr, hF, e_network, e_power, e_link, g1, g2, g3, hbx])
  | ((with_reducible first | refine sopsJ_end ?_ | refine headW_end ?_); simp only [go_sem, simprocAttr, hF, e_network, e_power, e_link, g1, g2, g3, Av.sopJ])
  | (refine awp_floatJ (id := 14) [1000083, 1000084, 1000099, 1000100] 30 [] (by kernel_rfl) (by kernel_rfl) (by kernel_rfl) rfl rfl (fun bx0 hbx => ?_); (try dsimp only [Av.addWs, Av.addW, List.modify_succ_cons, List.modify_zero_cons, List.push_toArray, List.cons_append, List.nil_append, List.take, List.drop]))
  | ((with_reducible refine headW_go ?_); simp only [go_sem, simprocAttr, hF, e_network, e_power, e_link, g1, g2, g3, hbx])
  | ((with_reducible first | refine sops_go ?_ | refine sops_end ?_ | refine awp_if ?_ | refine awp_ret ?_); simp only [go_sem, simprocAttr, hF, e_network, e_power, e_link, g1, g2, g3])
  | (with_reducible first | refine awp_seq_k fun _ _ => ?_ | refine awp_region (id := 0) [] ?_ | refine awp_region (id := 1) [1000011, 1000012] ?_ | refine awp_region (id := 2) [] ?_ | refine awp_region (id := 3) [] ?_ | refine awp_region (id := 13) [] ?_ | refine awp_region (id := 15) [] ?_ | refine awp_block ?_)
  | go_step)
 all_goals (first | rfl | exact ⟨(), rfl⟩)

theorem qpower3 (C : World → Prop) (b : Nat) (X : RX) {w : ByteArray} (hw : w = wPower) (a0 a1 a2 : Int) (g1 : decide (a0 < 0) = false) (g2 : decide (a0 ≥ X.R.x.net.nodes) = false) (g3 : decide (a1 < 0) = false) (g4 : decide (a1 ≥ X.R.x.net.nodes) = true) : FnX Tryz.prog C 88 [.v (wrP b), .v (.string w), .sl 1 [[ip a0], [ip a1], [ip a2]]] (exts (pcsQ b X)) (iv 2) (fun _ : Unit => exts (pcsQ b X)) := by
 have e_network : (w.toList == (⟨#[110, 101, 116, 119, 111, 114, 107]⟩ : ByteArray).toList) = false := by rw [str_eq, hw]; exact decide_eq_false (by decide)
 have e_power : (w.toList == (⟨#[112, 111, 119, 101, 114]⟩ : ByteArray).toList) = true := by rw [str_eq, hw]; exact decide_eq_true (by decide)
 have e_link : (w.toList == (⟨#[108, 105, 110, 107]⟩ : ByteArray).toList) = false := by rw [str_eq, hw]; exact decide_eq_false (by decide)
 refine fn_okXn Tryz.func88 Tryz.ntmps88 Tryz.results88 (by kernel_rfl) rfl (of_decide_eq_true rfl) fun F E hF hC => ?_
 simp only [go_sem, simprocAttr, hF]
 repeat (first
  | ((with_reducible refine hand_id ?_); (first | (refine hand_rawField rfl rfl (by decide) Tryz.underlying105 rfl (m := 14) rfl rfl ?_) | (refine hand_rawField rfl rfl (by decide) Tryz.underlying35 rfl (m := 5) rfl rfl ?_)); simp only [go_sem, simprocAttr, hF, e_network, e_power, e_link, g1, g2, g3, g4, Av.sopJ])
  | ((with_reducible refine ex_id ?_); (first | (refine ⟨_, handq_rawField rfl rfl (by decide) Tryz.underlying26 rfl (m := 0) rfl rfl, rfl, ?_⟩) | (refine ⟨_, handq_eLoad (i := 0) (dd := .int .i64) rfl rfl (by decide) rfl rfl rfl (by first | assumption | rfl) Tryz.underlying3 rfl, rfl, ?_⟩)); simp only [go_sem, simprocAttr, hF, e_network, e_power, e_link, g1, g2, g3, g4, hbx])
  | ((with_reducible first | refine sopsJ_end ?_ | refine headW_end ?_); simp only [go_sem, simprocAttr, hF, e_network, e_power, e_link, g1, g2, g3, g4, Av.sopJ])
  | (refine awp_floatJ (id := 14) [1000083, 1000084, 1000099, 1000100] 30 [] (by kernel_rfl) (by kernel_rfl) (by kernel_rfl) rfl rfl (fun bx0 hbx => ?_); (try dsimp only [Av.addWs, Av.addW, List.modify_succ_cons, List.modify_zero_cons, List.push_toArray, List.cons_append, List.nil_append, List.take, List.drop]))
  | ((with_reducible refine headW_go ?_); simp only [go_sem, simprocAttr, hF, e_network, e_power, e_link, g1, g2, g3, g4, hbx])
  | ((with_reducible first | refine sops_go ?_ | refine sops_end ?_ | refine awp_if ?_ | refine awp_ret ?_); simp only [go_sem, simprocAttr, hF, e_network, e_power, e_link, g1, g2, g3, g4])
  | (with_reducible first | refine awp_seq_k fun _ _ => ?_ | refine awp_region (id := 0) [] ?_ | refine awp_region (id := 1) [1000011, 1000012] ?_ | refine awp_region (id := 2) [] ?_ | refine awp_region (id := 3) [] ?_ | refine awp_region (id := 13) [] ?_ | refine awp_region (id := 15) [] ?_ | refine awp_block ?_)
  | go_step)
 all_goals (first | rfl | exact ⟨(), rfl⟩)

theorem qpowerO (C : World → Prop) (b : Nat) (X : RX) {w : ByteArray} (hw : w = wPower) {g : Nat} (hq : X.hp.q = some g) (a c : Nat) (v : Int) {z : Pz} (ha : X.pw[a]? = some z) (hc2 : c < z.row.length) (h1 : (a : Int) < X.R.x.net.nodes) (h2 : (c : Int) < X.R.x.net.nodes) : FnX Tryz.prog C 88 [.v (wrP b), .v (.string w), .sl 1 [[ip (a : Int)], [ip (c : Int)], [ip v]]] (exts (pcsQ b X)) (iv 0) (fun _ : Unit => exts (pcsQ b { X with pw := X.pw.set a { z with row := z.row.set c v } })) := by
 obtain ⟨R, M, ⟨q, V⟩, hbs, has, pw, bs, zs⟩ := X
 cases hq
 have hzl : (z.row.map fun n => [Value.int .i64 n]).length = z.row.length := List.length_map _
 have hpl : a < (pw.map fun x => [x.V]).length := by rw [List.length_map]; exact (List.getElem?_eq_some_iff.1 ha).1
 have hone : ∀ r ∈ pw.map fun x => [x.V], r.length = 1 := fun r hr => by obtain ⟨y, _, rfl⟩ := List.mem_map.1 hr; rfl
 have hrow : (pw.map fun x => [x.V])[a]? = some [z.V] := by rw [List.getElem?_map, ha]; rfl
 have hone2 : ∀ r ∈ z.row.map fun n => [Value.int .i64 n], r.length = 1 := fun r hr => by obtain ⟨y, _, rfl⟩ := List.mem_map.1 hr; rfl
 have hcl : c < (z.row.map fun n => [Value.int .i64 n]).length := by rw [List.length_map]; exact hc2
 have hrow2 : (z.row.map fun n => [Value.int .i64 n])[c]? = some [.int .i64 z.row[c]] := by rw [List.getElem?_map, List.getElem?_eq_getElem hc2]; rfl
 have g1 : decide ((a : Int) < 0) = false := decide_eq_false (by omega)
 have g2 : decide ((a : Int) ≥ R.x.net.nodes) = false := decide_eq_false (by dsimp only at h1; omega)
 have g3 : decide ((c : Int) < 0) = false := decide_eq_false (by omega)
 have g4 : decide ((c : Int) ≥ R.x.net.nodes) = false := decide_eq_false (by dsimp only at h2; omega)
 have e_network : (w.toList == (⟨#[110, 101, 116, 119, 111, 114, 107]⟩ : ByteArray).toList) = false := by rw [str_eq, hw]; exact decide_eq_false (by decide)
 have e_power : (w.toList == (⟨#[112, 111, 119, 101, 114]⟩ : ByteArray).toList) = true := by rw [str_eq, hw]; exact decide_eq_true (by decide)
 have e_link : (w.toList == (⟨#[108, 105, 110, 107]⟩ : ByteArray).toList) = false := by rw [str_eq, hw]; exact decide_eq_false (by decide)
 refine fn_okXn Tryz.func88 Tryz.ntmps88 Tryz.results88 (by kernel_rfl) rfl (of_decide_eq_true rfl) fun F E hF hC => ?_
 simp only [go_sem, simprocAttr, hF]
 repeat (first
  | ((with_reducible refine hand_id ?_); (first | (refine hand_rawField rfl rfl (by decide) Tryz.underlying105 rfl (m := 14) rfl rfl ?_) | (refine hand_rawField rfl rfl (by decide) Tryz.underlying35 rfl (m := 5) rfl rfl ?_) | (refine hand_vStore (i := 10 + (zs.length + (bs.length + a))) (k := c) (c := 0) (sz := 1) rfl rfl rfl (pcsQ_row ha) hone2 hrow2 (by decide) rfl rfl rfl rfl Tryz.sz3 ?_)); simp only [go_sem, simprocAttr, hF, e_network, e_power, e_link, g1, g2, g3, g4, Av.sopJ])
  | ((with_reducible refine ex_id ?_); (first | (refine ⟨_, handq_rawField rfl rfl (by decide) Tryz.underlying26 rfl (m := 0) rfl rfl, rfl, ?_⟩) | (refine ⟨_, handq_eLoad (i := 0) (dd := .int .i64) rfl rfl (by decide) rfl rfl rfl rfl Tryz.underlying3 rfl, rfl, ?_⟩) | (refine ⟨_, handq_eLoad (i := 0) (dd := .slice 24) rfl rfl (by decide) rfl rfl rfl rfl Tryz.underlying22 rfl, rfl, ?_⟩) | (refine ⟨_, handq_vIndex (i := 7) (j := a) rfl rfl (by decide) rfl rfl rfl rfl hpl Tryz.underlying22 Tryz.sz24, rfl, ?_⟩) | (refine ⟨_, handq_vLoad (i := 7) (k := a) (c := 0) (sz := 1) (dd := .slice 3) rfl rfl (by decide) rfl rfl hone hrow rfl rfl Tryz.underlying24 rfl, rfl, ?_⟩) | (refine ⟨_, handq_vIndex (i := 10 + (zs.length + (bs.length + a))) (j := c) rfl rfl (by decide) rfl (pcsQ_row ha) rfl rfl hcl Tryz.underlying24 Tryz.sz3, rfl, ?_⟩)); simp only [go_sem, simprocAttr, hF, e_network, e_power, e_link, g1, g2, g3, g4, hbx])
  | ((with_reducible first | refine sopsJ_go ?_ | refine sopsJ_end ?_ | refine headW_end ?_); simp only [go_sem, simprocAttr, hF, e_network, e_power, e_link, g1, g2, g3, g4, Av.sopJ])
  | (refine awp_floatJ (id := 14) [1000083, 1000084, 1000099, 1000100] 30 [] (by kernel_rfl) (by kernel_rfl) (by kernel_rfl) rfl rfl (fun bx0 hbx => ?_); (try dsimp only [Av.addWs, Av.addW, List.modify_succ_cons, List.modify_zero_cons, List.push_toArray, List.cons_append, List.nil_append, List.take, List.drop]))
  | (refine awp_floatJ (id := 16) [1000105, 1000106, 1000110, 1000111, 1000118] 16 [] (by kernel_rfl) (by kernel_rfl) (by kernel_rfl) rfl rfl (fun bx0 hbx => ?_); (try dsimp only [Av.addWs, Av.addW, List.modify_succ_cons, List.modify_zero_cons, List.push_toArray, List.cons_append, List.nil_append, List.take, List.drop]))
  | ((with_reducible refine headW_go ?_); simp only [go_sem, simprocAttr, hF, e_network, e_power, e_link, g1, g2, g3, g4, hbx])
  | ((with_reducible first | refine sops_go ?_ | refine sops_end ?_ | refine awp_if ?_ | refine awp_skip ?_ | refine awp_ret ?_); simp only [go_sem, simprocAttr, hF, e_network, e_power, e_link, g1, g2, g3, g4])
  | (with_reducible first | refine awp_seq_k fun _ _ => ?_ | refine awp_region (id := 0) [] ?_ | refine awp_region (id := 1) [1000011, 1000012] ?_ | refine awp_region (id := 2) [] ?_ | refine awp_region (id := 3) [] ?_ | refine awp_region (id := 13) [] ?_ | refine awp_region (id := 22) [] ?_ | refine awp_block ?_)
  | go_step)
 have e1 : ((z.row.map fun n => [Value.int IntKind.i64 n]).set c ([Value.int IntKind.i64 z.row[c]].set 0 (.int .i64 v))) = (z.row.set c v).map fun n => [Value.int IntKind.i64 n] := by rw [List.map_set]; rfl
 rw [e1]
 exact congrArg E.and (congrArg exts (pcsQ_setRow (z' := { z with row := z.row.set c v }) ha rfl))
/- The reference's parser: the network. -/
section
variable {P : Program} {σ : St}
theorem awp_dropP {F : Fr} {cd : Code} {Q : AX → St → Prop} {E : Ext} {l l' : List Ext} {X : Ext} (hE : σ.ext = E.and (exts l)) (hp : l.Perm (X :: l')) (h : AWp P F cd Q { σ with ext := E.and (exts l') }) : AWp P F cd Q σ := by
 refine awp_eqE (E' := E.and (exts (X :: l'))) (by rw [hE]; exact (EqE.refl E).congr (EqE.perm hp)) fun γ a w hr => ?_
 have hext := hr.exth
 refine h γ a w (hr.turn (Turn.same (E := E.and (exts l')) ⟨hext.1, hext.2.1.1, fun b hb hc => hext.2.2 b hb (hc.elim (fun h => .inl (.inl h)) (fun h => .inr (.inl h)))⟩ (fun b hb => hb.elim .inl (fun h => .inr (.inl h))) (fun b hb => .inr (hb.elim .inl (fun h => .inr (.inl h)))) (fun w0 h => ⟨h.1, h.2.1⟩) (fun R h => ⟨h.1, h.2.1⟩) (fun p h => .inl (h.elim .inl (fun h => .inr (.inl h))))))
end

theorem hand_makeZ {n d : Nat} {σ : St} {o : Oper} {K : St → Prop} {E : Ext} {x : Operand} {m : Nat} {l : List Ext} (ho : o.op = .makeSlice 22 x x) (hd : o.dst = some d) (hdn : d < n) (hE : σ.ext = E.and (exts l)) (hx : evo (Av.look σ.slot) x = some (.v (.int .i64 (m : Int)))) (hm : m ≤ 1000000)
 (h : ∀ g V, V.cells = #[V] → V.oneCell' = true → K (({ σ with ext := E.and (exts (rawR 24 1 (some g) V (List.replicate m [.slice none 0 0]) :: l)) } : St).put d (.v V))) : Hand Tryz.prog n σ o K := by
 have hs := Tryz.sz24
 have hz := Tryz.zr24
 have hby := Tryz.by24
 cases hi : Tryz.prog.info? 24 with
 | none => rw [hi] at hs; cases hs
 | some ti =>
  rw [hi] at hs hz hby
  simp only [Option.map_some, Option.some.injEq, decide_eq_true_eq] at hs hz hby
  refine hand_makeInts (z := .slice none 0 0) ho hd hdn Tryz.underlying22 hi hz hs rfl hby rfl hE hx hm (fun g cap => ?_)
  have h1 := h g (.slice (some ⟨g, 0, none⟩) m cap) rfl rfl
  unfold rawR at h1
  rw [flat_one, List.map_replicate] at h1
  exact h1
theorem dropQ (b : Nat) (R : Rd) (M : RM) (T : List Ext) (N O : Ext) : (N :: pcq b R M (O :: T)).Perm (O :: pcq b R M (N :: T)) := by
 have h : ∀ D, pcq b R M D = (pcq b R M []) ++ D := fun D => rfl
 rw [h (O :: T), h (N :: T)]
 exact (List.perm_middle.symm).trans (((List.Perm.swap O N T).append_left _).trans List.perm_middle)
def mkR (n : Nat) (Y : List Pz) : List (List Value) := Y.map (fun x => [x.V]) ++ List.replicate (n - Y.length) [.slice none 0 0]
theorem mkR_len {n : Nat} {Y : List Pz} (h : Y.length ≤ n) : (mkR n Y).length = n := by
 unfold mkR
 rw [List.length_append, List.length_map, List.length_replicate]
 omega
theorem mkR_one {n : Nat} {Y : List Pz} : ∀ r ∈ mkR n Y, r.length = 1 := by
 intro r hr
 rcases List.mem_append.1 hr with hr | hr
 · obtain ⟨y, _, rfl⟩ := List.mem_map.1 hr; rfl
 · rw [List.eq_of_mem_replicate hr]; rfl
theorem mkR_get {n : Nat} {Y : List Pz} (h : Y.length < n) : (mkR n Y)[Y.length]? = some [.slice none 0 0] := by
 unfold mkR
 rw [List.getElem?_append_right (by rw [List.length_map]; omega), List.length_map, Nat.sub_self, List.getElem?_replicate, if_pos (by omega)]
theorem mkR_set {n : Nat} {Y : List Pz} {z : Pz} (h : Y.length < n) : (mkR n Y).set Y.length ([Value.slice none 0 0].set 0 z.V) = mkR n (Y ++ [z]) := by
 unfold mkR
 obtain ⟨k, hk⟩ : ∃ k, n - Y.length = k + 1 := ⟨n - Y.length - 1, by omega⟩
 rw [List.set_append_right _ _ (by rw [List.length_map]; omega), List.length_map, Nat.sub_self, hk, List.replicate_succ, List.map_append, List.length_append, List.length_singleton, show n - (Y.length + 1) = k by omega, List.append_assoc]
 rfl
theorem mkR_end {n : Nat} {Y : List Pz} (h : Y.length = n) : mkR n Y = Y.map fun x => [x.V] := by
 unfold mkR
 rw [h, Nat.sub_self]
 exact List.append_nil _

theorem qnet0 (C : World → Prop) (b : Nat) (X : RX) {w : ByteArray} (hw : w = wNetwork) (a0 a1 a2 : Int) (h1 : decide (a0 < 0) = true) : FnX Tryz.prog C 88 [.v (wrP b), .v (.string w), .sl 1 [[ip a0], [ip a1], [ip a2]]] (exts (pcsQ b X)) (iv 2) (fun _ : Unit => exts (pcsQ b X)) := by
 have e_network : (w.toList == (⟨#[110, 101, 116, 119, 111, 114, 107]⟩ : ByteArray).toList) = true := by rw [str_eq, hw]; exact decide_eq_true (by decide)
 have e_power : (w.toList == (⟨#[112, 111, 119, 101, 114]⟩ : ByteArray).toList) = false := by rw [str_eq, hw]; exact decide_eq_false (by decide)
 have e_link : (w.toList == (⟨#[108, 105, 110, 107]⟩ : ByteArray).toList) = false := by rw [str_eq, hw]; exact decide_eq_false (by decide)
 refine fn_okXn Tryz.func88 Tryz.ntmps88 Tryz.results88 (by kernel_rfl) rfl (of_decide_eq_true rfl) fun F E hF hC => ?_
 simp only [go_sem, simprocAttr, hF]
 repeat (first
  | ((with_reducible refine hand_id ?_); (first | (refine hand_rawField rfl rfl (by decide) Tryz.underlying105 rfl (m := 14) rfl rfl ?_) | (refine hand_rawField rfl rfl (by decide) Tryz.underlying35 rfl (m := 5) rfl rfl ?_)); simp only [go_sem, simprocAttr, hF, e_network, e_power, e_link, h1, Av.sopJ])
  | ((with_reducible first | refine sops_go ?_ | refine sops_end ?_ | refine awp_if ?_ | refine awp_ret ?_); simp only [go_sem, simprocAttr, hF, e_network, e_power, e_link, h1])
  | (with_reducible first | refine awp_seq_k fun _ _ => ?_ | refine awp_region (id := 0) [] ?_ | refine awp_region (id := 1) [1000011, 1000012] ?_ | refine awp_region (id := 2) [] ?_ | refine awp_region (id := 3) [] ?_ | refine awp_region (id := 4) [] ?_ | refine awp_region (id := 5) [] ?_ | refine awp_block ?_)
  | go_step)
 all_goals (first | rfl | exact ⟨(), rfl⟩)

theorem qnet1 (C : World → Prop) (b : Nat) (X : RX) {w : ByteArray} (hw : w = wNetwork) (a0 a1 a2 : Int) (h1 : decide (a0 < 0) = false) (h2 : decide (a0 > 32) = true) : FnX Tryz.prog C 88 [.v (wrP b), .v (.string w), .sl 1 [[ip a0], [ip a1], [ip a2]]] (exts (pcsQ b X)) (iv 2) (fun _ : Unit => exts (pcsQ b X)) := by
 have e_network : (w.toList == (⟨#[110, 101, 116, 119, 111, 114, 107]⟩ : ByteArray).toList) = true := by rw [str_eq, hw]; exact decide_eq_true (by decide)
 have e_power : (w.toList == (⟨#[112, 111, 119, 101, 114]⟩ : ByteArray).toList) = false := by rw [str_eq, hw]; exact decide_eq_false (by decide)
 have e_link : (w.toList == (⟨#[108, 105, 110, 107]⟩ : ByteArray).toList) = false := by rw [str_eq, hw]; exact decide_eq_false (by decide)
 refine fn_okXn Tryz.func88 Tryz.ntmps88 Tryz.results88 (by kernel_rfl) rfl (of_decide_eq_true rfl) fun F E hF hC => ?_
 simp only [go_sem, simprocAttr, hF]
 repeat (first
  | ((with_reducible refine hand_id ?_); (first | (refine hand_rawField rfl rfl (by decide) Tryz.underlying105 rfl (m := 14) rfl rfl ?_) | (refine hand_rawField rfl rfl (by decide) Tryz.underlying35 rfl (m := 5) rfl rfl ?_)); simp only [go_sem, simprocAttr, hF, e_network, e_power, e_link, h1, h2, Av.sopJ])
  | ((with_reducible first | refine sops_go ?_ | refine sops_end ?_ | refine awp_if ?_ | refine awp_ret ?_); simp only [go_sem, simprocAttr, hF, e_network, e_power, e_link, h1, h2])
  | (with_reducible first | refine awp_seq_k fun _ _ => ?_ | refine awp_region (id := 0) [] ?_ | refine awp_region (id := 1) [1000011, 1000012] ?_ | refine awp_region (id := 2) [] ?_ | refine awp_region (id := 3) [] ?_ | refine awp_region (id := 4) [] ?_ | refine awp_region (id := 5) [] ?_ | refine awp_block ?_)
  | go_step)
 all_goals (first | rfl | exact ⟨(), rfl⟩)

theorem qnetO (C : World → Prop) (b : Nat) (X : RX) {w : ByteArray} (hw : w = wNetwork) (n : Nat) (a1 a2 : Int) (hn : n ≤ 32) (hpw : X.pw = []) : FnX Tryz.prog C 88 [.v (wrP b), .v (.string w), .sl 1 [[ip (n : Int)], [ip a1], [ip a2]]] (exts (pcsQ b X)) (iv 0) (fun Y : {Y : Nat × Value × List Pz // Y.2.2.length = n ∧ ∀ z ∈ Y.2.2, z.row = List.replicate n 0} => exts (pcsQ b { X with R := { X.R with x := { X.R.x with net := { X.R.x.net with nodes := (n : Int), noise := a1, thr := a2 } }, begun := true }, hp := ⟨some Y.1.1, Y.1.2.1⟩, pw := Y.1.2.2 })) := by
 have e_network : (w.toList == (⟨#[110, 101, 116, 119, 111, 114, 107]⟩ : ByteArray).toList) = true := by rw [str_eq, hw]; exact decide_eq_true (by decide)
 have e_power : (w.toList == (⟨#[112, 111, 119, 101, 114]⟩ : ByteArray).toList) = false := by rw [str_eq, hw]; exact decide_eq_false (by decide)
 have e_link : (w.toList == (⟨#[108, 105, 110, 107]⟩ : ByteArray).toList) = false := by rw [str_eq, hw]; exact decide_eq_false (by decide)
 obtain ⟨R, M, hpd, hbd, had, pw, bs, zs⟩ := X
 dsimp only at hpw
 subst hpw
 have h1 : decide ((n : Int) < 0) = false := decide_eq_false (by omega)
 have h2 : decide ((n : Int) > 32) = false := decide_eq_false (by omega)
 refine fn_okXn Tryz.func88 Tryz.ntmps88 Tryz.results88 (by kernel_rfl) rfl (of_decide_eq_true rfl) fun F E hF hC => ?_
 simp only [go_sem, simprocAttr, hF]
 repeat (first
  | ((with_reducible refine hand_id ?_); (first | (refine hand_rawField rfl rfl (by decide) Tryz.underlying105 rfl (m := 14) rfl rfl ?_) | (refine hand_rawField rfl rfl (by decide) Tryz.underlying105 rfl (m := 0) rfl rfl ?_) | (refine hand_rawField rfl rfl (by decide) Tryz.underlying35 rfl (m := 5) rfl rfl ?_) | (refine hand_rawField rfl rfl (by decide) Tryz.underlying26 rfl (m := 0) rfl rfl ?_) | (refine hand_eStore (i := 0) rfl rfl rfl rfl rfl rfl (by first | assumption | exact Nat.le_of_ble_eq_true rfl | (simp only [List.length_set, List.length_cons]; omega)) (by first | assumption | rfl) (by first | assumption | rfl) Tryz.sz3 ?_) | (refine hand_makeZ rfl rfl (by decide) rfl rfl (by omega) (fun g V hcV hoV => ?_)) | (refine hand_eStore (i := 1) rfl rfl rfl rfl rfl rfl (by exact Nat.le_of_ble_eq_true rfl) (by first | assumption | rfl) (by first | assumption | rfl) Tryz.sz22 ?_)); simp only [go_sem, simprocAttr, hF, e_network, e_power, e_link, h1, h2, Av.sopJ])
  | ((with_reducible first | refine sopsJ_go ?_ | refine sopsJ_end ?_); simp only [go_sem, simprocAttr, hF, e_network, e_power, e_link, h1, h2, Av.sopJ])
  | ((first | refine awp_regionJ (id := 6) [1000028] ?_ | refine awp_regionJ (id := 8) [1000051, 1000053] ?_); simp only [go_sem, simprocAttr, hF, e_network, e_power, e_link, h1, h2, Av.sopJ])
  | (refine awp_take (id := 7) [1000042, 1000044, 1000046] 12 12 [true, true, true, true, true, false, true, true, false, true, true, false] (by kernel_rfl) (by kernel_rfl) ?_; rw [hF]; dsimp only [List.take_succ_cons, List.take_zero, List.take_nil, List.drop_succ_cons, List.drop_zero, List.drop_nil, List.zip_cons_cons, List.zip_nil_left, List.zip_nil_right])
  | ((with_reducible refine sopsS_go ?_); (refine handS_move rfl rfl (by decide) rfl ?_); simp only [go_sem, simprocAttr, hF, e_network, e_power, e_link, h1, h2, Av.sopJ])
  | ((with_reducible refine sopsS_go ?_); (refine handS_index rfl rfl (by decide) rfl (by decide) Tryz.underlying24 rfl Tryz.sz3 rfl ?_); simp only [go_sem, simprocAttr, hF, e_network, e_power, e_link, h1, h2, Av.sopJ])
  | ((with_reducible refine sopsS_go ?_); (refine handS_ptLoad (dd := .int .i64) rfl rfl (by decide) rfl Tryz.underlying3 rfl ?_); simp only [go_sem, simprocAttr, hF, e_network, e_power, e_link, h1, h2, Av.sopJ])
  | (with_reducible first | refine sopsS_end ?_ | refine awp_seq_k fun _ _ => ?_ | refine awp_region (id := 0) [] ?_ | refine awp_region (id := 1) [1000011, 1000012] ?_ | refine awp_region (id := 2) [] ?_ | refine awp_region (id := 3) [] ?_ | refine awp_region (id := 4) [] ?_ | refine awp_block ?_)
  | ((with_reducible first | refine sops_go ?_ | refine sops_end ?_ | refine awp_if ?_ | refine awp_skip ?_); simp only [go_sem, simprocAttr, hF, e_network, e_power, e_link, h1, h2])
  | go_step)
 refine awp_dropP (E := E) (l := rawR 24 1 (some g) V (mkR n []) :: pcq b { R with x := { R.x with net := { R.x.net with nodes := (n : Int), noise := a1, thr := a2 } }, begun := true } { M with vp := V, vb := hbd.V, va := had.V } (rawR 24 1 hpd.q hpd.V [] :: (rawR 67 7 hbd.q hbd.V (bs.reverse.map Rz.vals) :: rawR 67 7 had.q had.V (zs.reverse.map Rz.vals) :: (zs.map Rz.ext ++ (bs.map Rz.ext ++ ([] : List Pz).map Pz.ext))))) (l' := pcq b { R with x := { R.x with net := { R.x.net with nodes := (n : Int), noise := a1, thr := a2 } }, begun := true } { M with vp := V, vb := hbd.V, va := had.V } (rawR 24 1 (some g) V (mkR n ([] : List Pz)) :: (rawR 67 7 hbd.q hbd.V (bs.reverse.map Rz.vals) :: rawR 67 7 had.q had.V (zs.reverse.map Rz.vals) :: (zs.map Rz.ext ++ (bs.map Rz.ext ++ ([] : List Pz).map Pz.ext))))) rfl (dropQ b _ _ _ _ _) ?_
 simp only [go_sem, simprocAttr, hF]
 repeat (first
  | ((with_reducible first | refine sops_go ?_ | refine sops_end ?_); simp only [go_sem, simprocAttr, hF])
  | with_reducible (first | refine awp_region [131, 150, 1000011, 1000012, 1000028, 1000042, 1000044, 1000046, 1000051, 1000053, 1000063, 1000064, 1000069, 1000070, 1000083, 1000084, 1000099, 1000100, 1000105, 1000106, 1000110, 1000111, 1000118, 1000123, 1000124, 1000125, 1000130, 1000131, 1000143, 1000145, 1000149, 1000150, 1000155, 1000157] ?_ | refine awp_block ?_)
  | go_step)
 refine awp_loop_by (ι := {Y : List Pz // Y.length ≤ n ∧ (∀ z ∈ Y, z.row = List.replicate n 0)}) (fun Y σ => ⟨(8, iv (Y.1.length : Int)) :: keepS [0, 1, 2, 6, 7] σ.slot, σ.box, [], E.and (exts (pcq b { R with x := { R.x with net := { R.x.net with nodes := (n : Int), noise := a1, thr := a2 } }, begun := true } { M with vp := V, vb := hbd.V, va := had.V } (rawR 24 1 (some g) V (mkR n Y.1) :: (rawR 67 7 hbd.q hbd.V (bs.reverse.map Rz.vals) :: rawR 67 7 had.q had.V (zs.reverse.map Rz.vals) :: (zs.map Rz.ext ++ (bs.map Rz.ext ++ Y.1.map Pz.ext))))))⟩) (fun Y => n - Y.1.length) ⟨[], by simp, by simp⟩ (sub_mk ?_) (fun R9 hR9 Y => ?_)
 · simp only [go_sem, simprocAttr, hF]
   repeat' (first | rfl | refine ⟨?_, ?_⟩)
 obtain ⟨Y, hY1, hY2⟩ := Y
 dsimp only at hY1 hY2 ⊢
 simp only [go_sem, simprocAttr, hF]
 by_cases hlt : Y.length < n
 case neg =>
  have h3 : decide ((Y.length : Int) < (n : Int)) = false := decide_eq_false (by omega)
  repeat (first
   | ((with_reducible first | refine sops_go ?_ | refine sops_end ?_ | refine awp_if ?_ | refine awp_ret ?_ | refine awp_exit ?_); simp only [go_sem, simprocAttr, hF, e_network, e_power, e_link, h1, h2, h3])
   | (with_reducible first | refine awp_seq_k fun _ _ => ?_ | refine awp_region (id := 10) [] ?_ | refine awp_region (id := 22) [] ?_)
   | go_step)
  refine ⟨⟨(g, V, Y), by dsimp only; omega, hY2⟩, ?_⟩
  rw [mkR_end (show Y.length = n by omega)]
  rfl
 have h3 : decide ((Y.length : Int) < (n : Int)) = true := decide_eq_true (by omega)
 have hw2 : IntKind.i64.wrap ((Y.length : Int) + 1) = ((Y.length + 1 : Nat) : Int) := by rw [IntKind.wrap_i64]; omega
 have hjl : Y.length < (mkR n Y).length := by rw [mkR_len hY1]; exact hlt
 repeat (first
  | ((with_reducible refine hand_id ?_); (first | (refine hand_makeP (fun z => pcq b { R with x := { R.x with net := { R.x.net with nodes := (n : Int), noise := a1, thr := a2 } }, begun := true } { M with vp := V, vb := hbd.V, va := had.V } ([rawR 24 1 (some g) V (mkR n Y), rawR 67 7 hbd.q hbd.V (bs.reverse.map Rz.vals), rawR 67 7 had.q had.V (zs.reverse.map Rz.vals)] ++ (zs.map Rz.ext ++ (bs.map Rz.ext ++ (Y.map Pz.ext ++ [z.ext]))))) (l := pcq b { R with x := { R.x with net := { R.x.net with nodes := (n : Int), noise := a1, thr := a2 } }, begun := true } { M with vp := V, vb := hbd.V, va := had.V } ([rawR 24 1 (some g) V (mkR n Y), rawR 67 7 hbd.q hbd.V (bs.reverse.map Rz.vals), rawR 67 7 had.q had.V (zs.reverse.map Rz.vals)] ++ (zs.map Rz.ext ++ (bs.map Rz.ext ++ Y.map Pz.ext)))) rfl rfl (by decide) rfl rfl (by omega) (fun z => newQ2 b { R with x := { R.x with net := { R.x.net with nodes := (n : Int), noise := a1, thr := a2 } }, begun := true } { M with vp := V, vb := hbd.V, va := had.V } [rawR 24 1 (some g) V (mkR n Y), rawR 67 7 hbd.q hbd.V (bs.reverse.map Rz.vals), rawR 67 7 had.q had.V (zs.reverse.map Rz.vals)] (zs.map Rz.ext) (bs.map Rz.ext) (Y.map Pz.ext) z.ext) (fun g9 c9 => ?_)) | (refine hand_vIndex (i := 7) (j := Y.length) rfl rfl (by decide) rfl rfl rfl rfl hjl Tryz.underlying22 Tryz.sz24 ?_) | (refine hand_vStore (i := 7) (k := Y.length) (c := 0) (sz := 1) rfl rfl rfl rfl mkR_one (mkR_get hlt) (by decide) rfl rfl rfl rfl Tryz.sz24 ?_)); simp only [go_sem, simprocAttr, hF, e_network, e_power, e_link, h1, h2, h3, hw2, Av.sopJ])
  | (refine awp_take (id := 12) [1000063, 1000064, 1000069, 1000070] 8 9 [true, true, true, false, true, true, true, false] (by kernel_rfl) (by kernel_rfl) ?_; rw [hF]; dsimp only [List.take_succ_cons, List.take_zero, List.take_nil, List.drop_succ_cons, List.drop_zero, List.drop_nil, List.zip_cons_cons, List.zip_nil_left, List.zip_nil_right])
  | ((with_reducible refine sopsS_go ?_); (refine handS_move rfl rfl (by decide) rfl ?_); simp only [go_sem, simprocAttr, hF, e_network, e_power, e_link, h1, h2, h3, hw2, Av.sopJ])
  | ((with_reducible refine sopsS_go ?_); (refine handS_nil rfl rfl (by decide) rfl ?_); simp only [go_sem, simprocAttr, hF, e_network, e_power, e_link, h1, h2, h3, hw2, Av.sopJ])
  | ((with_reducible refine sopsS_go ?_); (refine handS_field rfl rfl (by decide) Tryz.underlying26 rfl (m := 0) rfl rfl ?_); simp only [go_sem, simprocAttr, hF, e_network, e_power, e_link, h1, h2, h3, hw2, Av.sopJ])
  | ((with_reducible refine sopsS_go ?_); (refine handS_index rfl rfl (by decide) rfl (by decide) Tryz.underlying24 rfl Tryz.sz3 rfl ?_); simp only [go_sem, simprocAttr, hF, e_network, e_power, e_link, h1, h2, h3, hw2, Av.sopJ])
  | ((with_reducible refine sopsS_go ?_); (refine handS_ptLoad (dd := .int .i64) rfl rfl (by decide) rfl Tryz.underlying3 rfl ?_); simp only [go_sem, simprocAttr, hF, e_network, e_power, e_link, h1, h2, h3, hw2, Av.sopJ])
  | ((with_reducible refine sopsS_go ?_); (refine handS_eLoad (i := 0) (dd := .slice 24) rfl rfl (by decide) rfl rfl rfl (by first | assumption | rfl) Tryz.underlying22 rfl ?_); simp only [go_sem, simprocAttr, hF, e_network, e_power, e_link, h1, h2, h3, hw2, Av.sopJ])
  | (with_reducible first | refine sopsS_end ?_ | refine awp_seq_k fun _ _ => ?_ | refine awp_region (id := 10) [] ?_ | refine awp_region (id := 11) [] ?_ | refine awp_block ?_)
  | ((with_reducible first | refine sopsJ_go ?_ | refine sopsJ_end ?_); simp only [go_sem, simprocAttr, hF, e_network, e_power, e_link, h1, h2, h3, hw2, Av.sopJ])
  | ((with_reducible first | refine sops_go ?_ | refine sops_end ?_ | refine awp_if ?_ | refine awp_skip ?_); simp only [go_sem, simprocAttr, hF, e_network, e_power, e_link, h1, h2, h3, hw2])
  | go_step)
 refine ⟨⟨Y ++ [⟨List.replicate n 0, g9, .slice (some ⟨g9, 0, none⟩) n c9⟩], by simp only [List.length_append, List.length_cons, List.length_nil]; omega, fun z hz => (List.mem_append.1 hz).elim (hY2 z) (fun h => by rw [List.mem_singleton.1 h])⟩, by simp only [List.length_append, List.length_cons, List.length_nil]; omega, hR9 _ _ (sub_mk ?_)⟩
 have hm1 := mkR_set (z := (⟨List.replicate n 0, g9, .slice (some ⟨g9, 0, none⟩) n c9⟩ : Pz)) hlt
 have hm2 : (Y ++ [(⟨List.replicate n 0, g9, .slice (some ⟨g9, 0, none⟩) n c9⟩ : Pz)]).map Pz.ext = Y.map Pz.ext ++ [Pz.ext ⟨List.replicate n 0, g9, .slice (some ⟨g9, 0, none⟩) n c9⟩] := by rw [List.map_append]; rfl
 simp only [go_sem, simprocAttr, hF, e_network, e_power, e_link, h1, h2]
 rw [← hm1, hm2]
 rfl
end Go.Proofs.YtcloigoajohppaaGreatDoor

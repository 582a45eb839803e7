import Derived.Test.YtcloigoajohppaaGreatDoorZ5
set_option linter.unusedVariables false
set_option linter.unusedSimpArgs false
set_option maxHeartbeats 4000000
/- The example holds. -/
namespace Go.Proofs.YtcloigoajohppaaGreatDoor
open Go.RowKit
open Av
open Sc
set_option maxRecDepth 100000
set_option linter.unusedSimpArgs false
attribute [local go_sem] Av.guardB Av.sop Av.hopx Av.hop Av.hopCall Av.hopF Av.hopB Av.evo Av.evos Av.avCells Av.loadK Av.bound Av.abin Av.aun Av.partsC Av.lfill Av.placesB Av.setAt Av.stl Av.takes Av.src Av.bxOf Av.ownOf Av.St.res Av.St.put Av.St.addBox Av.St.putOwn Av.delL Av.delS Av.look Av.lookL Av.storeSt Av.stealSt Av.St.setBox Av.keepL Av.hitB Av.snap Av.snaps Av.snapCaps Av.AV.lit Av.AV.refs Av.capRefs Av.PV.av Av.CV.av Av.startSt Av.steals Av.athen Av.ablock Av.appK Av.AllS Av.AllO Av.AllR Av.keepS Av.St.avAt Av.RetOK Av.retAll Av.retOne Av.intsOf Av.ptrB TypeDesc.isRow List.range_zero Option.some.injEq exists_eq_left' exists_eq_left exists_eq' exists_and_left exists_and_right exists_const true_and and_true and_self false_and and_false or_false false_or or_true true_or if_true if_false Bool.false_eq_true List.zipIdx_cons List.zipIdx_nil List.map_cons List.map_nil List.filter_cons List.filter_nil List.contains_cons List.contains_nil List.drop_succ_cons List.drop_zero List.take_succ_cons List.take_zero List.take_nil List.drop_nil List.length_cons List.length_nil List.cons_append List.nil_append List.append_nil List.getElem?_cons_zero List.getElem?_cons_succ List.getElem?_nil Option.bind_some Option.bind_none Option.map_some Option.map_none Option.isNone_none Option.isNone_some Option.isSome_some Option.isSome_none Bool.and_true Bool.true_and Bool.and_false Bool.false_and Bool.or_false Bool.false_or Bool.not_true Bool.not_false beq_true beq_false Bool.true_beq Bool.false_beq Loc.s.injEq Loc.b.injEq decide_true decide_false beq_self_eq_true Nat.zero_add Nat.add_zero List.getElem?_toArray List.toList_toArray List.size_toArray Value.oneCell' List.all_cons List.all_nil Value.int.injEq AV.v.injEq AV.sl.injEq AV.agg.injEq AV.ref.injEq AV.ept.injEq AV.tup.injEq Value.bool.injEq PV.v.injEq PV.sl.injEq List.isEmpty_nil List.isEmpty_cons forall_const not_true_eq_false not_false_eq_true true_implies false_implies Value.string.injEq List.length_map List.getElem?_map Int.toNat_natCast Int.natCast_nonneg List.length_append Value.cells implies_true TypeDesc.struct.injEq TypeDesc.slice.injEq TypeDesc.array.injEq List.getElem?_toArray Prod.mk.injEq and_assoc exists_false List.cons.injEq Operand.tmp.injEq ite_self AV.fnv.injEq AV.clo.injEq ne_eq eq_self Tryz.sz3 Tryz.zr3 Tryz.by3 Tryz.pl3 Tryz.is3 Tryz.underlying3 Tryz.sz4 Tryz.pl4 Tryz.is4 Tryz.underlying4 Tryz.sz9 Tryz.zr9 Tryz.underlying9 Tryz.underlying5 Tryz.underlying56 Tryz.sz24 Tryz.zr24 Tryz.by24 Tryz.underlying24 Tryz.underlying70 Tryz.underlying69 Tryz.is72 Tryz.underlying72 Tryz.zr74 Tryz.underlying74 Tryz.underlying117 Tryz.underlying182 Tryz.sz64 Tryz.zr64 Tryz.pl64 Tryz.is64 Tryz.underlying64 Tryz.sz67 Tryz.zr67 Tryz.underlying67 Tryz.sz26 Tryz.underlying26 Tryz.sz30 Tryz.underlying30 Tryz.sz126 Tryz.zr126 Tryz.underlying126 Tryz.sz79 Tryz.zr79 Tryz.pl79 Tryz.is79 Tryz.underlying79 Tryz.sz81 Tryz.zr81 Tryz.underlying81 Tryz.sz83 Tryz.zr83 Tryz.underlying83 Tryz.sz85 Tryz.zr85 Tryz.underlying85 Tryz.sz35 Tryz.zr35 Tryz.is35 Tryz.underlying35 Tryz.underlying88 Tryz.sz22 Tryz.underlying22 Tryz.sz23 Tryz.underlying23 Tryz.sz27 Tryz.underlying27 Tryz.sz28 Tryz.underlying28 Tryz.sz31 Tryz.underlying31 Tryz.sz32 Tryz.underlying32 Tryz.sz33 Tryz.underlying33 Tryz.sz65 Tryz.is65 Tryz.underlying65 Tryz.sz68 Tryz.zr68 Tryz.underlying68 Tryz.underlying46 Tryz.underlying38 Tryz.underlying94 Tryz.sz91 Tryz.underlying91 Tryz.underlying86 all_arr loc_ss arr_two arr_one ResultVar.tmp.injEq Bool.not_true Bool.not_false undef Fn.func.injEq Av.startStC
theorem example_ok : FnOK Tryz.prog 22 [] ⟨.v (.string exB), none⟩ := by
 refine fn_ok Tryz.func22 (by kernel_rfl) rfl (by rw [Tryz.ntmps22]; exact of_decide_eq_true rfl) (fun F hF => ?_)
 rw [Tryz.ntmps22] at hF
 rw [Tryz.results22]
 repeat (first
  | ((with_reducible first | refine sops_go ?_ | refine sops_end ?_ | refine awp_ret ?_); simp only [go_sem, simprocAttr, hF])
  | (with_reducible first | refine awp_seq_k fun _ _ => ?_ | refine awp_region [] ?_)
  | go_step)
 all_goals (try rfl)

theorem awake_ok : FnOKC Tryz.prog LC 9 [] ⟨bv true, none⟩ := by
 have hp1 : FnOKC Tryz.prog LC 13 [.v (.string exB)] ⟨.tup [.g exX.pv, .c (ip 0), .c (ip 0)], none⟩ := by
  have h := parse_okC exB
  rw [parse_exB] at h
  exact h
 have hp2 : FnOKC Tryz.prog LC 13 [.v (.string exC)] ⟨.tup [.g snZ.pv, .c (ip 5), .c (ip 5)], none⟩ := by
  have h := parse_okC exC
  rw [parse_exC] at h
  exact h
 have hf : FnOKC Tryz.prog LC 11 [.agg exX.pv] ⟨.tup [.c (.v (.string exB)), .c (ip 0)], none⟩ := by
  have h := format_okC exX (by decide) (by show ∀ x ∈ linesOf exX, ∀ n ∈ x.2, _ ∧ _; decide) (Nat.le_of_ble_eq_true (by kernel_rfl))
  rw [fmt_exB] at h
  exact ⟨h.1, fun w R hC => h.2 w R hC.1⟩
 have hl : FnOKC Tryz.prog LC 23 [.v (.string ⟨#[119, 101, 97, 107, 32, 49, 32, 45, 50, 32, 51, 48]⟩)] ⟨.tup [.c (.v (.string ⟨#[119, 101, 97, 107]⟩)), .c (.sl 1 [[ip 1], [ip (-2)], [ip 30]]), .c (.v (.bool true))], none⟩ := by
  have h := line_okC ⟨#[119, 101, 97, 107, 32, 49, 32, 45, 50, 32, 51, 48]⟩ (by decide)
  rw [line_exW] at h
  exact h
 have e1 : exX.pv = [ip 2, .sl 1 (rsR exX.net.power), ip 1, ip 2000, .sl 3 [Lk.pv ⟨0, 1, 0⟩], .sl 1 [[ip 20]], .sl 7 [], .sl 7 [], ip 4, ip 1, .sl 5 [], .sl 7 [], .sl 5 [], .sl 3 [], ip 8] := rfl
 have e2 : snZ.pv = [ip 0, .sl 1 [], ip 0, ip 0, .sl 3 [], .sl 1 [], .sl 7 [], .sl 7 [], ip 0, ip 0, .sl 5 [], .sl 7 [], .sl 5 [], .sl 3 [], ip 0] := rfl
 rw [e1] at hp1 hf
 rw [e2] at hp2
 generalize rsR exX.net.power = pw at hp1 hf
 generalize Lk.pv ⟨0, 1, 0⟩ = lk at hp1 hf
 have he : decide ([1, -2, 30] = ([1, -2, 30] : List Int)) = true := rfl
 have hs : (exB.toList == exB.toList) = true := beq_self_eq_true _
 have hex := example_ok
 generalize exB = exb at hp1 hf hs hex
 refine fn_okC (C := LC) Tryz.func9 (by kernel_rfl) rfl (by rw [Tryz.ntmps9]; exact of_decide_eq_true rfl) (fun F hF => ?_)
 rw [Tryz.ntmps9] at hF
 rw [Tryz.results9]
 repeat (first
  | ((first | refine hand_fnC (C := LC) LC.below rfl rfl (by decide) rfl rfl rfl hp1 rfl ?_ | refine hand_fnC (C := LC) LC.below rfl rfl (by decide) rfl rfl rfl hf rfl ?_ | refine hand_fnC (C := LC) LC.below rfl rfl (by decide) rfl rfl rfl hp2 rfl ?_ | refine hand_fnC (C := LC) LC.below rfl rfl (by decide) rfl rfl rfl hl rfl ?_ | refine ⟨_, hex, ?_⟩ | refine ⟨_, eqI_ok [1, -2, 30] [1, -2, 30] (by decide), ?_⟩); simp only [go_sem, simprocAttr, hF, he, hs])
  | ((with_reducible first | refine sops_go ?_ | refine sops_end ?_ | refine awp_ret ?_); simp only [go_sem, simprocAttr, hF, he, hs])
  | (with_reducible first | refine awp_seq_k fun _ _ => ?_ | refine awp_region [1000014, 1000020, 1000024, 1000029] ?_)
  | go_step)
 all_goals (try rfl)
/- The reference's parser: requests. -/
attribute [local go_sem] Tryz.sz92 Tryz.underlying92 Tryz.sz131 Tryz.underlying131 Tryz.sz134 Tryz.zr134 Tryz.underlying134 Tryz.underlying95 Tryz.underlying136 Tryz.underlying103 Tryz.zr105 Tryz.underlying105 Tryz.underlying177 Tryz.underlying178 Tryz.underlying179 Av.extSt Av.RetX List.zipIdx List.getD_cons_zero List.getD_cons_succ Sc.Fw.pv Sc.Rq.pv Sc.Ce.pv Sc.Ch.pv Sc.Wk.pv Sc.Og.pv Sc.Lk.pv Sc.Nt.pv Sc.Sn.pv Sc.rsR
theorem qreqBF (C : World → Prop) (b : Nat) (X : RX) {w : ByteArray} (hw : w = wBefore) (a0 a1 a2 a3 a4 a5 : Int) (hl : X.bs.length = 1024) : FnX Tryz.prog C 89 [.v (wrP b), .v (.string w), .sl 1 [[ip a0], [ip a1], [ip a2], [ip a3], [ip a4], [ip a5]]] (exts (pcsQ b X)) (iv 8) (fun _ : Unit => exts (pcsQ b X)) := by
 have e_after : (w.toList == (⟨#[97, 102, 116, 101, 114]⟩ : ByteArray).toList) = false := by rw [str_eq, hw]; exact decide_eq_false (by decide)
 have e_route : (w.toList == (⟨#[114, 111, 117, 116, 101]⟩ : ByteArray).toList) = false := by rw [str_eq, hw]; exact decide_eq_false (by decide)
 have n_route : (w.toList != (⟨#[114, 111, 117, 116, 101]⟩ : ByteArray).toList) = true := by unfold bne; rw [e_route]; rfl
 have hd : ((X.bs.reverse.length : Int) == 1024) = true := by rw [List.length_reverse, hl]; rfl
 refine fn_okXn Tryz.func89 Tryz.ntmps89 Tryz.results89 (by kernel_rfl) rfl (of_decide_eq_true rfl) fun F E hF hC => ?_
 simp only [go_sem, simprocAttr, hF]
 repeat (first
  | ((with_reducible refine hand_id ?_); first | ((refine hand_rawField rfl rfl (by decide) Tryz.underlying105 rfl (m := 14) rfl rfl ?_); simp only [go_sem, simprocAttr, hF, e_after, e_route, n_route, hd, Av.sopJ]) | ((refine hand_rawField rfl rfl (by decide) Tryz.underlying35 rfl (m := 0) rfl rfl ?_); simp only [go_sem, simprocAttr, hF, e_after, e_route, n_route, hd, Av.sopJ]) | ((refine hand_eLoad (i := 0) (dd := .slice 67) rfl rfl (by decide) rfl rfl rfl (by first | assumption | rfl) Tryz.underlying27 rfl ?_); simp only [go_sem, simprocAttr, hF, e_after, e_route, n_route, hd, Av.sopJ]) | ((refine hand_vLen (i := 8) rfl rfl (by decide) Tryz.underlying27 rfl rfl rfl ?_); simp only [go_sem, simprocAttr, hF, e_after, e_route, n_route, hd]))
  | ((with_reducible first | refine sops_go ?_ | refine sops_end ?_ | refine awp_if ?_ | refine awp_skip ?_ | refine awp_ret ?_); simp only [go_sem, simprocAttr, hF, e_after, e_route, n_route, hd])
  | (with_reducible first | refine awp_seq_k fun _ _ => ?_ | refine awp_region (id := 0) [] ?_ | refine awp_region (id := 1) [1000011, 1000012] ?_ | refine awp_region (id := 2) [1000021, 1000022] ?_ | refine awp_region (id := 4) [] ?_ | refine awp_region (id := 5) [1000034, 1000035] ?_ | refine awp_region (id := 6) [] ?_)
  | go_step)
 all_goals (first | rfl | exact ⟨(), rfl⟩)

theorem qreqBO (C : World → Prop) (b : Nat) (X : RX) {w : ByteArray} (hw : w = wBefore) (a0 a1 a2 a3 a4 a5 : Int) (hl : X.bs.length < 1024) : FnX Tryz.prog C 89 [.v (wrP b), .v (.string w), .sl 1 [[ip a0], [ip a1], [ip a2], [ip a3], [ip a4], [ip a5]]] (exts (pcsQ b X)) (iv 0) (fun i : Nat × Value => exts (pcsQ b { X with hb := ⟨some i.1, i.2⟩, bs := ⟨⟨a0, a1, a2, a3, a4, a5⟩, [], none, .slice none 0 0, []⟩ :: X.bs })) := by
 have e_after : (w.toList == (⟨#[97, 102, 116, 101, 114]⟩ : ByteArray).toList) = false := by rw [str_eq, hw]; exact decide_eq_false (by decide)
 have e_route : (w.toList == (⟨#[114, 111, 117, 116, 101]⟩ : ByteArray).toList) = false := by rw [str_eq, hw]; exact decide_eq_false (by decide)
 have n_route : (w.toList != (⟨#[114, 111, 117, 116, 101]⟩ : ByteArray).toList) = true := by unfold bne; rw [e_route]; rfl
 have hd : ((X.bs.reverse.length : Int) == 1024) = false := beq_eq_false_iff_ne.2 (by rw [List.length_reverse]; omega)
 refine fn_okXn Tryz.func89 Tryz.ntmps89 Tryz.results89 (by kernel_rfl) rfl (of_decide_eq_true rfl) fun F E hF hC => ?_
 simp only [go_sem, simprocAttr, hF]
 refine awp_newPiece 68 1 (pcq b X.R X.m (fixX X ++ (X.zs.map Rz.ext ++ (((⟨⟨a0, a1, a2, a3, a4, a5⟩, [], none, .slice none 0 0, []⟩ : Rz) :: X.bs).map Rz.ext ++ X.pw.map Pz.ext)))) rfl (newQ _ _ _ _ _ _ _) ?_
 repeat (first
  | ((with_reducible refine hand_id ?_); first | ((refine hand_rawField rfl rfl (by decide) Tryz.underlying105 rfl (m := 14) rfl rfl ?_); simp only [go_sem, simprocAttr, hF, e_after, e_route, n_route, hd, Av.sopJ]) | ((refine hand_rawField rfl rfl (by decide) Tryz.underlying35 rfl (m := 0) rfl rfl ?_); simp only [go_sem, simprocAttr, hF, e_after, e_route, n_route, hd, Av.sopJ]) | ((refine hand_eStore (i := 0) rfl rfl rfl rfl rfl rfl (by first | assumption | exact Nat.le_of_ble_eq_true rfl | (simp only [List.length_set, List.length_cons]; omega)) (by first | assumption | rfl) (by first | assumption | rfl) Tryz.sz3 ?_); simp only [go_sem, simprocAttr, hF, e_after, e_route, n_route, hd, Av.sopJ]) | ((refine hand_eLoad (i := 0) (dd := .slice 67) rfl rfl (by decide) rfl rfl rfl (by first | assumption | rfl) Tryz.underlying27 rfl ?_); simp only [go_sem, simprocAttr, hF, e_after, e_route, n_route, hd, Av.sopJ]) | ((refine hand_vLen (i := 8) rfl rfl (by decide) Tryz.underlying27 rfl rfl rfl ?_); simp only [go_sem, simprocAttr, hF, e_after, e_route, n_route, hd]) | ((refine hand_vApp (i := 8) (e := 67) (sz := 7) (vs := rqV a0 a1 a2 a3 a4 a5) rfl rfl (by decide) Tryz.underlying27 (by kernel_rfl) rfl rfl rfl rfl rfl (by rw [List.length_map, List.length_reverse]; omega) (fun g2 V2 hc2 ho2 => ?_)); simp only [go_sem, simprocAttr, hF, e_after, e_route, n_route, hd, Av.sopJ]))
  | ((with_reducible refine ex_id ?_); (refine ⟨_, handq_eLoad (i := 0) (dd := .slice 67) rfl rfl (by decide) rfl rfl rfl (by first | assumption | rfl) Tryz.underlying27 rfl, rfl, ?_⟩); simp only [go_sem, simprocAttr, hF, e_after, e_route, n_route, hd, hbx])
  | ((with_reducible first | refine sopsJ_go ?_ | refine sopsJ_end ?_ | refine headW_end ?_); simp only [go_sem, simprocAttr, hF, e_after, e_route, n_route, hd, Av.sopJ])
  | (refine awp_floatJ (id := 7) [40, 1000040, 1000062] 25 [(25, 0)] (by kernel_rfl) (by kernel_rfl) (by kernel_rfl) rfl rfl (fun bx0 hbx => ?_); (try dsimp only [Av.addWs, Av.addW, List.modify_succ_cons, List.modify_zero_cons, List.push_toArray, List.cons_append, List.nil_append, List.take, List.drop]))
  | ((with_reducible refine headW_go ?_); simp only [go_sem, simprocAttr, hF, e_after, e_route, n_route, hd, hbx])
  | ((with_reducible first | refine sops_go ?_ | refine sops_end ?_ | refine awp_if ?_ | refine awp_skip ?_ | refine awp_ret ?_); simp only [go_sem, simprocAttr, hF, e_after, e_route, n_route, hd])
  | (with_reducible first | refine awp_seq_k fun _ _ => ?_ | refine awp_region (id := 0) [] ?_ | refine awp_region (id := 1) [1000011, 1000012] ?_ | refine awp_region (id := 2) [1000021, 1000022] ?_ | refine awp_region (id := 4) [] ?_ | refine awp_region (id := 5) [1000034, 1000035] ?_ | refine awp_region (id := 8) [] ?_)
  | go_step)
 have h9 : ((⟨⟨a0, a1, a2, a3, a4, a5⟩, [], none, .slice none 0 0, []⟩ : Rz) :: X.bs).reverse.map Rz.vals = X.bs.reverse.map Rz.vals ++ [rqV a0 a1 a2 a3 a4 a5] := by rw [List.reverse_cons, List.map_append]; rfl
 refine ⟨(g2, V2), ?_⟩
 unfold pcsQ fixX
 dsimp only
 rw [h9]
 rfl

theorem qreqAF (C : World → Prop) (b : Nat) (X : RX) {w : ByteArray} (hw : w = wAfter) (a0 a1 a2 a3 a4 a5 : Int) (hl : X.zs.length = 1024) : FnX Tryz.prog C 89 [.v (wrP b), .v (.string w), .sl 1 [[ip a0], [ip a1], [ip a2], [ip a3], [ip a4], [ip a5]]] (exts (pcsQ b X)) (iv 8) (fun _ : Unit => exts (pcsQ b X)) := by
 have e_after : (w.toList == (⟨#[97, 102, 116, 101, 114]⟩ : ByteArray).toList) = true := by rw [str_eq, hw]; exact decide_eq_true (by decide)
 have e_route : (w.toList == (⟨#[114, 111, 117, 116, 101]⟩ : ByteArray).toList) = false := by rw [str_eq, hw]; exact decide_eq_false (by decide)
 have n_route : (w.toList != (⟨#[114, 111, 117, 116, 101]⟩ : ByteArray).toList) = true := by unfold bne; rw [e_route]; rfl
 have hd : ((X.zs.reverse.length : Int) == 1024) = true := by rw [List.length_reverse, hl]; rfl
 refine fn_okXn Tryz.func89 Tryz.ntmps89 Tryz.results89 (by kernel_rfl) rfl (of_decide_eq_true rfl) fun F E hF hC => ?_
 simp only [go_sem, simprocAttr, hF]
 repeat (first
  | ((with_reducible refine hand_id ?_); first | ((refine hand_rawField rfl rfl (by decide) Tryz.underlying105 rfl (m := 14) rfl rfl ?_); simp only [go_sem, simprocAttr, hF, e_after, e_route, n_route, hd, Av.sopJ]) | ((refine hand_rawField rfl rfl (by decide) Tryz.underlying35 rfl (m := 0) rfl rfl ?_); simp only [go_sem, simprocAttr, hF, e_after, e_route, n_route, hd, Av.sopJ]) | ((refine hand_eLoad (i := 0) (dd := .slice 67) rfl rfl (by decide) rfl rfl rfl (by first | assumption | rfl) Tryz.underlying27 rfl ?_); simp only [go_sem, simprocAttr, hF, e_after, e_route, n_route, hd, Av.sopJ]) | ((refine hand_vLen (i := 9) rfl rfl (by decide) Tryz.underlying27 rfl rfl rfl ?_); simp only [go_sem, simprocAttr, hF, e_after, e_route, n_route, hd]))
  | ((with_reducible first | refine sops_go ?_ | refine sops_end ?_ | refine awp_if ?_ | refine awp_ret ?_); simp only [go_sem, simprocAttr, hF, e_after, e_route, n_route, hd])
  | (with_reducible first | refine awp_seq_k fun _ _ => ?_ | refine awp_region (id := 0) [] ?_ | refine awp_region (id := 1) [1000011, 1000012] ?_ | refine awp_region (id := 2) [1000021, 1000022] ?_ | refine awp_region (id := 3) [1000028, 1000029] ?_ | refine awp_region (id := 4) [] ?_ | refine awp_region (id := 5) [1000034, 1000035] ?_ | refine awp_region (id := 6) [] ?_)
  | go_step)
 all_goals (first | rfl | exact ⟨(), rfl⟩)

theorem qreqAO (C : World → Prop) (b : Nat) (X : RX) {w : ByteArray} (hw : w = wAfter) (a0 a1 a2 a3 a4 a5 : Int) (hl : X.zs.length < 1024) : FnX Tryz.prog C 89 [.v (wrP b), .v (.string w), .sl 1 [[ip a0], [ip a1], [ip a2], [ip a3], [ip a4], [ip a5]]] (exts (pcsQ b X)) (iv 0) (fun i : Nat × Value => exts (pcsQ b { X with ha := ⟨some i.1, i.2⟩, zs := ⟨⟨a0, a1, a2, a3, a4, a5⟩, [], none, .slice none 0 0, []⟩ :: X.zs })) := by
 have e_after : (w.toList == (⟨#[97, 102, 116, 101, 114]⟩ : ByteArray).toList) = true := by rw [str_eq, hw]; exact decide_eq_true (by decide)
 have e_route : (w.toList == (⟨#[114, 111, 117, 116, 101]⟩ : ByteArray).toList) = false := by rw [str_eq, hw]; exact decide_eq_false (by decide)
 have n_route : (w.toList != (⟨#[114, 111, 117, 116, 101]⟩ : ByteArray).toList) = true := by unfold bne; rw [e_route]; rfl
 have hd : ((X.zs.reverse.length : Int) == 1024) = false := beq_eq_false_iff_ne.2 (by rw [List.length_reverse]; omega)
 refine fn_okXn Tryz.func89 Tryz.ntmps89 Tryz.results89 (by kernel_rfl) rfl (of_decide_eq_true rfl) fun F E hF hC => ?_
 simp only [go_sem, simprocAttr, hF]
 refine awp_newPiece 68 1 (pcq b X.R X.m (fixX X ++ (((⟨⟨a0, a1, a2, a3, a4, a5⟩, [], none, .slice none 0 0, []⟩ : Rz) :: X.zs).map Rz.ext ++ (X.bs.map Rz.ext ++ X.pw.map Pz.ext)))) rfl (newQ _ _ _ _ [] _ _) ?_
 repeat (first
  | ((with_reducible refine hand_id ?_); first | ((refine hand_rawField rfl rfl (by decide) Tryz.underlying105 rfl (m := 14) rfl rfl ?_); simp only [go_sem, simprocAttr, hF, e_after, e_route, n_route, hd, Av.sopJ]) | ((refine hand_rawField rfl rfl (by decide) Tryz.underlying35 rfl (m := 0) rfl rfl ?_); simp only [go_sem, simprocAttr, hF, e_after, e_route, n_route, hd, Av.sopJ]) | ((refine hand_eStore (i := 0) rfl rfl rfl rfl rfl rfl (by first | assumption | exact Nat.le_of_ble_eq_true rfl | (simp only [List.length_set, List.length_cons]; omega)) (by first | assumption | rfl) (by first | assumption | rfl) Tryz.sz3 ?_); simp only [go_sem, simprocAttr, hF, e_after, e_route, n_route, hd, Av.sopJ]) | ((refine hand_eLoad (i := 0) (dd := .slice 67) rfl rfl (by decide) rfl rfl rfl (by first | assumption | rfl) Tryz.underlying27 rfl ?_); simp only [go_sem, simprocAttr, hF, e_after, e_route, n_route, hd, Av.sopJ]) | ((refine hand_vLen (i := 9) rfl rfl (by decide) Tryz.underlying27 rfl rfl rfl ?_); simp only [go_sem, simprocAttr, hF, e_after, e_route, n_route, hd]) | ((refine hand_vApp (i := 9) (e := 67) (sz := 7) (vs := rqV a0 a1 a2 a3 a4 a5) rfl rfl (by decide) Tryz.underlying27 (by kernel_rfl) rfl rfl rfl rfl rfl (by rw [List.length_map, List.length_reverse]; omega) (fun g2 V2 hc2 ho2 => ?_)); simp only [go_sem, simprocAttr, hF, e_after, e_route, n_route, hd, Av.sopJ]))
  | ((with_reducible refine ex_id ?_); (refine ⟨_, handq_eLoad (i := 0) (dd := .slice 67) rfl rfl (by decide) rfl rfl rfl (by first | assumption | rfl) Tryz.underlying27 rfl, rfl, ?_⟩); simp only [go_sem, simprocAttr, hF, e_after, e_route, n_route, hd, hbx])
  | ((with_reducible first | refine sopsJ_go ?_ | refine sopsJ_end ?_ | refine headW_end ?_); simp only [go_sem, simprocAttr, hF, e_after, e_route, n_route, hd, Av.sopJ])
  | (refine awp_floatJ (id := 7) [40, 1000040, 1000062] 25 [(25, 0)] (by kernel_rfl) (by kernel_rfl) (by kernel_rfl) rfl rfl (fun bx0 hbx => ?_); (try dsimp only [Av.addWs, Av.addW, List.modify_succ_cons, List.modify_zero_cons, List.push_toArray, List.cons_append, List.nil_append, List.take, List.drop]))
  | ((with_reducible refine headW_go ?_); simp only [go_sem, simprocAttr, hF, e_after, e_route, n_route, hd, hbx])
  | ((with_reducible first | refine sops_go ?_ | refine sops_end ?_ | refine awp_if ?_ | refine awp_skip ?_ | refine awp_ret ?_); simp only [go_sem, simprocAttr, hF, e_after, e_route, n_route, hd])
  | (with_reducible first | refine awp_seq_k fun _ _ => ?_ | refine awp_region (id := 0) [] ?_ | refine awp_region (id := 1) [1000011, 1000012] ?_ | refine awp_region (id := 2) [1000021, 1000022] ?_ | refine awp_region (id := 3) [1000028, 1000029] ?_ | refine awp_region (id := 4) [] ?_ | refine awp_region (id := 5) [1000034, 1000035] ?_ | refine awp_region (id := 8) [] ?_)
  | go_step)
 have h9 : ((⟨⟨a0, a1, a2, a3, a4, a5⟩, [], none, .slice none 0 0, []⟩ : Rz) :: X.zs).reverse.map Rz.vals = X.zs.reverse.map Rz.vals ++ [rqV a0 a1 a2 a3 a4 a5] := by rw [List.reverse_cons, List.map_append]; rfl
 refine ⟨(g2, V2), ?_⟩
 unfold pcsQ fixX
 dsimp only
 rw [h9]
 rfl
/- The reference's parser: routes. -/
theorem qrouteBR (C : World → Prop) (b : Nat) (X : RX) {w : ByteArray} (hw : w = wRoute) {g : Nat} {z : Rz} {l0 : List Rz} (hq : X.hb.q = some g) (hz : X.bs = z :: l0) (hzs : X.zs = []) (h4 : (X.R.rank == 4) = false) (hln : l0.length ≤ 1024) (l : List Int) (hr : z.rs.length = 1024) : FnX Tryz.prog C 89 [.v (wrP b), .v (.string w), .sl 1 (l.map fun n => [ip n])] (exts (pcsQ b X)) (iv 8) (fun _ : Unit => exts (pcsQ b X)) := by
 obtain ⟨R, ⟨vp, hl_, hm, vb, va, hc_, hh, hw_, ho_, rt⟩, hpd, hbd, had, pw, bs, zs⟩ := X
 obtain ⟨q, V⟩ := hbd
 dsimp only at hq hz h4
 cases hq
 subst hz
 dsimp only at hzs
 subst hzs
 have hsub : IntKind.i64.wrap ((((z :: l0).reverse.length : Nat) : Int) - 1) = (l0.length : Int) := by
  rw [List.length_reverse, List.length_cons, IntKind.wrap_i64]
  omega
 have hjl : l0.length < ((z :: l0).reverse.map Rz.vals).length := by simp
 have hr1 : ((z.rs.length : Int) == 1024) = true := by rw [hr]; rfl
 have e_after : (w.toList == (⟨#[97, 102, 116, 101, 114]⟩ : ByteArray).toList) = false := by rw [str_eq, hw]; exact decide_eq_false (by decide)
 have e_route : (w.toList == (⟨#[114, 111, 117, 116, 101]⟩ : ByteArray).toList) = true := by rw [str_eq, hw]; exact decide_eq_true (by decide)
 have n_route : (w.toList != (⟨#[114, 111, 117, 116, 101]⟩ : ByteArray).toList) = false := by unfold bne; rw [e_route]; rfl
 refine fn_okXn Tryz.func89 Tryz.ntmps89 Tryz.results89 (by kernel_rfl) rfl (of_decide_eq_true rfl) fun F E hF hC => ?_
 simp only [go_sem, simprocAttr, hF]
 repeat (first
  | ((with_reducible refine hand_id ?_); first | ((refine hand_rawField rfl rfl (by decide) Tryz.underlying105 rfl (m := 14) rfl rfl ?_); simp only [go_sem, simprocAttr, hF, e_after, e_route, n_route, h4, hsub, hr1, Av.sopJ]) | ((refine hand_rawField rfl rfl (by decide) Tryz.underlying105 rfl (m := 0) rfl rfl ?_); simp only [go_sem, simprocAttr, hF, e_after, e_route, n_route, h4, hsub, hr1, Av.sopJ]) | ((refine hand_rawField rfl rfl (by decide) Tryz.underlying35 rfl (m := 0) rfl rfl ?_); simp only [go_sem, simprocAttr, hF, e_after, e_route, n_route, h4, hsub, hr1, Av.sopJ]) | ((refine hand_rawField rfl rfl (by decide) Tryz.underlying67 rfl (m := 0) rfl rfl ?_); simp only [go_sem, simprocAttr, hF, e_after, e_route, n_route, h4, hsub, hr1, Av.sopJ]) | ((refine hand_eLoad (i := 0) (dd := .int .i64) rfl rfl (by decide) rfl rfl rfl (by first | assumption | rfl) Tryz.underlying3 rfl ?_); simp only [go_sem, simprocAttr, hF, e_after, e_route, n_route, h4, hsub, hr1, Av.sopJ]) | ((refine hand_vLoad (i := 8) (k := l0.length) (c := 6) (sz := 7) (dd := .slice 68) rfl rfl (by decide) rfl rfl (vals7 _) (vals_last z l0) rfl rfl Tryz.underlying65 rfl ?_); simp only [go_sem, simprocAttr, hF, e_after, e_route, n_route, h4, hsub, hr1]) | ((refine hand_eLen (i := 10) rfl rfl (by decide) Tryz.underlying65 rfl rfl rfl ?_); simp only [go_sem, simprocAttr, hF, e_after, e_route, n_route, h4, hsub, hr1]))
  | ((with_reducible refine ex_id ?_); (first | (refine ⟨_, handq_eLoad (i := 0) (dd := .slice 67) rfl rfl (by decide) rfl rfl rfl rfl Tryz.underlying27 rfl, rfl, ?_⟩) | (refine ⟨_, handq_vLen (i := 8) rfl rfl (by decide) Tryz.underlying27 rfl rfl rfl, rfl, ?_⟩) | (refine ⟨_, handq_vIndex (i := 8) (j := l0.length) rfl rfl (by decide) rfl rfl rfl rfl hjl Tryz.underlying27 Tryz.sz67, rfl, ?_⟩)); simp only [go_sem, simprocAttr, hF, e_after, e_route, n_route, h4, hsub, hr1, hbx])
  | ((with_reducible first | refine sopsJ_go ?_ | refine sopsJ_end ?_ | refine headW_end ?_); simp only [go_sem, simprocAttr, hF, e_after, e_route, n_route, h4, hsub, hr1, Av.sopJ])
  | (refine awp_floatJ (id := 9) [1000066, 1000069, 1000070, 1000072] 9 [] (by kernel_rfl) (by kernel_rfl) (by kernel_rfl) rfl rfl (fun bx0 hbx => ?_); (try dsimp only [Av.addWs, Av.addW, List.modify_succ_cons, List.modify_zero_cons, List.push_toArray, List.cons_append, List.nil_append, List.take, List.drop]))
  | ((with_reducible refine headW_go ?_); simp only [go_sem, simprocAttr, hF, e_after, e_route, n_route, h4, hsub, hr1, hbx])
  | ((with_reducible first | refine sops_go ?_ | refine sops_end ?_ | refine awp_if ?_ | refine awp_skip ?_ | refine awp_ret ?_); simp only [go_sem, simprocAttr, hF, e_after, e_route, n_route, h4, hsub, hr1])
  | (with_reducible first | refine awp_seq_k fun _ _ => ?_ | refine awp_region (id := 0) [] ?_ | refine awp_region (id := 1) [1000011, 1000012] ?_ | refine awp_region (id := 2) [1000021, 1000022] ?_ | refine awp_region (id := 4) [] ?_ | refine awp_region (id := 10) [1000075, 1000076, 1000077] ?_ | refine awp_region (id := 11) [] ?_)
  | go_step)
 all_goals (first | rfl | exact ⟨(), rfl⟩)

theorem qrouteBL (C : World → Prop) (b : Nat) (X : RX) {w : ByteArray} (hw : w = wRoute) {g : Nat} {z : Rz} {l0 : List Rz} (hq : X.hb.q = some g) (hz : X.bs = z :: l0) (hzs : X.zs = []) (h4 : (X.R.rank == 4) = false) (hln : l0.length ≤ 1024) (l : List Int) (hr : z.rs.length < 1024) (hl : 1024 < l.length) : FnX Tryz.prog C 89 [.v (wrP b), .v (.string w), .sl 1 (l.map fun n => [ip n])] (exts (pcsQ b X)) (iv 8) (fun _ : Unit => exts (pcsQ b X)) := by
 obtain ⟨R, ⟨vp, hl_, hm, vb, va, hc_, hh, hw_, ho_, rt⟩, hpd, hbd, had, pw, bs, zs⟩ := X
 obtain ⟨q, V⟩ := hbd
 dsimp only at hq hz h4
 cases hq
 subst hz
 dsimp only at hzs
 subst hzs
 have hsub : IntKind.i64.wrap ((((z :: l0).reverse.length : Nat) : Int) - 1) = (l0.length : Int) := by
  rw [List.length_reverse, List.length_cons, IntKind.wrap_i64]
  omega
 have hjl : l0.length < ((z :: l0).reverse.map Rz.vals).length := by simp
 have hr1 : ((z.rs.length : Int) == 1024) = false := beq_eq_false_iff_ne.2 (by omega)
 have hr2 : decide ((l.length : Int) > 1024) = true := decide_eq_true (by omega)
 have e_after : (w.toList == (⟨#[97, 102, 116, 101, 114]⟩ : ByteArray).toList) = false := by rw [str_eq, hw]; exact decide_eq_false (by decide)
 have e_route : (w.toList == (⟨#[114, 111, 117, 116, 101]⟩ : ByteArray).toList) = true := by rw [str_eq, hw]; exact decide_eq_true (by decide)
 have n_route : (w.toList != (⟨#[114, 111, 117, 116, 101]⟩ : ByteArray).toList) = false := by unfold bne; rw [e_route]; rfl
 refine fn_okXn Tryz.func89 Tryz.ntmps89 Tryz.results89 (by kernel_rfl) rfl (of_decide_eq_true rfl) fun F E hF hC => ?_
 simp only [go_sem, simprocAttr, hF]
 repeat (first
  | ((with_reducible refine hand_id ?_); first | ((refine hand_rawField rfl rfl (by decide) Tryz.underlying105 rfl (m := 14) rfl rfl ?_); simp only [go_sem, simprocAttr, hF, e_after, e_route, n_route, h4, hsub, hr1, hr2, Av.sopJ]) | ((refine hand_rawField rfl rfl (by decide) Tryz.underlying105 rfl (m := 0) rfl rfl ?_); simp only [go_sem, simprocAttr, hF, e_after, e_route, n_route, h4, hsub, hr1, hr2, Av.sopJ]) | ((refine hand_rawField rfl rfl (by decide) Tryz.underlying35 rfl (m := 0) rfl rfl ?_); simp only [go_sem, simprocAttr, hF, e_after, e_route, n_route, h4, hsub, hr1, hr2, Av.sopJ]) | ((refine hand_rawField rfl rfl (by decide) Tryz.underlying67 rfl (m := 0) rfl rfl ?_); simp only [go_sem, simprocAttr, hF, e_after, e_route, n_route, h4, hsub, hr1, hr2, Av.sopJ]) | ((refine hand_eLoad (i := 0) (dd := .int .i64) rfl rfl (by decide) rfl rfl rfl (by first | assumption | rfl) Tryz.underlying3 rfl ?_); simp only [go_sem, simprocAttr, hF, e_after, e_route, n_route, h4, hsub, hr1, hr2, Av.sopJ]) | ((refine hand_vLoad (i := 8) (k := l0.length) (c := 6) (sz := 7) (dd := .slice 68) rfl rfl (by decide) rfl rfl (vals7 _) (vals_last z l0) rfl rfl Tryz.underlying65 rfl ?_); simp only [go_sem, simprocAttr, hF, e_after, e_route, n_route, h4, hsub, hr1, hr2]) | ((refine hand_eLen (i := 10) rfl rfl (by decide) Tryz.underlying65 rfl rfl rfl ?_); simp only [go_sem, simprocAttr, hF, e_after, e_route, n_route, h4, hsub, hr1, hr2]))
  | ((with_reducible refine ex_id ?_); (first | (refine ⟨_, handq_eLoad (i := 0) (dd := .slice 67) rfl rfl (by decide) rfl rfl rfl rfl Tryz.underlying27 rfl, rfl, ?_⟩) | (refine ⟨_, handq_vLen (i := 8) rfl rfl (by decide) Tryz.underlying27 rfl rfl rfl, rfl, ?_⟩) | (refine ⟨_, handq_vIndex (i := 8) (j := l0.length) rfl rfl (by decide) rfl rfl rfl rfl hjl Tryz.underlying27 Tryz.sz67, rfl, ?_⟩)); simp only [go_sem, simprocAttr, hF, e_after, e_route, n_route, h4, hsub, hr1, hr2, hbx])
  | ((with_reducible first | refine sopsJ_go ?_ | refine sopsJ_end ?_ | refine headW_end ?_); simp only [go_sem, simprocAttr, hF, e_after, e_route, n_route, h4, hsub, hr1, hr2, Av.sopJ])
  | (refine awp_floatJ (id := 9) [1000066, 1000069, 1000070, 1000072] 9 [] (by kernel_rfl) (by kernel_rfl) (by kernel_rfl) rfl rfl (fun bx0 hbx => ?_); (try dsimp only [Av.addWs, Av.addW, List.modify_succ_cons, List.modify_zero_cons, List.push_toArray, List.cons_append, List.nil_append, List.take, List.drop]))
  | ((with_reducible refine headW_go ?_); simp only [go_sem, simprocAttr, hF, e_after, e_route, n_route, h4, hsub, hr1, hr2, hbx])
  | ((with_reducible first | refine sops_go ?_ | refine sops_end ?_ | refine awp_if ?_ | refine awp_skip ?_ | refine awp_ret ?_); simp only [go_sem, simprocAttr, hF, e_after, e_route, n_route, h4, hsub, hr1, hr2])
  | (with_reducible first | refine awp_seq_k fun _ _ => ?_ | refine awp_region (id := 0) [] ?_ | refine awp_region (id := 1) [1000011, 1000012] ?_ | refine awp_region (id := 2) [1000021, 1000022] ?_ | refine awp_region (id := 4) [] ?_ | refine awp_region (id := 10) [1000075, 1000076, 1000077] ?_ | refine awp_region (id := 11) [] ?_)
  | go_step)
 all_goals (first | rfl | exact ⟨(), rfl⟩)

theorem qrouteBO (C : World → Prop) (b : Nat) (X : RX) {w : ByteArray} (hw : w = wRoute) {g : Nat} {z : Rz} {l0 : List Rz} (hq : X.hb.q = some g) (hz : X.bs = z :: l0) (hzs : X.zs = []) (h4 : (X.R.rank == 4) = false) (hln : l0.length ≤ 1024) (l : List Int) (hr : z.rs.length < 1024) (hl : l.length ≤ 1024) : FnX Tryz.prog C 89 [.v (wrP b), .v (.string w), .sl 1 (l.map fun n => [ip n])] (exts (pcsQ b X)) (iv 0) (fun i : Option Nat × Value × List Value => exts (pcsQ b { X with bs := { z with rs := z.rs ++ [l], q := i.1, V := i.2.1, xs := i.2.2 } :: l0 })) := by
 obtain ⟨R, ⟨vp, hl_, hm, vb, va, hc_, hh, hw_, ho_, rt⟩, hpd, hbd, had, pw, bs, zs⟩ := X
 obtain ⟨q, V⟩ := hbd
 dsimp only at hq hz h4
 cases hq
 subst hz
 dsimp only at hzs
 subst hzs
 have hsub : IntKind.i64.wrap ((((z :: l0).reverse.length : Nat) : Int) - 1) = (l0.length : Int) := by
  rw [List.length_reverse, List.length_cons, IntKind.wrap_i64]
  omega
 have hjl : l0.length < ((z :: l0).reverse.map Rz.vals).length := by simp
 have hr1 : ((z.rs.length : Int) == 1024) = false := beq_eq_false_iff_ne.2 (by omega)
 have hr2 : decide ((l.length : Int) > 1024) = false := decide_eq_false (by omega)
 have e_after : (w.toList == (⟨#[97, 102, 116, 101, 114]⟩ : ByteArray).toList) = false := by rw [str_eq, hw]; exact decide_eq_false (by decide)
 have e_route : (w.toList == (⟨#[114, 111, 117, 116, 101]⟩ : ByteArray).toList) = true := by rw [str_eq, hw]; exact decide_eq_true (by decide)
 have n_route : (w.toList != (⟨#[114, 111, 117, 116, 101]⟩ : ByteArray).toList) = false := by unfold bne; rw [e_route]; rfl
 refine fn_okXn Tryz.func89 Tryz.ntmps89 Tryz.results89 (by kernel_rfl) rfl (of_decide_eq_true rfl) fun F E hF hC => ?_
 simp only [go_sem, simprocAttr, hF]
 repeat (first
  | ((with_reducible refine hand_id ?_); first | ((refine hand_rawField rfl rfl (by decide) Tryz.underlying105 rfl (m := 14) rfl rfl ?_); simp only [go_sem, simprocAttr, hF, e_after, e_route, n_route, h4, hsub, hr1, hr2, Av.sopJ]) | ((refine hand_rawField rfl rfl (by decide) Tryz.underlying105 rfl (m := 0) rfl rfl ?_); simp only [go_sem, simprocAttr, hF, e_after, e_route, n_route, h4, hsub, hr1, hr2, Av.sopJ]) | ((refine hand_rawField rfl rfl (by decide) Tryz.underlying35 rfl (m := 0) rfl rfl ?_); simp only [go_sem, simprocAttr, hF, e_after, e_route, n_route, h4, hsub, hr1, hr2, Av.sopJ]) | ((refine hand_rawField rfl rfl (by decide) Tryz.underlying67 rfl (m := 0) rfl rfl ?_); simp only [go_sem, simprocAttr, hF, e_after, e_route, n_route, h4, hsub, hr1, hr2, Av.sopJ]) | ((refine hand_eLoad (i := 0) (dd := .int .i64) rfl rfl (by decide) rfl rfl rfl (by first | assumption | rfl) Tryz.underlying3 rfl ?_); simp only [go_sem, simprocAttr, hF, e_after, e_route, n_route, h4, hsub, hr1, hr2, Av.sopJ]) | ((refine hand_vLoad (i := 8) (k := l0.length) (c := 6) (sz := 7) (dd := .slice 68) rfl rfl (by decide) rfl rfl (vals7 _) (vals_last z l0) rfl rfl Tryz.underlying65 rfl ?_); simp only [go_sem, simprocAttr, hF, e_after, e_route, n_route, h4, hsub, hr1, hr2]) | ((refine hand_eLen (i := 10) rfl rfl (by decide) Tryz.underlying65 rfl rfl rfl ?_); simp only [go_sem, simprocAttr, hF, e_after, e_route, n_route, h4, hsub, hr1, hr2]) | ((refine hand_eApp (i := 10) (e := 68) (sz := 1) rfl rfl (by decide) Tryz.underlying65 (by kernel_rfl) rfl rfl rfl rfl (by simp only [Sc.rsR, List.length_cons, List.length_nil, List.length_map]; omega) (fun q2 V2 xs2 hc2 ho2 => ?_)); simp only [go_sem, simprocAttr, hF, e_after, e_route, n_route, h4, hsub, hr1, hr2, Av.sopJ]) | ((refine hand_vStore (i := 8) (k := l0.length) (c := 6) (sz := 7) rfl rfl rfl rfl (vals7 _) (vals_last z l0) (by decide) rfl rfl (by assumption) (by assumption) Tryz.sz65 ?_); simp only [go_sem, simprocAttr, hF, e_after, e_route, n_route, h4, hsub, hr1, hr2, Av.sopJ]))
  | ((with_reducible refine ex_id ?_); (first | (refine ⟨_, handq_eLoad (i := 0) (dd := .slice 67) rfl rfl (by decide) rfl rfl rfl rfl Tryz.underlying27 rfl, rfl, ?_⟩) | (refine ⟨_, handq_vLen (i := 8) rfl rfl (by decide) Tryz.underlying27 rfl rfl rfl, rfl, ?_⟩) | (refine ⟨_, handq_vIndex (i := 8) (j := l0.length) rfl rfl (by decide) rfl rfl rfl rfl hjl Tryz.underlying27 Tryz.sz67, rfl, ?_⟩)); simp only [go_sem, simprocAttr, hF, e_after, e_route, n_route, h4, hsub, hr1, hr2, hbx])
  | ((with_reducible first | refine sopsJ_go ?_ | refine sopsJ_end ?_ | refine headW_end ?_); simp only [go_sem, simprocAttr, hF, e_after, e_route, n_route, h4, hsub, hr1, hr2, Av.sopJ])
  | ((refine awp_regionJ (id := 12) [88, 1000087, 1000088, 1000091, 1000093] ?_); simp only [go_sem, simprocAttr, hF, e_after, e_route, n_route, h4, hsub, hr1, hr2, Av.sopJ])
  | (refine awp_floatJ (id := 9) [1000066, 1000069, 1000070, 1000072] 9 [] (by kernel_rfl) (by kernel_rfl) (by kernel_rfl) rfl rfl (fun bx0 hbx => ?_); (try dsimp only [Av.addWs, Av.addW, List.modify_succ_cons, List.modify_zero_cons, List.push_toArray, List.cons_append, List.nil_append, List.take, List.drop]))
  | ((with_reducible refine headW_go ?_); simp only [go_sem, simprocAttr, hF, e_after, e_route, n_route, h4, hsub, hr1, hr2, hbx])
  | ((with_reducible first | refine sops_go ?_ | refine sops_end ?_ | refine awp_if ?_ | refine awp_skip ?_ | refine awp_ret ?_); simp only [go_sem, simprocAttr, hF, e_after, e_route, n_route, h4, hsub, hr1, hr2])
  | (with_reducible first | refine awp_seq_k fun _ _ => ?_ | refine awp_region (id := 0) [] ?_ | refine awp_region (id := 1) [1000011, 1000012] ?_ | refine awp_region (id := 2) [1000021, 1000022] ?_ | refine awp_region (id := 4) [] ?_ | refine awp_region (id := 10) [1000075, 1000076, 1000077] ?_ | refine awp_region (id := 13) [] ?_)
  | go_step)
 have h1 : ((z :: l0).reverse.map Rz.vals).set l0.length (z.vals.set 6 V2) = (({ z with rs := z.rs ++ [l], q := q2, V := V2, xs := xs2 } : Rz) :: l0).reverse.map Rz.vals := vals_setLast z { z with rs := z.rs ++ [l], q := q2, V := V2, xs := xs2 } l0
 have h2 : rsR (z.rs ++ [l]) = z.rs.map (fun r => [PV.sl 1 (r.map fun n => [ip n])]) ++ [[PV.sl 1 (l.map fun n => [ip n])]] := by unfold rsR; rw [List.map_append]; rfl
 have h3 : rsR (z.rs ++ [l]) = rsR z.rs ++ [[PV.sl 1 (l.map fun n => [ip n])]] := by unfold rsR; rw [List.map_append]; rfl
 refine ⟨(q2, V2, xs2), ?_⟩
 rw [h1]
 first | (rw [← h2]; rfl) | (rw [← h3]; rfl)

theorem qrouteAR (C : World → Prop) (b : Nat) (X : RX) {w : ByteArray} (hw : w = wRoute) {g : Nat} {z : Rz} {l0 : List Rz} (hq : X.ha.q = some g) (hz : X.zs = z :: l0) (h4 : (X.R.rank == 4) = true) (hln : l0.length ≤ 1024) (l : List Int) (hr : z.rs.length = 1024) : FnX Tryz.prog C 89 [.v (wrP b), .v (.string w), .sl 1 (l.map fun n => [ip n])] (exts (pcsQ b X)) (iv 8) (fun _ : Unit => exts (pcsQ b X)) := by
 obtain ⟨R, ⟨vp, hl_, hm, vb, va, hc_, hh, hw_, ho_, rt⟩, hpd, hbd, had, pw, bs, zs⟩ := X
 obtain ⟨q, V⟩ := had
 dsimp only at hq hz h4
 cases hq
 subst hz
 have hsub : IntKind.i64.wrap ((((z :: l0).reverse.length : Nat) : Int) - 1) = (l0.length : Int) := by
  rw [List.length_reverse, List.length_cons, IntKind.wrap_i64]
  omega
 have hjl : l0.length < ((z :: l0).reverse.map Rz.vals).length := by simp
 have hr1 : ((z.rs.length : Int) == 1024) = true := by rw [hr]; rfl
 have e_after : (w.toList == (⟨#[97, 102, 116, 101, 114]⟩ : ByteArray).toList) = false := by rw [str_eq, hw]; exact decide_eq_false (by decide)
 have e_route : (w.toList == (⟨#[114, 111, 117, 116, 101]⟩ : ByteArray).toList) = true := by rw [str_eq, hw]; exact decide_eq_true (by decide)
 have n_route : (w.toList != (⟨#[114, 111, 117, 116, 101]⟩ : ByteArray).toList) = false := by unfold bne; rw [e_route]; rfl
 refine fn_okXn Tryz.func89 Tryz.ntmps89 Tryz.results89 (by kernel_rfl) rfl (of_decide_eq_true rfl) fun F E hF hC => ?_
 simp only [go_sem, simprocAttr, hF]
 repeat (first
  | ((with_reducible refine hand_id ?_); first | ((refine hand_rawField rfl rfl (by decide) Tryz.underlying105 rfl (m := 14) rfl rfl ?_); simp only [go_sem, simprocAttr, hF, e_after, e_route, n_route, h4, hsub, hr1, Av.sopJ]) | ((refine hand_rawField rfl rfl (by decide) Tryz.underlying105 rfl (m := 0) rfl rfl ?_); simp only [go_sem, simprocAttr, hF, e_after, e_route, n_route, h4, hsub, hr1, Av.sopJ]) | ((refine hand_rawField rfl rfl (by decide) Tryz.underlying35 rfl (m := 0) rfl rfl ?_); simp only [go_sem, simprocAttr, hF, e_after, e_route, n_route, h4, hsub, hr1, Av.sopJ]) | ((refine hand_rawField rfl rfl (by decide) Tryz.underlying67 rfl (m := 0) rfl rfl ?_); simp only [go_sem, simprocAttr, hF, e_after, e_route, n_route, h4, hsub, hr1, Av.sopJ]) | ((refine hand_eLoad (i := 0) (dd := .int .i64) rfl rfl (by decide) rfl rfl rfl (by first | assumption | rfl) Tryz.underlying3 rfl ?_); simp only [go_sem, simprocAttr, hF, e_after, e_route, n_route, h4, hsub, hr1, Av.sopJ]) | ((refine hand_vLoad (i := 9) (k := l0.length) (c := 6) (sz := 7) (dd := .slice 68) rfl rfl (by decide) rfl rfl (vals7 _) (vals_last z l0) rfl rfl Tryz.underlying65 rfl ?_); simp only [go_sem, simprocAttr, hF, e_after, e_route, n_route, h4, hsub, hr1]) | ((refine hand_eLen (i := 10) rfl rfl (by decide) Tryz.underlying65 rfl rfl rfl ?_); simp only [go_sem, simprocAttr, hF, e_after, e_route, n_route, h4, hsub, hr1]))
  | ((with_reducible refine ex_id ?_); (first | (refine ⟨_, handq_eLoad (i := 0) (dd := .slice 67) rfl rfl (by decide) rfl rfl rfl rfl Tryz.underlying27 rfl, rfl, ?_⟩) | (refine ⟨_, handq_vLen (i := 9) rfl rfl (by decide) Tryz.underlying27 rfl rfl rfl, rfl, ?_⟩) | (refine ⟨_, handq_vIndex (i := 9) (j := l0.length) rfl rfl (by decide) rfl rfl rfl rfl hjl Tryz.underlying27 Tryz.sz67, rfl, ?_⟩)); simp only [go_sem, simprocAttr, hF, e_after, e_route, n_route, h4, hsub, hr1, hbx])
  | ((with_reducible first | refine sopsJ_go ?_ | refine sopsJ_end ?_ | refine headW_end ?_); simp only [go_sem, simprocAttr, hF, e_after, e_route, n_route, h4, hsub, hr1, Av.sopJ])
  | (refine awp_floatJ (id := 9) [1000066, 1000069, 1000070, 1000072] 9 [] (by kernel_rfl) (by kernel_rfl) (by kernel_rfl) rfl rfl (fun bx0 hbx => ?_); (try dsimp only [Av.addWs, Av.addW, List.modify_succ_cons, List.modify_zero_cons, List.push_toArray, List.cons_append, List.nil_append, List.take, List.drop]))
  | ((with_reducible refine headW_go ?_); simp only [go_sem, simprocAttr, hF, e_after, e_route, n_route, h4, hsub, hr1, hbx])
  | ((with_reducible first | refine sops_go ?_ | refine sops_end ?_ | refine awp_if ?_ | refine awp_skip ?_ | refine awp_ret ?_); simp only [go_sem, simprocAttr, hF, e_after, e_route, n_route, h4, hsub, hr1])
  | (with_reducible first | refine awp_seq_k fun _ _ => ?_ | refine awp_region (id := 0) [] ?_ | refine awp_region (id := 1) [1000011, 1000012] ?_ | refine awp_region (id := 2) [1000021, 1000022] ?_ | refine awp_region (id := 3) [1000028, 1000029] ?_ | refine awp_region (id := 4) [] ?_ | refine awp_region (id := 10) [1000075, 1000076, 1000077] ?_ | refine awp_region (id := 11) [] ?_)
  | go_step)
 all_goals (first | rfl | exact ⟨(), rfl⟩)

theorem qrouteAL (C : World → Prop) (b : Nat) (X : RX) {w : ByteArray} (hw : w = wRoute) {g : Nat} {z : Rz} {l0 : List Rz} (hq : X.ha.q = some g) (hz : X.zs = z :: l0) (h4 : (X.R.rank == 4) = true) (hln : l0.length ≤ 1024) (l : List Int) (hr : z.rs.length < 1024) (hl : 1024 < l.length) : FnX Tryz.prog C 89 [.v (wrP b), .v (.string w), .sl 1 (l.map fun n => [ip n])] (exts (pcsQ b X)) (iv 8) (fun _ : Unit => exts (pcsQ b X)) := by
 obtain ⟨R, ⟨vp, hl_, hm, vb, va, hc_, hh, hw_, ho_, rt⟩, hpd, hbd, had, pw, bs, zs⟩ := X
 obtain ⟨q, V⟩ := had
 dsimp only at hq hz h4
 cases hq
 subst hz
 have hsub : IntKind.i64.wrap ((((z :: l0).reverse.length : Nat) : Int) - 1) = (l0.length : Int) := by
  rw [List.length_reverse, List.length_cons, IntKind.wrap_i64]
  omega
 have hjl : l0.length < ((z :: l0).reverse.map Rz.vals).length := by simp
 have hr1 : ((z.rs.length : Int) == 1024) = false := beq_eq_false_iff_ne.2 (by omega)
 have hr2 : decide ((l.length : Int) > 1024) = true := decide_eq_true (by omega)
 have e_after : (w.toList == (⟨#[97, 102, 116, 101, 114]⟩ : ByteArray).toList) = false := by rw [str_eq, hw]; exact decide_eq_false (by decide)
 have e_route : (w.toList == (⟨#[114, 111, 117, 116, 101]⟩ : ByteArray).toList) = true := by rw [str_eq, hw]; exact decide_eq_true (by decide)
 have n_route : (w.toList != (⟨#[114, 111, 117, 116, 101]⟩ : ByteArray).toList) = false := by unfold bne; rw [e_route]; rfl
 refine fn_okXn Tryz.func89 Tryz.ntmps89 Tryz.results89 (by kernel_rfl) rfl (of_decide_eq_true rfl) fun F E hF hC => ?_
 simp only [go_sem, simprocAttr, hF]
 repeat (first
  | ((with_reducible refine hand_id ?_); first | ((refine hand_rawField rfl rfl (by decide) Tryz.underlying105 rfl (m := 14) rfl rfl ?_); simp only [go_sem, simprocAttr, hF, e_after, e_route, n_route, h4, hsub, hr1, hr2, Av.sopJ]) | ((refine hand_rawField rfl rfl (by decide) Tryz.underlying105 rfl (m := 0) rfl rfl ?_); simp only [go_sem, simprocAttr, hF, e_after, e_route, n_route, h4, hsub, hr1, hr2, Av.sopJ]) | ((refine hand_rawField rfl rfl (by decide) Tryz.underlying35 rfl (m := 0) rfl rfl ?_); simp only [go_sem, simprocAttr, hF, e_after, e_route, n_route, h4, hsub, hr1, hr2, Av.sopJ]) | ((refine hand_rawField rfl rfl (by decide) Tryz.underlying67 rfl (m := 0) rfl rfl ?_); simp only [go_sem, simprocAttr, hF, e_after, e_route, n_route, h4, hsub, hr1, hr2, Av.sopJ]) | ((refine hand_eLoad (i := 0) (dd := .int .i64) rfl rfl (by decide) rfl rfl rfl (by first | assumption | rfl) Tryz.underlying3 rfl ?_); simp only [go_sem, simprocAttr, hF, e_after, e_route, n_route, h4, hsub, hr1, hr2, Av.sopJ]) | ((refine hand_vLoad (i := 9) (k := l0.length) (c := 6) (sz := 7) (dd := .slice 68) rfl rfl (by decide) rfl rfl (vals7 _) (vals_last z l0) rfl rfl Tryz.underlying65 rfl ?_); simp only [go_sem, simprocAttr, hF, e_after, e_route, n_route, h4, hsub, hr1, hr2]) | ((refine hand_eLen (i := 10) rfl rfl (by decide) Tryz.underlying65 rfl rfl rfl ?_); simp only [go_sem, simprocAttr, hF, e_after, e_route, n_route, h4, hsub, hr1, hr2]))
  | ((with_reducible refine ex_id ?_); (first | (refine ⟨_, handq_eLoad (i := 0) (dd := .slice 67) rfl rfl (by decide) rfl rfl rfl rfl Tryz.underlying27 rfl, rfl, ?_⟩) | (refine ⟨_, handq_vLen (i := 9) rfl rfl (by decide) Tryz.underlying27 rfl rfl rfl, rfl, ?_⟩) | (refine ⟨_, handq_vIndex (i := 9) (j := l0.length) rfl rfl (by decide) rfl rfl rfl rfl hjl Tryz.underlying27 Tryz.sz67, rfl, ?_⟩)); simp only [go_sem, simprocAttr, hF, e_after, e_route, n_route, h4, hsub, hr1, hr2, hbx])
  | ((with_reducible first | refine sopsJ_go ?_ | refine sopsJ_end ?_ | refine headW_end ?_); simp only [go_sem, simprocAttr, hF, e_after, e_route, n_route, h4, hsub, hr1, hr2, Av.sopJ])
  | (refine awp_floatJ (id := 9) [1000066, 1000069, 1000070, 1000072] 9 [] (by kernel_rfl) (by kernel_rfl) (by kernel_rfl) rfl rfl (fun bx0 hbx => ?_); (try dsimp only [Av.addWs, Av.addW, List.modify_succ_cons, List.modify_zero_cons, List.push_toArray, List.cons_append, List.nil_append, List.take, List.drop]))
  | ((with_reducible refine headW_go ?_); simp only [go_sem, simprocAttr, hF, e_after, e_route, n_route, h4, hsub, hr1, hr2, hbx])
  | ((with_reducible first | refine sops_go ?_ | refine sops_end ?_ | refine awp_if ?_ | refine awp_skip ?_ | refine awp_ret ?_); simp only [go_sem, simprocAttr, hF, e_after, e_route, n_route, h4, hsub, hr1, hr2])
  | (with_reducible first | refine awp_seq_k fun _ _ => ?_ | refine awp_region (id := 0) [] ?_ | refine awp_region (id := 1) [1000011, 1000012] ?_ | refine awp_region (id := 2) [1000021, 1000022] ?_ | refine awp_region (id := 3) [1000028, 1000029] ?_ | refine awp_region (id := 4) [] ?_ | refine awp_region (id := 10) [1000075, 1000076, 1000077] ?_ | refine awp_region (id := 11) [] ?_)
  | go_step)
 all_goals (first | rfl | exact ⟨(), rfl⟩)

theorem qrouteAO (C : World → Prop) (b : Nat) (X : RX) {w : ByteArray} (hw : w = wRoute) {g : Nat} {z : Rz} {l0 : List Rz} (hq : X.ha.q = some g) (hz : X.zs = z :: l0) (h4 : (X.R.rank == 4) = true) (hln : l0.length ≤ 1024) (l : List Int) (hr : z.rs.length < 1024) (hl : l.length ≤ 1024) : FnX Tryz.prog C 89 [.v (wrP b), .v (.string w), .sl 1 (l.map fun n => [ip n])] (exts (pcsQ b X)) (iv 0) (fun i : Option Nat × Value × List Value => exts (pcsQ b { X with zs := { z with rs := z.rs ++ [l], q := i.1, V := i.2.1, xs := i.2.2 } :: l0 })) := by
 obtain ⟨R, ⟨vp, hl_, hm, vb, va, hc_, hh, hw_, ho_, rt⟩, hpd, hbd, had, pw, bs, zs⟩ := X
 obtain ⟨q, V⟩ := had
 dsimp only at hq hz h4
 cases hq
 subst hz
 have hsub : IntKind.i64.wrap ((((z :: l0).reverse.length : Nat) : Int) - 1) = (l0.length : Int) := by
  rw [List.length_reverse, List.length_cons, IntKind.wrap_i64]
  omega
 have hjl : l0.length < ((z :: l0).reverse.map Rz.vals).length := by simp
 have hr1 : ((z.rs.length : Int) == 1024) = false := beq_eq_false_iff_ne.2 (by omega)
 have hr2 : decide ((l.length : Int) > 1024) = false := decide_eq_false (by omega)
 have e_after : (w.toList == (⟨#[97, 102, 116, 101, 114]⟩ : ByteArray).toList) = false := by rw [str_eq, hw]; exact decide_eq_false (by decide)
 have e_route : (w.toList == (⟨#[114, 111, 117, 116, 101]⟩ : ByteArray).toList) = true := by rw [str_eq, hw]; exact decide_eq_true (by decide)
 have n_route : (w.toList != (⟨#[114, 111, 117, 116, 101]⟩ : ByteArray).toList) = false := by unfold bne; rw [e_route]; rfl
 refine fn_okXn Tryz.func89 Tryz.ntmps89 Tryz.results89 (by kernel_rfl) rfl (of_decide_eq_true rfl) fun F E hF hC => ?_
 simp only [go_sem, simprocAttr, hF]
 repeat (first
  | ((with_reducible refine hand_id ?_); first | ((refine hand_rawField rfl rfl (by decide) Tryz.underlying105 rfl (m := 14) rfl rfl ?_); simp only [go_sem, simprocAttr, hF, e_after, e_route, n_route, h4, hsub, hr1, hr2, Av.sopJ]) | ((refine hand_rawField rfl rfl (by decide) Tryz.underlying105 rfl (m := 0) rfl rfl ?_); simp only [go_sem, simprocAttr, hF, e_after, e_route, n_route, h4, hsub, hr1, hr2, Av.sopJ]) | ((refine hand_rawField rfl rfl (by decide) Tryz.underlying35 rfl (m := 0) rfl rfl ?_); simp only [go_sem, simprocAttr, hF, e_after, e_route, n_route, h4, hsub, hr1, hr2, Av.sopJ]) | ((refine hand_rawField rfl rfl (by decide) Tryz.underlying67 rfl (m := 0) rfl rfl ?_); simp only [go_sem, simprocAttr, hF, e_after, e_route, n_route, h4, hsub, hr1, hr2, Av.sopJ]) | ((refine hand_eLoad (i := 0) (dd := .int .i64) rfl rfl (by decide) rfl rfl rfl (by first | assumption | rfl) Tryz.underlying3 rfl ?_); simp only [go_sem, simprocAttr, hF, e_after, e_route, n_route, h4, hsub, hr1, hr2, Av.sopJ]) | ((refine hand_vLoad (i := 9) (k := l0.length) (c := 6) (sz := 7) (dd := .slice 68) rfl rfl (by decide) rfl rfl (vals7 _) (vals_last z l0) rfl rfl Tryz.underlying65 rfl ?_); simp only [go_sem, simprocAttr, hF, e_after, e_route, n_route, h4, hsub, hr1, hr2]) | ((refine hand_eLen (i := 10) rfl rfl (by decide) Tryz.underlying65 rfl rfl rfl ?_); simp only [go_sem, simprocAttr, hF, e_after, e_route, n_route, h4, hsub, hr1, hr2]) | ((refine hand_eApp (i := 10) (e := 68) (sz := 1) rfl rfl (by decide) Tryz.underlying65 (by kernel_rfl) rfl rfl rfl rfl (by simp only [Sc.rsR, List.length_cons, List.length_nil, List.length_map]; omega) (fun q2 V2 xs2 hc2 ho2 => ?_)); simp only [go_sem, simprocAttr, hF, e_after, e_route, n_route, h4, hsub, hr1, hr2, Av.sopJ]) | ((refine hand_vStore (i := 9) (k := l0.length) (c := 6) (sz := 7) rfl rfl rfl rfl (vals7 _) (vals_last z l0) (by decide) rfl rfl (by assumption) (by assumption) Tryz.sz65 ?_); simp only [go_sem, simprocAttr, hF, e_after, e_route, n_route, h4, hsub, hr1, hr2, Av.sopJ]))
  | ((with_reducible refine ex_id ?_); (first | (refine ⟨_, handq_eLoad (i := 0) (dd := .slice 67) rfl rfl (by decide) rfl rfl rfl rfl Tryz.underlying27 rfl, rfl, ?_⟩) | (refine ⟨_, handq_vLen (i := 9) rfl rfl (by decide) Tryz.underlying27 rfl rfl rfl, rfl, ?_⟩) | (refine ⟨_, handq_vIndex (i := 9) (j := l0.length) rfl rfl (by decide) rfl rfl rfl rfl hjl Tryz.underlying27 Tryz.sz67, rfl, ?_⟩)); simp only [go_sem, simprocAttr, hF, e_after, e_route, n_route, h4, hsub, hr1, hr2, hbx])
  | ((with_reducible first | refine sopsJ_go ?_ | refine sopsJ_end ?_ | refine headW_end ?_); simp only [go_sem, simprocAttr, hF, e_after, e_route, n_route, h4, hsub, hr1, hr2, Av.sopJ])
  | ((refine awp_regionJ (id := 12) [88, 1000087, 1000088, 1000091, 1000093] ?_); simp only [go_sem, simprocAttr, hF, e_after, e_route, n_route, h4, hsub, hr1, hr2, Av.sopJ])
  | (refine awp_floatJ (id := 9) [1000066, 1000069, 1000070, 1000072] 9 [] (by kernel_rfl) (by kernel_rfl) (by kernel_rfl) rfl rfl (fun bx0 hbx => ?_); (try dsimp only [Av.addWs, Av.addW, List.modify_succ_cons, List.modify_zero_cons, List.push_toArray, List.cons_append, List.nil_append, List.take, List.drop]))
  | ((with_reducible refine headW_go ?_); simp only [go_sem, simprocAttr, hF, e_after, e_route, n_route, h4, hsub, hr1, hr2, hbx])
  | ((with_reducible first | refine sops_go ?_ | refine sops_end ?_ | refine awp_if ?_ | refine awp_skip ?_ | refine awp_ret ?_); simp only [go_sem, simprocAttr, hF, e_after, e_route, n_route, h4, hsub, hr1, hr2])
  | (with_reducible first | refine awp_seq_k fun _ _ => ?_ | refine awp_region (id := 0) [] ?_ | refine awp_region (id := 1) [1000011, 1000012] ?_ | refine awp_region (id := 2) [1000021, 1000022] ?_ | refine awp_region (id := 3) [1000028, 1000029] ?_ | refine awp_region (id := 4) [] ?_ | refine awp_region (id := 10) [1000075, 1000076, 1000077] ?_ | refine awp_region (id := 13) [] ?_)
  | go_step)
 have h1 : ((z :: l0).reverse.map Rz.vals).set l0.length (z.vals.set 6 V2) = (({ z with rs := z.rs ++ [l], q := q2, V := V2, xs := xs2 } : Rz) :: l0).reverse.map Rz.vals := vals_setLast z { z with rs := z.rs ++ [l], q := q2, V := V2, xs := xs2 } l0
 have h2 : rsR (z.rs ++ [l]) = z.rs.map (fun r => [PV.sl 1 (r.map fun n => [ip n])]) ++ [[PV.sl 1 (l.map fun n => [ip n])]] := by unfold rsR; rw [List.map_append]; rfl
 have h3 : rsR (z.rs ++ [l]) = rsR z.rs ++ [[PV.sl 1 (l.map fun n => [ip n])]] := by unfold rsR; rw [List.map_append]; rfl
 refine ⟨(q2, V2, xs2), ?_⟩
 rw [h1]
 first | (rw [← h2]; rfl) | (rw [← h3]; rfl)
/- The reference's parser: what can come. -/
def laterX (X : RX) (w : ByteArray) (pl : Int) : Bool :=
 if (w.toList == (⟨#[114, 111, 117, 116, 101]⟩ : ByteArray).toList) = true then ((X.R.rank == 3) && decide ((X.bs.reverse.length : Int) > 0)) || ((X.R.rank == 4) && decide ((X.zs.reverse.length : Int) > 0))
 else if (((w.toList == (⟨#[110, 101, 116, 119, 111, 114, 107]⟩ : ByteArray).toList) || (w.toList == (⟨#[115, 99, 104, 101, 100, 117, 108, 101]⟩ : ByteArray).toList) || (w.toList == (⟨#[115, 108, 111, 116, 115]⟩ : ByteArray).toList)) && decide (pl ≤ X.R.rank)) = true then false
 else if (decide (pl < X.R.rank) || (!X.R.begun && !(w.toList == (⟨#[110, 101, 116, 119, 111, 114, 107]⟩ : ByteArray).toList))) = true then false
 else decide (pl ≤ 5) || X.R.sched

set_option maxHeartbeats 20000000 in
theorem qlater (C : World → Prop) (b : Nat) (X : RX) (w : ByteArray) (pl : Int) : FnX Tryz.prog C 87 [.v (wrP b), .v (.string w), iv pl] (exts (pcsQ b X)) (bv (laterX X w pl)) (fun _ : Unit => exts (pcsQ b X)) := by
 refine sp ((w.toList == (⟨#[114, 111, 117, 116, 101]⟩ : ByteArray).toList)) (fun e_r => ?a1) (fun e_r => ?b1)
 case' a1 =>
  refine sp ((w.toList == (⟨#[110, 101, 116, 119, 111, 114, 107]⟩ : ByteArray).toList)) (fun e_n => ?a2) (fun e_n => ?b2)
  case' a2 =>
   refine sp ((w.toList == (⟨#[115, 99, 104, 101, 100, 117, 108, 101]⟩ : ByteArray).toList)) (fun e_s => ?a3) (fun e_s => ?b3)
   case' a3 =>
    refine sp ((w.toList == (⟨#[115, 108, 111, 116, 115]⟩ : ByteArray).toList)) (fun e_l => ?a4) (fun e_l => ?b4)
    case' a4 =>
     refine sp (decide (pl < X.R.rank)) (fun e_lt => ?a5) (fun e_lt => ?b5)
     case' a5 =>
      refine sp (X.R.begun) (fun e_nw => ?a6) (fun e_nw => ?b6)
      case' a6 =>
       have e_a3 := dm
       have e_a4 := dm
       have e_b3 := dm
       have e_b4 := dm
       have e_le := dm
       have e_p5 := dm
       have e_sc := dm
      case' b6 =>
       refine sp (decide (pl ≤ 5)) (fun e_p5 => ?a7) (fun e_p5 => ?b7)
       case' a7 =>
        refine sp (X.R.sched) (fun e_sc => ?a8) (fun e_sc => ?b8)
        case' a8 =>
         have e_a3 := dm
         have e_a4 := dm
         have e_b3 := dm
         have e_b4 := dm
         have e_le := dm
        case' b8 =>
         have e_a3 := dm
         have e_a4 := dm
         have e_b3 := dm
         have e_b4 := dm
         have e_le := dm
       case' b7 =>
        have e_a3 := dm
        have e_a4 := dm
        have e_b3 := dm
        have e_b4 := dm
        have e_le := dm
        have e_sc := dm
     case' b5 =>
      have e_a3 := dm
      have e_a4 := dm
      have e_b3 := dm
      have e_b4 := dm
      have e_le := dm
      have e_nw := dm
      have e_p5 := dm
      have e_sc := dm
    case' b4 =>
     refine sp (decide (pl ≤ X.R.rank)) (fun e_le => ?a9) (fun e_le => ?b9)
     case' a9 =>
      refine sp (decide (pl < X.R.rank)) (fun e_lt => ?a10) (fun e_lt => ?b10)
      case' a10 =>
       refine sp (X.R.begun) (fun e_nw => ?a11) (fun e_nw => ?b11)
       case' a11 =>
        have e_a3 := dm
        have e_a4 := dm
        have e_b3 := dm
        have e_b4 := dm
        have e_p5 := dm
        have e_sc := dm
       case' b11 =>
        refine sp (decide (pl ≤ 5)) (fun e_p5 => ?a12) (fun e_p5 => ?b12)
        case' a12 =>
         refine sp (X.R.sched) (fun e_sc => ?a13) (fun e_sc => ?b13)
         case' a13 =>
          have e_a3 := dm
          have e_a4 := dm
          have e_b3 := dm
          have e_b4 := dm
         case' b13 =>
          have e_a3 := dm
          have e_a4 := dm
          have e_b3 := dm
          have e_b4 := dm
        case' b12 =>
         have e_a3 := dm
         have e_a4 := dm
         have e_b3 := dm
         have e_b4 := dm
         have e_sc := dm
      case' b10 =>
       have e_a3 := dm
       have e_a4 := dm
       have e_b3 := dm
       have e_b4 := dm
       have e_nw := dm
       have e_p5 := dm
       have e_sc := dm
     case' b9 =>
      have e_a3 := dm
      have e_a4 := dm
      have e_b3 := dm
      have e_b4 := dm
      have e_lt := dm
      have e_nw := dm
      have e_p5 := dm
      have e_sc := dm
   case' b3 =>
    refine sp (decide (pl ≤ X.R.rank)) (fun e_le => ?a14) (fun e_le => ?b14)
    case' a14 =>
     refine sp (decide (pl < X.R.rank)) (fun e_lt => ?a15) (fun e_lt => ?b15)
     case' a15 =>
      refine sp (X.R.begun) (fun e_nw => ?a16) (fun e_nw => ?b16)
      case' a16 =>
       have e_l := dm
       have e_a3 := dm
       have e_a4 := dm
       have e_b3 := dm
       have e_b4 := dm
       have e_p5 := dm
       have e_sc := dm
      case' b16 =>
       refine sp (decide (pl ≤ 5)) (fun e_p5 => ?a17) (fun e_p5 => ?b17)
       case' a17 =>
        refine sp (X.R.sched) (fun e_sc => ?a18) (fun e_sc => ?b18)
        case' a18 =>
         have e_l := dm
         have e_a3 := dm
         have e_a4 := dm
         have e_b3 := dm
         have e_b4 := dm
        case' b18 =>
         have e_l := dm
         have e_a3 := dm
         have e_a4 := dm
         have e_b3 := dm
         have e_b4 := dm
       case' b17 =>
        have e_l := dm
        have e_a3 := dm
        have e_a4 := dm
        have e_b3 := dm
        have e_b4 := dm
        have e_sc := dm
     case' b15 =>
      have e_l := dm
      have e_a3 := dm
      have e_a4 := dm
      have e_b3 := dm
      have e_b4 := dm
      have e_nw := dm
      have e_p5 := dm
      have e_sc := dm
    case' b14 =>
     have e_l := dm
     have e_a3 := dm
     have e_a4 := dm
     have e_b3 := dm
     have e_b4 := dm
     have e_lt := dm
     have e_nw := dm
     have e_p5 := dm
     have e_sc := dm
  case' b2 =>
   refine sp (decide (pl ≤ X.R.rank)) (fun e_le => ?a19) (fun e_le => ?b19)
   case' a19 =>
    refine sp (decide (pl < X.R.rank)) (fun e_lt => ?a20) (fun e_lt => ?b20)
    case' a20 =>
     refine sp (X.R.begun) (fun e_nw => ?a21) (fun e_nw => ?b21)
     case' a21 =>
      refine sp (decide (pl ≤ 5)) (fun e_p5 => ?a22) (fun e_p5 => ?b22)
      case' a22 =>
       refine sp (X.R.sched) (fun e_sc => ?a23) (fun e_sc => ?b23)
       case' a23 =>
        have e_s := dm
        have e_l := dm
        have e_a3 := dm
        have e_a4 := dm
        have e_b3 := dm
        have e_b4 := dm
       case' b23 =>
        have e_s := dm
        have e_l := dm
        have e_a3 := dm
        have e_a4 := dm
        have e_b3 := dm
        have e_b4 := dm
      case' b22 =>
       have e_s := dm
       have e_l := dm
       have e_a3 := dm
       have e_a4 := dm
       have e_b3 := dm
       have e_b4 := dm
       have e_sc := dm
     case' b21 =>
      refine sp (decide (pl ≤ 5)) (fun e_p5 => ?a24) (fun e_p5 => ?b24)
      case' a24 =>
       refine sp (X.R.sched) (fun e_sc => ?a25) (fun e_sc => ?b25)
       case' a25 =>
        have e_s := dm
        have e_l := dm
        have e_a3 := dm
        have e_a4 := dm
        have e_b3 := dm
        have e_b4 := dm
       case' b25 =>
        have e_s := dm
        have e_l := dm
        have e_a3 := dm
        have e_a4 := dm
        have e_b3 := dm
        have e_b4 := dm
      case' b24 =>
       have e_s := dm
       have e_l := dm
       have e_a3 := dm
       have e_a4 := dm
       have e_b3 := dm
       have e_b4 := dm
       have e_sc := dm
    case' b20 =>
     have e_s := dm
     have e_l := dm
     have e_a3 := dm
     have e_a4 := dm
     have e_b3 := dm
     have e_b4 := dm
     have e_nw := dm
     have e_p5 := dm
     have e_sc := dm
   case' b19 =>
    have e_s := dm
    have e_l := dm
    have e_a3 := dm
    have e_a4 := dm
    have e_b3 := dm
    have e_b4 := dm
    have e_lt := dm
    have e_nw := dm
    have e_p5 := dm
    have e_sc := dm
 case' b1 =>
  refine sp ((X.R.rank == 3)) (fun e_a3 => ?a26) (fun e_a3 => ?b26)
  case' a26 =>
   refine sp ((X.R.rank == 4)) (fun e_a4 => ?a27) (fun e_a4 => ?b27)
   case' a27 =>
    have e_n := dm
    have e_s := dm
    have e_l := dm
    have e_b3 := dm
    have e_b4 := dm
    have e_le := dm
    have e_lt := dm
    have e_nw := dm
    have e_p5 := dm
    have e_sc := dm
   case' b27 =>
    refine sp (decide ((X.zs.reverse.length : Int) > 0)) (fun e_b4 => ?a28) (fun e_b4 => ?b28)
    case' a28 =>
     have e_n := dm
     have e_s := dm
     have e_l := dm
     have e_b3 := dm
     have e_le := dm
     have e_lt := dm
     have e_nw := dm
     have e_p5 := dm
     have e_sc := dm
    case' b28 =>
     have e_n := dm
     have e_s := dm
     have e_l := dm
     have e_b3 := dm
     have e_le := dm
     have e_lt := dm
     have e_nw := dm
     have e_p5 := dm
     have e_sc := dm
  case' b26 =>
   refine sp (decide ((X.bs.reverse.length : Int) > 0)) (fun e_b3 => ?a29) (fun e_b3 => ?b29)
   case' a29 =>
    refine sp ((X.R.rank == 4)) (fun e_a4 => ?a30) (fun e_a4 => ?b30)
    case' a30 =>
     have e_n := dm
     have e_s := dm
     have e_l := dm
     have e_b4 := dm
     have e_le := dm
     have e_lt := dm
     have e_nw := dm
     have e_p5 := dm
     have e_sc := dm
    case' b30 =>
     refine sp (decide ((X.zs.reverse.length : Int) > 0)) (fun e_b4 => ?a31) (fun e_b4 => ?b31)
     case' a31 =>
      have e_n := dm
      have e_s := dm
      have e_l := dm
      have e_le := dm
      have e_lt := dm
      have e_nw := dm
      have e_p5 := dm
      have e_sc := dm
     case' b31 =>
      have e_n := dm
      have e_s := dm
      have e_l := dm
      have e_le := dm
      have e_lt := dm
      have e_nw := dm
      have e_p5 := dm
      have e_sc := dm
   case' b29 =>
    have e_n := dm
    have e_s := dm
    have e_l := dm
    have e_a4 := dm
    have e_b4 := dm
    have e_le := dm
    have e_lt := dm
    have e_nw := dm
    have e_p5 := dm
    have e_sc := dm
 all_goals
  first
   | have hm : laterX X w pl = true := by unfold laterX; simp only [e_r, e_n, e_s, e_l, e_a3, e_a4, e_b3, e_b4, e_le, e_lt, e_nw, e_p5, e_sc]; rfl
   | have hm : laterX X w pl = false := by unfold laterX; simp only [e_r, e_n, e_s, e_l, e_a3, e_a4, e_b3, e_b4, e_le, e_lt, e_nw, e_p5, e_sc]; rfl
  refine fn_okXn Tryz.func87 Tryz.ntmps87 Tryz.results87 (by kernel_rfl) rfl (of_decide_eq_true rfl) fun F E hF hC => ?_
  simp only [go_sem, simprocAttr, hF]
  repeat (first
   | ((with_reducible refine hand_id ?_); first
    | ((first | refine hand_rawField rfl rfl (by decide) Tryz.underlying105 rfl (m := 14) rfl rfl ?_ | refine hand_rawField rfl rfl (by decide) Tryz.underlying105 rfl (m := 0) rfl rfl ?_ | refine hand_rawField rfl rfl (by decide) Tryz.underlying35 rfl (m := 5) rfl rfl ?_ | refine hand_rawField rfl rfl (by decide) Tryz.underlying35 rfl (m := 2) rfl rfl ?_ | refine hand_rawField rfl rfl (by decide) Tryz.underlying35 rfl (m := 0) rfl rfl ?_ | refine hand_rawField rfl rfl (by decide) Tryz.underlying26 rfl (m := 0) rfl rfl ?_ | refine hand_rawField rfl rfl (by decide) Tryz.underlying30 rfl (m := 0) rfl rfl ?_ | refine hand_eLoad (i := 0) (dd := .int .i64) rfl rfl (by decide) rfl rfl rfl (by first | assumption | rfl) Tryz.underlying3 rfl ?_); simp only [go_sem, simprocAttr, hF, e_r, e_n, e_s, e_l, e_a3, e_a4, e_b3, e_b4, e_le, e_lt, e_nw, e_p5, e_sc, hm])
    | ((refine hand_eStore (i := 0) rfl rfl rfl rfl rfl rfl (by first | assumption | exact Nat.le_of_ble_eq_true rfl | (simp only [List.length_set, List.length_cons]; omega)) (by first | assumption | rfl) (by first | assumption | rfl) Tryz.sz3 ?_); simp only [go_sem, simprocAttr, hF, e_r, e_n, e_s, e_l, e_a3, e_a4, e_b3, e_b4, e_le, e_lt, e_nw, e_p5, e_sc, hm])
    | ((refine hand_eLoad (i := 0) (dd := .bool) rfl rfl (by decide) rfl rfl rfl (by first | assumption | rfl) Tryz.underlying4 rfl ?_); simp only [go_sem, simprocAttr, hF, e_r, e_n, e_s, e_l, e_a3, e_a4, e_b3, e_b4, e_le, e_lt, e_nw, e_p5, e_sc, hm])
    | ((refine hand_eStore (i := 0) rfl rfl rfl rfl rfl rfl (by first | assumption | exact Nat.le_of_ble_eq_true rfl | (simp only [List.length_set, List.length_cons]; omega)) (by first | assumption | rfl) (by first | assumption | rfl) Tryz.sz4 ?_); simp only [go_sem, simprocAttr, hF, e_r, e_n, e_s, e_l, e_a3, e_a4, e_b3, e_b4, e_le, e_lt, e_nw, e_p5, e_sc, hm])
    | ((refine hand_eLoad (i := 0) (dd := .slice 67) rfl rfl (by decide) rfl rfl rfl (by first | assumption | rfl) Tryz.underlying27 rfl ?_); simp only [go_sem, simprocAttr, hF, e_r, e_n, e_s, e_l, e_a3, e_a4, e_b3, e_b4, e_le, e_lt, e_nw, e_p5, e_sc, hm])
    | ((refine hand_eStore (i := 0) rfl rfl rfl rfl rfl rfl (by first | assumption | exact Nat.le_of_ble_eq_true rfl | (simp only [List.length_set, List.length_cons]; omega)) (by first | assumption | rfl) (by first | assumption | rfl) Tryz.sz27 ?_); simp only [go_sem, simprocAttr, hF, e_r, e_n, e_s, e_l, e_a3, e_a4, e_b3, e_b4, e_le, e_lt, e_nw, e_p5, e_sc, hm])
    | ((first | refine hand_vLen (i := 8) rfl rfl (by decide) Tryz.underlying27 rfl rfl rfl ?_ | refine hand_vLen (i := 9) rfl rfl (by decide) Tryz.underlying27 rfl rfl rfl ?_); simp only [go_sem, simprocAttr, hF, e_r, e_n, e_s, e_l, e_a3, e_a4, e_b3, e_b4, e_le, e_lt, e_nw, e_p5, e_sc, hm]))
   | (with_reducible (first | refine sops_go ?_ | refine headW_end ?_ | refine sops_end ?_ | refine awp_if ?_ | refine awp_skip ?_ | refine awp_ret ?_ | refine awp_exit ?_); simp only [go_sem, simprocAttr, hF, e_r, e_n, e_s, e_l, e_a3, e_a4, e_b3, e_b4, e_le, e_lt, e_nw, e_p5, e_sc, hm])
   | with_reducible (first | refine awp_seq_k fun _ _ => ?_ | refine awp_region [1000011, 1000012, 1000017, 1000018, 1000019, 1000020, 1000026, 1000027, 1000032, 1000033, 1000034, 1000035, 1000052, 1000053, 1000058, 1000059, 1000064, 1000065, 1000077, 1000078] ?_ | refine awp_block ?_)
   | go_step)
  all_goals (first | rfl | exact ⟨(), rfl⟩)
end Go.Proofs.YtcloigoajohppaaGreatDoor

import Derived.Test.YticnppnejafhdaaGreatDoorZ11
set_option linter.unusedVariables false
set_option linter.unusedSimpArgs false
/- By abstract states: breaches. -/
namespace Go.Proofs.YticnppnejafhdaaGreatDoor
open Go.RowKit
open Nd Rc Mo
open Av
set_option maxRecDepth 100000
set_option linter.unusedSimpArgs false
attribute [local go_sem] Av.guardB Av.sop Av.hopx Av.hop Av.hopCall Av.hopF Av.hopB Av.evo Av.evos Av.avCells Av.loadK Av.bound Av.abin Av.aun Av.partsC Av.lfill Av.placesB Av.setAt Av.stl Av.takes Av.src Av.bxOf Av.ownOf Av.St.res Av.St.put Av.St.addBox Av.St.putOwn Av.delL Av.delS Av.look Av.lookL Av.storeSt Av.stealSt Av.St.setBox Av.snap Av.snaps Av.snapCaps Av.AV.lit Av.AV.refs Av.capRefs Av.PV.av Av.CV.av Av.startSt Av.steals Av.athen Av.ablock Av.appK Av.AllS Av.AllO Av.AllR Av.keepS Av.St.avAt Av.RetOK Av.retAll Av.retOne Av.intsOf Av.ptrB Av.appB Av.appSt TypeDesc.isRow List.range_zero Option.some.injEq exists_eq_left' exists_eq_left exists_eq' exists_and_left exists_and_right exists_const true_and and_true and_self false_and and_false or_false false_or or_true true_or if_true if_false Bool.false_eq_true List.zipIdx_cons List.zipIdx_nil List.map_cons List.map_nil List.filter_cons List.filter_nil List.contains_cons List.contains_nil List.drop_succ_cons List.drop_zero List.take_succ_cons List.take_zero List.take_nil List.drop_nil List.length_cons List.length_nil List.cons_append List.nil_append List.append_nil List.getElem?_cons_zero List.getElem?_cons_succ List.getElem?_nil Option.bind_some Option.bind_none Option.map_some Option.map_none Option.isNone_none Option.isNone_some Option.isSome_some Option.isSome_none Bool.and_true Bool.true_and Bool.and_false Bool.false_and Bool.or_false Bool.false_or Bool.not_true Bool.not_false beq_true beq_false Bool.true_beq Bool.false_beq Loc.s.injEq Loc.b.injEq decide_true decide_false beq_self_eq_true Nat.zero_add Nat.add_zero List.getElem?_toArray List.toList_toArray List.size_toArray Value.oneCell' List.all_cons List.all_nil Value.int.injEq AV.v.injEq AV.sl.injEq AV.agg.injEq AV.ref.injEq AV.ept.injEq AV.tup.injEq Value.bool.injEq PV.v.injEq PV.sl.injEq List.isEmpty_nil List.isEmpty_cons forall_const not_true_eq_false not_false_eq_true true_implies false_implies Value.string.injEq List.length_map List.getElem?_map Int.toNat_natCast Int.natCast_nonneg List.length_append Value.cells implies_true TypeDesc.struct.injEq TypeDesc.slice.injEq TypeDesc.array.injEq List.getElem?_toArray Prod.mk.injEq and_assoc exists_false List.cons.injEq Operand.tmp.injEq ite_self AV.fnv.injEq AV.clo.injEq ne_eq eq_self Tryz.sz3 Tryz.zr3 Tryz.by3 Tryz.pl3 Tryz.is3 Tryz.underlying3 Tryz.sz4 Tryz.zr4 Tryz.by4 Tryz.pl4 Tryz.is4 Tryz.underlying4 Tryz.sz43 Tryz.zr43 Tryz.by43 Tryz.pl43 Tryz.is43 Tryz.underlying43 Tryz.sz35 Tryz.zr35 Tryz.by35 Tryz.pl35 Tryz.is35 Tryz.underlying35 Tryz.sz33 Tryz.zr33 Tryz.by33 Tryz.pl33 Tryz.is33 Tryz.underlying33 Tryz.sz28 Tryz.zr28 Tryz.by28 Tryz.pl28 Tryz.is28 Tryz.underlying28 Tryz.sz39 Tryz.zr39 Tryz.by39 Tryz.pl39 Tryz.is39 Tryz.underlying39 Tryz.sz57 Tryz.zr57 Tryz.by57 Tryz.pl57 Tryz.is57 Tryz.underlying57 Tryz.sz137 Tryz.zr137 Tryz.by137 Tryz.pl137 Tryz.is137 Tryz.underlying137 Tryz.sz66 Tryz.zr66 Tryz.by66 Tryz.pl66 Tryz.is66 Tryz.underlying66 Tryz.sz64 Tryz.zr64 Tryz.by64 Tryz.pl64 Tryz.is64 Tryz.underlying64 Tryz.sz60 Tryz.zr60 Tryz.by60 Tryz.pl60 Tryz.is60 Tryz.underlying60 Tryz.sz100 Tryz.zr100 Tryz.by100 Tryz.pl100 Tryz.is100 Tryz.underlying100 Tryz.sz103 Tryz.zr103 Tryz.by103 Tryz.pl103 Tryz.is103 Tryz.underlying103 Tryz.sz26 Tryz.zr26 Tryz.by26 Tryz.pl26 Tryz.is26 Tryz.underlying26 Tryz.sz120 Tryz.zr120 Tryz.by120 Tryz.pl120 Tryz.is120 Tryz.underlying120 Tryz.sz117 Tryz.zr117 Tryz.by117 Tryz.pl117 Tryz.is117 Tryz.underlying117 Tryz.sz30 Tryz.zr30 Tryz.by30 Tryz.pl30 Tryz.is30 Tryz.underlying30 Tryz.sz31 Tryz.zr31 Tryz.by31 Tryz.pl31 Tryz.is31 Tryz.underlying31 Tryz.sz40 Tryz.zr40 Tryz.by40 Tryz.pl40 Tryz.is40 Tryz.underlying40 Tryz.sz23 Tryz.zr23 Tryz.by23 Tryz.pl23 Tryz.is23 Tryz.underlying23 Tryz.sz24 Tryz.zr24 Tryz.by24 Tryz.pl24 Tryz.is24 Tryz.underlying24 Tryz.sz22 Tryz.zr22 Tryz.by22 Tryz.pl22 Tryz.is22 Tryz.underlying22 Tryz.it39 Tryz.eg39 Tryz.it137 Tryz.eg137 Tryz.it66 Tryz.eg66 Tryz.it28 Tryz.eg28 Tryz.it60 Tryz.eg60 all_arr loc_ss loc_sb loc_bs loc_bb arr_two arr_one rg1 rg2 rg3 rg4 rg5 rg6 rg7 rg8 ResultVar.tmp.injEq Bool.not_true Bool.not_false undef Rc.Rec.pv Nd.Fl.pv Rc.Dlv.pv Rc.Att.pv Mo.Lt.pv Mo.Net.pv Mo.Lk.pv dynBox_nil dynOwn_nil filter_dyn_s lookL_dyn_s keepL_dyn keepL_nil keepL_cons_s keepL_cons_b Av.St.ren Av.AV.ren Av.ren1 dynBox_ren look_dyn_small dynBox_cons dynOwn_cons filter_dyn_b keepL_dyn_b dropU_idem Av.AV.ren Av.sopJ
open Go.Maps

set_option maxHeartbeats 20000000 in
theorem breaches_ok (n : Net) (r : Rec) (hp : n.pow.length ≤ 1000000) (hpl : ∀ l ∈ n.pow, l.length ≤ 1000000) (hk : n.lk.length ≤ 1000000) (hg : n.mg.length ≤ 1000000) (hla : r.al.length ≤ 1000000) (hld : r.dl.length ≤ 1000000) : FnOK Tryz.prog 28 [.agg n.pv, .agg r.pv] ⟨.tup [.c (.sl 5 ((breachesP n r).1.map Br.pv)), .c (ip (breachesP n r).2)], none⟩ := by
 refine fn_ok Tryz.func28 (by kernel_rfl) rfl (by rw [Tryz.ntmps28]; exact of_decide_eq_true rfl) (fun F hF => ?_)
 rw [Tryz.ntmps28] at hF
 rw [Tryz.results28]
 repeat (first
  | (with_reducible (first | refine sops_go ?_ | refine headW_end ?_ | refine sops_end ?_ | refine awp_if ?_ | refine awp_skip ?_ | refine awp_ret ?_ | refine awp_exit ?_); simp only [go_sem, simprocAttr, hF])
  | ((with_reducible refine headW_go ?_); simp only [go_sem, simprocAttr, hF, hbx])
  | with_reducible refine awp_seq_k fun _ _ => ?_
  | (refine awp_drawA' (id := 19) [96, 139, 1000029, 1000046, 1000074, 1000081, 1000082, 1000089, 1000092, 1000105, 1000106, 1000108, 1000117, 1000158] 12 (by kernel_rfl) (by kernel_rfl) rfl rfl rfl rfl rfl rfl (fun bx0 hbx => ?_); try dsimp only [List.take, List.drop])
  | (refine awp_draw' (id := 26) [96, 139, 1000029, 1000046, 1000074, 1000081, 1000082, 1000089, 1000092, 1000105, 1000106, 1000108, 1000117, 1000158] 14 (by kernel_rfl) (by kernel_rfl) rfl rfl (fun bx0 hbx => ?_); try dsimp only [List.take, List.drop])
  | (refine awp_draw' (id := 30) [96, 139, 1000029, 1000046, 1000074, 1000081, 1000082, 1000089, 1000092, 1000105, 1000106, 1000108, 1000117, 1000158] 16 (by kernel_rfl) (by kernel_rfl) rfl rfl (fun bx0 hbx => ?_); try dsimp only [List.take, List.drop])
  | with_reducible (first | refine awp_region [96, 139, 1000029, 1000046, 1000074, 1000081, 1000082, 1000089, 1000092, 1000105, 1000106, 1000108, 1000117, 1000158] ?_ | refine awp_block ?_)
  | go_step)
 refine ⟨_, ncheck_ok n hp hpl hk hg, ?_⟩
 simp only [go_sem, simprocAttr, hF]
 by_cases hn : chkN n = 0
 case neg =>
  have hnb : (chkN n != 0) = true := by simpa using hn
  repeat (first
   | ((refine awp_nil (c := .ret) 4 5 57 (by rw [hF]; decide) (by first | rfl | simp only [Av.look]; rfl) ?_); simp only [go_sem, simprocAttr, hF, hnb])
   | (with_reducible (first | refine sops_go ?_ | refine headW_end ?_ | refine sops_end ?_ | refine awp_if ?_ | refine awp_skip ?_ | refine awp_ret ?_ | refine awp_exit ?_); simp only [go_sem, simprocAttr, hF, hnb])
   | ((with_reducible refine headW_go ?_); simp only [go_sem, simprocAttr, hF, hnb, hbx])
   | with_reducible refine awp_seq_k fun _ _ => ?_
   | (refine awp_drawA' (id := 19) [96, 139, 1000029, 1000046, 1000074, 1000081, 1000082, 1000089, 1000092, 1000105, 1000106, 1000108, 1000117, 1000158] 12 (by kernel_rfl) (by kernel_rfl) rfl rfl rfl rfl rfl rfl (fun bx0 hbx => ?_); try dsimp only [List.take, List.drop])
   | (refine awp_draw' (id := 26) [96, 139, 1000029, 1000046, 1000074, 1000081, 1000082, 1000089, 1000092, 1000105, 1000106, 1000108, 1000117, 1000158] 14 (by kernel_rfl) (by kernel_rfl) rfl rfl (fun bx0 hbx => ?_); try dsimp only [List.take, List.drop])
   | (refine awp_draw' (id := 30) [96, 139, 1000029, 1000046, 1000074, 1000081, 1000082, 1000089, 1000092, 1000105, 1000106, 1000108, 1000117, 1000158] 16 (by kernel_rfl) (by kernel_rfl) rfl rfl (fun bx0 hbx => ?_); try dsimp only [List.take, List.drop])
   | with_reducible (first | refine awp_region [96, 139, 1000029, 1000046, 1000074, 1000081, 1000082, 1000089, 1000092, 1000105, 1000106, 1000108, 1000117, 1000158] ?_ | refine awp_block ?_)
   | go_step)
  rw [show breachesP n r = ([], 1) from if_pos (.inl hn)]
  rfl
 have hnb : (chkN n != 0) = false := by simpa using hn
 repeat (first
  | (with_reducible (first | refine sops_go ?_ | refine headW_end ?_ | refine sops_end ?_ | refine awp_if ?_ | refine awp_skip ?_ | refine awp_ret ?_ | refine awp_exit ?_); simp only [go_sem, simprocAttr, hF, hnb])
  | ((with_reducible refine headW_go ?_); simp only [go_sem, simprocAttr, hF, hnb, hbx])
  | with_reducible refine awp_seq_k fun _ _ => ?_
  | (refine awp_drawA' (id := 19) [96, 139, 1000029, 1000046, 1000074, 1000081, 1000082, 1000089, 1000092, 1000105, 1000106, 1000108, 1000117, 1000158] 12 (by kernel_rfl) (by kernel_rfl) rfl rfl rfl rfl rfl rfl (fun bx0 hbx => ?_); try dsimp only [List.take, List.drop])
  | (refine awp_draw' (id := 26) [96, 139, 1000029, 1000046, 1000074, 1000081, 1000082, 1000089, 1000092, 1000105, 1000106, 1000108, 1000117, 1000158] 14 (by kernel_rfl) (by kernel_rfl) rfl rfl (fun bx0 hbx => ?_); try dsimp only [List.take, List.drop])
  | (refine awp_draw' (id := 30) [96, 139, 1000029, 1000046, 1000074, 1000081, 1000082, 1000089, 1000092, 1000105, 1000106, 1000108, 1000117, 1000158] 16 (by kernel_rfl) (by kernel_rfl) rfl rfl (fun bx0 hbx => ?_); try dsimp only [List.take, List.drop])
  | with_reducible (first | refine awp_region [96, 139, 1000029, 1000046, 1000074, 1000081, 1000082, 1000089, 1000092, 1000105, 1000106, 1000108, 1000117, 1000158] ?_ | refine awp_block ?_)
  | go_step)
 refine ⟨_, check_ok r hla hld, ?_⟩
 simp only [go_sem, simprocAttr, hF]
 cases hg2 : good r with
 | false =>
  have hr : checkE r = 1 := by rw [checkE, hg2]; rfl
  repeat (first
   | ((refine awp_nil (c := .ret) 4 5 57 (by rw [hF]; decide) (by first | rfl | simp only [Av.look]; rfl) ?_); simp only [go_sem, simprocAttr, hF, hr])
   | (with_reducible (first | refine sops_go ?_ | refine headW_end ?_ | refine sops_end ?_ | refine awp_if ?_ | refine awp_skip ?_ | refine awp_ret ?_ | refine awp_exit ?_); simp only [go_sem, simprocAttr, hF, hr])
   | ((with_reducible refine headW_go ?_); simp only [go_sem, simprocAttr, hF, hr, hbx])
   | with_reducible refine awp_seq_k fun _ _ => ?_
   | (refine awp_drawA' (id := 19) [96, 139, 1000029, 1000046, 1000074, 1000081, 1000082, 1000089, 1000092, 1000105, 1000106, 1000108, 1000117, 1000158] 12 (by kernel_rfl) (by kernel_rfl) rfl rfl rfl rfl rfl rfl (fun bx0 hbx => ?_); try dsimp only [List.take, List.drop])
   | (refine awp_draw' (id := 26) [96, 139, 1000029, 1000046, 1000074, 1000081, 1000082, 1000089, 1000092, 1000105, 1000106, 1000108, 1000117, 1000158] 14 (by kernel_rfl) (by kernel_rfl) rfl rfl (fun bx0 hbx => ?_); try dsimp only [List.take, List.drop])
   | (refine awp_draw' (id := 30) [96, 139, 1000029, 1000046, 1000074, 1000081, 1000082, 1000089, 1000092, 1000105, 1000106, 1000108, 1000117, 1000158] 16 (by kernel_rfl) (by kernel_rfl) rfl rfl (fun bx0 hbx => ?_); try dsimp only [List.take, List.drop])
   | with_reducible (first | refine awp_region [96, 139, 1000029, 1000046, 1000074, 1000081, 1000082, 1000089, 1000092, 1000105, 1000106, 1000108, 1000117, 1000158] ?_ | refine awp_block ?_)
   | go_step)
  rw [show breachesP n r = ([], 1) from if_pos (.inr hg2)]
  rfl
 | true =>
  have hr : checkE r = 0 := by rw [checkE, hg2]; rfl
  repeat (first
   | (with_reducible (first | refine sops_go ?_ | refine headW_end ?_ | refine sops_end ?_ | refine awp_if ?_ | refine awp_skip ?_ | refine awp_ret ?_ | refine awp_exit ?_); simp only [go_sem, simprocAttr, hF, hr])
   | ((with_reducible refine headW_go ?_); simp only [go_sem, simprocAttr, hF, hr, hbx])
   | with_reducible refine awp_seq_k fun _ _ => ?_
   | (refine awp_drawA' (id := 19) [96, 139, 1000029, 1000046, 1000074, 1000081, 1000082, 1000089, 1000092, 1000105, 1000106, 1000108, 1000117, 1000158] 12 (by kernel_rfl) (by kernel_rfl) rfl rfl rfl rfl rfl rfl (fun bx0 hbx => ?_); try dsimp only [List.take, List.drop])
   | (refine awp_draw' (id := 26) [96, 139, 1000029, 1000046, 1000074, 1000081, 1000082, 1000089, 1000092, 1000105, 1000106, 1000108, 1000117, 1000158] 14 (by kernel_rfl) (by kernel_rfl) rfl rfl (fun bx0 hbx => ?_); try dsimp only [List.take, List.drop])
   | (refine awp_draw' (id := 30) [96, 139, 1000029, 1000046, 1000074, 1000081, 1000082, 1000089, 1000092, 1000105, 1000106, 1000108, 1000117, 1000158] 16 (by kernel_rfl) (by kernel_rfl) rfl rfl (fun bx0 hbx => ?_); try dsimp only [List.take, List.drop])
   | with_reducible (first | refine awp_region [96, 139, 1000029, 1000046, 1000074, 1000081, 1000082, 1000089, 1000092, 1000105, 1000106, 1000108, 1000117, 1000158] ?_ | refine awp_block ?_)
   | go_step)
  refine hand_makeMap 100 (plainElem Tryz.prog 3) rfl rfl (by decide) (fun b1 => ?_)
  simp only [go_sem, simprocAttr, hF]
  repeat (first
   | (with_reducible (first | refine sops_go ?_ | refine headW_end ?_ | refine sops_end ?_ | refine awp_if ?_ | refine awp_skip ?_ | refine awp_ret ?_ | refine awp_exit ?_); simp only [go_sem, simprocAttr, hF])
   | ((with_reducible refine headW_go ?_); simp only [go_sem, simprocAttr, hF, hbx])
   | with_reducible refine awp_seq_k fun _ _ => ?_
   | (refine awp_drawA' (id := 19) [96, 139, 1000029, 1000046, 1000074, 1000081, 1000082, 1000089, 1000092, 1000105, 1000106, 1000108, 1000117, 1000158] 12 (by kernel_rfl) (by kernel_rfl) rfl rfl rfl rfl rfl rfl (fun bx0 hbx => ?_); try dsimp only [List.take, List.drop])
   | (refine awp_draw' (id := 26) [96, 139, 1000029, 1000046, 1000074, 1000081, 1000082, 1000089, 1000092, 1000105, 1000106, 1000108, 1000117, 1000158] 14 (by kernel_rfl) (by kernel_rfl) rfl rfl (fun bx0 hbx => ?_); try dsimp only [List.take, List.drop])
   | (refine awp_draw' (id := 30) [96, 139, 1000029, 1000046, 1000074, 1000081, 1000082, 1000089, 1000092, 1000105, 1000106, 1000108, 1000117, 1000158] 16 (by kernel_rfl) (by kernel_rfl) rfl rfl (fun bx0 hbx => ?_); try dsimp only [List.take, List.drop])
   | with_reducible (first | refine awp_region [96, 139, 1000029, 1000046, 1000074, 1000081, 1000082, 1000089, 1000092, 1000105, 1000106, 1000108, 1000117, 1000158] ?_ | refine awp_block ?_)
   | go_step)
  refine awp_loop_by (ι := {x : Nat × (Value → Option (DataW Unit)) // x.1 ≤ n.lk.length ∧ LossG n.lk x.1 x.2}) (fun x σ => ⟨(33, iv (x.1.1 : Int)) :: keepS [2, 3, 4, 5, 6, 31, 32] σ.slot, σ.box, [], Ext.nil.and (mapE Tryz.prog 100 (plainElem Tryz.prog 3) b1 x.1.1 x.1.2)⟩) (fun x => n.lk.length - x.1.1) ⟨(0, fun _ => none), by omega, LossG.nil _⟩ (sub_mk ?_) (fun R hR k => ?_)
  · simp only [go_sem, simprocAttr, hF]
    repeat' (first | rfl | refine ⟨?_, ?_⟩)
  obtain ⟨⟨k, G⟩, hk, hG⟩ := k
  dsimp only at hk hG ⊢
  simp only [go_sem, simprocAttr, hF]
  by_cases hlt : k < n.lk.length
  case neg =>
   have hd : decide ((k : Int) < (n.lk.length : Int)) = false := decide_eq_false (by omega)
   obtain rfl : k = n.lk.length := by omega
   repeat (first
    | (with_reducible (first | refine sops_go ?_ | refine headW_end ?_ | refine sops_end ?_ | refine awp_if ?_ | refine awp_skip ?_ | refine awp_ret ?_ | refine awp_exit ?_); simp only [go_sem, simprocAttr, hF, hd])
    | ((with_reducible refine headW_go ?_); simp only [go_sem, simprocAttr, hF, hd, hbx])
    | with_reducible refine awp_seq_k fun _ _ => ?_
    | (refine awp_drawA' (id := 19) [96, 139, 1000029, 1000046, 1000074, 1000081, 1000082, 1000089, 1000092, 1000105, 1000106, 1000108, 1000117, 1000158] 12 (by kernel_rfl) (by kernel_rfl) rfl rfl rfl rfl rfl rfl (fun bx0 hbx => ?_); try dsimp only [List.take, List.drop])
    | (refine awp_draw' (id := 26) [96, 139, 1000029, 1000046, 1000074, 1000081, 1000082, 1000089, 1000092, 1000105, 1000106, 1000108, 1000117, 1000158] 14 (by kernel_rfl) (by kernel_rfl) rfl rfl (fun bx0 hbx => ?_); try dsimp only [List.take, List.drop])
    | (refine awp_draw' (id := 30) [96, 139, 1000029, 1000046, 1000074, 1000081, 1000082, 1000089, 1000092, 1000105, 1000106, 1000108, 1000117, 1000158] 16 (by kernel_rfl) (by kernel_rfl) rfl rfl (fun bx0 hbx => ?_); try dsimp only [List.take, List.drop])
    | with_reducible (first | refine awp_region [96, 139, 1000029, 1000046, 1000074, 1000081, 1000082, 1000089, 1000092, 1000105, 1000106, 1000108, 1000117, 1000158] ?_ | refine awp_block ?_)
    | go_step)
   refine hand_makeMap 103 ptrR rfl rfl (by decide) (fun b2 => ?_)
   simp only [go_sem, simprocAttr, hF]
   obtain ⟨GL, rfl⟩ : ∃ GL, GL = G := ⟨_, rfl⟩
   have hGL : LossG n.lk n.lk.length GL := hG
   repeat (first
    | (with_reducible (first | refine sops_go ?_ | refine headW_end ?_ | refine sops_end ?_ | refine awp_if ?_ | refine awp_skip ?_ | refine awp_ret ?_ | refine awp_exit ?_); simp only [go_sem, simprocAttr, hF])
    | ((with_reducible refine headW_go ?_); simp only [go_sem, simprocAttr, hF, hbx])
    | with_reducible refine awp_seq_k fun _ _ => ?_
    | (refine awp_drawA' (id := 19) [96, 139, 1000029, 1000046, 1000074, 1000081, 1000082, 1000089, 1000092, 1000105, 1000106, 1000108, 1000117, 1000158] 12 (by kernel_rfl) (by kernel_rfl) rfl rfl rfl rfl rfl rfl (fun bx0 hbx => ?_); try dsimp only [List.take, List.drop])
    | (refine awp_draw' (id := 26) [96, 139, 1000029, 1000046, 1000074, 1000081, 1000082, 1000089, 1000092, 1000105, 1000106, 1000108, 1000117, 1000158] 14 (by kernel_rfl) (by kernel_rfl) rfl rfl (fun bx0 hbx => ?_); try dsimp only [List.take, List.drop])
    | (refine awp_draw' (id := 30) [96, 139, 1000029, 1000046, 1000074, 1000081, 1000082, 1000089, 1000092, 1000105, 1000106, 1000108, 1000117, 1000158] 16 (by kernel_rfl) (by kernel_rfl) rfl rfl (fun bx0 hbx => ?_); try dsimp only [List.take, List.drop])
    | with_reducible (first | refine awp_region [96, 139, 1000029, 1000046, 1000074, 1000081, 1000082, 1000089, 1000092, 1000105, 1000106, 1000108, 1000117, 1000158] ?_ | refine awp_block ?_)
    | go_step)
   refine awp_loop_by (ι := {x : Nat × List Us × (Value → Option (DataW Unit)) // x.1 ≤ r.al.length ∧ UsesFull n.lk r.al x.1 x.2.1 x.2.2}) (fun x σ => ⟨(51, iv (x.1.1 : Int)) :: keepS [4, 5, 6, 9, 49, 50] σ.slot, dynBox x.1.2.1, dynOwn 66 x.1.2.1, (Ext.nil.and (mapE Tryz.prog 100 (plainElem Tryz.prog 3) b1 n.lk.length GL)).and (mapE Tryz.prog 103 ptrR b2 x.1.1 x.1.2.2)⟩) (fun x => r.al.length - x.1.1) ⟨(0, [], fun _ => none), by omega, UsesFull.nil⟩ (sub_mk ?_) (fun R3 hR3 x => ?_)
   · simp only [go_sem, simprocAttr, hF]
     try rfl
   obtain ⟨⟨k2, U, G2⟩, hk2, hUF⟩ := x
   dsimp only at hk2 hUF ⊢
   have hU := hUF.1
   simp only [go_sem, simprocAttr, hF]
   by_cases hlt2 : k2 < r.al.length
   case neg =>
    have hd2 : decide ((k2 : Int) < (r.al.length : Int)) = false := decide_eq_false (by omega)
    obtain rfl : k2 = r.al.length := by omega
    repeat (first
     | (with_reducible (first | refine sops_go ?_ | refine headW_end ?_ | refine sops_end ?_ | refine awp_if ?_ | refine awp_skip ?_ | refine awp_ret ?_ | refine awp_exit ?_); simp only [go_sem, simprocAttr, hF, hd2])
     | ((with_reducible refine headW_go ?_); simp only [go_sem, simprocAttr, hF, hd2, hbx])
     | with_reducible refine awp_seq_k fun _ _ => ?_
     | (refine awp_drawA' (id := 19) [96, 139, 1000029, 1000046, 1000074, 1000081, 1000082, 1000089, 1000092, 1000105, 1000106, 1000108, 1000117, 1000158] 12 (by kernel_rfl) (by kernel_rfl) rfl rfl rfl rfl rfl rfl (fun bx0 hbx => ?_); try dsimp only [List.take, List.drop])
     | (refine awp_draw' (id := 26) [96, 139, 1000029, 1000046, 1000074, 1000081, 1000082, 1000089, 1000092, 1000105, 1000106, 1000108, 1000117, 1000158] 14 (by kernel_rfl) (by kernel_rfl) rfl rfl (fun bx0 hbx => ?_); try dsimp only [List.take, List.drop])
     | (refine awp_draw' (id := 30) [96, 139, 1000029, 1000046, 1000074, 1000081, 1000082, 1000089, 1000092, 1000105, 1000106, 1000108, 1000117, 1000158] 16 (by kernel_rfl) (by kernel_rfl) rfl rfl (fun bx0 hbx => ?_); try dsimp only [List.take, List.drop])
     | with_reducible (first | refine awp_region [96, 139, 1000029, 1000046, 1000074, 1000081, 1000082, 1000089, 1000092, 1000105, 1000106, 1000108, 1000117, 1000158] ?_ | refine awp_block ?_)
     | go_step)
    refine hand_range (k := 103) (R := ptrR) (b := b2) (nn := r.al.length) (G := G2) (d := 105) (E' := fun rg cnt => (Ext.nil.and (mapE Tryz.prog 100 (plainElem Tryz.prog 3) b1 n.lk.length GL)).and (rangeE Tryz.prog 103 ptrR b2 rg r.al.length G2 (fun key => (G2 key).isSome = true) cnt)) rfl ?_ ?_ ?_ ?_ Tryz.useKeyed Tryz.underlying101 ?_ ?_
    · rfl
    · decide
    · rfl
    · exact fun w hw => hw.2.1
    · exact fun w w1 rg cnt hl hh ht => Turn.right (fun b hb => hl b (hb.elim (fun h => .inl (.inl h)) (fun h => .inr (.inl h)))) hh ht
    intro rg cnt0
    simp only [go_sem, simprocAttr, hF]
    repeat (first
     | (with_reducible (first | refine sops_go ?_ | refine headW_end ?_ | refine sops_end ?_ | refine awp_if ?_ | refine awp_skip ?_ | refine awp_ret ?_ | refine awp_exit ?_); simp only [go_sem, simprocAttr, hF])
     | ((with_reducible refine headW_go ?_); simp only [go_sem, simprocAttr, hF, hbx])
     | with_reducible refine awp_seq_k fun _ _ => ?_
     | (refine awp_drawA' (id := 19) [96, 139, 1000029, 1000046, 1000074, 1000081, 1000082, 1000089, 1000092, 1000105, 1000106, 1000108, 1000117, 1000158] 12 (by kernel_rfl) (by kernel_rfl) rfl rfl rfl rfl rfl rfl (fun bx0 hbx => ?_); try dsimp only [List.take, List.drop])
     | (refine awp_draw' (id := 26) [96, 139, 1000029, 1000046, 1000074, 1000081, 1000082, 1000089, 1000092, 1000105, 1000106, 1000108, 1000117, 1000158] 14 (by kernel_rfl) (by kernel_rfl) rfl rfl (fun bx0 hbx => ?_); try dsimp only [List.take, List.drop])
     | (refine awp_draw' (id := 30) [96, 139, 1000029, 1000046, 1000074, 1000081, 1000082, 1000089, 1000092, 1000105, 1000106, 1000108, 1000117, 1000158] 16 (by kernel_rfl) (by kernel_rfl) rfl rfl (fun bx0 hbx => ?_); try dsimp only [List.take, List.drop])
     | with_reducible (first | refine awp_region [96, 139, 1000029, 1000046, 1000074, 1000081, 1000082, 1000089, 1000092, 1000105, 1000106, 1000108, 1000117, 1000158] ?_ | refine awp_block ?_)
     | go_step)
    refine awp_rowsNil 57 5 ?_
    simp only [go_sem, simprocAttr, hF]
    repeat (first
     | (with_reducible (first | refine sops_go ?_ | refine headW_end ?_ | refine sops_end ?_ | refine awp_if ?_ | refine awp_skip ?_ | refine awp_ret ?_ | refine awp_exit ?_); simp only [go_sem, simprocAttr, hF])
     | ((with_reducible refine headW_go ?_); simp only [go_sem, simprocAttr, hF, hbx])
     | with_reducible refine awp_seq_k fun _ _ => ?_
     | (refine awp_drawA' (id := 19) [96, 139, 1000029, 1000046, 1000074, 1000081, 1000082, 1000089, 1000092, 1000105, 1000106, 1000108, 1000117, 1000158] 12 (by kernel_rfl) (by kernel_rfl) rfl rfl rfl rfl rfl rfl (fun bx0 hbx => ?_); try dsimp only [List.take, List.drop])
     | (refine awp_draw' (id := 26) [96, 139, 1000029, 1000046, 1000074, 1000081, 1000082, 1000089, 1000092, 1000105, 1000106, 1000108, 1000117, 1000158] 14 (by kernel_rfl) (by kernel_rfl) rfl rfl (fun bx0 hbx => ?_); try dsimp only [List.take, List.drop])
     | (refine awp_draw' (id := 30) [96, 139, 1000029, 1000046, 1000074, 1000081, 1000082, 1000089, 1000092, 1000105, 1000106, 1000108, 1000117, 1000158] 16 (by kernel_rfl) (by kernel_rfl) rfl rfl (fun bx0 hbx => ?_); try dsimp only [List.take, List.drop])
     | with_reducible (first | refine awp_region [96, 139, 1000029, 1000046, 1000074, 1000081, 1000082, 1000089, 1000092, 1000105, 1000106, 1000108, 1000117, 1000158] ?_ | refine awp_block ?_)
     | go_step)
    refine awp_loop_by (ι := {x : (List UK × (Value → Prop) × Nat) × (Option Nat × Value × List Value) // x.1.1.Nodup ∧ (∀ k ∈ x.1.1, ∃ a ∈ r.al, attK a = k) ∧ ∀ k : UK, x.1.2.1 k.val ↔ ((G2 k.val).isSome = true ∧ k ∉ x.1.1)}) (fun x σ => ⟨(15, .v x.1.2.2.1) :: keepS [4, 5, 6, 105] σ.slot, dynBox U, [], ((Ext.nil.and (mapE Tryz.prog 100 (plainElem Tryz.prog 3) b1 n.lk.length GL)).and (rangeE Tryz.prog 103 ptrR b2 rg r.al.length G2 x.1.1.2.1 x.1.1.2.2)).and (rowsE 57 5 x.1.2.1 x.1.2.2.1 x.1.2.2.2 ((brs n.lk r.al x.1.1.1).map Br.pv))⟩) (fun x => x.1.1.2.2) ⟨(([], fun key => (G2 key).isSome = true, cnt0), (none, .slice none 0 0, [])), List.nodup_nil, (by intro k hk; cases hk), (by intro k; simp)⟩ (sub_mk ?_) (fun R4 hR4 x => ?_)
    · simp only [go_sem, simprocAttr, hF]
      repeat' (first | exact rfl | exact allS_dyn.2 (fun v hv => hU.look hv) | refine And.intro ?_ ?_)
    obtain ⟨⟨⟨V, S, cnt⟩, qq, VV, xs0⟩, hV, hVa, hS⟩ := x
    dsimp only at hV hVa hS ⊢
    simp only [go_sem, simprocAttr, hF]
    repeat (first
     | (with_reducible (first | refine sops_go ?_ | refine headW_end ?_ | refine sops_end ?_ | refine awp_if ?_ | refine awp_skip ?_ | refine awp_ret ?_ | refine awp_exit ?_); simp only [go_sem, simprocAttr, hF])
     | ((with_reducible refine headW_go ?_); simp only [go_sem, simprocAttr, hF, hbx])
     | with_reducible refine awp_seq_k fun _ _ => ?_
     | (refine awp_drawA' (id := 19) [96, 139, 1000029, 1000046, 1000074, 1000081, 1000082, 1000089, 1000092, 1000105, 1000106, 1000108, 1000117, 1000158] 12 (by kernel_rfl) (by kernel_rfl) rfl rfl rfl rfl rfl rfl (fun bx0 hbx => ?_); try dsimp only [List.take, List.drop])
     | (refine awp_draw' (id := 26) [96, 139, 1000029, 1000046, 1000074, 1000081, 1000082, 1000089, 1000092, 1000105, 1000106, 1000108, 1000117, 1000158] 14 (by kernel_rfl) (by kernel_rfl) rfl rfl (fun bx0 hbx => ?_); try dsimp only [List.take, List.drop])
     | (refine awp_draw' (id := 30) [96, 139, 1000029, 1000046, 1000074, 1000081, 1000082, 1000089, 1000092, 1000105, 1000106, 1000108, 1000117, 1000158] 16 (by kernel_rfl) (by kernel_rfl) rfl rfl (fun bx0 hbx => ?_); try dsimp only [List.take, List.drop])
     | with_reducible (first | refine awp_region [96, 139, 1000029, 1000046, 1000074, 1000081, 1000082, 1000089, 1000092, 1000105, 1000106, 1000108, 1000117, 1000158] ?_ | refine awp_block ?_)
     | go_step)
    refine hand_next (k := 103) (R := ptrR) (d := 106) (b := b2) (r := rg) (nn := r.al.length) (cnt := cnt) (G := G2) (S := S) (E' := fun cnt' key v => ((Ext.nil.and (mapE Tryz.prog 100 (plainElem Tryz.prog 3) b1 n.lk.length GL)).and (stepE Tryz.prog 103 ptrR b2 rg r.al.length G2 (fun x => S x ∧ x ≠ key) cnt' key v)).and (rowsE 57 5 qq VV xs0 ((brs n.lk r.al V).map Br.pv))) rfl ?_ ?_ ?_ ?_ Tryz.useKeyed ?_ ?_ ?_ ?_ ?_
    · rfl
    · decide
    · rfl
    · exact fun w hw => hw.1.2.1
    · intro key kl hkey
      obtain ⟨a, b, c, d, rfl, _⟩ := keyOf_use_inv hkey
      exact ⟨[.int .i64 a, .int .i64 b, .int .i64 c, .int .i64 d], rfl, fun x hx => by
       simp only [List.mem_cons, List.not_mem_nil, or_false] at hx
       rcases hx with rfl | rfl | rfl | rfl <;> rfl⟩
    · exact fun v dd ps h => ptrR_one h
    · exact fun w w1 cnt' key v hl hh ht => Turn.left (fun b hb => hl b (hb.elim (fun h => .inl (.inr h)) (fun h => .inr (.inr h)))) hh (Turn.right (fun b hb => hl b (hb.elim (fun h => .inl (.inl (.inl h))) (fun h => .inr (.inl (.inl h))))) hh.1 ht)
    · intro hno
      have hVm : ∀ k, k ∈ V ↔ ∃ a ∈ r.al, attK a = k := fun k => ⟨hVa k, fun hk => by
       obtain ⟨a, ha, rfl⟩ := hk
       have hda := good_atts hg2 a ha
       obtain ⟨kl, hkl⟩ := keyOf_use (a := a.cl) (b := a.f) (c := a.cf) (d := a.ct) (num64_of (by omega)) (num64_of (by omega)) (num64_of (by omega)) (num64_of (by omega))
       have h1 := hno (attK a).val kl hkl
       rw [hS] at h1
       exact Classical.byContradiction fun h2 => h1 ⟨(hUF.keys_iff _).2 ⟨a, ha, rfl⟩, h2⟩⟩
      have hVP : (brAll n.lk r.al).Perm (brs n.lk r.al V) := brs_perm hV hVm
      simp only [go_sem, simprocAttr, hF]
      repeat (first
       | (with_reducible (first | refine sops_go ?_ | refine headW_end ?_ | refine sops_end ?_ | refine awp_if ?_ | refine awp_skip ?_ | refine awp_ret ?_ | refine awp_exit ?_); simp only [go_sem, simprocAttr, hF])
       | ((with_reducible refine headW_go ?_); simp only [go_sem, simprocAttr, hF, hbx])
       | with_reducible refine awp_seq_k fun _ _ => ?_
       | (refine awp_drawA' (id := 19) [96, 139, 1000029, 1000046, 1000074, 1000081, 1000082, 1000089, 1000092, 1000105, 1000106, 1000108, 1000117, 1000158] 12 (by kernel_rfl) (by kernel_rfl) rfl rfl rfl rfl rfl rfl (fun bx0 hbx => ?_); try dsimp only [List.take, List.drop])
       | (refine awp_draw' (id := 26) [96, 139, 1000029, 1000046, 1000074, 1000081, 1000082, 1000089, 1000092, 1000105, 1000106, 1000108, 1000117, 1000158] 14 (by kernel_rfl) (by kernel_rfl) rfl rfl (fun bx0 hbx => ?_); try dsimp only [List.take, List.drop])
       | (refine awp_draw' (id := 30) [96, 139, 1000029, 1000046, 1000074, 1000081, 1000082, 1000089, 1000092, 1000105, 1000106, 1000108, 1000117, 1000158] 16 (by kernel_rfl) (by kernel_rfl) rfl rfl (fun bx0 hbx => ?_); try dsimp only [List.take, List.drop])
       | with_reducible (first | refine awp_region [96, 139, 1000029, 1000046, 1000074, 1000081, 1000082, 1000089, 1000092, 1000105, 1000106, 1000108, 1000117, 1000158] ?_ | refine awp_block ?_)
       | go_step)
      have hbl : (brs n.lk r.al V).length ≤ 1000000000 := by have := brs_len (lk := n.lk) (al := r.al) hV; omega
      refine hand_sortBr (d := 158) (q := qq) (V := VV) (xs := xs0) (L := brs n.lk r.al V) rfl rfl (by decide) rfl rfl (brs_ne fun l hl => by have := (chkN_links hn).2 l hl; omega) hbl (fun L' xs' hpL hsL => ?_)
      have hse : L' = sortB (brAll n.lk r.al) := sortB_eq (brAll_keys (lossOf_nn fun l hl => by have := (chkN_links hn).2 l hl; omega) hg2) hVP hpL hsL
      subst hse
      simp only [go_sem, simprocAttr, hF]
      repeat (first
       | (with_reducible (first | refine sops_go ?_ | refine headW_end ?_ | refine sops_end ?_ | refine awp_if ?_ | refine awp_skip ?_ | refine awp_ret ?_ | refine awp_exit ?_); simp only [go_sem, simprocAttr, hF])
       | ((with_reducible refine headW_go ?_); simp only [go_sem, simprocAttr, hF, hbx])
       | with_reducible refine awp_seq_k fun _ _ => ?_
       | (refine awp_drawA' (id := 19) [96, 139, 1000029, 1000046, 1000074, 1000081, 1000082, 1000089, 1000092, 1000105, 1000106, 1000108, 1000117, 1000158] 12 (by kernel_rfl) (by kernel_rfl) rfl rfl rfl rfl rfl rfl (fun bx0 hbx => ?_); try dsimp only [List.take, List.drop])
       | (refine awp_draw' (id := 26) [96, 139, 1000029, 1000046, 1000074, 1000081, 1000082, 1000089, 1000092, 1000105, 1000106, 1000108, 1000117, 1000158] 14 (by kernel_rfl) (by kernel_rfl) rfl rfl (fun bx0 hbx => ?_); try dsimp only [List.take, List.drop])
       | (refine awp_draw' (id := 30) [96, 139, 1000029, 1000046, 1000074, 1000081, 1000082, 1000089, 1000092, 1000105, 1000106, 1000108, 1000117, 1000158] 16 (by kernel_rfl) (by kernel_rfl) rfl rfl (fun bx0 hbx => ?_); try dsimp only [List.take, List.drop])
       | (with_reducible refine awp_region (id := 0) [96, 139, 1000029, 1000046, 1000074, 1000081, 1000082, 1000089, 1000092, 1000105, 1000106, 1000108, 1000117, 1000158] ?_)
       | (with_reducible refine awp_region (id := 1) [96, 139, 1000029, 1000046, 1000074, 1000081, 1000082, 1000089, 1000092, 1000105, 1000106, 1000108, 1000117, 1000158] ?_)
       | (with_reducible refine awp_region (id := 2) [96, 139, 1000029, 1000046, 1000074, 1000081, 1000082, 1000089, 1000092, 1000105, 1000106, 1000108, 1000117, 1000158] ?_)
       | (with_reducible refine awp_region (id := 3) [96, 139, 1000029, 1000046, 1000074, 1000081, 1000082, 1000089, 1000092, 1000105, 1000106, 1000108, 1000117, 1000158] ?_)
       | (with_reducible refine awp_region (id := 4) [96, 139, 1000029, 1000046, 1000074, 1000081, 1000082, 1000089, 1000092, 1000105, 1000106, 1000108, 1000117, 1000158] ?_)
       | (with_reducible refine awp_region (id := 5) [96, 139, 1000029, 1000046, 1000074, 1000081, 1000082, 1000089, 1000092, 1000105, 1000106, 1000108, 1000117, 1000158] ?_)
       | (with_reducible refine awp_region (id := 6) [96, 139, 1000029, 1000046, 1000074, 1000081, 1000082, 1000089, 1000092, 1000105, 1000106, 1000108, 1000117, 1000158] ?_)
       | (with_reducible refine awp_region (id := 7) [96, 139, 1000029, 1000046, 1000074, 1000081, 1000082, 1000089, 1000092, 1000105, 1000106, 1000108, 1000117, 1000158] ?_)
       | (with_reducible refine awp_region (id := 8) [96, 139, 1000029, 1000046, 1000074, 1000081, 1000082, 1000089, 1000092, 1000105, 1000106, 1000108, 1000117, 1000158] ?_)
       | (with_reducible refine awp_region (id := 9) [96, 139, 1000029, 1000046, 1000074, 1000081, 1000082, 1000089, 1000092, 1000105, 1000106, 1000108, 1000117, 1000158] ?_)
       | (with_reducible refine awp_region (id := 10) [96, 139, 1000029, 1000046, 1000074, 1000081, 1000082, 1000089, 1000092, 1000105, 1000106, 1000108, 1000117, 1000158] ?_)
       | (with_reducible refine awp_region (id := 11) [96, 139, 1000029, 1000046, 1000074, 1000081, 1000082, 1000089, 1000092, 1000105, 1000106, 1000108, 1000117, 1000158] ?_)
       | (with_reducible refine awp_region (id := 12) [96, 139, 1000029, 1000046, 1000074, 1000081, 1000082, 1000089, 1000092, 1000105, 1000106, 1000108, 1000117, 1000158] ?_)
       | (with_reducible refine awp_region (id := 13) [96, 139, 1000029, 1000046, 1000074, 1000081, 1000082, 1000089, 1000092, 1000105, 1000106, 1000108, 1000117, 1000158] ?_)
       | (with_reducible refine awp_region (id := 14) [96, 139, 1000029, 1000046, 1000074, 1000081, 1000082, 1000089, 1000092, 1000105, 1000106, 1000108, 1000117, 1000158] ?_)
       | (with_reducible refine awp_region (id := 15) [96, 139, 1000029, 1000046, 1000074, 1000081, 1000082, 1000089, 1000092, 1000105, 1000106, 1000108, 1000117, 1000158] ?_)
       | (with_reducible refine awp_region (id := 16) [96, 139, 1000029, 1000046, 1000074, 1000081, 1000082, 1000089, 1000092, 1000105, 1000106, 1000108, 1000117, 1000158] ?_)
       | (with_reducible refine awp_region (id := 17) [96, 139, 1000029, 1000046, 1000074, 1000081, 1000082, 1000089, 1000092, 1000105, 1000106, 1000108, 1000117, 1000158] ?_)
       | (with_reducible refine awp_region (id := 18) [96, 139, 1000029, 1000046, 1000074, 1000081, 1000082, 1000089, 1000092, 1000105, 1000106, 1000108, 1000117, 1000158] ?_)
       | (with_reducible refine awp_region (id := 20) [96, 139, 1000029, 1000046, 1000074, 1000081, 1000082, 1000089, 1000092, 1000105, 1000106, 1000108, 1000117, 1000158] ?_)
       | (with_reducible refine awp_region (id := 21) [96, 139, 1000029, 1000046, 1000074, 1000081, 1000082, 1000089, 1000092, 1000105, 1000106, 1000108, 1000117, 1000158] ?_)
       | (with_reducible refine awp_region (id := 22) [96, 139, 1000029, 1000046, 1000074, 1000081, 1000082, 1000089, 1000092, 1000105, 1000106, 1000108, 1000117, 1000158] ?_)
       | (with_reducible refine awp_region (id := 23) [96, 139, 1000029, 1000046, 1000074, 1000081, 1000082, 1000089, 1000092, 1000105, 1000106, 1000108, 1000117, 1000158] ?_)
       | (with_reducible refine awp_region (id := 24) [96, 139, 1000029, 1000046, 1000074, 1000081, 1000082, 1000089, 1000092, 1000105, 1000106, 1000108, 1000117, 1000158] ?_)
       | (with_reducible refine awp_region (id := 25) [96, 139, 1000029, 1000046, 1000074, 1000081, 1000082, 1000089, 1000092, 1000105, 1000106, 1000108, 1000117, 1000158] ?_)
       | (with_reducible refine awp_region (id := 27) [96, 139, 1000029, 1000046, 1000074, 1000081, 1000082, 1000089, 1000092, 1000105, 1000106, 1000108, 1000117, 1000158] ?_)
       | (with_reducible refine awp_region (id := 28) [96, 139, 1000029, 1000046, 1000074, 1000081, 1000082, 1000089, 1000092, 1000105, 1000106, 1000108, 1000117, 1000158] ?_)
       | (with_reducible refine awp_region (id := 29) [96, 139, 1000029, 1000046, 1000074, 1000081, 1000082, 1000089, 1000092, 1000105, 1000106, 1000108, 1000117, 1000158] ?_)
       | (with_reducible refine awp_region (id := 31) [96, 139, 1000029, 1000046, 1000074, 1000081, 1000082, 1000089, 1000092, 1000105, 1000106, 1000108, 1000117, 1000158] ?_)
       | (with_reducible refine awp_region (id := 32) [96, 139, 1000029, 1000046, 1000074, 1000081, 1000082, 1000089, 1000092, 1000105, 1000106, 1000108, 1000117, 1000158] ?_)
       | (with_reducible refine awp_block ?_)
       | go_step)
      refine awp_rows (t := 15) rfl rfl (by rw [hF]; decide) ?_
      simp only [go_sem, simprocAttr, hF]
      repeat (first
       | (with_reducible (first | refine sops_go ?_ | refine headW_end ?_ | refine sops_end ?_ | refine awp_if ?_ | refine awp_skip ?_ | refine awp_ret ?_ | refine awp_exit ?_); simp only [go_sem, simprocAttr, hF])
       | ((with_reducible refine headW_go ?_); simp only [go_sem, simprocAttr, hF, hbx])
       | with_reducible refine awp_seq_k fun _ _ => ?_
       | (refine awp_drawA' (id := 19) [96, 139, 1000029, 1000046, 1000074, 1000081, 1000082, 1000089, 1000092, 1000105, 1000106, 1000108, 1000117, 1000158] 12 (by kernel_rfl) (by kernel_rfl) rfl rfl rfl rfl rfl rfl (fun bx0 hbx => ?_); try dsimp only [List.take, List.drop])
       | (refine awp_draw' (id := 26) [96, 139, 1000029, 1000046, 1000074, 1000081, 1000082, 1000089, 1000092, 1000105, 1000106, 1000108, 1000117, 1000158] 14 (by kernel_rfl) (by kernel_rfl) rfl rfl (fun bx0 hbx => ?_); try dsimp only [List.take, List.drop])
       | (refine awp_draw' (id := 30) [96, 139, 1000029, 1000046, 1000074, 1000081, 1000082, 1000089, 1000092, 1000105, 1000106, 1000108, 1000117, 1000158] 16 (by kernel_rfl) (by kernel_rfl) rfl rfl (fun bx0 hbx => ?_); try dsimp only [List.take, List.drop])
       | with_reducible (first | refine awp_region [96, 139, 1000029, 1000046, 1000074, 1000081, 1000082, 1000089, 1000092, 1000105, 1000106, 1000108, 1000117, 1000158] ?_ | refine awp_block ?_)
       | go_step)
      rw [show breachesP n r = (sortB (brAll n.lk r.al), 0) from by
       unfold breachesP
       rw [if_neg (by rintro (h | h); exact h hn; rw [hg2] at h; cases h), if_neg (fun h => by
        obtain ⟨a, ha, h⟩ := List.any_eq_true.1 h
        have := hU.loss a (by rw [List.take_length]; exact ha)
        cases hl : lossAt n.lk a.cf a.ct with
        | none => rw [hl] at this; cases this
        | some y => rw [hl] at h; cases h)]]
    intro xs v kl dd ps cnt1 hkey hSx hR hG hlt
    obtain ⟨ka, kb, kc, kd, hxs, hn1, hn2, hn3, hn4⟩ := keyOf_use_inv hkey
    obtain rfl : xs = [.int .i64 ka, .int .i64 kb, .int .i64 kc, .int .i64 kd] := by simpa using hxs
    obtain ⟨g, rfl, rfl⟩ := ptrR_inv hR
    obtain ⟨kk, rfl, rfl, rfl, rfl⟩ : ∃ kk : UK, ka = kk.fl ∧ kb = kk.fr ∧ kc = kk.fm ∧ kd = kk.tt := ⟨⟨ka, kb, kc, kd⟩, rfl, rfl, rfl, rfl⟩
    obtain ⟨u, hu, rfl, huk, hal⟩ := hUF.val (k := kk) hG
    have hSk := (hS kk).1 hSx
    obtain ⟨a0, ha0, hak⟩ := (hUF.keys_iff kk).1 hSk.1
    have hls : (lossAt n.lk kk.fm kk.tt).isSome = true := by
     have := hU.loss a0 (by rw [List.take_length]; exact ha0)
     rw [← hak]; exact this
    obtain ⟨ka, hka⟩ := keyOf_link hn3 hn4
    have hul : u.al.length ≤ 1000000 := by rw [hal]; exact Nat.le_trans (List.length_filter_le _ _) hla
    have hbg := hU.look hu
    unfold Us.row at hbg
    simp only [go_sem, simprocAttr, hF]
    repeat (first
     | (with_reducible (first | refine sops_go ?_ | refine headW_end ?_ | refine sops_end ?_ | refine awp_if ?_ | refine awp_skip ?_ | refine awp_ret ?_ | refine awp_exit ?_); simp only [go_sem, simprocAttr, hF])
     | ((with_reducible refine headW_go ?_); simp only [go_sem, simprocAttr, hF, hbx])
     | with_reducible refine awp_seq_k fun _ _ => ?_
     | (refine awp_drawA' (id := 19) [96, 139, 1000029, 1000046, 1000074, 1000081, 1000082, 1000089, 1000092, 1000105, 1000106, 1000108, 1000117, 1000158] 12 (by kernel_rfl) (by kernel_rfl) rfl rfl rfl rfl rfl rfl (fun bx0 hbx => ?_); try dsimp only [List.take, List.drop])
     | (refine awp_draw' (id := 26) [96, 139, 1000029, 1000046, 1000074, 1000081, 1000082, 1000089, 1000092, 1000105, 1000106, 1000108, 1000117, 1000158] 14 (by kernel_rfl) (by kernel_rfl) rfl rfl (fun bx0 hbx => ?_); try dsimp only [List.take, List.drop])
     | (refine awp_draw' (id := 30) [96, 139, 1000029, 1000046, 1000074, 1000081, 1000082, 1000089, 1000092, 1000105, 1000106, 1000108, 1000117, 1000158] 16 (by kernel_rfl) (by kernel_rfl) rfl rfl (fun bx0 hbx => ?_); try dsimp only [List.take, List.drop])
     | with_reducible (first | refine awp_region [96, 139, 1000029, 1000046, 1000074, 1000081, 1000082, 1000089, 1000092, 1000105, 1000106, 1000108, 1000117, 1000158] ?_ | refine awp_block ?_)
     | go_step)
    refine hand_entry_ext (d := 108) (r := rg) (xs := [.int .i64 kk.fl, .int .i64 kk.fr, .int .i64 kk.fm, .int .i64 kk.tt]) (v := .pointer (some ⟨u.g, 0, none⟩)) (E := ((Ext.nil.and (mapE Tryz.prog 100 (plainElem Tryz.prog 3) b1 n.lk.length GL)).and (rangeE Tryz.prog 103 ptrR b2 rg r.al.length G2 (fun x => S x ∧ x ≠ .agg [.int .i64 kk.fl, .int .i64 kk.fr, .int .i64 kk.fm, .int .i64 kk.tt].toArray) cnt1)).and (rowsE 57 5 qq VV xs0 ((brs n.lk r.al V).map Br.pv))) rfl rfl (by decide) rfl (fun w hw => hw.1.2.1.2) (fun x hx => by
     simp only [List.mem_cons, List.not_mem_nil, or_false] at hx
     rcases hx with rfl | rfl | rfl | rfl <;> rfl) rfl (fun w hl hh => Turn.left (fun b hb => hl b (hb.elim (fun h => .inl (.inr h)) (fun h => .inr (.inr h)))) hh (Turn.right (fun b hb => hl b (hb.elim (fun h => .inl (.inl (.inl h))) (fun h => .inr (.inl (.inl h))))) hh.1 (Turn.stepped hh.1.2.1))) ?_
    simp only [go_sem, simprocAttr, hF]
    repeat (first
     | (with_reducible (first | refine sops_go ?_ | refine headW_end ?_ | refine sops_end ?_ | refine awp_if ?_ | refine awp_skip ?_ | refine awp_ret ?_ | refine awp_exit ?_); simp only [go_sem, simprocAttr, hF])
     | ((with_reducible refine headW_go ?_); simp only [go_sem, simprocAttr, hF, hbx])
     | with_reducible refine awp_seq_k fun _ _ => ?_
     | (refine awp_drawA' (id := 19) [96, 139, 1000029, 1000046, 1000074, 1000081, 1000082, 1000089, 1000092, 1000105, 1000106, 1000108, 1000117, 1000158] 12 (by kernel_rfl) (by kernel_rfl) rfl rfl rfl rfl rfl rfl (fun bx0 hbx => ?_); try dsimp only [List.take, List.drop])
     | (refine awp_draw' (id := 26) [96, 139, 1000029, 1000046, 1000074, 1000081, 1000082, 1000089, 1000092, 1000105, 1000106, 1000108, 1000117, 1000158] 14 (by kernel_rfl) (by kernel_rfl) rfl rfl (fun bx0 hbx => ?_); try dsimp only [List.take, List.drop])
     | (refine awp_draw' (id := 30) [96, 139, 1000029, 1000046, 1000074, 1000081, 1000082, 1000089, 1000092, 1000105, 1000106, 1000108, 1000117, 1000158] 16 (by kernel_rfl) (by kernel_rfl) rfl rfl (fun bx0 hbx => ?_); try dsimp only [List.take, List.drop])
     | (with_reducible refine awp_region (id := 0) [96, 139, 1000029, 1000046, 1000074, 1000081, 1000082, 1000089, 1000092, 1000105, 1000106, 1000108, 1000117, 1000158] ?_)
     | (with_reducible refine awp_region (id := 1) [96, 139, 1000029, 1000046, 1000074, 1000081, 1000082, 1000089, 1000092, 1000105, 1000106, 1000108, 1000117, 1000158] ?_)
     | (with_reducible refine awp_region (id := 2) [96, 139, 1000029, 1000046, 1000074, 1000081, 1000082, 1000089, 1000092, 1000105, 1000106, 1000108, 1000117, 1000158] ?_)
     | (with_reducible refine awp_region (id := 3) [96, 139, 1000029, 1000046, 1000074, 1000081, 1000082, 1000089, 1000092, 1000105, 1000106, 1000108, 1000117, 1000158] ?_)
     | (with_reducible refine awp_region (id := 4) [96, 139, 1000029, 1000046, 1000074, 1000081, 1000082, 1000089, 1000092, 1000105, 1000106, 1000108, 1000117, 1000158] ?_)
     | (with_reducible refine awp_region (id := 5) [96, 139, 1000029, 1000046, 1000074, 1000081, 1000082, 1000089, 1000092, 1000105, 1000106, 1000108, 1000117, 1000158] ?_)
     | (with_reducible refine awp_region (id := 6) [96, 139, 1000029, 1000046, 1000074, 1000081, 1000082, 1000089, 1000092, 1000105, 1000106, 1000108, 1000117, 1000158] ?_)
     | (with_reducible refine awp_region (id := 7) [96, 139, 1000029, 1000046, 1000074, 1000081, 1000082, 1000089, 1000092, 1000105, 1000106, 1000108, 1000117, 1000158] ?_)
     | (with_reducible refine awp_region (id := 8) [96, 139, 1000029, 1000046, 1000074, 1000081, 1000082, 1000089, 1000092, 1000105, 1000106, 1000108, 1000117, 1000158] ?_)
     | (with_reducible refine awp_region (id := 9) [96, 139, 1000029, 1000046, 1000074, 1000081, 1000082, 1000089, 1000092, 1000105, 1000106, 1000108, 1000117, 1000158] ?_)
     | (with_reducible refine awp_region (id := 10) [96, 139, 1000029, 1000046, 1000074, 1000081, 1000082, 1000089, 1000092, 1000105, 1000106, 1000108, 1000117, 1000158] ?_)
     | (with_reducible refine awp_region (id := 11) [96, 139, 1000029, 1000046, 1000074, 1000081, 1000082, 1000089, 1000092, 1000105, 1000106, 1000108, 1000117, 1000158] ?_)
     | (with_reducible refine awp_region (id := 12) [96, 139, 1000029, 1000046, 1000074, 1000081, 1000082, 1000089, 1000092, 1000105, 1000106, 1000108, 1000117, 1000158] ?_)
     | (with_reducible refine awp_region (id := 13) [96, 139, 1000029, 1000046, 1000074, 1000081, 1000082, 1000089, 1000092, 1000105, 1000106, 1000108, 1000117, 1000158] ?_)
     | (with_reducible refine awp_region (id := 14) [96, 139, 1000029, 1000046, 1000074, 1000081, 1000082, 1000089, 1000092, 1000105, 1000106, 1000108, 1000117, 1000158] ?_)
     | (with_reducible refine awp_region (id := 15) [96, 139, 1000029, 1000046, 1000074, 1000081, 1000082, 1000089, 1000092, 1000105, 1000106, 1000108, 1000117, 1000158] ?_)
     | (with_reducible refine awp_region (id := 16) [96, 139, 1000029, 1000046, 1000074, 1000081, 1000082, 1000089, 1000092, 1000105, 1000106, 1000108, 1000117, 1000158] ?_)
     | (with_reducible refine awp_region (id := 17) [96, 139, 1000029, 1000046, 1000074, 1000081, 1000082, 1000089, 1000092, 1000105, 1000106, 1000108, 1000117, 1000158] ?_)
     | (with_reducible refine awp_region (id := 18) [96, 139, 1000029, 1000046, 1000074, 1000081, 1000082, 1000089, 1000092, 1000105, 1000106, 1000108, 1000117, 1000158] ?_)
     | (with_reducible refine awp_region (id := 20) [96, 139, 1000029, 1000046, 1000074, 1000081, 1000082, 1000089, 1000092, 1000105, 1000106, 1000108, 1000117, 1000158] ?_)
     | (with_reducible refine awp_region (id := 21) [96, 139, 1000029, 1000046, 1000074, 1000081, 1000082, 1000089, 1000092, 1000105, 1000106, 1000108, 1000117, 1000158] ?_)
     | (with_reducible refine awp_region (id := 22) [96, 139, 1000029, 1000046, 1000074, 1000081, 1000082, 1000089, 1000092, 1000105, 1000106, 1000108, 1000117, 1000158] ?_)
     | (with_reducible refine awp_region (id := 23) [96, 139, 1000029, 1000046, 1000074, 1000081, 1000082, 1000089, 1000092, 1000105, 1000106, 1000108, 1000117, 1000158] ?_)
     | (with_reducible refine awp_region (id := 24) [96, 139, 1000029, 1000046, 1000074, 1000081, 1000082, 1000089, 1000092, 1000105, 1000106, 1000108, 1000117, 1000158] ?_)
     | (with_reducible refine awp_region (id := 27) [96, 139, 1000029, 1000046, 1000074, 1000081, 1000082, 1000089, 1000092, 1000105, 1000106, 1000108, 1000117, 1000158] ?_)
     | (with_reducible refine awp_region (id := 28) [96, 139, 1000029, 1000046, 1000074, 1000081, 1000082, 1000089, 1000092, 1000105, 1000106, 1000108, 1000117, 1000158] ?_)
     | (with_reducible refine awp_region (id := 29) [96, 139, 1000029, 1000046, 1000074, 1000081, 1000082, 1000089, 1000092, 1000105, 1000106, 1000108, 1000117, 1000158] ?_)
     | (with_reducible refine awp_region (id := 31) [96, 139, 1000029, 1000046, 1000074, 1000081, 1000082, 1000089, 1000092, 1000105, 1000106, 1000108, 1000117, 1000158] ?_)
     | (with_reducible refine awp_region (id := 32) [96, 139, 1000029, 1000046, 1000074, 1000081, 1000082, 1000089, 1000092, 1000105, 1000106, 1000108, 1000117, 1000158] ?_)
     | (with_reducible refine awp_region (id := 33) [96, 139, 1000029, 1000046, 1000074, 1000081, 1000082, 1000089, 1000092, 1000105, 1000106, 1000108, 1000117, 1000158] ?_)
     | (with_reducible refine awp_block ?_)
     | go_step)
    refine awp_ref 17 u.g (by rw [hF]; decide) rfl (by simp only [go_sem, simprocAttr, hF, hbg]) ?_
    simp only [go_sem, simprocAttr, hF]
    repeat (first
     | (with_reducible (first | refine sops_go ?_ | refine headW_end ?_ | refine sops_end ?_ | refine awp_if ?_ | refine awp_skip ?_ | refine awp_ret ?_ | refine awp_exit ?_); simp only [go_sem, simprocAttr, hF])
     | ((with_reducible refine headW_go ?_); simp only [go_sem, simprocAttr, hF, hbx])
     | with_reducible refine awp_seq_k fun _ _ => ?_
     | (refine awp_drawA' (id := 19) [96, 139, 1000029, 1000046, 1000074, 1000081, 1000082, 1000089, 1000092, 1000105, 1000106, 1000108, 1000117, 1000158] 12 (by kernel_rfl) (by kernel_rfl) rfl rfl rfl rfl rfl rfl (fun bx0 hbx => ?_); try dsimp only [List.take, List.drop])
     | (refine awp_draw' (id := 30) [96, 139, 1000029, 1000046, 1000074, 1000081, 1000082, 1000089, 1000092, 1000105, 1000106, 1000108, 1000117, 1000158] 16 (by kernel_rfl) (by kernel_rfl) rfl rfl (fun bx0 hbx => ?_); try dsimp only [List.take, List.drop])
     | (with_reducible refine awp_region (id := 0) [96, 139, 1000029, 1000046, 1000074, 1000081, 1000082, 1000089, 1000092, 1000105, 1000106, 1000108, 1000117, 1000158] ?_)
     | (with_reducible refine awp_region (id := 1) [96, 139, 1000029, 1000046, 1000074, 1000081, 1000082, 1000089, 1000092, 1000105, 1000106, 1000108, 1000117, 1000158] ?_)
     | (with_reducible refine awp_region (id := 2) [96, 139, 1000029, 1000046, 1000074, 1000081, 1000082, 1000089, 1000092, 1000105, 1000106, 1000108, 1000117, 1000158] ?_)
     | (with_reducible refine awp_region (id := 3) [96, 139, 1000029, 1000046, 1000074, 1000081, 1000082, 1000089, 1000092, 1000105, 1000106, 1000108, 1000117, 1000158] ?_)
     | (with_reducible refine awp_region (id := 4) [96, 139, 1000029, 1000046, 1000074, 1000081, 1000082, 1000089, 1000092, 1000105, 1000106, 1000108, 1000117, 1000158] ?_)
     | (with_reducible refine awp_region (id := 5) [96, 139, 1000029, 1000046, 1000074, 1000081, 1000082, 1000089, 1000092, 1000105, 1000106, 1000108, 1000117, 1000158] ?_)
     | (with_reducible refine awp_region (id := 6) [96, 139, 1000029, 1000046, 1000074, 1000081, 1000082, 1000089, 1000092, 1000105, 1000106, 1000108, 1000117, 1000158] ?_)
     | (with_reducible refine awp_region (id := 7) [96, 139, 1000029, 1000046, 1000074, 1000081, 1000082, 1000089, 1000092, 1000105, 1000106, 1000108, 1000117, 1000158] ?_)
     | (with_reducible refine awp_region (id := 8) [96, 139, 1000029, 1000046, 1000074, 1000081, 1000082, 1000089, 1000092, 1000105, 1000106, 1000108, 1000117, 1000158] ?_)
     | (with_reducible refine awp_region (id := 9) [96, 139, 1000029, 1000046, 1000074, 1000081, 1000082, 1000089, 1000092, 1000105, 1000106, 1000108, 1000117, 1000158] ?_)
     | (with_reducible refine awp_region (id := 10) [96, 139, 1000029, 1000046, 1000074, 1000081, 1000082, 1000089, 1000092, 1000105, 1000106, 1000108, 1000117, 1000158] ?_)
     | (with_reducible refine awp_region (id := 11) [96, 139, 1000029, 1000046, 1000074, 1000081, 1000082, 1000089, 1000092, 1000105, 1000106, 1000108, 1000117, 1000158] ?_)
     | (with_reducible refine awp_region (id := 12) [96, 139, 1000029, 1000046, 1000074, 1000081, 1000082, 1000089, 1000092, 1000105, 1000106, 1000108, 1000117, 1000158] ?_)
     | (with_reducible refine awp_region (id := 13) [96, 139, 1000029, 1000046, 1000074, 1000081, 1000082, 1000089, 1000092, 1000105, 1000106, 1000108, 1000117, 1000158] ?_)
     | (with_reducible refine awp_region (id := 14) [96, 139, 1000029, 1000046, 1000074, 1000081, 1000082, 1000089, 1000092, 1000105, 1000106, 1000108, 1000117, 1000158] ?_)
     | (with_reducible refine awp_region (id := 15) [96, 139, 1000029, 1000046, 1000074, 1000081, 1000082, 1000089, 1000092, 1000105, 1000106, 1000108, 1000117, 1000158] ?_)
     | (with_reducible refine awp_region (id := 16) [96, 139, 1000029, 1000046, 1000074, 1000081, 1000082, 1000089, 1000092, 1000105, 1000106, 1000108, 1000117, 1000158] ?_)
     | (with_reducible refine awp_region (id := 17) [96, 139, 1000029, 1000046, 1000074, 1000081, 1000082, 1000089, 1000092, 1000105, 1000106, 1000108, 1000117, 1000158] ?_)
     | (with_reducible refine awp_region (id := 18) [96, 139, 1000029, 1000046, 1000074, 1000081, 1000082, 1000089, 1000092, 1000105, 1000106, 1000108, 1000117, 1000158] ?_)
     | (with_reducible refine awp_region (id := 20) [96, 139, 1000029, 1000046, 1000074, 1000081, 1000082, 1000089, 1000092, 1000105, 1000106, 1000108, 1000117, 1000158] ?_)
     | (with_reducible refine awp_region (id := 21) [96, 139, 1000029, 1000046, 1000074, 1000081, 1000082, 1000089, 1000092, 1000105, 1000106, 1000108, 1000117, 1000158] ?_)
     | (with_reducible refine awp_region (id := 22) [96, 139, 1000029, 1000046, 1000074, 1000081, 1000082, 1000089, 1000092, 1000105, 1000106, 1000108, 1000117, 1000158] ?_)
     | (with_reducible refine awp_region (id := 23) [96, 139, 1000029, 1000046, 1000074, 1000081, 1000082, 1000089, 1000092, 1000105, 1000106, 1000108, 1000117, 1000158] ?_)
     | (with_reducible refine awp_region (id := 24) [96, 139, 1000029, 1000046, 1000074, 1000081, 1000082, 1000089, 1000092, 1000105, 1000106, 1000108, 1000117, 1000158] ?_)
     | (with_reducible refine awp_region (id := 25) [96, 139, 1000029, 1000046, 1000074, 1000081, 1000082, 1000089, 1000092, 1000105, 1000106, 1000108, 1000117, 1000158] ?_)
     | (with_reducible refine awp_region (id := 27) [96, 139, 1000029, 1000046, 1000074, 1000081, 1000082, 1000089, 1000092, 1000105, 1000106, 1000108, 1000117, 1000158] ?_)
     | (with_reducible refine awp_region (id := 28) [96, 139, 1000029, 1000046, 1000074, 1000081, 1000082, 1000089, 1000092, 1000105, 1000106, 1000108, 1000117, 1000158] ?_)
     | (with_reducible refine awp_region (id := 29) [96, 139, 1000029, 1000046, 1000074, 1000081, 1000082, 1000089, 1000092, 1000105, 1000106, 1000108, 1000117, 1000158] ?_)
     | (with_reducible refine awp_region (id := 31) [96, 139, 1000029, 1000046, 1000074, 1000081, 1000082, 1000089, 1000092, 1000105, 1000106, 1000108, 1000117, 1000158] ?_)
     | (with_reducible refine awp_region (id := 32) [96, 139, 1000029, 1000046, 1000074, 1000081, 1000082, 1000089, 1000092, 1000105, 1000106, 1000108, 1000117, 1000158] ?_)
     | (with_reducible refine awp_region (id := 33) [96, 139, 1000029, 1000046, 1000074, 1000081, 1000082, 1000089, 1000092, 1000105, 1000106, 1000108, 1000117, 1000158] ?_)
     | (with_reducible refine awp_block ?_)
     | go_step)
    refine hand_lookup (k := 100) (R := (plainElem Tryz.prog 3)) (b := b1) (nn := n.lk.length) (G := GL) (d := 117) (xs := [.int .i64 kk.fm, .int .i64 kk.tt]) (kl := ka) (z := .int .i64 0) rfl ?_ ?_ ?_ ?_ ?_ Tryz.lKeyed Tryz.underlying99 ?_ ?_ ?_ hka ?_ ?_
    · rfl
    · decide
    · rfl
    · rfl
    · exact fun w hw => hw.1.1.2.1
    · exact zero_of Tryz.zr3
    · rfl
    · intro v dd ps hv; obtain ⟨x, rfl, _⟩ := loss_one hv; rfl
    · intro hno
      rw [hGL.no hno] at hls; cases hls
    intro v dd ps hGl hRl
    obtain ⟨lo, rfl, rfl⟩ := loss_one hRl
    have hlo : lossAt n.lk kk.fm kk.tt = some lo := hGL.at hGl
    obtain ⟨y, hy, rfl⟩ := lossAt_mem hlo
    have hlb := (chkN_links hn).2 y hy
    have hwl : IntKind.i64.wrap (y.ls + 1) = y.ls + 1 := by rw [IntKind.wrap_i64]; omega
    have hbK : brK n.lk r.al kk = overs y.ls kk (lossP r.al kk.fl kk.fr kk.fm kk.tt) := by unfold brK lossOf; rw [hlo]; rfl
    have hLP : lossP u.al kk.fl kk.fr kk.fm kk.tt = lossP r.al kk.fl kk.fr kk.fm kk.tt := by rw [hal]; exact lossP_part _ _
    have hrl : (lossP r.al kk.fl kk.fr kk.fm kk.tt).length ≤ r.al.length := by rw [lossP_k]; exact Nat.le_trans (runsOf_len _ _ (Nat.le_refl _)) (List.length_filter_le _ _)
    simp only [go_sem, simprocAttr, hF]
    repeat (first
     | (with_reducible (first | refine sops_go ?_ | refine headW_end ?_ | refine sops_end ?_ | refine awp_if ?_ | refine awp_skip ?_ | refine awp_ret ?_ | refine awp_exit ?_); simp only [go_sem, simprocAttr, hF, hbg])
     | ((with_reducible refine headW_go ?_); simp only [go_sem, simprocAttr, hF, hbg, hbx])
     | with_reducible refine awp_seq_k fun _ _ => ?_
     | (refine awp_drawA' (id := 19) [96, 139, 1000029, 1000046, 1000074, 1000081, 1000082, 1000089, 1000092, 1000105, 1000106, 1000108, 1000117, 1000158] 12 (by kernel_rfl) (by kernel_rfl) rfl rfl rfl rfl rfl rfl (fun bx0 hbx => ?_); try dsimp only [List.take, List.drop])
     | (refine awp_draw' (id := 26) [96, 139, 1000029, 1000046, 1000074, 1000081, 1000082, 1000089, 1000092, 1000105, 1000106, 1000108, 1000117, 1000158] 14 (by kernel_rfl) (by kernel_rfl) rfl rfl (fun bx0 hbx => ?_); try dsimp only [List.take, List.drop])
     | (refine awp_draw' (id := 30) [96, 139, 1000029, 1000046, 1000074, 1000081, 1000082, 1000089, 1000092, 1000105, 1000106, 1000108, 1000117, 1000158] 16 (by kernel_rfl) (by kernel_rfl) rfl rfl (fun bx0 hbx => ?_); try dsimp only [List.take, List.drop])
     | with_reducible (first | refine awp_region [96, 139, 1000029, 1000046, 1000074, 1000081, 1000082, 1000089, 1000092, 1000105, 1000106, 1000108, 1000117, 1000158] ?_ | refine awp_block ?_)
     | go_step)
    refine ⟨_, lossesN_ok 0 u.al kk.fl kk.fr kk.fm kk.tt hul, ?_⟩
    simp only [go_sem, simprocAttr, hF, hLP]
    repeat (first
     | (with_reducible (first | refine sops_go ?_ | refine headW_end ?_ | refine sops_end ?_ | refine awp_if ?_ | refine awp_skip ?_ | refine awp_ret ?_ | refine awp_exit ?_); simp only [go_sem, simprocAttr, hF, hLP])
     | ((with_reducible refine headW_go ?_); simp only [go_sem, simprocAttr, hF, hLP, hbx])
     | with_reducible refine awp_seq_k fun _ _ => ?_
     | (refine awp_drawA' (id := 19) [96, 139, 1000029, 1000046, 1000074, 1000081, 1000082, 1000089, 1000092, 1000105, 1000106, 1000108, 1000117, 1000158] 12 (by kernel_rfl) (by kernel_rfl) rfl rfl rfl rfl rfl rfl (fun bx0 hbx => ?_); try dsimp only [List.take, List.drop])
     | (refine awp_draw' (id := 26) [96, 139, 1000029, 1000046, 1000074, 1000081, 1000082, 1000089, 1000092, 1000105, 1000106, 1000108, 1000117, 1000158] 14 (by kernel_rfl) (by kernel_rfl) rfl rfl (fun bx0 hbx => ?_); try dsimp only [List.take, List.drop])
     | (refine awp_draw' (id := 30) [96, 139, 1000029, 1000046, 1000074, 1000081, 1000082, 1000089, 1000092, 1000105, 1000106, 1000108, 1000117, 1000158] 16 (by kernel_rfl) (by kernel_rfl) rfl rfl (fun bx0 hbx => ?_); try dsimp only [List.take, List.drop])
     | with_reducible (first | refine awp_region [96, 139, 1000029, 1000046, 1000074, 1000081, 1000082, 1000089, 1000092, 1000105, 1000106, 1000108, 1000117, 1000158] ?_ | refine awp_block ?_)
     | go_step)
    refine awp_loop_by (ι := {x : Nat × (Option Nat × Value × List Value) // x.1 ≤ (lossP r.al kk.fl kk.fr kk.fm kk.tt).length}) (fun x σ => ⟨(131, iv (x.1.1 : Int)) :: (15, .v x.1.2.2.1) :: keepS [4, 5, 6, 16, 18, 105, 129, 130] σ.slot, (16, [ip kk.fl, ip kk.fr, ip kk.fm, ip kk.tt]) :: dynBox U, [], ((Ext.nil.and (mapE Tryz.prog 100 (plainElem Tryz.prog 3) b1 n.lk.length GL)).and (rangeE Tryz.prog 103 ptrR b2 rg r.al.length G2 (fun x => S x ∧ x ≠ .agg [.int .i64 kk.fl, .int .i64 kk.fr, .int .i64 kk.fm, .int .i64 kk.tt].toArray) cnt1)).and (rowsE 57 5 x.1.2.1 x.1.2.2.1 x.1.2.2.2 ((brs n.lk r.al V ++ overs y.ls kk ((lossP r.al kk.fl kk.fr kk.fm kk.tt).take x.1.1)).map Br.pv))⟩) (fun x => (lossP r.al kk.fl kk.fr kk.fm kk.tt).length - x.1.1) ⟨(0, (qq, VV, xs0)), Nat.zero_le _⟩ (sub_mk ?_) (fun R5 hR5 x5 => ?_)
    · simp only [go_sem, simprocAttr, hF]
      repeat' (first | exact rfl | (rw [show overs y.ls kk [] = [] from rfl, List.append_nil]; done) | refine And.intro ?_ ?_)
      refine allS_dyn.2 fun v hv => ?_
      rw [if_neg (by omega), if_neg (by omega)]
      exact hU.look hv
    obtain ⟨⟨j, qq, VV, xs0⟩, hj⟩ := x5
    dsimp only at hj ⊢
    simp only [go_sem, simprocAttr, hF]
    by_cases hlt3 : j < (lossP r.al kk.fl kk.fr kk.fm kk.tt).length
    case neg =>
     have hd3 : decide ((j : Int) < ((lossP r.al kk.fl kk.fr kk.fm kk.tt).length : Int)) = false := decide_eq_false (by omega)
     obtain rfl : j = (lossP r.al kk.fl kk.fr kk.fm kk.tt).length := by omega
     rw [List.take_length, ← hbK, ← brs_snoc]
     repeat (first
      | (with_reducible (first | refine sops_go ?_ | refine headW_end ?_ | refine sops_end ?_ | refine awp_if ?_ | refine awp_skip ?_ | refine awp_ret ?_ | refine awp_exit ?_); simp only [go_sem, simprocAttr, hF, hd3])
      | ((with_reducible refine headW_go ?_); simp only [go_sem, simprocAttr, hF, hd3, hbx])
      | with_reducible refine awp_seq_k fun _ _ => ?_
      | (refine awp_drawA' (id := 19) [96, 139, 1000029, 1000046, 1000074, 1000081, 1000082, 1000089, 1000092, 1000105, 1000106, 1000108, 1000117, 1000158] 12 (by kernel_rfl) (by kernel_rfl) rfl rfl rfl rfl rfl rfl (fun bx0 hbx => ?_); try dsimp only [List.take, List.drop])
      | (refine awp_draw' (id := 26) [96, 139, 1000029, 1000046, 1000074, 1000081, 1000082, 1000089, 1000092, 1000105, 1000106, 1000108, 1000117, 1000158] 14 (by kernel_rfl) (by kernel_rfl) rfl rfl (fun bx0 hbx => ?_); try dsimp only [List.take, List.drop])
      | (refine awp_draw' (id := 30) [96, 139, 1000029, 1000046, 1000074, 1000081, 1000082, 1000089, 1000092, 1000105, 1000106, 1000108, 1000117, 1000158] 16 (by kernel_rfl) (by kernel_rfl) rfl rfl (fun bx0 hbx => ?_); try dsimp only [List.take, List.drop])
      | with_reducible (first | refine awp_region [96, 139, 1000029, 1000046, 1000074, 1000081, 1000082, 1000089, 1000092, 1000105, 1000106, 1000108, 1000117, 1000158] ?_ | refine awp_block ?_)
      | go_step)
     refine ⟨⟨((V ++ [kk], fun x => S x ∧ x ≠ .agg [.int .i64 kk.fl, .int .i64 kk.fr, .int .i64 kk.fm, .int .i64 kk.tt].toArray, cnt1), (qq, VV, xs0)), ?_, ?_, ?_⟩, hlt, hR4 _ _ (sub_mk ?_)⟩
     · dsimp only
       exact List.nodup_append.2 ⟨hV, by simp, fun a ha b hb e => hSk.2 (by simp only [List.mem_cons, List.not_mem_nil, or_false] at hb; rw [← hb, ← e]; exact ha)⟩
     · dsimp only
       intro k hk
       rcases List.mem_append.1 hk with hk | hk
       · exact hVa k hk
       · simp only [List.mem_cons, List.not_mem_nil, or_false] at hk
         subst hk; exact ⟨a0, ha0, hak⟩
     · dsimp only
       intro k
       rw [hS]
       constructor
       · rintro ⟨⟨h1, h2⟩, h3⟩
         refine ⟨h1, fun hk => ?_⟩
         rcases List.mem_append.1 hk with hk | hk
         · exact h2 hk
         · simp only [List.mem_cons, List.not_mem_nil, or_false] at hk
           exact h3 (by rw [hk]; rfl)
       · rintro ⟨h1, h2⟩
         exact ⟨⟨h1, fun hk => h2 (List.mem_append_left _ hk)⟩, fun e => h2 (List.mem_append_right _ (by rw [UK.val_inj (m := kk) e]; exact List.mem_cons_self))⟩
     simp only [go_sem, simprocAttr, hF]
     refine allS_dyn.2 fun v hv => ?_
     rw [if_neg (by omega)]
     exact hU.look hv
    obtain ⟨run, hrun⟩ := get_of_lt hlt3
    have hd3 : decide ((j : Int) < ((lossP r.al kk.fl kk.fr kk.fm kk.tt).length : Int)) = true := decide_eq_true (by omega)
    have hw3 : IntKind.i64.wrap ((j : Int) + 1) = ((j + 1 : Nat) : Int) := by rw [IntKind.wrap_i64]; omega
    have hrn := runs_of_len hrun
    have hov := overs_snoc (m := y.ls) (k := kk) hrun
    have hol := overs_len_al (al := r.al) (lk := n.lk) (m := y.ls) (j := j) hV hSk.2
    have hob : (brs n.lk r.al V).length + (overs y.ls kk (List.take j (lossP r.al kk.fl kk.fr kk.fm kk.tt))).length ≤ 99999999 := by rw [List.length_append] at hol; omega
    repeat (first
     | (with_reducible (first | refine sops_go ?_ | refine headW_end ?_ | refine sops_end ?_ | refine awp_if ?_ | refine awp_skip ?_ | refine awp_ret ?_ | refine awp_exit ?_); simp only [go_sem, simprocAttr, hF, hd3, hrun, runPv])
     | ((with_reducible refine headW_go ?_); simp only [go_sem, simprocAttr, hF, hd3, hrun, runPv, hbx])
     | with_reducible refine awp_seq_k fun _ _ => ?_
     | (refine awp_drawA' (id := 19) [96, 139, 1000029, 1000046, 1000074, 1000081, 1000082, 1000089, 1000092, 1000105, 1000106, 1000108, 1000117, 1000158] 12 (by kernel_rfl) (by kernel_rfl) rfl rfl rfl rfl rfl rfl (fun bx0 hbx => ?_); try dsimp only [List.take, List.drop])
     | (refine awp_draw' (id := 26) [96, 139, 1000029, 1000046, 1000074, 1000081, 1000082, 1000089, 1000092, 1000105, 1000106, 1000108, 1000117, 1000158] 14 (by kernel_rfl) (by kernel_rfl) rfl rfl (fun bx0 hbx => ?_); try dsimp only [List.take, List.drop])
     | (with_reducible refine awp_region (id := 0) [96, 139, 1000029, 1000046, 1000074, 1000081, 1000082, 1000089, 1000092, 1000105, 1000106, 1000108, 1000117, 1000158] ?_)
     | (with_reducible refine awp_region (id := 1) [96, 139, 1000029, 1000046, 1000074, 1000081, 1000082, 1000089, 1000092, 1000105, 1000106, 1000108, 1000117, 1000158] ?_)
     | (with_reducible refine awp_region (id := 2) [96, 139, 1000029, 1000046, 1000074, 1000081, 1000082, 1000089, 1000092, 1000105, 1000106, 1000108, 1000117, 1000158] ?_)
     | (with_reducible refine awp_region (id := 3) [96, 139, 1000029, 1000046, 1000074, 1000081, 1000082, 1000089, 1000092, 1000105, 1000106, 1000108, 1000117, 1000158] ?_)
     | (with_reducible refine awp_region (id := 4) [96, 139, 1000029, 1000046, 1000074, 1000081, 1000082, 1000089, 1000092, 1000105, 1000106, 1000108, 1000117, 1000158] ?_)
     | (with_reducible refine awp_region (id := 5) [96, 139, 1000029, 1000046, 1000074, 1000081, 1000082, 1000089, 1000092, 1000105, 1000106, 1000108, 1000117, 1000158] ?_)
     | (with_reducible refine awp_region (id := 6) [96, 139, 1000029, 1000046, 1000074, 1000081, 1000082, 1000089, 1000092, 1000105, 1000106, 1000108, 1000117, 1000158] ?_)
     | (with_reducible refine awp_region (id := 7) [96, 139, 1000029, 1000046, 1000074, 1000081, 1000082, 1000089, 1000092, 1000105, 1000106, 1000108, 1000117, 1000158] ?_)
     | (with_reducible refine awp_region (id := 8) [96, 139, 1000029, 1000046, 1000074, 1000081, 1000082, 1000089, 1000092, 1000105, 1000106, 1000108, 1000117, 1000158] ?_)
     | (with_reducible refine awp_region (id := 9) [96, 139, 1000029, 1000046, 1000074, 1000081, 1000082, 1000089, 1000092, 1000105, 1000106, 1000108, 1000117, 1000158] ?_)
     | (with_reducible refine awp_region (id := 10) [96, 139, 1000029, 1000046, 1000074, 1000081, 1000082, 1000089, 1000092, 1000105, 1000106, 1000108, 1000117, 1000158] ?_)
     | (with_reducible refine awp_region (id := 11) [96, 139, 1000029, 1000046, 1000074, 1000081, 1000082, 1000089, 1000092, 1000105, 1000106, 1000108, 1000117, 1000158] ?_)
     | (with_reducible refine awp_region (id := 12) [96, 139, 1000029, 1000046, 1000074, 1000081, 1000082, 1000089, 1000092, 1000105, 1000106, 1000108, 1000117, 1000158] ?_)
     | (with_reducible refine awp_region (id := 13) [96, 139, 1000029, 1000046, 1000074, 1000081, 1000082, 1000089, 1000092, 1000105, 1000106, 1000108, 1000117, 1000158] ?_)
     | (with_reducible refine awp_region (id := 14) [96, 139, 1000029, 1000046, 1000074, 1000081, 1000082, 1000089, 1000092, 1000105, 1000106, 1000108, 1000117, 1000158] ?_)
     | (with_reducible refine awp_region (id := 15) [96, 139, 1000029, 1000046, 1000074, 1000081, 1000082, 1000089, 1000092, 1000105, 1000106, 1000108, 1000117, 1000158] ?_)
     | (with_reducible refine awp_region (id := 16) [96, 139, 1000029, 1000046, 1000074, 1000081, 1000082, 1000089, 1000092, 1000105, 1000106, 1000108, 1000117, 1000158] ?_)
     | (with_reducible refine awp_region (id := 17) [96, 139, 1000029, 1000046, 1000074, 1000081, 1000082, 1000089, 1000092, 1000105, 1000106, 1000108, 1000117, 1000158] ?_)
     | (with_reducible refine awp_region (id := 18) [96, 139, 1000029, 1000046, 1000074, 1000081, 1000082, 1000089, 1000092, 1000105, 1000106, 1000108, 1000117, 1000158] ?_)
     | (with_reducible refine awp_region (id := 20) [96, 139, 1000029, 1000046, 1000074, 1000081, 1000082, 1000089, 1000092, 1000105, 1000106, 1000108, 1000117, 1000158] ?_)
     | (with_reducible refine awp_region (id := 21) [96, 139, 1000029, 1000046, 1000074, 1000081, 1000082, 1000089, 1000092, 1000105, 1000106, 1000108, 1000117, 1000158] ?_)
     | (with_reducible refine awp_region (id := 22) [96, 139, 1000029, 1000046, 1000074, 1000081, 1000082, 1000089, 1000092, 1000105, 1000106, 1000108, 1000117, 1000158] ?_)
     | (with_reducible refine awp_region (id := 23) [96, 139, 1000029, 1000046, 1000074, 1000081, 1000082, 1000089, 1000092, 1000105, 1000106, 1000108, 1000117, 1000158] ?_)
     | (with_reducible refine awp_region (id := 24) [96, 139, 1000029, 1000046, 1000074, 1000081, 1000082, 1000089, 1000092, 1000105, 1000106, 1000108, 1000117, 1000158] ?_)
     | (with_reducible refine awp_region (id := 25) [96, 139, 1000029, 1000046, 1000074, 1000081, 1000082, 1000089, 1000092, 1000105, 1000106, 1000108, 1000117, 1000158] ?_)
     | (with_reducible refine awp_region (id := 27) [96, 139, 1000029, 1000046, 1000074, 1000081, 1000082, 1000089, 1000092, 1000105, 1000106, 1000108, 1000117, 1000158] ?_)
     | (with_reducible refine awp_region (id := 28) [96, 139, 1000029, 1000046, 1000074, 1000081, 1000082, 1000089, 1000092, 1000105, 1000106, 1000108, 1000117, 1000158] ?_)
     | (with_reducible refine awp_region (id := 29) [96, 139, 1000029, 1000046, 1000074, 1000081, 1000082, 1000089, 1000092, 1000105, 1000106, 1000108, 1000117, 1000158] ?_)
     | (with_reducible refine awp_region (id := 31) [96, 139, 1000029, 1000046, 1000074, 1000081, 1000082, 1000089, 1000092, 1000105, 1000106, 1000108, 1000117, 1000158] ?_)
     | (with_reducible refine awp_region (id := 32) [96, 139, 1000029, 1000046, 1000074, 1000081, 1000082, 1000089, 1000092, 1000105, 1000106, 1000108, 1000117, 1000158] ?_)
     | (with_reducible refine awp_region (id := 33) [96, 139, 1000029, 1000046, 1000074, 1000081, 1000082, 1000089, 1000092, 1000105, 1000106, 1000108, 1000117, 1000158] ?_)
     | (with_reducible refine awp_block ?_)
     | go_step)
    by_cases hgt : y.ls < (run.length : Int)
    case neg =>
     have hdg : decide (y.ls < (run.length : Int)) = false := decide_eq_false hgt
     rw [if_neg hgt] at hov
     simp only [go_sem, simprocAttr, hF, hdg]
     repeat (first
      | (with_reducible (first | refine sops_go ?_ | refine headW_end ?_ | refine sops_end ?_ | refine awp_if ?_ | refine awp_skip ?_ | refine awp_ret ?_ | refine awp_exit ?_); simp only [go_sem, simprocAttr, hF, hdg])
      | ((with_reducible refine headW_go ?_); simp only [go_sem, simprocAttr, hF, hdg, hbx])
      | with_reducible refine awp_seq_k fun _ _ => ?_
      | (refine awp_drawA' (id := 19) [96, 139, 1000029, 1000046, 1000074, 1000081, 1000082, 1000089, 1000092, 1000105, 1000106, 1000108, 1000117, 1000158] 12 (by kernel_rfl) (by kernel_rfl) rfl rfl rfl rfl rfl rfl (fun bx0 hbx => ?_); try dsimp only [List.take, List.drop])
      | (refine awp_draw' (id := 26) [96, 139, 1000029, 1000046, 1000074, 1000081, 1000082, 1000089, 1000092, 1000105, 1000106, 1000108, 1000117, 1000158] 14 (by kernel_rfl) (by kernel_rfl) rfl rfl (fun bx0 hbx => ?_); try dsimp only [List.take, List.drop])
      | (refine awp_draw' (id := 30) [96, 139, 1000029, 1000046, 1000074, 1000081, 1000082, 1000089, 1000092, 1000105, 1000106, 1000108, 1000117, 1000158] 16 (by kernel_rfl) (by kernel_rfl) rfl rfl (fun bx0 hbx => ?_); try dsimp only [List.take, List.drop])
      | with_reducible (first | refine awp_region [96, 139, 1000029, 1000046, 1000074, 1000081, 1000082, 1000089, 1000092, 1000105, 1000106, 1000108, 1000117, 1000158] ?_ | refine awp_block ?_)
      | go_step)
     refine ⟨⟨(j + 1, (qq, VV, xs0)), by dsimp only; omega⟩, by dsimp only; omega, hR5 _ _ (sub_mk ?_)⟩
     simp only [go_sem, simprocAttr, hF, hw3, hov]
     refine allS_dyn.2 fun v hv => ?_
     rw [if_neg (by omega)]
     exact hU.look hv
    have hdg : decide (y.ls < (run.length : Int)) = true := decide_eq_true hgt
    rw [if_pos hgt] at hov
    have hsl : (y.ls + 1).toNat ≤ run.length := by omega
    have hsl0 : 0 ≤ y.ls + 1 := by omega
    simp only [go_sem, simprocAttr, hF, hdg]
    repeat (first
     | (with_reducible (first | refine sops_go ?_ | refine headW_end ?_ | refine sops_end ?_ | refine awp_if ?_ | refine awp_skip ?_ | refine awp_ret ?_ | refine awp_exit ?_); simp only [go_sem, simprocAttr, hF, hdg, hwl])
     | ((with_reducible refine headW_go ?_); simp only [go_sem, simprocAttr, hF, hdg, hwl, hbx])
     | with_reducible refine awp_seq_k fun _ _ => ?_
     | (refine awp_drawA' (id := 19) [96, 139, 1000029, 1000046, 1000074, 1000081, 1000082, 1000089, 1000092, 1000105, 1000106, 1000108, 1000117, 1000158] 12 (by kernel_rfl) (by kernel_rfl) rfl rfl rfl rfl rfl rfl (fun bx0 hbx => ?_); try dsimp only [List.take, List.drop])
     | (refine awp_draw' (id := 26) [96, 139, 1000029, 1000046, 1000074, 1000081, 1000082, 1000089, 1000092, 1000105, 1000106, 1000108, 1000117, 1000158] 14 (by kernel_rfl) (by kernel_rfl) rfl rfl (fun bx0 hbx => ?_); try dsimp only [List.take, List.drop])
     | (with_reducible refine awp_region (id := 0) [96, 139, 1000029, 1000046, 1000074, 1000081, 1000082, 1000089, 1000092, 1000105, 1000106, 1000108, 1000117, 1000158] ?_)
     | (with_reducible refine awp_region (id := 1) [96, 139, 1000029, 1000046, 1000074, 1000081, 1000082, 1000089, 1000092, 1000105, 1000106, 1000108, 1000117, 1000158] ?_)
     | (with_reducible refine awp_region (id := 2) [96, 139, 1000029, 1000046, 1000074, 1000081, 1000082, 1000089, 1000092, 1000105, 1000106, 1000108, 1000117, 1000158] ?_)
     | (with_reducible refine awp_region (id := 3) [96, 139, 1000029, 1000046, 1000074, 1000081, 1000082, 1000089, 1000092, 1000105, 1000106, 1000108, 1000117, 1000158] ?_)
     | (with_reducible refine awp_region (id := 4) [96, 139, 1000029, 1000046, 1000074, 1000081, 1000082, 1000089, 1000092, 1000105, 1000106, 1000108, 1000117, 1000158] ?_)
     | (with_reducible refine awp_region (id := 5) [96, 139, 1000029, 1000046, 1000074, 1000081, 1000082, 1000089, 1000092, 1000105, 1000106, 1000108, 1000117, 1000158] ?_)
     | (with_reducible refine awp_region (id := 6) [96, 139, 1000029, 1000046, 1000074, 1000081, 1000082, 1000089, 1000092, 1000105, 1000106, 1000108, 1000117, 1000158] ?_)
     | (with_reducible refine awp_region (id := 7) [96, 139, 1000029, 1000046, 1000074, 1000081, 1000082, 1000089, 1000092, 1000105, 1000106, 1000108, 1000117, 1000158] ?_)
     | (with_reducible refine awp_region (id := 8) [96, 139, 1000029, 1000046, 1000074, 1000081, 1000082, 1000089, 1000092, 1000105, 1000106, 1000108, 1000117, 1000158] ?_)
     | (with_reducible refine awp_region (id := 9) [96, 139, 1000029, 1000046, 1000074, 1000081, 1000082, 1000089, 1000092, 1000105, 1000106, 1000108, 1000117, 1000158] ?_)
     | (with_reducible refine awp_region (id := 10) [96, 139, 1000029, 1000046, 1000074, 1000081, 1000082, 1000089, 1000092, 1000105, 1000106, 1000108, 1000117, 1000158] ?_)
     | (with_reducible refine awp_region (id := 11) [96, 139, 1000029, 1000046, 1000074, 1000081, 1000082, 1000089, 1000092, 1000105, 1000106, 1000108, 1000117, 1000158] ?_)
     | (with_reducible refine awp_region (id := 12) [96, 139, 1000029, 1000046, 1000074, 1000081, 1000082, 1000089, 1000092, 1000105, 1000106, 1000108, 1000117, 1000158] ?_)
     | (with_reducible refine awp_region (id := 13) [96, 139, 1000029, 1000046, 1000074, 1000081, 1000082, 1000089, 1000092, 1000105, 1000106, 1000108, 1000117, 1000158] ?_)
     | (with_reducible refine awp_region (id := 14) [96, 139, 1000029, 1000046, 1000074, 1000081, 1000082, 1000089, 1000092, 1000105, 1000106, 1000108, 1000117, 1000158] ?_)
     | (with_reducible refine awp_region (id := 15) [96, 139, 1000029, 1000046, 1000074, 1000081, 1000082, 1000089, 1000092, 1000105, 1000106, 1000108, 1000117, 1000158] ?_)
     | (with_reducible refine awp_region (id := 16) [96, 139, 1000029, 1000046, 1000074, 1000081, 1000082, 1000089, 1000092, 1000105, 1000106, 1000108, 1000117, 1000158] ?_)
     | (with_reducible refine awp_region (id := 17) [96, 139, 1000029, 1000046, 1000074, 1000081, 1000082, 1000089, 1000092, 1000105, 1000106, 1000108, 1000117, 1000158] ?_)
     | (with_reducible refine awp_region (id := 18) [96, 139, 1000029, 1000046, 1000074, 1000081, 1000082, 1000089, 1000092, 1000105, 1000106, 1000108, 1000117, 1000158] ?_)
     | (with_reducible refine awp_region (id := 20) [96, 139, 1000029, 1000046, 1000074, 1000081, 1000082, 1000089, 1000092, 1000105, 1000106, 1000108, 1000117, 1000158] ?_)
     | (with_reducible refine awp_region (id := 21) [96, 139, 1000029, 1000046, 1000074, 1000081, 1000082, 1000089, 1000092, 1000105, 1000106, 1000108, 1000117, 1000158] ?_)
     | (with_reducible refine awp_region (id := 22) [96, 139, 1000029, 1000046, 1000074, 1000081, 1000082, 1000089, 1000092, 1000105, 1000106, 1000108, 1000117, 1000158] ?_)
     | (with_reducible refine awp_region (id := 23) [96, 139, 1000029, 1000046, 1000074, 1000081, 1000082, 1000089, 1000092, 1000105, 1000106, 1000108, 1000117, 1000158] ?_)
     | (with_reducible refine awp_region (id := 24) [96, 139, 1000029, 1000046, 1000074, 1000081, 1000082, 1000089, 1000092, 1000105, 1000106, 1000108, 1000117, 1000158] ?_)
     | (with_reducible refine awp_region (id := 25) [96, 139, 1000029, 1000046, 1000074, 1000081, 1000082, 1000089, 1000092, 1000105, 1000106, 1000108, 1000117, 1000158] ?_)
     | (with_reducible refine awp_region (id := 27) [96, 139, 1000029, 1000046, 1000074, 1000081, 1000082, 1000089, 1000092, 1000105, 1000106, 1000108, 1000117, 1000158] ?_)
     | (with_reducible refine awp_region (id := 28) [96, 139, 1000029, 1000046, 1000074, 1000081, 1000082, 1000089, 1000092, 1000105, 1000106, 1000108, 1000117, 1000158] ?_)
     | (with_reducible refine awp_region (id := 29) [96, 139, 1000029, 1000046, 1000074, 1000081, 1000082, 1000089, 1000092, 1000105, 1000106, 1000108, 1000117, 1000158] ?_)
     | (with_reducible refine awp_region (id := 31) [96, 139, 1000029, 1000046, 1000074, 1000081, 1000082, 1000089, 1000092, 1000105, 1000106, 1000108, 1000117, 1000158] ?_)
     | (with_reducible refine awp_region (id := 32) [96, 139, 1000029, 1000046, 1000074, 1000081, 1000082, 1000089, 1000092, 1000105, 1000106, 1000108, 1000117, 1000158] ?_)
     | (with_reducible refine awp_region (id := 33) [96, 139, 1000029, 1000046, 1000074, 1000081, 1000082, 1000089, 1000092, 1000105, 1000106, 1000108, 1000117, 1000158] ?_)
     | (with_reducible refine awp_block ?_)
     | go_step)
    refine awp_drawJ (id := 30) [1000155] 16 (by kernel_rfl) (by kernel_rfl) rfl rfl (fun bx0 hbx => ?_)
    try dsimp only [List.take, List.drop]
    repeat (first
     | ((with_reducible refine sopsJ_go ?_); simp only [go_sem, simprocAttr, hF, hwl])
     | ((with_reducible refine sopsJ_end ?_); simp only [go_sem, simprocAttr, hF, hwl])
     | (with_reducible (first | refine sops_go ?_ | refine headW_end ?_ | refine sops_end ?_ | refine awp_if ?_ | refine awp_skip ?_ | refine awp_ret ?_ | refine awp_exit ?_); simp only [go_sem, simprocAttr, hF, hwl])
     | ((with_reducible refine headW_go ?_); simp only [go_sem, simprocAttr, hF, hwl, hbx])
     | with_reducible refine awp_seq_k fun _ _ => ?_
     | (refine awp_drawA' (id := 19) [96, 139, 1000029, 1000046, 1000074, 1000081, 1000082, 1000089, 1000092, 1000105, 1000106, 1000108, 1000117, 1000158] 12 (by kernel_rfl) (by kernel_rfl) rfl rfl rfl rfl rfl rfl (fun bx0 hbx => ?_); try dsimp only [List.take, List.drop])
     | (refine awp_draw' (id := 26) [96, 139, 1000029, 1000046, 1000074, 1000081, 1000082, 1000089, 1000092, 1000105, 1000106, 1000108, 1000117, 1000158] 14 (by kernel_rfl) (by kernel_rfl) rfl rfl (fun bx0 hbx => ?_); try dsimp only [List.take, List.drop])
     | (refine awp_draw' (id := 30) [96, 139, 1000029, 1000046, 1000074, 1000081, 1000082, 1000089, 1000092, 1000105, 1000106, 1000108, 1000117, 1000158] 16 (by kernel_rfl) (by kernel_rfl) rfl rfl (fun bx0 hbx => ?_); try dsimp only [List.take, List.drop])
     | with_reducible (first | refine awp_region [96, 139, 1000029, 1000046, 1000074, 1000081, 1000082, 1000089, 1000092, 1000105, 1000106, 1000108, 1000117, 1000158] ?_ | refine awp_block ?_)
     | go_step)
    refine ⟨by omega, Nat.zero_le _, hsl, ?_⟩
    try simp only [go_sem, simprocAttr, hF]
    repeat (first
     | ((with_reducible refine sopsJ_go ?_); simp only [go_sem, simprocAttr, hF])
     | ((with_reducible refine sopsJ_end ?_); simp only [go_sem, simprocAttr, hF])
     | (with_reducible (first | refine sops_go ?_ | refine headW_end ?_ | refine sops_end ?_ | refine awp_if ?_ | refine awp_skip ?_ | refine awp_ret ?_ | refine awp_exit ?_); simp only [go_sem, simprocAttr, hF])
     | ((with_reducible refine headW_go ?_); simp only [go_sem, simprocAttr, hF, hbx])
     | with_reducible refine awp_seq_k fun _ _ => ?_
     | (refine awp_drawA' (id := 19) [96, 139, 1000029, 1000046, 1000074, 1000081, 1000082, 1000089, 1000092, 1000105, 1000106, 1000108, 1000117, 1000158] 12 (by kernel_rfl) (by kernel_rfl) rfl rfl rfl rfl rfl rfl (fun bx0 hbx => ?_); try dsimp only [List.take, List.drop])
     | (refine awp_draw' (id := 26) [96, 139, 1000029, 1000046, 1000074, 1000081, 1000082, 1000089, 1000092, 1000105, 1000106, 1000108, 1000117, 1000158] 14 (by kernel_rfl) (by kernel_rfl) rfl rfl (fun bx0 hbx => ?_); try dsimp only [List.take, List.drop])
     | (refine awp_draw' (id := 30) [96, 139, 1000029, 1000046, 1000074, 1000081, 1000082, 1000089, 1000092, 1000105, 1000106, 1000108, 1000117, 1000158] 16 (by kernel_rfl) (by kernel_rfl) rfl rfl (fun bx0 hbx => ?_); try dsimp only [List.take, List.drop])
     | with_reducible (first | refine awp_region [96, 139, 1000029, 1000046, 1000074, 1000081, 1000082, 1000089, 1000092, 1000105, 1000106, 1000108, 1000117, 1000158] ?_ | refine awp_block ?_)
     | go_step)
    refine ⟨_, cloneI_ok _ (by rw [List.length_take, List.length_map]; omega), ?_⟩
    simp only [go_sem, simprocAttr, hF]
    repeat (first
     | ((with_reducible refine sopsJ_go ?_); simp only [go_sem, simprocAttr, hF])
     | ((with_reducible refine sopsJ_end ?_); simp only [go_sem, simprocAttr, hF])
     | (with_reducible (first | refine sops_go ?_ | refine headW_end ?_ | refine sops_end ?_ | refine awp_if ?_ | refine awp_skip ?_ | refine awp_ret ?_ | refine awp_exit ?_); simp only [go_sem, simprocAttr, hF])
     | ((with_reducible refine headW_go ?_); simp only [go_sem, simprocAttr, hF, hbx])
     | with_reducible refine awp_seq_k fun _ _ => ?_
     | (refine awp_drawA' (id := 19) [96, 139, 1000029, 1000046, 1000074, 1000081, 1000082, 1000089, 1000092, 1000105, 1000106, 1000108, 1000117, 1000158] 12 (by kernel_rfl) (by kernel_rfl) rfl rfl rfl rfl rfl rfl (fun bx0 hbx => ?_); try dsimp only [List.take, List.drop])
     | (refine awp_draw' (id := 26) [96, 139, 1000029, 1000046, 1000074, 1000081, 1000082, 1000089, 1000092, 1000105, 1000106, 1000108, 1000117, 1000158] 14 (by kernel_rfl) (by kernel_rfl) rfl rfl (fun bx0 hbx => ?_); try dsimp only [List.take, List.drop])
     | (refine awp_draw' (id := 30) [96, 139, 1000029, 1000046, 1000074, 1000081, 1000082, 1000089, 1000092, 1000105, 1000106, 1000108, 1000117, 1000158] 16 (by kernel_rfl) (by kernel_rfl) rfl rfl (fun bx0 hbx => ?_); try dsimp only [List.take, List.drop])
     | with_reducible (first | refine awp_region [96, 139, 1000029, 1000046, 1000074, 1000081, 1000082, 1000089, 1000092, 1000105, 1000106, 1000108, 1000117, 1000158] ?_ | refine awp_block ?_)
     | go_step)
    refine hand_appendB (d := 155) (t := 40) (e := 57) (q := qq) (V := VV) (xs := xs0) (sz := 5) (rows := (brs n.lk r.al V ++ overs y.ls kk ((lossP r.al kk.fl kk.fr kk.fm kk.tt).take j)).map Br.pv) rfl rfl (by decide) Tryz.underlying40 (by kernel_rfl) rfl rfl rfl (by rw [List.length_map]; simp only [List.length_cons, List.length_nil]; omega) (fun q2 V2 xs2 => ?_)
    simp only [go_sem, simprocAttr, hF]
    repeat (first
     | ((with_reducible refine sopsJ_go ?_); simp only [go_sem, simprocAttr, hF])
     | ((with_reducible refine sopsJ_end ?_); simp only [go_sem, simprocAttr, hF])
     | (with_reducible (first | refine sops_go ?_ | refine headW_end ?_ | refine sops_end ?_ | refine awp_if ?_ | refine awp_skip ?_ | refine awp_ret ?_ | refine awp_exit ?_); simp only [go_sem, simprocAttr, hF])
     | ((with_reducible refine headW_go ?_); simp only [go_sem, simprocAttr, hF, hbx])
     | with_reducible refine awp_seq_k fun _ _ => ?_
     | (refine awp_drawA' (id := 19) [96, 139, 1000029, 1000046, 1000074, 1000081, 1000082, 1000089, 1000092, 1000105, 1000106, 1000108, 1000117, 1000158] 12 (by kernel_rfl) (by kernel_rfl) rfl rfl rfl rfl rfl rfl (fun bx0 hbx => ?_); try dsimp only [List.take, List.drop])
     | (refine awp_draw' (id := 26) [96, 139, 1000029, 1000046, 1000074, 1000081, 1000082, 1000089, 1000092, 1000105, 1000106, 1000108, 1000117, 1000158] 14 (by kernel_rfl) (by kernel_rfl) rfl rfl (fun bx0 hbx => ?_); try dsimp only [List.take, List.drop])
     | (refine awp_draw' (id := 30) [96, 139, 1000029, 1000046, 1000074, 1000081, 1000082, 1000089, 1000092, 1000105, 1000106, 1000108, 1000117, 1000158] 16 (by kernel_rfl) (by kernel_rfl) rfl rfl (fun bx0 hbx => ?_); try dsimp only [List.take, List.drop])
     | with_reducible (first | refine awp_region [96, 139, 1000029, 1000046, 1000074, 1000081, 1000082, 1000089, 1000092, 1000105, 1000106, 1000108, 1000117, 1000158] ?_ | refine awp_block ?_)
     | go_step)
    refine ⟨⟨(j + 1, (q2, V2, xs2)), by dsimp only; omega⟩, by dsimp only; omega, hR5 _ _ (sub_mk ?_)⟩
    simp only [go_sem, simprocAttr, hF, hw3, hov, Br.pv, List.map_take, List.map_append]
    refine ⟨allS_dyn.2 fun v hv => ?_, by rw [List.append_assoc]⟩
    rw [if_neg (by omega)]
    exact hU.look hv
   obtain ⟨d, hdk⟩ := get_of_lt hlt2
   have hd2 : decide ((k2 : Int) < (r.al.length : Int)) = true := decide_eq_true (by omega)
   have hw2 : IntKind.i64.wrap ((k2 : Int) + 1) = ((k2 + 1 : Nat) : Int) := by rw [IntKind.wrap_i64]; omega
   have hda := good_atts hg2 d (List.mem_of_getElem? hdk)
   obtain ⟨hn1, hn2, hn3, hn4⟩ : Num64 d.cl ∧ Num64 d.f ∧ Num64 d.cf ∧ Num64 d.ct := ⟨num64_of (by omega), num64_of (by omega), num64_of (by omega), num64_of (by omega)⟩
   clear hda
   obtain ⟨ka, hka⟩ := keyOf_link hn3 hn4
   obtain ⟨ku, hku⟩ := keyOf_use hn1 hn2 hn3 hn4
   repeat (first
    | (with_reducible (first | refine sops_go ?_ | refine headW_end ?_ | refine sops_end ?_ | refine awp_if ?_ | refine awp_skip ?_ | refine awp_ret ?_ | refine awp_exit ?_); simp only [go_sem, simprocAttr, hF, hd2, hdk])
    | ((with_reducible refine headW_go ?_); simp only [go_sem, simprocAttr, hF, hd2, hdk, hbx])
    | with_reducible refine awp_seq_k fun _ _ => ?_
    | (refine awp_drawA' (id := 19) [96, 139, 1000029, 1000046, 1000074, 1000081, 1000082, 1000089, 1000092, 1000105, 1000106, 1000108, 1000117, 1000158] 12 (by kernel_rfl) (by kernel_rfl) rfl rfl rfl rfl rfl rfl (fun bx0 hbx => ?_); try dsimp only [List.take, List.drop])
    | (refine awp_draw' (id := 26) [96, 139, 1000029, 1000046, 1000074, 1000081, 1000082, 1000089, 1000092, 1000105, 1000106, 1000108, 1000117, 1000158] 14 (by kernel_rfl) (by kernel_rfl) rfl rfl (fun bx0 hbx => ?_); try dsimp only [List.take, List.drop])
    | (refine awp_draw' (id := 30) [96, 139, 1000029, 1000046, 1000074, 1000081, 1000082, 1000089, 1000092, 1000105, 1000106, 1000108, 1000117, 1000158] 16 (by kernel_rfl) (by kernel_rfl) rfl rfl (fun bx0 hbx => ?_); try dsimp only [List.take, List.drop])
    | with_reducible (first | refine awp_region [96, 139, 1000029, 1000046, 1000074, 1000081, 1000082, 1000089, 1000092, 1000105, 1000106, 1000108, 1000117, 1000158] ?_ | refine awp_block ?_)
    | go_step)
   refine hand_lookup (k := 100) (R := (plainElem Tryz.prog 3)) (b := b1) (nn := n.lk.length) (G := GL) (d := 74) (xs := [.int .i64 d.cf, .int .i64 d.ct]) (kl := ka) (z := .int .i64 0) rfl ?_ ?_ ?_ ?_ ?_ Tryz.lKeyed Tryz.underlying99 ?_ ?_ ?_ hka ?_ ?_
   · rfl
   · decide
   · rfl
   · rfl
   · exact fun w hw => hw.1.2.1
   · exact zero_of Tryz.zr3
   · rfl
   · intro v dd ps hv; obtain ⟨x, rfl, _⟩ := loss_one hv; rfl
   · intro hno
     simp only [go_sem, simprocAttr, hF]
     repeat (first
      | ((refine awp_nil (c := .ret) 4 5 57 (by rw [hF]; decide) (by first | rfl | simp only [Av.look]; rfl) ?_); simp only [go_sem, simprocAttr, hF])
      | (with_reducible (first | refine sops_go ?_ | refine headW_end ?_ | refine sops_end ?_ | refine awp_if ?_ | refine awp_skip ?_ | refine awp_ret ?_ | refine awp_exit ?_); simp only [go_sem, simprocAttr, hF])
      | ((with_reducible refine headW_go ?_); simp only [go_sem, simprocAttr, hF, hbx])
      | with_reducible refine awp_seq_k fun _ _ => ?_
      | (refine awp_drawA' (id := 19) [96, 139, 1000029, 1000046, 1000074, 1000081, 1000082, 1000089, 1000092, 1000105, 1000106, 1000108, 1000117, 1000158] 12 (by kernel_rfl) (by kernel_rfl) rfl rfl rfl rfl rfl rfl (fun bx0 hbx => ?_); try dsimp only [List.take, List.drop])
      | (refine awp_draw' (id := 26) [96, 139, 1000029, 1000046, 1000074, 1000081, 1000082, 1000089, 1000092, 1000105, 1000106, 1000108, 1000117, 1000158] 14 (by kernel_rfl) (by kernel_rfl) rfl rfl (fun bx0 hbx => ?_); try dsimp only [List.take, List.drop])
      | (refine awp_draw' (id := 30) [96, 139, 1000029, 1000046, 1000074, 1000081, 1000082, 1000089, 1000092, 1000105, 1000106, 1000108, 1000117, 1000158] 16 (by kernel_rfl) (by kernel_rfl) rfl rfl (fun bx0 hbx => ?_); try dsimp only [List.take, List.drop])
      | with_reducible (first | refine awp_region [96, 139, 1000029, 1000046, 1000074, 1000081, 1000082, 1000089, 1000092, 1000105, 1000106, 1000108, 1000117, 1000158] ?_ | refine awp_block ?_)
      | go_step)
     rw [show breachesP n r = ([], 7) from by
      unfold breachesP
      rw [if_neg (by rintro (h | h); exact h hn; rw [hg2] at h; cases h), if_pos (List.any_eq_true.2 ⟨d, List.mem_of_getElem? hdk, by rw [hGL.no hno]; rfl⟩)]]
     rfl
   intro v dd ps hGl hRl
   obtain ⟨lo, rfl, rfl⟩ := loss_one hRl
   have hlo : (lossAt n.lk d.cf d.ct).isSome = true := hGL.some hGl
   simp only [go_sem, simprocAttr, hF]
   repeat (first
    | (with_reducible (first | refine sops_go ?_ | refine headW_end ?_ | refine sops_end ?_ | refine awp_if ?_ | refine awp_skip ?_ | refine awp_ret ?_ | refine awp_exit ?_); simp only [go_sem, simprocAttr, hF])
    | ((with_reducible refine headW_go ?_); simp only [go_sem, simprocAttr, hF, hbx])
    | with_reducible refine awp_seq_k fun _ _ => ?_
    | (refine awp_drawA' (id := 19) [96, 139, 1000029, 1000046, 1000074, 1000081, 1000082, 1000089, 1000092, 1000105, 1000106, 1000108, 1000117, 1000158] 12 (by kernel_rfl) (by kernel_rfl) rfl rfl rfl rfl rfl rfl (fun bx0 hbx => ?_); try dsimp only [List.take, List.drop])
    | (refine awp_draw' (id := 26) [96, 139, 1000029, 1000046, 1000074, 1000081, 1000082, 1000089, 1000092, 1000105, 1000106, 1000108, 1000117, 1000158] 14 (by kernel_rfl) (by kernel_rfl) rfl rfl (fun bx0 hbx => ?_); try dsimp only [List.take, List.drop])
    | (refine awp_draw' (id := 30) [96, 139, 1000029, 1000046, 1000074, 1000081, 1000082, 1000089, 1000092, 1000105, 1000106, 1000108, 1000117, 1000158] 16 (by kernel_rfl) (by kernel_rfl) rfl rfl (fun bx0 hbx => ?_); try dsimp only [List.take, List.drop])
    | with_reducible (first | refine awp_region [96, 139, 1000029, 1000046, 1000074, 1000081, 1000082, 1000089, 1000092, 1000105, 1000106, 1000108, 1000117, 1000158] ?_ | refine awp_block ?_)
    | go_step)
   refine hand_lookup_ref (k := 103) (b := b2) (nn := k2) (G := G2) (xs := [.int .i64 d.cl, .int .i64 d.f, .int .i64 d.cf, .int .i64 d.ct]) (d := 81) (kl := ku) rfl ?_ ?_ ?_ ?_ ?_ Tryz.useKeyed Tryz.underlying101 ?_ hku ?_ ?_ ?_
   · rfl
   · decide
   · rfl
   · rfl
   · exact fun w hw => hw.2.1
   · exact zero_of Tryz.zrPtr
   · intro g hg; obtain ⟨u, hu, rfl, _⟩ := hU.at hg; rw [lookBig (by decide), lookBig (by decide), lookBig (by decide), lookBig (by decide), hU.look hu]; rfl
   · intro hno
     simp only [go_sem, simprocAttr, hF]
     refine hand_isNil (d := 82) (u := .v (.pointer none)) rfl rfl (by decide) Tryz.ptrType rfl (.inr rfl) ?_
     simp only [go_sem, simprocAttr, hF]
     repeat (first
      | (with_reducible (first | refine sops_go ?_ | refine headW_end ?_ | refine sops_end ?_ | refine awp_if ?_ | refine awp_skip ?_ | refine awp_ret ?_ | refine awp_exit ?_); simp only [go_sem, simprocAttr, hF])
      | ((with_reducible refine headW_go ?_); simp only [go_sem, simprocAttr, hF, hbx])
      | with_reducible refine awp_seq_k fun _ _ => ?_
      | (refine awp_drawA' (id := 19) [96, 139, 1000029, 1000046, 1000074, 1000081, 1000082, 1000089, 1000092, 1000105, 1000106, 1000108, 1000117, 1000158] 12 (by kernel_rfl) (by kernel_rfl) rfl rfl rfl rfl rfl rfl (fun bx0 hbx => ?_); try dsimp only [List.take, List.drop])
      | (refine awp_draw' (id := 26) [96, 139, 1000029, 1000046, 1000074, 1000081, 1000082, 1000089, 1000092, 1000105, 1000106, 1000108, 1000117, 1000158] 14 (by kernel_rfl) (by kernel_rfl) rfl rfl (fun bx0 hbx => ?_); try dsimp only [List.take, List.drop])
      | (refine awp_draw' (id := 30) [96, 139, 1000029, 1000046, 1000074, 1000081, 1000082, 1000089, 1000092, 1000105, 1000106, 1000108, 1000117, 1000158] 16 (by kernel_rfl) (by kernel_rfl) rfl rfl (fun bx0 hbx => ?_); try dsimp only [List.take, List.drop])
      | with_reducible (first | refine awp_region [96, 139, 1000029, 1000046, 1000074, 1000081, 1000082, 1000089, 1000092, 1000105, 1000106, 1000108, 1000117, 1000158] ?_ | refine awp_block ?_)
      | go_step)
     refine hand_mapUpdate_ref (k := 103) (b := b2) (nn := k2) (kb := 86) (G := G2) (xs := [.int .i64 d.cl, .int .i64 d.f, .int .i64 d.cf, .int .i64 d.ct]) (kl := ku) (E' := fun nn G => (Ext.nil.and (mapE Tryz.prog 100 (plainElem Tryz.prog 3) b1 n.lk.length GL)).and (mapE Tryz.prog 103 ptrR b2 nn G)) rfl ?_ ?_ ?_ ?_ ?_ ?_ ?_ ?_ Tryz.useKeyed Tryz.underlying101 hku ?_ ?_
     · rfl
     · rfl
     · rfl
     · rfl
     · decide
     · exact fun off => lookL_dyn_none (by omega)
     · exact fun w hw => hw.2.1
     · have : maxLen = 9223372036854775807 := rfl; omega
     · exact fun w w1 G' hl hh ht => Turn.right (fun b hb => hl b (hb.elim (fun h => .inl (.inl h)) (fun h => .inr (.inl h)))) hh ht
     intro g G3 hgn hG1 hG2
     have hU3 : UsesOK n.lk r.al k2 (⟨d.cl, d.f, d.cf, d.ct, g, []⟩ :: U) G3 := hU.new (hU.no hno) (fun u hu e => by
      subst e
      rw [lookBig (by decide), lookBig (by decide), lookBig (by decide), lookBig (by decide), lookBig (by decide), hU.look hu] at hgn
      cases hgn) hG1 hG2
     simp only [go_sem, simprocAttr, hF]
     repeat (first
      | (with_reducible (first | refine sops_go ?_ | refine headW_end ?_ | refine sops_end ?_ | refine awp_if ?_ | refine awp_skip ?_ | refine awp_ret ?_ | refine awp_exit ?_); simp only [go_sem, simprocAttr, hF])
      | ((with_reducible refine headW_go ?_); simp only [go_sem, simprocAttr, hF, hbx])
      | with_reducible refine awp_seq_k fun _ _ => ?_
      | (refine awp_draw' (id := 26) [96, 139, 1000029, 1000046, 1000074, 1000081, 1000082, 1000089, 1000092, 1000105, 1000106, 1000108, 1000117, 1000158] 14 (by kernel_rfl) (by kernel_rfl) rfl rfl (fun bx0 hbx => ?_); try dsimp only [List.take, List.drop])
      | (refine awp_draw' (id := 30) [96, 139, 1000029, 1000046, 1000074, 1000081, 1000082, 1000089, 1000092, 1000105, 1000106, 1000108, 1000117, 1000158] 16 (by kernel_rfl) (by kernel_rfl) rfl rfl (fun bx0 hbx => ?_); try dsimp only [List.take, List.drop])
      | (with_reducible refine awp_region (id := 0) [96, 139, 1000029, 1000046, 1000074, 1000081, 1000082, 1000089, 1000092, 1000105, 1000106, 1000108, 1000117, 1000158] ?_)
      | (with_reducible refine awp_region (id := 1) [96, 139, 1000029, 1000046, 1000074, 1000081, 1000082, 1000089, 1000092, 1000105, 1000106, 1000108, 1000117, 1000158] ?_)
      | (with_reducible refine awp_region (id := 2) [96, 139, 1000029, 1000046, 1000074, 1000081, 1000082, 1000089, 1000092, 1000105, 1000106, 1000108, 1000117, 1000158] ?_)
      | (with_reducible refine awp_region (id := 3) [96, 139, 1000029, 1000046, 1000074, 1000081, 1000082, 1000089, 1000092, 1000105, 1000106, 1000108, 1000117, 1000158] ?_)
      | (with_reducible refine awp_region (id := 4) [96, 139, 1000029, 1000046, 1000074, 1000081, 1000082, 1000089, 1000092, 1000105, 1000106, 1000108, 1000117, 1000158] ?_)
      | (with_reducible refine awp_region (id := 5) [96, 139, 1000029, 1000046, 1000074, 1000081, 1000082, 1000089, 1000092, 1000105, 1000106, 1000108, 1000117, 1000158] ?_)
      | (with_reducible refine awp_region (id := 6) [96, 139, 1000029, 1000046, 1000074, 1000081, 1000082, 1000089, 1000092, 1000105, 1000106, 1000108, 1000117, 1000158] ?_)
      | (with_reducible refine awp_region (id := 7) [96, 139, 1000029, 1000046, 1000074, 1000081, 1000082, 1000089, 1000092, 1000105, 1000106, 1000108, 1000117, 1000158] ?_)
      | (with_reducible refine awp_region (id := 8) [96, 139, 1000029, 1000046, 1000074, 1000081, 1000082, 1000089, 1000092, 1000105, 1000106, 1000108, 1000117, 1000158] ?_)
      | (with_reducible refine awp_region (id := 9) [96, 139, 1000029, 1000046, 1000074, 1000081, 1000082, 1000089, 1000092, 1000105, 1000106, 1000108, 1000117, 1000158] ?_)
      | (with_reducible refine awp_region (id := 10) [96, 139, 1000029, 1000046, 1000074, 1000081, 1000082, 1000089, 1000092, 1000105, 1000106, 1000108, 1000117, 1000158] ?_)
      | (with_reducible refine awp_region (id := 11) [96, 139, 1000029, 1000046, 1000074, 1000081, 1000082, 1000089, 1000092, 1000105, 1000106, 1000108, 1000117, 1000158] ?_)
      | (with_reducible refine awp_region (id := 12) [96, 139, 1000029, 1000046, 1000074, 1000081, 1000082, 1000089, 1000092, 1000105, 1000106, 1000108, 1000117, 1000158] ?_)
      | (with_reducible refine awp_region (id := 13) [96, 139, 1000029, 1000046, 1000074, 1000081, 1000082, 1000089, 1000092, 1000105, 1000106, 1000108, 1000117, 1000158] ?_)
      | (with_reducible refine awp_region (id := 14) [96, 139, 1000029, 1000046, 1000074, 1000081, 1000082, 1000089, 1000092, 1000105, 1000106, 1000108, 1000117, 1000158] ?_)
      | (with_reducible refine awp_region (id := 15) [96, 139, 1000029, 1000046, 1000074, 1000081, 1000082, 1000089, 1000092, 1000105, 1000106, 1000108, 1000117, 1000158] ?_)
      | (with_reducible refine awp_region (id := 16) [96, 139, 1000029, 1000046, 1000074, 1000081, 1000082, 1000089, 1000092, 1000105, 1000106, 1000108, 1000117, 1000158] ?_)
      | (with_reducible refine awp_region (id := 17) [96, 139, 1000029, 1000046, 1000074, 1000081, 1000082, 1000089, 1000092, 1000105, 1000106, 1000108, 1000117, 1000158] ?_)
      | (with_reducible refine awp_region (id := 18) [96, 139, 1000029, 1000046, 1000074, 1000081, 1000082, 1000089, 1000092, 1000105, 1000106, 1000108, 1000117, 1000158] ?_)
      | (with_reducible refine awp_region (id := 20) [96, 139, 1000029, 1000046, 1000074, 1000081, 1000082, 1000089, 1000092, 1000105, 1000106, 1000108, 1000117, 1000158] ?_)
      | (with_reducible refine awp_region (id := 21) [96, 139, 1000029, 1000046, 1000074, 1000081, 1000082, 1000089, 1000092, 1000105, 1000106, 1000108, 1000117, 1000158] ?_)
      | (with_reducible refine awp_region (id := 22) [96, 139, 1000029, 1000046, 1000074, 1000081, 1000082, 1000089, 1000092, 1000105, 1000106, 1000108, 1000117, 1000158] ?_)
      | (with_reducible refine awp_region (id := 23) [96, 139, 1000029, 1000046, 1000074, 1000081, 1000082, 1000089, 1000092, 1000105, 1000106, 1000108, 1000117, 1000158] ?_)
      | (with_reducible refine awp_region (id := 24) [96, 139, 1000029, 1000046, 1000074, 1000081, 1000082, 1000089, 1000092, 1000105, 1000106, 1000108, 1000117, 1000158] ?_)
      | (with_reducible refine awp_region (id := 25) [96, 139, 1000029, 1000046, 1000074, 1000081, 1000082, 1000089, 1000092, 1000105, 1000106, 1000108, 1000117, 1000158] ?_)
      | (with_reducible refine awp_region (id := 27) [96, 139, 1000029, 1000046, 1000074, 1000081, 1000082, 1000089, 1000092, 1000105, 1000106, 1000108, 1000117, 1000158] ?_)
      | (with_reducible refine awp_region (id := 28) [96, 139, 1000029, 1000046, 1000074, 1000081, 1000082, 1000089, 1000092, 1000105, 1000106, 1000108, 1000117, 1000158] ?_)
      | (with_reducible refine awp_region (id := 29) [96, 139, 1000029, 1000046, 1000074, 1000081, 1000082, 1000089, 1000092, 1000105, 1000106, 1000108, 1000117, 1000158] ?_)
      | (with_reducible refine awp_region (id := 31) [96, 139, 1000029, 1000046, 1000074, 1000081, 1000082, 1000089, 1000092, 1000105, 1000106, 1000108, 1000117, 1000158] ?_)
      | (with_reducible refine awp_region (id := 32) [96, 139, 1000029, 1000046, 1000074, 1000081, 1000082, 1000089, 1000092, 1000105, 1000106, 1000108, 1000117, 1000158] ?_)
      | (with_reducible refine awp_region (id := 33) [96, 139, 1000029, 1000046, 1000074, 1000081, 1000082, 1000089, 1000092, 1000105, 1000106, 1000108, 1000117, 1000158] ?_)
      | (with_reducible refine awp_block ?_)
      | go_step)
     refine awp_nilB (g + 1000000) 1 8 66 (cs := [.v (.int .i64 0), .v (.slice none 0 0), .v (.slice none 0 0)]) (by rw [Av.look_cons, if_pos rfl]) rfl ?_
     simp only [go_sem, simprocAttr, hF]
     repeat (first
      | (with_reducible (first | refine sops_go ?_ | refine headW_end ?_ | refine sops_end ?_ | refine awp_if ?_ | refine awp_skip ?_ | refine awp_ret ?_ | refine awp_exit ?_); simp only [go_sem, simprocAttr, hF])
      | ((with_reducible refine headW_go ?_); simp only [go_sem, simprocAttr, hF, hbx])
      | with_reducible refine awp_seq_k fun _ _ => ?_
      | (refine awp_drawA' (id := 19) [96, 139, 1000029, 1000046, 1000074, 1000081, 1000082, 1000089, 1000092, 1000105, 1000106, 1000108, 1000117, 1000158] 12 (by kernel_rfl) (by kernel_rfl) rfl rfl rfl rfl rfl rfl (fun bx0 hbx => ?_); try dsimp only [List.take, List.drop])
      | (refine awp_draw' (id := 26) [96, 139, 1000029, 1000046, 1000074, 1000081, 1000082, 1000089, 1000092, 1000105, 1000106, 1000108, 1000117, 1000158] 14 (by kernel_rfl) (by kernel_rfl) rfl rfl (fun bx0 hbx => ?_); try dsimp only [List.take, List.drop])
      | (refine awp_draw' (id := 30) [96, 139, 1000029, 1000046, 1000074, 1000081, 1000082, 1000089, 1000092, 1000105, 1000106, 1000108, 1000117, 1000158] 16 (by kernel_rfl) (by kernel_rfl) rfl rfl (fun bx0 hbx => ?_); try dsimp only [List.take, List.drop])
      | with_reducible (first | refine awp_region [96, 139, 1000029, 1000046, 1000074, 1000081, 1000082, 1000089, 1000092, 1000105, 1000106, 1000108, 1000117, 1000158] ?_ | refine awp_block ?_)
      | go_step)
     refine ⟨⟨.ref (g + 1000000) 0, none, none⟩, handq_lookup_ref (k := 103) (b := b2) (nn := k2 + 1) (G := G3) (xs := [.int .i64 d.cl, .int .i64 d.f, .int .i64 d.cf, .int .i64 d.ct]) (kl := ku) rfl rfl (by decide) rfl rfl (fun w hw => hw.2.1) Tryz.useKeyed Tryz.underlying101 (zero_of Tryz.zrPtr) hku hG1 (by rw [if_pos rfl]; rfl), rfl, ?_⟩
     simp only [go_sem, simprocAttr, hF]
     repeat (first
      | (with_reducible (first | refine sops_go ?_ | refine headW_end ?_ | refine sops_end ?_ | refine awp_if ?_ | refine awp_skip ?_ | refine awp_ret ?_ | refine awp_exit ?_); simp only [go_sem, simprocAttr, hF])
      | ((with_reducible refine headW_go ?_); simp only [go_sem, simprocAttr, hF, hbx])
      | with_reducible refine awp_seq_k fun _ _ => ?_
      | (refine awp_drawA' (id := 19) [96, 139, 1000029, 1000046, 1000074, 1000081, 1000082, 1000089, 1000092, 1000105, 1000106, 1000108, 1000117, 1000158] 12 (by kernel_rfl) (by kernel_rfl) rfl rfl rfl rfl rfl rfl (fun bx0 hbx => ?_); try dsimp only [List.take, List.drop])
      | (refine awp_draw' (id := 26) [96, 139, 1000029, 1000046, 1000074, 1000081, 1000082, 1000089, 1000092, 1000105, 1000106, 1000108, 1000117, 1000158] 14 (by kernel_rfl) (by kernel_rfl) rfl rfl (fun bx0 hbx => ?_); try dsimp only [List.take, List.drop])
      | (refine awp_draw' (id := 30) [96, 139, 1000029, 1000046, 1000074, 1000081, 1000082, 1000089, 1000092, 1000105, 1000106, 1000108, 1000117, 1000158] 16 (by kernel_rfl) (by kernel_rfl) rfl rfl (fun bx0 hbx => ?_); try dsimp only [List.take, List.drop])
      | with_reducible (first | refine awp_region [96, 139, 1000029, 1000046, 1000074, 1000081, 1000082, 1000089, 1000092, 1000105, 1000106, 1000108, 1000117, 1000158] ?_ | refine awp_block ?_)
      | go_step)
     refine ⟨⟨.ref (g + 1000000) 0, none, none⟩, handq_lookup_ref (k := 103) (b := b2) (nn := k2 + 1) (G := G3) (xs := [.int .i64 d.cl, .int .i64 d.f, .int .i64 d.cf, .int .i64 d.ct]) (kl := ku) rfl rfl (by decide) rfl rfl (fun w hw => hw.2.1) Tryz.useKeyed Tryz.underlying101 (zero_of Tryz.zrPtr) hku hG1 (by rw [if_pos rfl]; rfl), rfl, ?_⟩
     simp only [go_sem, simprocAttr, hF]
     repeat (first
      | (with_reducible (first | refine sops_go ?_ | refine headW_end ?_ | refine sops_end ?_ | refine awp_if ?_ | refine awp_skip ?_ | refine awp_ret ?_ | refine awp_exit ?_); simp only [go_sem, simprocAttr, hF])
      | ((with_reducible refine headW_go ?_); simp only [go_sem, simprocAttr, hF, hbx])
      | with_reducible refine awp_seq_k fun _ _ => ?_
      | (refine awp_drawA' (id := 19) [96, 139, 1000029, 1000046, 1000074, 1000081, 1000082, 1000089, 1000092, 1000105, 1000106, 1000108, 1000117, 1000158] 12 (by kernel_rfl) (by kernel_rfl) rfl rfl rfl rfl rfl rfl (fun bx0 hbx => ?_); try dsimp only [List.take, List.drop])
      | (refine awp_draw' (id := 26) [96, 139, 1000029, 1000046, 1000074, 1000081, 1000082, 1000089, 1000092, 1000105, 1000106, 1000108, 1000117, 1000158] 14 (by kernel_rfl) (by kernel_rfl) rfl rfl (fun bx0 hbx => ?_); try dsimp only [List.take, List.drop])
      | (refine awp_draw' (id := 30) [96, 139, 1000029, 1000046, 1000074, 1000081, 1000082, 1000089, 1000092, 1000105, 1000106, 1000108, 1000117, 1000158] 16 (by kernel_rfl) (by kernel_rfl) rfl rfl (fun bx0 hbx => ?_); try dsimp only [List.take, List.drop])
      | with_reducible (first | refine awp_region [96, 139, 1000029, 1000046, 1000074, 1000081, 1000082, 1000089, 1000092, 1000105, 1000106, 1000108, 1000117, 1000158] ?_ | refine awp_block ?_)
      | go_step)
     have hS := hU3.succ hdk (useAt_head _ _ _ _ _ _ _) hlo
     rw [dropU_self] at hS
     refine ⟨⟨(k2 + 1, ⟨d.cl, d.f, d.cf, d.ct, g, [] ++ [d]⟩ :: dropU g U, G3), by dsimp only; omega, UsesFull.snoc hS hUF.2⟩, by dsimp only; omega, hR3 _ _ (sub_mk ?_)⟩
     simp only [go_sem, simprocAttr, hF, hw2, Us.row, List.map_append]
     refine ⟨allS_dyn.2 fun v hv => ?_, allO_dyn.2 fun v hv => ?_⟩
     · obtain ⟨q1, q2⟩ := mem_dropU.1 hv
       rw [if_neg (by omega), if_neg (by omega), if_neg (by omega), if_neg (by omega), if_neg (by omega), if_neg (by omega), if_neg (by omega)]
       exact hU.look q1
     · obtain ⟨q1, q2⟩ := mem_dropU.1 hv
       refine ⟨?_, avAt_of (cs := v.row) ?_ ?_⟩
       · dsimp only
         repeat (first | rw [lookL_other q2] | rw [lookL_sb])
         exact hU.ownD hv _
       · dsimp only
         repeat (first | rw [look_other q2] | rw [lookBig (by decide)])
         exact hU.lookD hv
       · dsimp only
         repeat (first | rw [look_other q2] | rw [lookBig (by decide)])
         exact hU.look q1
   intro g hg
   simp only [go_sem, simprocAttr, hF]
   obtain ⟨u0, hu0, rfl, hat⟩ := hU.at hg
   have hL : u0.al.length ≤ 99999999 := by
    have h1 := hU.att u0 hu0
    have h2 := List.length_filter_le (inUse u0) (r.al.take k2)
    have h3 : (r.al.take k2).length ≤ k2 := by rw [List.length_take]; omega
    rw [← h1] at h2
    omega
   have hbg := hU.look hu0
   have hog := hU.own hu0 66
   unfold Us.row at hbg
   refine hand_isNil (d := 82) (u := .ref (u0.g + 1000000) 0) rfl rfl (by decide) Tryz.ptrType rfl (.inl rfl) ?_
   simp only [go_sem, simprocAttr, hF]
   repeat (first
    | (with_reducible (first | refine sops_go ?_ | refine headW_end ?_ | refine sops_end ?_ | refine awp_if ?_ | refine awp_skip ?_ | refine awp_ret ?_ | refine awp_exit ?_); simp only [go_sem, simprocAttr, hF])
    | ((with_reducible refine headW_go ?_); simp only [go_sem, simprocAttr, hF, hbx])
    | with_reducible refine awp_seq_k fun _ _ => ?_
    | (refine awp_draw' (id := 26) [96, 139, 1000029, 1000046, 1000074, 1000081, 1000082, 1000089, 1000092, 1000105, 1000106, 1000108, 1000117, 1000158] 14 (by kernel_rfl) (by kernel_rfl) rfl rfl (fun bx0 hbx => ?_); try dsimp only [List.take, List.drop])
    | (refine awp_draw' (id := 30) [96, 139, 1000029, 1000046, 1000074, 1000081, 1000082, 1000089, 1000092, 1000105, 1000106, 1000108, 1000117, 1000158] 16 (by kernel_rfl) (by kernel_rfl) rfl rfl (fun bx0 hbx => ?_); try dsimp only [List.take, List.drop])
    | (with_reducible refine awp_region (id := 0) [96, 139, 1000029, 1000046, 1000074, 1000081, 1000082, 1000089, 1000092, 1000105, 1000106, 1000108, 1000117, 1000158] ?_)
    | (with_reducible refine awp_region (id := 1) [96, 139, 1000029, 1000046, 1000074, 1000081, 1000082, 1000089, 1000092, 1000105, 1000106, 1000108, 1000117, 1000158] ?_)
    | (with_reducible refine awp_region (id := 2) [96, 139, 1000029, 1000046, 1000074, 1000081, 1000082, 1000089, 1000092, 1000105, 1000106, 1000108, 1000117, 1000158] ?_)
    | (with_reducible refine awp_region (id := 3) [96, 139, 1000029, 1000046, 1000074, 1000081, 1000082, 1000089, 1000092, 1000105, 1000106, 1000108, 1000117, 1000158] ?_)
    | (with_reducible refine awp_region (id := 4) [96, 139, 1000029, 1000046, 1000074, 1000081, 1000082, 1000089, 1000092, 1000105, 1000106, 1000108, 1000117, 1000158] ?_)
    | (with_reducible refine awp_region (id := 5) [96, 139, 1000029, 1000046, 1000074, 1000081, 1000082, 1000089, 1000092, 1000105, 1000106, 1000108, 1000117, 1000158] ?_)
    | (with_reducible refine awp_region (id := 6) [96, 139, 1000029, 1000046, 1000074, 1000081, 1000082, 1000089, 1000092, 1000105, 1000106, 1000108, 1000117, 1000158] ?_)
    | (with_reducible refine awp_region (id := 7) [96, 139, 1000029, 1000046, 1000074, 1000081, 1000082, 1000089, 1000092, 1000105, 1000106, 1000108, 1000117, 1000158] ?_)
    | (with_reducible refine awp_region (id := 8) [96, 139, 1000029, 1000046, 1000074, 1000081, 1000082, 1000089, 1000092, 1000105, 1000106, 1000108, 1000117, 1000158] ?_)
    | (with_reducible refine awp_region (id := 9) [96, 139, 1000029, 1000046, 1000074, 1000081, 1000082, 1000089, 1000092, 1000105, 1000106, 1000108, 1000117, 1000158] ?_)
    | (with_reducible refine awp_region (id := 10) [96, 139, 1000029, 1000046, 1000074, 1000081, 1000082, 1000089, 1000092, 1000105, 1000106, 1000108, 1000117, 1000158] ?_)
    | (with_reducible refine awp_region (id := 11) [96, 139, 1000029, 1000046, 1000074, 1000081, 1000082, 1000089, 1000092, 1000105, 1000106, 1000108, 1000117, 1000158] ?_)
    | (with_reducible refine awp_region (id := 12) [96, 139, 1000029, 1000046, 1000074, 1000081, 1000082, 1000089, 1000092, 1000105, 1000106, 1000108, 1000117, 1000158] ?_)
    | (with_reducible refine awp_region (id := 13) [96, 139, 1000029, 1000046, 1000074, 1000081, 1000082, 1000089, 1000092, 1000105, 1000106, 1000108, 1000117, 1000158] ?_)
    | (with_reducible refine awp_region (id := 14) [96, 139, 1000029, 1000046, 1000074, 1000081, 1000082, 1000089, 1000092, 1000105, 1000106, 1000108, 1000117, 1000158] ?_)
    | (with_reducible refine awp_region (id := 15) [96, 139, 1000029, 1000046, 1000074, 1000081, 1000082, 1000089, 1000092, 1000105, 1000106, 1000108, 1000117, 1000158] ?_)
    | (with_reducible refine awp_region (id := 16) [96, 139, 1000029, 1000046, 1000074, 1000081, 1000082, 1000089, 1000092, 1000105, 1000106, 1000108, 1000117, 1000158] ?_)
    | (with_reducible refine awp_region (id := 17) [96, 139, 1000029, 1000046, 1000074, 1000081, 1000082, 1000089, 1000092, 1000105, 1000106, 1000108, 1000117, 1000158] ?_)
    | (with_reducible refine awp_region (id := 18) [96, 139, 1000029, 1000046, 1000074, 1000081, 1000082, 1000089, 1000092, 1000105, 1000106, 1000108, 1000117, 1000158] ?_)
    | (with_reducible refine awp_region (id := 20) [96, 139, 1000029, 1000046, 1000074, 1000081, 1000082, 1000089, 1000092, 1000105, 1000106, 1000108, 1000117, 1000158] ?_)
    | (with_reducible refine awp_region (id := 21) [96, 139, 1000029, 1000046, 1000074, 1000081, 1000082, 1000089, 1000092, 1000105, 1000106, 1000108, 1000117, 1000158] ?_)
    | (with_reducible refine awp_region (id := 22) [96, 139, 1000029, 1000046, 1000074, 1000081, 1000082, 1000089, 1000092, 1000105, 1000106, 1000108, 1000117, 1000158] ?_)
    | (with_reducible refine awp_region (id := 23) [96, 139, 1000029, 1000046, 1000074, 1000081, 1000082, 1000089, 1000092, 1000105, 1000106, 1000108, 1000117, 1000158] ?_)
    | (with_reducible refine awp_region (id := 24) [96, 139, 1000029, 1000046, 1000074, 1000081, 1000082, 1000089, 1000092, 1000105, 1000106, 1000108, 1000117, 1000158] ?_)
    | (with_reducible refine awp_region (id := 25) [96, 139, 1000029, 1000046, 1000074, 1000081, 1000082, 1000089, 1000092, 1000105, 1000106, 1000108, 1000117, 1000158] ?_)
    | (with_reducible refine awp_region (id := 27) [96, 139, 1000029, 1000046, 1000074, 1000081, 1000082, 1000089, 1000092, 1000105, 1000106, 1000108, 1000117, 1000158] ?_)
    | (with_reducible refine awp_region (id := 28) [96, 139, 1000029, 1000046, 1000074, 1000081, 1000082, 1000089, 1000092, 1000105, 1000106, 1000108, 1000117, 1000158] ?_)
    | (with_reducible refine awp_region (id := 29) [96, 139, 1000029, 1000046, 1000074, 1000081, 1000082, 1000089, 1000092, 1000105, 1000106, 1000108, 1000117, 1000158] ?_)
    | (with_reducible refine awp_region (id := 31) [96, 139, 1000029, 1000046, 1000074, 1000081, 1000082, 1000089, 1000092, 1000105, 1000106, 1000108, 1000117, 1000158] ?_)
    | (with_reducible refine awp_region (id := 32) [96, 139, 1000029, 1000046, 1000074, 1000081, 1000082, 1000089, 1000092, 1000105, 1000106, 1000108, 1000117, 1000158] ?_)
    | (with_reducible refine awp_region (id := 33) [96, 139, 1000029, 1000046, 1000074, 1000081, 1000082, 1000089, 1000092, 1000105, 1000106, 1000108, 1000117, 1000158] ?_)
    | (with_reducible refine awp_block ?_)
    | go_step)
   refine awp_turn (E := (Ext.nil.and (mapE Tryz.prog 100 (plainElem Tryz.prog 3) b1 n.lk.length GL)).and (mapE Tryz.prog 103 ptrR b2 (k2 + 1) G2)) (fun w hw => ⟨hw.1, hw.2.1.mono (Nat.le_succ _), hw.2.2⟩) (fun b hb => hb) (fun b hb => .inr hb) ?_
   simp only [go_sem, simprocAttr, hF]
   repeat (first
    | (with_reducible (first | refine sops_go ?_ | refine headW_end ?_ | refine sops_end ?_ | refine awp_if ?_ | refine awp_skip ?_ | refine awp_ret ?_ | refine awp_exit ?_); simp only [go_sem, simprocAttr, hF])
    | ((with_reducible refine headW_go ?_); simp only [go_sem, simprocAttr, hF, hbx])
    | with_reducible refine awp_seq_k fun _ _ => ?_
    | (refine awp_drawA' (id := 19) [96, 139, 1000029, 1000046, 1000074, 1000081, 1000082, 1000089, 1000092, 1000105, 1000106, 1000108, 1000117, 1000158] 12 (by kernel_rfl) (by kernel_rfl) rfl rfl rfl rfl rfl rfl (fun bx0 hbx => ?_); try dsimp only [List.take, List.drop])
    | (refine awp_draw' (id := 26) [96, 139, 1000029, 1000046, 1000074, 1000081, 1000082, 1000089, 1000092, 1000105, 1000106, 1000108, 1000117, 1000158] 14 (by kernel_rfl) (by kernel_rfl) rfl rfl (fun bx0 hbx => ?_); try dsimp only [List.take, List.drop])
    | (refine awp_draw' (id := 30) [96, 139, 1000029, 1000046, 1000074, 1000081, 1000082, 1000089, 1000092, 1000105, 1000106, 1000108, 1000117, 1000158] 16 (by kernel_rfl) (by kernel_rfl) rfl rfl (fun bx0 hbx => ?_); try dsimp only [List.take, List.drop])
    | with_reducible (first | refine awp_region [96, 139, 1000029, 1000046, 1000074, 1000081, 1000082, 1000089, 1000092, 1000105, 1000106, 1000108, 1000117, 1000158] ?_ | refine awp_block ?_)
    | go_step)
   refine ⟨⟨.ref (u0.g + 1000000) 0, none, none⟩, handq_lookup_ref (k := 103) (b := b2) (nn := k2 + 1) (G := G2) (xs := [.int .i64 d.cl, .int .i64 d.f, .int .i64 d.cf, .int .i64 d.ct]) (kl := ku) rfl rfl (by decide) rfl rfl (fun w hw => hw.2.1) Tryz.useKeyed Tryz.underlying101 (zero_of Tryz.zrPtr) hku hg (by rw [if_neg (by omega), if_neg (by omega), if_neg (by omega), if_neg (by omega), hbg]; rfl), rfl, ?_⟩
   simp only [go_sem, simprocAttr, hF]
   repeat (first
    | (with_reducible (first | refine sops_go ?_ | refine headW_end ?_ | refine sops_end ?_ | refine awp_if ?_ | refine awp_skip ?_ | refine awp_ret ?_ | refine awp_exit ?_); simp only [go_sem, simprocAttr, hF])
    | ((with_reducible refine headW_go ?_); simp only [go_sem, simprocAttr, hF, hbx])
    | with_reducible refine awp_seq_k fun _ _ => ?_
    | (refine awp_drawA' (id := 19) [96, 139, 1000029, 1000046, 1000074, 1000081, 1000082, 1000089, 1000092, 1000105, 1000106, 1000108, 1000117, 1000158] 12 (by kernel_rfl) (by kernel_rfl) rfl rfl rfl rfl rfl rfl (fun bx0 hbx => ?_); try dsimp only [List.take, List.drop])
    | (refine awp_draw' (id := 26) [96, 139, 1000029, 1000046, 1000074, 1000081, 1000082, 1000089, 1000092, 1000105, 1000106, 1000108, 1000117, 1000158] 14 (by kernel_rfl) (by kernel_rfl) rfl rfl (fun bx0 hbx => ?_); try dsimp only [List.take, List.drop])
    | (refine awp_draw' (id := 30) [96, 139, 1000029, 1000046, 1000074, 1000081, 1000082, 1000089, 1000092, 1000105, 1000106, 1000108, 1000117, 1000158] 16 (by kernel_rfl) (by kernel_rfl) rfl rfl (fun bx0 hbx => ?_); try dsimp only [List.take, List.drop])
    | with_reducible (first | refine awp_region [96, 139, 1000029, 1000046, 1000074, 1000081, 1000082, 1000089, 1000092, 1000105, 1000106, 1000108, 1000117, 1000158] ?_ | refine awp_block ?_)
    | go_step)
   refine ⟨⟨.ref (u0.g + 1000000) 0, none, none⟩, handq_lookup_ref (k := 103) (b := b2) (nn := k2 + 1) (G := G2) (xs := [.int .i64 d.cl, .int .i64 d.f, .int .i64 d.cf, .int .i64 d.ct]) (kl := ku) rfl rfl (by decide) rfl rfl (fun w hw => hw.2.1) Tryz.useKeyed Tryz.underlying101 (zero_of Tryz.zrPtr) hku hg (by rw [if_neg (by omega), if_neg (by omega), if_neg (by omega), if_neg (by omega), hbg]; rfl), rfl, ?_⟩
   simp only [go_sem, simprocAttr, hF]
   repeat (first
    | (with_reducible (first | refine sops_go ?_ | refine headW_end ?_ | refine sops_end ?_ | refine awp_if ?_ | refine awp_skip ?_ | refine awp_ret ?_ | refine awp_exit ?_); simp only [go_sem, simprocAttr, hF, hbg, hog, hL])
    | ((with_reducible refine headW_go ?_); simp only [go_sem, simprocAttr, hF, hbg, hog, hL, hbx])
    | with_reducible refine awp_seq_k fun _ _ => ?_
    | (refine awp_drawA' (id := 19) [96, 139, 1000029, 1000046, 1000074, 1000081, 1000082, 1000089, 1000092, 1000105, 1000106, 1000108, 1000117, 1000158] 12 (by kernel_rfl) (by kernel_rfl) rfl rfl rfl rfl rfl rfl (fun bx0 hbx => ?_); try dsimp only [List.take, List.drop])
    | (refine awp_draw' (id := 26) [96, 139, 1000029, 1000046, 1000074, 1000081, 1000082, 1000089, 1000092, 1000105, 1000106, 1000108, 1000117, 1000158] 14 (by kernel_rfl) (by kernel_rfl) rfl rfl (fun bx0 hbx => ?_); try dsimp only [List.take, List.drop])
    | (refine awp_draw' (id := 30) [96, 139, 1000029, 1000046, 1000074, 1000081, 1000082, 1000089, 1000092, 1000105, 1000106, 1000108, 1000117, 1000158] 16 (by kernel_rfl) (by kernel_rfl) rfl rfl (fun bx0 hbx => ?_); try dsimp only [List.take, List.drop])
    | with_reducible (first | refine awp_region [96, 139, 1000029, 1000046, 1000074, 1000081, 1000082, 1000089, 1000092, 1000105, 1000106, 1000108, 1000117, 1000158] ?_ | refine awp_block ?_)
    | go_step)
   have hS := hU.succ hdk hat hlo
   refine ⟨⟨(k2 + 1, ⟨d.cl, d.f, d.cf, d.ct, u0.g, u0.al ++ [d]⟩ :: dropU u0.g U, G2), by dsimp only; omega, UsesFull.snoc hS hUF.2⟩, by dsimp only; omega, hR3 _ _ (sub_mk ?_)⟩
   simp only [go_sem, simprocAttr, hF, hw2, Us.row, List.map_append]
   refine ⟨allS_dyn.2 fun v hv => ?_, allO_dyn.2 fun v hv => ?_⟩
   · obtain ⟨q1, q2⟩ := mem_dropU.1 hv
     rw [if_neg (by omega), if_neg (by omega), if_neg (by omega), if_neg (by omega), if_neg (by omega)]
     exact hU.look q1
   · obtain ⟨q1, q2⟩ := mem_dropU.1 hv
     refine ⟨?_, avAt_of (cs := v.row) ?_ ?_⟩
     · dsimp only
       repeat (first | rw [lookL_other q2] | rw [lookL_sb])
       exact hU.ownD hv _
     · dsimp only
       repeat (first | rw [look_other q2] | rw [lookBig (by decide)])
       exact hU.lookD hv
     · dsimp only
       repeat (first | rw [look_other q2] | rw [lookBig (by decide)])
       exact hU.look q1
  obtain ⟨d, hdk⟩ := get_of_lt hlt
  have hd : decide ((k : Int) < (n.lk.length : Int)) = true := decide_eq_true (by omega)
  have hw : IntKind.i64.wrap ((k : Int) + 1) = ((k + 1 : Nat) : Int) := by rw [IntKind.wrap_i64]; omega
  obtain ⟨_, hrange⟩ := chkN_links hn
  have hbd := hrange d (List.mem_of_getElem? hdk)
  have hnum : Num64 d.fr ∧ Num64 d.tt ∧ Num64 d.ls := ⟨num64_of (by omega), num64_of (by omega), num64_of (by omega)⟩
  clear hrange
  obtain ⟨kl, hkl⟩ := keyOf_link hnum.1 hnum.2.1
  repeat (first
   | (with_reducible (first | refine sops_go ?_ | refine headW_end ?_ | refine sops_end ?_ | refine awp_if ?_ | refine awp_skip ?_ | refine awp_ret ?_ | refine awp_exit ?_); simp only [go_sem, simprocAttr, hF, hd, hdk])
   | ((with_reducible refine headW_go ?_); simp only [go_sem, simprocAttr, hF, hd, hdk, hbx])
   | with_reducible refine awp_seq_k fun _ _ => ?_
   | (refine awp_drawA' (id := 19) [96, 139, 1000029, 1000046, 1000074, 1000081, 1000082, 1000089, 1000092, 1000105, 1000106, 1000108, 1000117, 1000158] 12 (by kernel_rfl) (by kernel_rfl) rfl rfl rfl rfl rfl rfl (fun bx0 hbx => ?_); try dsimp only [List.take, List.drop])
   | (refine awp_draw' (id := 26) [96, 139, 1000029, 1000046, 1000074, 1000081, 1000082, 1000089, 1000092, 1000105, 1000106, 1000108, 1000117, 1000158] 14 (by kernel_rfl) (by kernel_rfl) rfl rfl (fun bx0 hbx => ?_); try dsimp only [List.take, List.drop])
   | (refine awp_draw' (id := 30) [96, 139, 1000029, 1000046, 1000074, 1000081, 1000082, 1000089, 1000092, 1000105, 1000106, 1000108, 1000117, 1000158] 16 (by kernel_rfl) (by kernel_rfl) rfl rfl (fun bx0 hbx => ?_); try dsimp only [List.take, List.drop])
   | with_reducible (first | refine awp_region [96, 139, 1000029, 1000046, 1000074, 1000081, 1000082, 1000089, 1000092, 1000105, 1000106, 1000108, 1000117, 1000158] ?_ | refine awp_block ?_)
   | go_step)
  refine hand_mapUpdate (k := 100) (R := (plainElem Tryz.prog 3)) (b := b1) (nn := k) (G := G) (xs := [.int .i64 d.fr, .int .i64 d.tt]) (kl := kl) (val := .int .i64 d.ls) (dd := .lit (.int .i64 d.ls)) (ps := []) (E' := fun nn G => Ext.nil.and (mapE Tryz.prog 100 (plainElem Tryz.prog 3) b1 nn G)) rfl ?_ ?_ ?_ ?_ ?_ ?_ Tryz.lKeyed Tryz.underlying99 hkl (plainElem_int Tryz.underlying3 hnum.2.2) ?_ ?_
  · rfl
  · rfl
  · rfl
  · rfl
  · exact fun w hw => hw.2.1
  · have : maxLen = 9223372036854775807 := rfl; omega
  · exact fun w w1 G' hl hh ht => Turn.right (fun b hb => hl b (hb.elim (fun h => .inl (.inl h)) (fun h => .inr (.inl h)))) hh ht
  intro G' hG1 hG2
  simp only [go_sem, simprocAttr, hF]
  repeat (first
   | (with_reducible (first | refine sops_go ?_ | refine headW_end ?_ | refine sops_end ?_ | refine awp_if ?_ | refine awp_skip ?_ | refine awp_ret ?_ | refine awp_exit ?_); simp only [go_sem, simprocAttr, hF])
   | ((with_reducible refine headW_go ?_); simp only [go_sem, simprocAttr, hF, hbx])
   | with_reducible refine awp_seq_k fun _ _ => ?_
   | (refine awp_drawA' (id := 19) [96, 139, 1000029, 1000046, 1000074, 1000081, 1000082, 1000089, 1000092, 1000105, 1000106, 1000108, 1000117, 1000158] 12 (by kernel_rfl) (by kernel_rfl) rfl rfl rfl rfl rfl rfl (fun bx0 hbx => ?_); try dsimp only [List.take, List.drop])
   | (refine awp_draw' (id := 26) [96, 139, 1000029, 1000046, 1000074, 1000081, 1000082, 1000089, 1000092, 1000105, 1000106, 1000108, 1000117, 1000158] 14 (by kernel_rfl) (by kernel_rfl) rfl rfl (fun bx0 hbx => ?_); try dsimp only [List.take, List.drop])
   | (refine awp_draw' (id := 30) [96, 139, 1000029, 1000046, 1000074, 1000081, 1000082, 1000089, 1000092, 1000105, 1000106, 1000108, 1000117, 1000158] 16 (by kernel_rfl) (by kernel_rfl) rfl rfl (fun bx0 hbx => ?_); try dsimp only [List.take, List.drop])
   | with_reducible (first | refine awp_region [96, 139, 1000029, 1000046, 1000074, 1000081, 1000082, 1000089, 1000092, 1000105, 1000106, 1000108, 1000117, 1000158] ?_ | refine awp_block ?_)
   | go_step)
  refine ⟨⟨(k + 1, G'), by dsimp only; omega, hG.succ hdk hG1 hG2⟩, by dsimp only; omega, hR _ _ (sub_mk ?_)⟩
  simp only [go_sem, simprocAttr, hF, hw]
end Go.Proofs.YticnppnejafhdaaGreatDoor

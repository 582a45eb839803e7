import Derived.Test.YticnppnejafhdaaGreatDoorZ11
set_option linter.unusedVariables false
set_option linter.unusedSimpArgs false
/- The reference's check of a flow, by abstract states. -/
namespace Go.Proofs.YticnppnejafhdaaGreatDoor
open Go.RowKit
open Nd Rc Mo
open Av
set_option maxRecDepth 100000
set_option linter.unusedSimpArgs false
attribute [local go_sem] Av.guardB Av.sop Av.hopx Av.hop Av.hopCall Av.hopF Av.hopB Av.evo Av.evos Av.avCells Av.loadK Av.bound Av.abin Av.aun Av.partsC Av.lfill Av.placesB Av.setAt Av.stl Av.takes Av.src Av.bxOf Av.ownOf Av.St.res Av.St.put Av.St.addBox Av.St.putOwn Av.delL Av.delS Av.look Av.lookL Av.storeSt Av.stealSt Av.St.setBox Av.keepL Av.hitB Av.snap Av.snaps Av.snapCaps Av.AV.lit Av.AV.refs Av.capRefs Av.PV.av Av.CV.av Av.startSt Av.steals Av.athen Av.ablock Av.appK Av.AllS Av.AllO Av.AllR Av.keepS Av.St.avAt Av.RetOK Av.retAll Av.retOne Av.intsOf Av.ptrB TypeDesc.isRow List.range_zero Option.some.injEq exists_eq_left' exists_eq_left exists_eq' exists_and_left exists_and_right exists_const true_and and_true and_self false_and and_false or_false false_or or_true true_or if_true if_false Bool.false_eq_true List.zipIdx_cons List.zipIdx_nil List.map_cons List.map_nil List.filter_cons List.filter_nil List.contains_cons List.contains_nil List.drop_succ_cons List.drop_zero List.take_succ_cons List.take_zero List.take_nil List.drop_nil List.length_cons List.length_nil List.cons_append List.nil_append List.append_nil List.getElem?_cons_zero List.getElem?_cons_succ List.getElem?_nil Option.bind_some Option.bind_none Option.map_some Option.map_none Option.isNone_none Option.isNone_some Option.isSome_some Option.isSome_none Bool.and_true Bool.true_and Bool.and_false Bool.false_and Bool.or_false Bool.false_or Bool.not_true Bool.not_false beq_true beq_false Bool.true_beq Bool.false_beq Loc.s.injEq Loc.b.injEq decide_true decide_false beq_self_eq_true Nat.zero_add Nat.add_zero List.getElem?_toArray List.toList_toArray List.size_toArray Value.oneCell' List.all_cons List.all_nil Value.int.injEq AV.v.injEq AV.sl.injEq AV.agg.injEq AV.ref.injEq AV.ept.injEq AV.tup.injEq Value.bool.injEq PV.v.injEq PV.sl.injEq List.isEmpty_nil List.isEmpty_cons forall_const not_true_eq_false not_false_eq_true true_implies false_implies Value.string.injEq List.length_map List.getElem?_map Int.toNat_natCast Int.natCast_nonneg List.length_append Value.cells implies_true TypeDesc.struct.injEq TypeDesc.slice.injEq TypeDesc.array.injEq List.getElem?_toArray Prod.mk.injEq and_assoc exists_false List.cons.injEq Operand.tmp.injEq ite_self AV.fnv.injEq AV.clo.injEq ne_eq eq_self Tryz.sz3 Tryz.zr3 Tryz.by3 Tryz.pl3 Tryz.is3 Tryz.underlying3 Tryz.sz4 Tryz.zr4 Tryz.by4 Tryz.pl4 Tryz.is4 Tryz.underlying4 Tryz.sz43 Tryz.zr43 Tryz.by43 Tryz.pl43 Tryz.is43 Tryz.underlying43 Tryz.sz35 Tryz.zr35 Tryz.by35 Tryz.pl35 Tryz.is35 Tryz.underlying35 Tryz.sz33 Tryz.zr33 Tryz.by33 Tryz.pl33 Tryz.is33 Tryz.underlying33 Tryz.sz28 Tryz.zr28 Tryz.by28 Tryz.pl28 Tryz.is28 Tryz.underlying28 Tryz.sz39 Tryz.zr39 Tryz.by39 Tryz.pl39 Tryz.is39 Tryz.underlying39 Tryz.sz57 Tryz.zr57 Tryz.by57 Tryz.pl57 Tryz.is57 Tryz.underlying57 Tryz.sz137 Tryz.zr137 Tryz.by137 Tryz.pl137 Tryz.is137 Tryz.underlying137 Tryz.sz66 Tryz.zr66 Tryz.by66 Tryz.pl66 Tryz.is66 Tryz.underlying66 Tryz.sz64 Tryz.zr64 Tryz.by64 Tryz.pl64 Tryz.is64 Tryz.underlying64 Tryz.sz60 Tryz.zr60 Tryz.by60 Tryz.pl60 Tryz.is60 Tryz.underlying60 Tryz.sz100 Tryz.zr100 Tryz.by100 Tryz.pl100 Tryz.is100 Tryz.underlying100 Tryz.sz103 Tryz.zr103 Tryz.by103 Tryz.pl103 Tryz.is103 Tryz.underlying103 Tryz.sz26 Tryz.zr26 Tryz.by26 Tryz.pl26 Tryz.is26 Tryz.underlying26 Tryz.sz120 Tryz.zr120 Tryz.by120 Tryz.pl120 Tryz.is120 Tryz.underlying120 Tryz.sz117 Tryz.zr117 Tryz.by117 Tryz.pl117 Tryz.is117 Tryz.underlying117 Tryz.sz30 Tryz.zr30 Tryz.by30 Tryz.pl30 Tryz.is30 Tryz.underlying30 Tryz.sz31 Tryz.zr31 Tryz.by31 Tryz.pl31 Tryz.is31 Tryz.underlying31 Tryz.sz40 Tryz.zr40 Tryz.by40 Tryz.pl40 Tryz.is40 Tryz.underlying40 Tryz.sz23 Tryz.zr23 Tryz.by23 Tryz.pl23 Tryz.is23 Tryz.underlying23 Tryz.sz24 Tryz.zr24 Tryz.by24 Tryz.pl24 Tryz.is24 Tryz.underlying24 Tryz.sz22 Tryz.zr22 Tryz.by22 Tryz.pl22 Tryz.is22 Tryz.underlying22 Tryz.sz42 Tryz.zr42 Tryz.by42 Tryz.pl42 Tryz.is42 Tryz.underlying42 Tryz.sz29 Tryz.zr29 Tryz.by29 Tryz.pl29 Tryz.is29 Tryz.underlying29 Tryz.sz83 Tryz.zr83 Tryz.by83 Tryz.pl83 Tryz.is83 Tryz.underlying83 Tryz.it39 Tryz.eg39 Tryz.it137 Tryz.eg137 Tryz.it66 Tryz.eg66 Tryz.it28 Tryz.eg28 Tryz.it60 Tryz.eg60 all_arr loc_ss loc_sb loc_bs loc_bb arr_two arr_one rg1 rg2 rg3 rg4 rg5 rg6 rg7 rg8 ResultVar.tmp.injEq Bool.not_true Bool.not_false undef Rc.Rec.pv Nd.Fl.pv Rc.Dlv.pv Rc.Att.pv Mo.Lt.pv Fn.func.injEq
set_option maxHeartbeats 2000000 in
theorem in32_ok (n a b : Int) : FnOK Tryz.prog 120 [iv n, iv a, iv b] ⟨bv (inR n a b), none⟩ := by
  refine fn_ok Tryz.func120 (by kernel_rfl) rfl (by rw [Tryz.ntmps120]; exact of_decide_eq_true rfl) (fun F hF => ?_)
  rw [Tryz.ntmps120] at hF
  rw [Tryz.results120]
  unfold inR
  cases h1 : decide (a ≤ n) <;> cases h2 : decide (n ≤ b)
  · repeat (first
      | (with_reducible (first | refine sops_go ?_ | refine headW_end ?_ | refine sops_end ?_ | refine awp_if ?_ | refine awp_skip ?_ | refine awp_ret ?_ | refine awp_exit ?_); simp only [go_sem, simprocAttr, hF, h1, h2])
      | with_reducible (first | refine awp_seq_k fun _ _ => ?_ | refine awp_region [] ?_ | refine awp_block ?_)
      | go_step)
    all_goals (try rfl)
  · repeat (first
      | (with_reducible (first | refine sops_go ?_ | refine headW_end ?_ | refine sops_end ?_ | refine awp_if ?_ | refine awp_skip ?_ | refine awp_ret ?_ | refine awp_exit ?_); simp only [go_sem, simprocAttr, hF, h1, h2])
      | with_reducible (first | refine awp_seq_k fun _ _ => ?_ | refine awp_region [] ?_ | refine awp_block ?_)
      | go_step)
    all_goals (try rfl)
  · repeat (first
      | (with_reducible (first | refine sops_go ?_ | refine headW_end ?_ | refine sops_end ?_ | refine awp_if ?_ | refine awp_skip ?_ | refine awp_ret ?_ | refine awp_exit ?_); simp only [go_sem, simprocAttr, hF, h1, h2])
      | with_reducible (first | refine awp_seq_k fun _ _ => ?_ | refine awp_region [] ?_ | refine awp_block ?_)
      | go_step)
    all_goals (try rfl)
  · repeat (first
      | (with_reducible (first | refine sops_go ?_ | refine headW_end ?_ | refine sops_end ?_ | refine awp_if ?_ | refine awp_skip ?_ | refine awp_ret ?_ | refine awp_exit ?_); simp only [go_sem, simprocAttr, hF, h1, h2])
      | with_reducible (first | refine awp_seq_k fun _ _ => ?_ | refine awp_region [] ?_ | refine awp_block ?_)
      | go_step)
    all_goals (try rfl)

set_option maxHeartbeats 20000000 in
theorem rFault_ok (nodes : Int) (f : Fl) (hn : 2 ≤ nodes ∧ nodes ≤ 32) : FnOK Tryz.prog 121 [iv nodes, .agg f.pv] ⟨iv (faultN nodes f), none⟩ := by
  have hwn : IntKind.i64.wrap (nodes - 1) = nodes - 1 := by rw [IntKind.wrap_i64]; omega
  refine fn_ok Tryz.func121 (by kernel_rfl) rfl (by rw [Tryz.ntmps121]; exact of_decide_eq_true rfl) (fun F hF => ?_)
  rw [Tryz.ntmps121] at hF
  rw [Tryz.results121]
  by_cases h0 : f.id < 0 ∨ 255 < f.id
  case pos =>
    have e0 : inR (f.id) (0) (255) = false := inR_f h0
    repeat (first
      | (with_reducible (first | refine sops_go ?_ | refine headW_end ?_ | refine sops_end ?_ | refine awp_if ?_ | refine awp_skip ?_ | refine awp_ret ?_ | refine awp_exit ?_); simp only [go_sem, simprocAttr, hF, e0, hwn])
      | with_reducible (first | refine awp_seq_k fun _ _ => ?_ | refine awp_region [] ?_ | refine awp_block ?_)
      | go_step)
    refine ⟨_, in32_ok (f.id) (0) (255), ?_⟩
    simp only [go_sem, simprocAttr, hF, e0, hwn]
    repeat (first
      | (with_reducible (first | refine sops_go ?_ | refine headW_end ?_ | refine sops_end ?_ | refine awp_if ?_ | refine awp_skip ?_ | refine awp_ret ?_ | refine awp_exit ?_); simp only [go_sem, simprocAttr, hF, e0, hwn])
      | with_reducible (first | refine awp_seq_k fun _ _ => ?_ | refine awp_region [] ?_ | refine awp_block ?_)
      | go_step)
    rw [faultN, if_pos (by omega)]
  have e0 : inR (f.id) (0) (255) = true := inR_t h0
  by_cases h1 : f.fr < 0 ∨ nodes - 1 < f.fr
  case pos =>
    have e1 : inR (f.fr) (0) (nodes - 1) = false := inR_f h1
    repeat (first
      | (with_reducible (first | refine sops_go ?_ | refine headW_end ?_ | refine sops_end ?_ | refine awp_if ?_ | refine awp_skip ?_ | refine awp_ret ?_ | refine awp_exit ?_); simp only [go_sem, simprocAttr, hF, e0, e1, hwn])
      | with_reducible (first | refine awp_seq_k fun _ _ => ?_ | refine awp_region [] ?_ | refine awp_block ?_)
      | go_step)
    refine ⟨_, in32_ok (f.id) (0) (255), ?_⟩
    simp only [go_sem, simprocAttr, hF, e0, e1, hwn]
    repeat (first
      | (with_reducible (first | refine sops_go ?_ | refine headW_end ?_ | refine sops_end ?_ | refine awp_if ?_ | refine awp_skip ?_ | refine awp_ret ?_ | refine awp_exit ?_); simp only [go_sem, simprocAttr, hF, e0, e1, hwn])
      | with_reducible (first | refine awp_seq_k fun _ _ => ?_ | refine awp_region [] ?_ | refine awp_block ?_)
      | go_step)
    refine ⟨_, in32_ok (f.fr) (0) (nodes - 1), ?_⟩
    simp only [go_sem, simprocAttr, hF, e0, e1, hwn]
    repeat (first
      | (with_reducible (first | refine sops_go ?_ | refine headW_end ?_ | refine sops_end ?_ | refine awp_if ?_ | refine awp_skip ?_ | refine awp_ret ?_ | refine awp_exit ?_); simp only [go_sem, simprocAttr, hF, e0, e1, hwn])
      | with_reducible (first | refine awp_seq_k fun _ _ => ?_ | refine awp_region [] ?_ | refine awp_block ?_)
      | go_step)
    rw [faultN, if_pos (by omega)]
  have e1 : inR (f.fr) (0) (nodes - 1) = true := inR_t h1
  by_cases h2 : f.tn < 0 ∨ nodes - 1 < f.tn
  case pos =>
    have e2 : inR (f.tn) (0) (nodes - 1) = false := inR_f h2
    repeat (first
      | (with_reducible (first | refine sops_go ?_ | refine headW_end ?_ | refine sops_end ?_ | refine awp_if ?_ | refine awp_skip ?_ | refine awp_ret ?_ | refine awp_exit ?_); simp only [go_sem, simprocAttr, hF, e0, e1, e2, hwn])
      | with_reducible (first | refine awp_seq_k fun _ _ => ?_ | refine awp_region [] ?_ | refine awp_block ?_)
      | go_step)
    refine ⟨_, in32_ok (f.id) (0) (255), ?_⟩
    simp only [go_sem, simprocAttr, hF, e0, e1, e2, hwn]
    repeat (first
      | (with_reducible (first | refine sops_go ?_ | refine headW_end ?_ | refine sops_end ?_ | refine awp_if ?_ | refine awp_skip ?_ | refine awp_ret ?_ | refine awp_exit ?_); simp only [go_sem, simprocAttr, hF, e0, e1, e2, hwn])
      | with_reducible (first | refine awp_seq_k fun _ _ => ?_ | refine awp_region [] ?_ | refine awp_block ?_)
      | go_step)
    refine ⟨_, in32_ok (f.fr) (0) (nodes - 1), ?_⟩
    simp only [go_sem, simprocAttr, hF, e0, e1, e2, hwn]
    repeat (first
      | (with_reducible (first | refine sops_go ?_ | refine headW_end ?_ | refine sops_end ?_ | refine awp_if ?_ | refine awp_skip ?_ | refine awp_ret ?_ | refine awp_exit ?_); simp only [go_sem, simprocAttr, hF, e0, e1, e2, hwn])
      | with_reducible (first | refine awp_seq_k fun _ _ => ?_ | refine awp_region [] ?_ | refine awp_block ?_)
      | go_step)
    refine ⟨_, in32_ok (f.tn) (0) (nodes - 1), ?_⟩
    simp only [go_sem, simprocAttr, hF, e0, e1, e2, hwn]
    repeat (first
      | (with_reducible (first | refine sops_go ?_ | refine headW_end ?_ | refine sops_end ?_ | refine awp_if ?_ | refine awp_skip ?_ | refine awp_ret ?_ | refine awp_exit ?_); simp only [go_sem, simprocAttr, hF, e0, e1, e2, hwn])
      | with_reducible (first | refine awp_seq_k fun _ _ => ?_ | refine awp_region [] ?_ | refine awp_block ?_)
      | go_step)
    rw [faultN, if_pos (by omega)]
  have e2 : inR (f.tn) (0) (nodes - 1) = true := inR_t h2
  by_cases h3 : f.pe < 1 ∨ 512 < f.pe
  case pos =>
    have e3 : inR (f.pe) (1) (512) = false := inR_f h3
    repeat (first
      | (with_reducible (first | refine sops_go ?_ | refine headW_end ?_ | refine sops_end ?_ | refine awp_if ?_ | refine awp_skip ?_ | refine awp_ret ?_ | refine awp_exit ?_); simp only [go_sem, simprocAttr, hF, e0, e1, e2, e3, hwn])
      | with_reducible (first | refine awp_seq_k fun _ _ => ?_ | refine awp_region [] ?_ | refine awp_block ?_)
      | go_step)
    refine ⟨_, in32_ok (f.id) (0) (255), ?_⟩
    simp only [go_sem, simprocAttr, hF, e0, e1, e2, e3, hwn]
    repeat (first
      | (with_reducible (first | refine sops_go ?_ | refine headW_end ?_ | refine sops_end ?_ | refine awp_if ?_ | refine awp_skip ?_ | refine awp_ret ?_ | refine awp_exit ?_); simp only [go_sem, simprocAttr, hF, e0, e1, e2, e3, hwn])
      | with_reducible (first | refine awp_seq_k fun _ _ => ?_ | refine awp_region [] ?_ | refine awp_block ?_)
      | go_step)
    refine ⟨_, in32_ok (f.fr) (0) (nodes - 1), ?_⟩
    simp only [go_sem, simprocAttr, hF, e0, e1, e2, e3, hwn]
    repeat (first
      | (with_reducible (first | refine sops_go ?_ | refine headW_end ?_ | refine sops_end ?_ | refine awp_if ?_ | refine awp_skip ?_ | refine awp_ret ?_ | refine awp_exit ?_); simp only [go_sem, simprocAttr, hF, e0, e1, e2, e3, hwn])
      | with_reducible (first | refine awp_seq_k fun _ _ => ?_ | refine awp_region [] ?_ | refine awp_block ?_)
      | go_step)
    refine ⟨_, in32_ok (f.tn) (0) (nodes - 1), ?_⟩
    simp only [go_sem, simprocAttr, hF, e0, e1, e2, e3, hwn]
    repeat (first
      | (with_reducible (first | refine sops_go ?_ | refine headW_end ?_ | refine sops_end ?_ | refine awp_if ?_ | refine awp_skip ?_ | refine awp_ret ?_ | refine awp_exit ?_); simp only [go_sem, simprocAttr, hF, e0, e1, e2, e3, hwn])
      | with_reducible (first | refine awp_seq_k fun _ _ => ?_ | refine awp_region [] ?_ | refine awp_block ?_)
      | go_step)
    refine ⟨_, in32_ok (f.pe) (1) (512), ?_⟩
    simp only [go_sem, simprocAttr, hF, e0, e1, e2, e3, hwn]
    repeat (first
      | (with_reducible (first | refine sops_go ?_ | refine headW_end ?_ | refine sops_end ?_ | refine awp_if ?_ | refine awp_skip ?_ | refine awp_ret ?_ | refine awp_exit ?_); simp only [go_sem, simprocAttr, hF, e0, e1, e2, e3, hwn])
      | with_reducible (first | refine awp_seq_k fun _ _ => ?_ | refine awp_region [] ?_ | refine awp_block ?_)
      | go_step)
    rw [faultN, if_pos (by omega)]
  have e3 : inR (f.pe) (1) (512) = true := inR_t h3
  by_cases h4 : f.ph < 0 ∨ f.pe - 1 < f.ph
  case pos =>
    have e4 : inR (f.ph) (0) (f.pe - 1) = false := inR_f h4
    have hwp : IntKind.i64.wrap (f.pe - 1) = f.pe - 1 := by rw [IntKind.wrap_i64]; omega
    repeat (first
      | (with_reducible (first | refine sops_go ?_ | refine headW_end ?_ | refine sops_end ?_ | refine awp_if ?_ | refine awp_skip ?_ | refine awp_ret ?_ | refine awp_exit ?_); simp only [go_sem, simprocAttr, hF, e0, e1, e2, e3, e4, hwn, hwp])
      | with_reducible (first | refine awp_seq_k fun _ _ => ?_ | refine awp_region [] ?_ | refine awp_block ?_)
      | go_step)
    refine ⟨_, in32_ok (f.id) (0) (255), ?_⟩
    simp only [go_sem, simprocAttr, hF, e0, e1, e2, e3, e4, hwn, hwp]
    repeat (first
      | (with_reducible (first | refine sops_go ?_ | refine headW_end ?_ | refine sops_end ?_ | refine awp_if ?_ | refine awp_skip ?_ | refine awp_ret ?_ | refine awp_exit ?_); simp only [go_sem, simprocAttr, hF, e0, e1, e2, e3, e4, hwn, hwp])
      | with_reducible (first | refine awp_seq_k fun _ _ => ?_ | refine awp_region [] ?_ | refine awp_block ?_)
      | go_step)
    refine ⟨_, in32_ok (f.fr) (0) (nodes - 1), ?_⟩
    simp only [go_sem, simprocAttr, hF, e0, e1, e2, e3, e4, hwn, hwp]
    repeat (first
      | (with_reducible (first | refine sops_go ?_ | refine headW_end ?_ | refine sops_end ?_ | refine awp_if ?_ | refine awp_skip ?_ | refine awp_ret ?_ | refine awp_exit ?_); simp only [go_sem, simprocAttr, hF, e0, e1, e2, e3, e4, hwn, hwp])
      | with_reducible (first | refine awp_seq_k fun _ _ => ?_ | refine awp_region [] ?_ | refine awp_block ?_)
      | go_step)
    refine ⟨_, in32_ok (f.tn) (0) (nodes - 1), ?_⟩
    simp only [go_sem, simprocAttr, hF, e0, e1, e2, e3, e4, hwn, hwp]
    repeat (first
      | (with_reducible (first | refine sops_go ?_ | refine headW_end ?_ | refine sops_end ?_ | refine awp_if ?_ | refine awp_skip ?_ | refine awp_ret ?_ | refine awp_exit ?_); simp only [go_sem, simprocAttr, hF, e0, e1, e2, e3, e4, hwn, hwp])
      | with_reducible (first | refine awp_seq_k fun _ _ => ?_ | refine awp_region [] ?_ | refine awp_block ?_)
      | go_step)
    refine ⟨_, in32_ok (f.pe) (1) (512), ?_⟩
    simp only [go_sem, simprocAttr, hF, e0, e1, e2, e3, e4, hwn, hwp]
    repeat (first
      | (with_reducible (first | refine sops_go ?_ | refine headW_end ?_ | refine sops_end ?_ | refine awp_if ?_ | refine awp_skip ?_ | refine awp_ret ?_ | refine awp_exit ?_); simp only [go_sem, simprocAttr, hF, e0, e1, e2, e3, e4, hwn, hwp])
      | with_reducible (first | refine awp_seq_k fun _ _ => ?_ | refine awp_region [] ?_ | refine awp_block ?_)
      | go_step)
    refine ⟨_, in32_ok (f.ph) (0) (f.pe - 1), ?_⟩
    simp only [go_sem, simprocAttr, hF, e0, e1, e2, e3, e4, hwn, hwp]
    repeat (first
      | (with_reducible (first | refine sops_go ?_ | refine headW_end ?_ | refine sops_end ?_ | refine awp_if ?_ | refine awp_skip ?_ | refine awp_ret ?_ | refine awp_exit ?_); simp only [go_sem, simprocAttr, hF, e0, e1, e2, e3, e4, hwn, hwp])
      | with_reducible (first | refine awp_seq_k fun _ _ => ?_ | refine awp_region [] ?_ | refine awp_block ?_)
      | go_step)
    rw [faultN, if_pos (by omega)]
  have e4 : inR (f.ph) (0) (f.pe - 1) = true := inR_t h4
  by_cases h5 : f.dl < 1 ∨ f.pe < f.dl
  case pos =>
    have e5 : inR (f.dl) (1) (f.pe) = false := inR_f h5
    have hwp : IntKind.i64.wrap (f.pe - 1) = f.pe - 1 := by rw [IntKind.wrap_i64]; omega
    repeat (first
      | (with_reducible (first | refine sops_go ?_ | refine headW_end ?_ | refine sops_end ?_ | refine awp_if ?_ | refine awp_skip ?_ | refine awp_ret ?_ | refine awp_exit ?_); simp only [go_sem, simprocAttr, hF, e0, e1, e2, e3, e4, e5, hwn, hwp])
      | with_reducible (first | refine awp_seq_k fun _ _ => ?_ | refine awp_region [] ?_ | refine awp_block ?_)
      | go_step)
    refine ⟨_, in32_ok (f.id) (0) (255), ?_⟩
    simp only [go_sem, simprocAttr, hF, e0, e1, e2, e3, e4, e5, hwn, hwp]
    repeat (first
      | (with_reducible (first | refine sops_go ?_ | refine headW_end ?_ | refine sops_end ?_ | refine awp_if ?_ | refine awp_skip ?_ | refine awp_ret ?_ | refine awp_exit ?_); simp only [go_sem, simprocAttr, hF, e0, e1, e2, e3, e4, e5, hwn, hwp])
      | with_reducible (first | refine awp_seq_k fun _ _ => ?_ | refine awp_region [] ?_ | refine awp_block ?_)
      | go_step)
    refine ⟨_, in32_ok (f.fr) (0) (nodes - 1), ?_⟩
    simp only [go_sem, simprocAttr, hF, e0, e1, e2, e3, e4, e5, hwn, hwp]
    repeat (first
      | (with_reducible (first | refine sops_go ?_ | refine headW_end ?_ | refine sops_end ?_ | refine awp_if ?_ | refine awp_skip ?_ | refine awp_ret ?_ | refine awp_exit ?_); simp only [go_sem, simprocAttr, hF, e0, e1, e2, e3, e4, e5, hwn, hwp])
      | with_reducible (first | refine awp_seq_k fun _ _ => ?_ | refine awp_region [] ?_ | refine awp_block ?_)
      | go_step)
    refine ⟨_, in32_ok (f.tn) (0) (nodes - 1), ?_⟩
    simp only [go_sem, simprocAttr, hF, e0, e1, e2, e3, e4, e5, hwn, hwp]
    repeat (first
      | (with_reducible (first | refine sops_go ?_ | refine headW_end ?_ | refine sops_end ?_ | refine awp_if ?_ | refine awp_skip ?_ | refine awp_ret ?_ | refine awp_exit ?_); simp only [go_sem, simprocAttr, hF, e0, e1, e2, e3, e4, e5, hwn, hwp])
      | with_reducible (first | refine awp_seq_k fun _ _ => ?_ | refine awp_region [] ?_ | refine awp_block ?_)
      | go_step)
    refine ⟨_, in32_ok (f.pe) (1) (512), ?_⟩
    simp only [go_sem, simprocAttr, hF, e0, e1, e2, e3, e4, e5, hwn, hwp]
    repeat (first
      | (with_reducible (first | refine sops_go ?_ | refine headW_end ?_ | refine sops_end ?_ | refine awp_if ?_ | refine awp_skip ?_ | refine awp_ret ?_ | refine awp_exit ?_); simp only [go_sem, simprocAttr, hF, e0, e1, e2, e3, e4, e5, hwn, hwp])
      | with_reducible (first | refine awp_seq_k fun _ _ => ?_ | refine awp_region [] ?_ | refine awp_block ?_)
      | go_step)
    refine ⟨_, in32_ok (f.ph) (0) (f.pe - 1), ?_⟩
    simp only [go_sem, simprocAttr, hF, e0, e1, e2, e3, e4, e5, hwn, hwp]
    repeat (first
      | (with_reducible (first | refine sops_go ?_ | refine headW_end ?_ | refine sops_end ?_ | refine awp_if ?_ | refine awp_skip ?_ | refine awp_ret ?_ | refine awp_exit ?_); simp only [go_sem, simprocAttr, hF, e0, e1, e2, e3, e4, e5, hwn, hwp])
      | with_reducible (first | refine awp_seq_k fun _ _ => ?_ | refine awp_region [] ?_ | refine awp_block ?_)
      | go_step)
    refine ⟨_, in32_ok (f.dl) (1) (f.pe), ?_⟩
    simp only [go_sem, simprocAttr, hF, e0, e1, e2, e3, e4, e5, hwn, hwp]
    repeat (first
      | (with_reducible (first | refine sops_go ?_ | refine headW_end ?_ | refine sops_end ?_ | refine awp_if ?_ | refine awp_skip ?_ | refine awp_ret ?_ | refine awp_exit ?_); simp only [go_sem, simprocAttr, hF, e0, e1, e2, e3, e4, e5, hwn, hwp])
      | with_reducible (first | refine awp_seq_k fun _ _ => ?_ | refine awp_region [] ?_ | refine awp_block ?_)
      | go_step)
    rw [faultN, if_pos (by omega)]
  have e5 : inR (f.dl) (1) (f.pe) = true := inR_t h5
  by_cases h6 : f.fr = f.tn
  case pos =>
    have e6 : (f.fr == f.tn) = true := by simpa using h6
    have hwp : IntKind.i64.wrap (f.pe - 1) = f.pe - 1 := by rw [IntKind.wrap_i64]; omega
    repeat (first
      | (with_reducible (first | refine sops_go ?_ | refine headW_end ?_ | refine sops_end ?_ | refine awp_if ?_ | refine awp_skip ?_ | refine awp_ret ?_ | refine awp_exit ?_); simp only [go_sem, simprocAttr, hF, e0, e1, e2, e3, e4, e5, e6, hwn, hwp])
      | with_reducible (first | refine awp_seq_k fun _ _ => ?_ | refine awp_region [] ?_ | refine awp_block ?_)
      | go_step)
    refine ⟨_, in32_ok (f.id) (0) (255), ?_⟩
    simp only [go_sem, simprocAttr, hF, e0, e1, e2, e3, e4, e5, e6, hwn, hwp]
    repeat (first
      | (with_reducible (first | refine sops_go ?_ | refine headW_end ?_ | refine sops_end ?_ | refine awp_if ?_ | refine awp_skip ?_ | refine awp_ret ?_ | refine awp_exit ?_); simp only [go_sem, simprocAttr, hF, e0, e1, e2, e3, e4, e5, e6, hwn, hwp])
      | with_reducible (first | refine awp_seq_k fun _ _ => ?_ | refine awp_region [] ?_ | refine awp_block ?_)
      | go_step)
    refine ⟨_, in32_ok (f.fr) (0) (nodes - 1), ?_⟩
    simp only [go_sem, simprocAttr, hF, e0, e1, e2, e3, e4, e5, e6, hwn, hwp]
    repeat (first
      | (with_reducible (first | refine sops_go ?_ | refine headW_end ?_ | refine sops_end ?_ | refine awp_if ?_ | refine awp_skip ?_ | refine awp_ret ?_ | refine awp_exit ?_); simp only [go_sem, simprocAttr, hF, e0, e1, e2, e3, e4, e5, e6, hwn, hwp])
      | with_reducible (first | refine awp_seq_k fun _ _ => ?_ | refine awp_region [] ?_ | refine awp_block ?_)
      | go_step)
    refine ⟨_, in32_ok (f.tn) (0) (nodes - 1), ?_⟩
    simp only [go_sem, simprocAttr, hF, e0, e1, e2, e3, e4, e5, e6, hwn, hwp]
    repeat (first
      | (with_reducible (first | refine sops_go ?_ | refine headW_end ?_ | refine sops_end ?_ | refine awp_if ?_ | refine awp_skip ?_ | refine awp_ret ?_ | refine awp_exit ?_); simp only [go_sem, simprocAttr, hF, e0, e1, e2, e3, e4, e5, e6, hwn, hwp])
      | with_reducible (first | refine awp_seq_k fun _ _ => ?_ | refine awp_region [] ?_ | refine awp_block ?_)
      | go_step)
    refine ⟨_, in32_ok (f.pe) (1) (512), ?_⟩
    simp only [go_sem, simprocAttr, hF, e0, e1, e2, e3, e4, e5, e6, hwn, hwp]
    repeat (first
      | (with_reducible (first | refine sops_go ?_ | refine headW_end ?_ | refine sops_end ?_ | refine awp_if ?_ | refine awp_skip ?_ | refine awp_ret ?_ | refine awp_exit ?_); simp only [go_sem, simprocAttr, hF, e0, e1, e2, e3, e4, e5, e6, hwn, hwp])
      | with_reducible (first | refine awp_seq_k fun _ _ => ?_ | refine awp_region [] ?_ | refine awp_block ?_)
      | go_step)
    refine ⟨_, in32_ok (f.ph) (0) (f.pe - 1), ?_⟩
    simp only [go_sem, simprocAttr, hF, e0, e1, e2, e3, e4, e5, e6, hwn, hwp]
    repeat (first
      | (with_reducible (first | refine sops_go ?_ | refine headW_end ?_ | refine sops_end ?_ | refine awp_if ?_ | refine awp_skip ?_ | refine awp_ret ?_ | refine awp_exit ?_); simp only [go_sem, simprocAttr, hF, e0, e1, e2, e3, e4, e5, e6, hwn, hwp])
      | with_reducible (first | refine awp_seq_k fun _ _ => ?_ | refine awp_region [] ?_ | refine awp_block ?_)
      | go_step)
    refine ⟨_, in32_ok (f.dl) (1) (f.pe), ?_⟩
    simp only [go_sem, simprocAttr, hF, e0, e1, e2, e3, e4, e5, e6, hwn, hwp]
    repeat (first
      | (with_reducible (first | refine sops_go ?_ | refine headW_end ?_ | refine sops_end ?_ | refine awp_if ?_ | refine awp_skip ?_ | refine awp_ret ?_ | refine awp_exit ?_); simp only [go_sem, simprocAttr, hF, e0, e1, e2, e3, e4, e5, e6, hwn, hwp])
      | with_reducible (first | refine awp_seq_k fun _ _ => ?_ | refine awp_region [] ?_ | refine awp_block ?_)
      | go_step)
    rw [faultN, if_neg (by omega), if_pos h6]
  have e6 : (f.fr == f.tn) = false := by simpa using h6
  have hwp : IntKind.i64.wrap (f.pe - 1) = f.pe - 1 := by rw [IntKind.wrap_i64]; omega
  repeat (first
    | (with_reducible (first | refine sops_go ?_ | refine headW_end ?_ | refine sops_end ?_ | refine awp_if ?_ | refine awp_skip ?_ | refine awp_ret ?_ | refine awp_exit ?_); simp only [go_sem, simprocAttr, hF, e0, e1, e2, e3, e4, e5, e6, hwn, hwp])
    | with_reducible (first | refine awp_seq_k fun _ _ => ?_ | refine awp_region [] ?_ | refine awp_block ?_)
    | go_step)
  refine ⟨_, in32_ok (f.id) (0) (255), ?_⟩
  simp only [go_sem, simprocAttr, hF, e0, e1, e2, e3, e4, e5, e6, hwn, hwp]
  repeat (first
    | (with_reducible (first | refine sops_go ?_ | refine headW_end ?_ | refine sops_end ?_ | refine awp_if ?_ | refine awp_skip ?_ | refine awp_ret ?_ | refine awp_exit ?_); simp only [go_sem, simprocAttr, hF, e0, e1, e2, e3, e4, e5, e6, hwn, hwp])
    | with_reducible (first | refine awp_seq_k fun _ _ => ?_ | refine awp_region [] ?_ | refine awp_block ?_)
    | go_step)
  refine ⟨_, in32_ok (f.fr) (0) (nodes - 1), ?_⟩
  simp only [go_sem, simprocAttr, hF, e0, e1, e2, e3, e4, e5, e6, hwn, hwp]
  repeat (first
    | (with_reducible (first | refine sops_go ?_ | refine headW_end ?_ | refine sops_end ?_ | refine awp_if ?_ | refine awp_skip ?_ | refine awp_ret ?_ | refine awp_exit ?_); simp only [go_sem, simprocAttr, hF, e0, e1, e2, e3, e4, e5, e6, hwn, hwp])
    | with_reducible (first | refine awp_seq_k fun _ _ => ?_ | refine awp_region [] ?_ | refine awp_block ?_)
    | go_step)
  refine ⟨_, in32_ok (f.tn) (0) (nodes - 1), ?_⟩
  simp only [go_sem, simprocAttr, hF, e0, e1, e2, e3, e4, e5, e6, hwn, hwp]
  repeat (first
    | (with_reducible (first | refine sops_go ?_ | refine headW_end ?_ | refine sops_end ?_ | refine awp_if ?_ | refine awp_skip ?_ | refine awp_ret ?_ | refine awp_exit ?_); simp only [go_sem, simprocAttr, hF, e0, e1, e2, e3, e4, e5, e6, hwn, hwp])
    | with_reducible (first | refine awp_seq_k fun _ _ => ?_ | refine awp_region [] ?_ | refine awp_block ?_)
    | go_step)
  refine ⟨_, in32_ok (f.pe) (1) (512), ?_⟩
  simp only [go_sem, simprocAttr, hF, e0, e1, e2, e3, e4, e5, e6, hwn, hwp]
  repeat (first
    | (with_reducible (first | refine sops_go ?_ | refine headW_end ?_ | refine sops_end ?_ | refine awp_if ?_ | refine awp_skip ?_ | refine awp_ret ?_ | refine awp_exit ?_); simp only [go_sem, simprocAttr, hF, e0, e1, e2, e3, e4, e5, e6, hwn, hwp])
    | with_reducible (first | refine awp_seq_k fun _ _ => ?_ | refine awp_region [] ?_ | refine awp_block ?_)
    | go_step)
  refine ⟨_, in32_ok (f.ph) (0) (f.pe - 1), ?_⟩
  simp only [go_sem, simprocAttr, hF, e0, e1, e2, e3, e4, e5, e6, hwn, hwp]
  repeat (first
    | (with_reducible (first | refine sops_go ?_ | refine headW_end ?_ | refine sops_end ?_ | refine awp_if ?_ | refine awp_skip ?_ | refine awp_ret ?_ | refine awp_exit ?_); simp only [go_sem, simprocAttr, hF, e0, e1, e2, e3, e4, e5, e6, hwn, hwp])
    | with_reducible (first | refine awp_seq_k fun _ _ => ?_ | refine awp_region [] ?_ | refine awp_block ?_)
    | go_step)
  refine ⟨_, in32_ok (f.dl) (1) (f.pe), ?_⟩
  simp only [go_sem, simprocAttr, hF, e0, e1, e2, e3, e4, e5, e6, hwn, hwp]
  repeat (first
    | (with_reducible (first | refine sops_go ?_ | refine headW_end ?_ | refine sops_end ?_ | refine awp_if ?_ | refine awp_skip ?_ | refine awp_ret ?_ | refine awp_exit ?_); simp only [go_sem, simprocAttr, hF, e0, e1, e2, e3, e4, e5, e6, hwn, hwp])
    | with_reducible (first | refine awp_seq_k fun _ _ => ?_ | refine awp_region [] ?_ | refine awp_block ?_)
    | go_step)
  rw [faultN, if_neg (by omega), if_neg h6]

set_option maxHeartbeats 20000000 in
theorem rFCheck_ok (nodes : Int) (f : Fl) : FnOK Tryz.prog 85 [iv nodes, .sl 6 [f.pv]] ⟨.tup [.c (ip (chkF1 nodes f).1), .c (ip (chkF1 nodes f).2)], none⟩ := by
  refine fn_ok Tryz.func85 (by kernel_rfl) rfl (by rw [Tryz.ntmps85]; exact of_decide_eq_true rfl) (fun F hF => ?_)
  rw [Tryz.ntmps85] at hF
  rw [Tryz.results85]
  repeat (first
    | (with_reducible (first | refine sops_go ?_ | refine headW_end ?_ | refine sops_end ?_ | refine awp_if ?_ | refine awp_skip ?_ | refine awp_ret ?_ | refine awp_exit ?_); simp only [go_sem, simprocAttr, hF])
    | ((with_reducible refine headW_go ?_); simp only [go_sem, simprocAttr, hF, hbx])
    | with_reducible refine awp_seq_k fun _ _ => ?_
    | (refine awp_draw' (id := 11) [] 16 (by kernel_rfl) (by kernel_rfl) rfl rfl (fun bx0 hbx => ?_); try dsimp only [List.take, List.drop])
    | with_reducible (first | refine awp_region [] ?_ | refine awp_block ?_)
    | go_step)
  refine ⟨_, in32_ok nodes 2 32, ?_⟩
  simp only [go_sem, simprocAttr, hF]
  by_cases h0 : nodes < 2 ∨ 32 < nodes
  case pos =>
    have e0 : inR nodes 2 32 = false := inR_f h0
    try simp only [go_sem, simprocAttr, hF, e0]
    repeat (first
      | (with_reducible (first | refine sops_go ?_ | refine headW_end ?_ | refine sops_end ?_ | refine awp_if ?_ | refine awp_skip ?_ | refine awp_ret ?_ | refine awp_exit ?_); simp only [go_sem, simprocAttr, hF, e0])
      | ((with_reducible refine headW_go ?_); simp only [go_sem, simprocAttr, hF, e0, hbx])
      | with_reducible refine awp_seq_k fun _ _ => ?_
      | (refine awp_draw' (id := 11) [] 16 (by kernel_rfl) (by kernel_rfl) rfl rfl (fun bx0 hbx => ?_); try dsimp only [List.take, List.drop])
      | with_reducible (first | refine awp_region [] ?_ | refine awp_block ?_)
      | go_step)
    rw [chkF1, if_pos h0]
  have e0 : inR nodes 2 32 = true := inR_t h0
  try simp only [go_sem, simprocAttr, hF, e0]
  repeat (first
    | (with_reducible (first | refine sops_go ?_ | refine headW_end ?_ | refine sops_end ?_ | refine awp_if ?_ | refine awp_skip ?_ | refine awp_ret ?_ | refine awp_exit ?_); simp only [go_sem, simprocAttr, hF, e0])
    | ((with_reducible refine headW_go ?_); simp only [go_sem, simprocAttr, hF, e0, hbx])
    | with_reducible refine awp_seq_k fun _ _ => ?_
    | (refine awp_draw' (id := 11) [] 16 (by kernel_rfl) (by kernel_rfl) rfl rfl (fun bx0 hbx => ?_); try dsimp only [List.take, List.drop])
    | with_reducible (first | refine awp_region [] ?_ | refine awp_block ?_)
    | go_step)
  refine awp_loop_by (ι := {k : Nat // k ≤ 1 ∧ (k = 1 → faultN nodes f = 0)}) (fun k σ => ⟨(6, iv (k.1 : Int)) :: keepS [0, 1, 4, 5] σ.slot, [], [], σ.ext⟩) (fun k => 1 - k.1) ⟨0, by omega, by omega⟩ (sub_mk ?_) (fun R hR k => ?_)
  · simp only [go_sem, simprocAttr, hF]
    repeat' (first | rfl | refine ⟨?_, ?_⟩)
  obtain ⟨k, hk, hT⟩ := k
  dsimp only
  simp only [go_sem, simprocAttr, hF]
  by_cases hlt : k < 1
  case neg =>
    obtain rfl : k = 1 := by omega
    have hd : decide (((1 : Nat) : Int) < 1) = false := rfl
    repeat (first
      | (with_reducible (first | refine sops_go ?_ | refine headW_end ?_ | refine sops_end ?_ | refine awp_if ?_ | refine awp_skip ?_ | refine awp_ret ?_ | refine awp_exit ?_); simp only [go_sem, simprocAttr, hF, hd, c11])
      | ((with_reducible refine headW_go ?_); simp only [go_sem, simprocAttr, hF, hd, c11, hbx])
      | with_reducible refine awp_seq_k fun _ _ => ?_
      | (refine awp_draw' (id := 11) [] 16 (by kernel_rfl) (by kernel_rfl) rfl rfl (fun bx0 hbx => ?_); try dsimp only [List.take, List.drop])
      | with_reducible (first | refine awp_region [] ?_ | refine awp_block ?_)
      | go_step)
    rw [chkF1, if_neg h0, if_pos (hT rfl)]
  obtain rfl : k = 0 := by omega
  have hd : decide (((0 : Nat) : Int) < 1) = true := rfl
  have hw : IntKind.i64.wrap (((0 : Nat) : Int) + 1) = ((1 : Nat) : Int) := rfl
  repeat (first
    | (with_reducible (first | refine sops_go ?_ | refine headW_end ?_ | refine sops_end ?_ | refine awp_if ?_ | refine awp_skip ?_ | refine awp_ret ?_ | refine awp_exit ?_); simp only [go_sem, simprocAttr, hF, hd, c11, c00, c01])
    | ((with_reducible refine headW_go ?_); simp only [go_sem, simprocAttr, hF, hd, c11, c00, c01, hbx])
    | with_reducible refine awp_seq_k fun _ _ => ?_
    | (refine awp_draw' (id := 11) [] 16 (by kernel_rfl) (by kernel_rfl) rfl rfl (fun bx0 hbx => ?_); try dsimp only [List.take, List.drop])
    | with_reducible (first | refine awp_region [] ?_ | refine awp_block ?_)
    | go_step)
  refine ⟨_, rFault_ok nodes f (by omega), ?_⟩
  simp only [go_sem, simprocAttr, hF]
  by_cases h3 : faultN nodes f = 0
  case neg =>
    have e3 : (faultN nodes f != 0) = true := by simpa using h3
    try simp only [go_sem, simprocAttr, hF, e3]
    repeat (first
      | (with_reducible (first | refine sops_go ?_ | refine headW_end ?_ | refine sops_end ?_ | refine awp_if ?_ | refine awp_skip ?_ | refine awp_ret ?_ | refine awp_exit ?_); simp only [go_sem, simprocAttr, hF, e3])
      | ((with_reducible refine headW_go ?_); simp only [go_sem, simprocAttr, hF, e3, hbx])
      | with_reducible refine awp_seq_k fun _ _ => ?_
      | (refine awp_draw' (id := 11) [] 16 (by kernel_rfl) (by kernel_rfl) rfl rfl (fun bx0 hbx => ?_); try dsimp only [List.take, List.drop])
      | with_reducible (first | refine awp_region [] ?_ | refine awp_block ?_)
      | go_step)
    rw [chkF1, if_neg h0, if_neg h3]
  have e3 : (faultN nodes f != 0) = false := by simpa using h3
  try simp only [go_sem, simprocAttr, hF, e3, c01, c00]
  repeat (first
    | (with_reducible (first | refine sops_go ?_ | refine headW_end ?_ | refine sops_end ?_ | refine awp_if ?_ | refine awp_skip ?_ | refine awp_ret ?_ | refine awp_exit ?_); simp only [go_sem, simprocAttr, hF, e3, c01, c00])
    | ((with_reducible refine headW_go ?_); simp only [go_sem, simprocAttr, hF, e3, c01, c00, hbx])
    | with_reducible refine awp_seq_k fun _ _ => ?_
    | (refine awp_draw' (id := 11) [] 16 (by kernel_rfl) (by kernel_rfl) rfl rfl (fun bx0 hbx => ?_); try dsimp only [List.take, List.drop])
    | with_reducible (first | refine awp_region [] ?_ | refine awp_block ?_)
    | go_step)
  refine ⟨⟨1, by omega, fun _ => h3⟩, by dsimp only; omega, hR _ _ (sub_mk ?_)⟩
  simp only [go_sem, simprocAttr, hF, hw]
  all_goals rfl
/- The references of a case, by abstract states. -/
attribute [local go_sem] Tryz.sz141 Tryz.zr141 Tryz.by141 Tryz.pl141 Tryz.is141 Tryz.underlying141 Tryz.sz67 Tryz.zr67 Tryz.by67 Tryz.pl67 Tryz.is67 Tryz.underlying67 Tryz.sz20 Tryz.zr20 Tryz.by20 Tryz.pl20 Tryz.is20 Tryz.underlying20 Tryz.sz89 Tryz.zr89 Tryz.by89 Tryz.pl89 Tryz.is89 Tryz.underlying89 Tryz.sz132 Tryz.zr132 Tryz.by132 Tryz.pl132 Tryz.is132 Tryz.underlying132 Tryz.sz113 Tryz.zr113 Tryz.by113 Tryz.pl113 Tryz.is113 Tryz.underlying113 Tryz.sz9 Tryz.zr9 Tryz.by9 Tryz.pl9 Tryz.is9 Tryz.underlying9 Mo.Net.pv Mo.Lk.pv prow_pv irow_pv Br.pv
set_option maxHeartbeats 20000000 in
theorem rbasic_ok (n : Net) (f : Fl) (r : Rec) (hS : SmallN n) (hla : r.al.length ≤ 1000000) (hld : r.dl.length ≤ 1000000) : FnOK Tryz.prog 42 [.agg n.pv, .agg f.pv, .agg r.pv] ⟨bv (basicB n f r), none⟩ := by
  refine fn_ok Tryz.func42 (by kernel_rfl) rfl (by rw [Tryz.ntmps42]; exact of_decide_eq_true rfl) (fun F hF => ?_)
  rw [Tryz.ntmps42] at hF
  rw [Tryz.results42]
  by_cases h1 : chkN n = 0
  case neg =>
    have e1 : (chkN n != 0) = true := by simpa using h1
    have hB : basicB n f r = false := by unfold basicB; rw [decide_eq_false h1]; rfl
    rw [hB]
    repeat (first
      | (with_reducible (first | refine sops_go ?_ | refine headW_end ?_ | refine sops_end ?_ | refine awp_if ?_ | refine awp_skip ?_ | refine awp_ret ?_ | refine awp_exit ?_); simp only [go_sem, simprocAttr, hF, e1])
      | with_reducible (first | refine awp_seq_k fun _ _ => ?_ | refine awp_region [] ?_ | refine awp_block ?_)
      | go_step)
    refine ⟨_, ncheckR_ok n hS.pow hS.rows hS.lk hS.mg, ?_⟩
    simp only [go_sem, simprocAttr, hF, e1]
    repeat (first
      | (with_reducible (first | refine sops_go ?_ | refine headW_end ?_ | refine sops_end ?_ | refine awp_if ?_ | refine awp_skip ?_ | refine awp_ret ?_ | refine awp_exit ?_); simp only [go_sem, simprocAttr, hF, e1])
      | with_reducible (first | refine awp_seq_k fun _ _ => ?_ | refine awp_region [] ?_ | refine awp_block ?_)
      | go_step)
    all_goals (try rfl)
  have e1 : (chkN n != 0) = false := by simpa using h1
  cases hg : good r with
  | false =>
    have hr : rcheckE r = 1 := by rw [← check_agree, checkE, hg]; rfl
    have e2 : ((rcheckE r) != 0) = true := by rw [hr]; rfl
    have hB : basicB n f r = false := by unfold basicB; rw [hg, decide_eq_true h1]; rfl
    rw [hB]
    repeat (first
      | (with_reducible (first | refine sops_go ?_ | refine headW_end ?_ | refine sops_end ?_ | refine awp_if ?_ | refine awp_skip ?_ | refine awp_ret ?_ | refine awp_exit ?_); simp only [go_sem, simprocAttr, hF, e1, e2])
      | with_reducible (first | refine awp_seq_k fun _ _ => ?_ | refine awp_region [] ?_ | refine awp_block ?_)
      | go_step)
    refine ⟨_, ncheckR_ok n hS.pow hS.rows hS.lk hS.mg, ?_⟩
    simp only [go_sem, simprocAttr, hF, e1]
    repeat (first
      | (with_reducible (first | refine sops_go ?_ | refine headW_end ?_ | refine sops_end ?_ | refine awp_if ?_ | refine awp_skip ?_ | refine awp_ret ?_ | refine awp_exit ?_); simp only [go_sem, simprocAttr, hF, e1, e2])
      | with_reducible (first | refine awp_seq_k fun _ _ => ?_ | refine awp_region [] ?_ | refine awp_block ?_)
      | go_step)
    refine ⟨_, rcheck_ok r hla hld, ?_⟩
    simp only [go_sem, simprocAttr, hF, e2]
    repeat (first
      | (with_reducible (first | refine sops_go ?_ | refine headW_end ?_ | refine sops_end ?_ | refine awp_if ?_ | refine awp_skip ?_ | refine awp_ret ?_ | refine awp_exit ?_); simp only [go_sem, simprocAttr, hF, e1, e2])
      | with_reducible (first | refine awp_seq_k fun _ _ => ?_ | refine awp_region [] ?_ | refine awp_block ?_)
      | go_step)
    all_goals (try rfl)
  | true =>
    have hr : rcheckE r = 0 := by rw [← check_agree, checkE, hg]; rfl
    have e2 : ((rcheckE r) != 0) = false := by rw [hr]; rfl
    have hB : basicB n f r = ((chkF1 n.nodes f).2 == 0) := by unfold basicB; rw [hg, decide_eq_true h1, Bool.true_and, Bool.true_and]; exact (Bool.beq_eq_decide_eq _ _).symm
    rw [hB]
    repeat (first
      | (with_reducible (first | refine sops_go ?_ | refine headW_end ?_ | refine sops_end ?_ | refine awp_if ?_ | refine awp_skip ?_ | refine awp_ret ?_ | refine awp_exit ?_); simp only [go_sem, simprocAttr, hF, e1, e2])
      | with_reducible (first | refine awp_seq_k fun _ _ => ?_ | refine awp_region [] ?_ | refine awp_block ?_)
      | go_step)
    refine ⟨_, ncheckR_ok n hS.pow hS.rows hS.lk hS.mg, ?_⟩
    simp only [go_sem, simprocAttr, hF, e1]
    repeat (first
      | (with_reducible (first | refine sops_go ?_ | refine headW_end ?_ | refine sops_end ?_ | refine awp_if ?_ | refine awp_skip ?_ | refine awp_ret ?_ | refine awp_exit ?_); simp only [go_sem, simprocAttr, hF, e1, e2])
      | with_reducible (first | refine awp_seq_k fun _ _ => ?_ | refine awp_region [] ?_ | refine awp_block ?_)
      | go_step)
    refine ⟨_, rcheck_ok r hla hld, ?_⟩
    simp only [go_sem, simprocAttr, hF, e2]
    repeat (first
      | (with_reducible (first | refine sops_go ?_ | refine headW_end ?_ | refine sops_end ?_ | refine awp_if ?_ | refine awp_skip ?_ | refine awp_ret ?_ | refine awp_exit ?_); simp only [go_sem, simprocAttr, hF, e1, e2])
      | with_reducible (first | refine awp_seq_k fun _ _ => ?_ | refine awp_region [] ?_ | refine awp_block ?_)
      | go_step)
    refine ⟨_, rFCheck_ok n.nodes f, ?_⟩
    simp only [go_sem, simprocAttr, hF]
    repeat (first
      | (with_reducible (first | refine sops_go ?_ | refine headW_end ?_ | refine sops_end ?_ | refine awp_if ?_ | refine awp_skip ?_ | refine awp_ret ?_ | refine awp_exit ?_); simp only [go_sem, simprocAttr, hF])
      | with_reducible (first | refine awp_seq_k fun _ _ => ?_ | refine awp_region [] ?_ | refine awp_block ?_)
      | go_step)
    all_goals (try rfl)

set_option maxHeartbeats 20000000 in
theorem rlateL_ok (n : Net) (f : Fl) (ps : List (List Int)) (r : Rec) (fr : Int) (hS : SmallN n) (hla : r.al.length ≤ 1000000) (hld : r.dl.length ≤ 1000000) (hps : ps.length ≤ 1000000) (hpl : ∀ p ∈ ps, p.length ≤ 1000000) : FnOK Tryz.prog 38 [.agg n.pv, .agg f.pv, .sl 1 (ps.map prow_pv), .agg r.pv, iv fr] ⟨.tup [.g (lateX n f ps r fr).1.pv, .c (ip (lateX n f ps r fr).2)], none⟩ := by
  refine fn_ok Tryz.func38 (by kernel_rfl) rfl (by rw [Tryz.ntmps38]; exact of_decide_eq_true rfl) (fun F hF => ?_)
  rw [Tryz.ntmps38] at hF
  rw [Tryz.results38]
  cases hB : basicB n f r with
  | false =>
    repeat (first
      | (with_reducible (first | refine sops_go ?_ | refine headW_end ?_ | refine sops_end ?_ | refine awp_if ?_ | refine awp_skip ?_ | refine awp_ret ?_ | refine awp_exit ?_); simp only [go_sem, simprocAttr, hF, hB])
      | ((with_reducible refine headW_go ?_); simp only [go_sem, simprocAttr, hF, hB, hbx])
      | with_reducible refine awp_seq_k fun _ _ => ?_
      | (refine awp_draw' (id := 6) [] 11 (by kernel_rfl) (by kernel_rfl) rfl rfl (fun bx0 hbx => ?_); try dsimp only [List.take, List.drop])
      | with_reducible (first | refine awp_region [] ?_ | refine awp_block ?_)
      | go_step)
    refine ⟨_, rbasic_ok n f r hS hla hld, ?_⟩
    simp only [go_sem, simprocAttr, hF, hB]
    repeat (first
      | (with_reducible (first | refine sops_go ?_ | refine headW_end ?_ | refine sops_end ?_ | refine awp_if ?_ | refine awp_skip ?_ | refine awp_ret ?_ | refine awp_exit ?_); simp only [go_sem, simprocAttr, hF, hB])
      | ((with_reducible refine headW_go ?_); simp only [go_sem, simprocAttr, hF, hB, hbx])
      | with_reducible refine awp_seq_k fun _ _ => ?_
      | (refine awp_draw' (id := 6) [] 11 (by kernel_rfl) (by kernel_rfl) rfl rfl (fun bx0 hbx => ?_); try dsimp only [List.take, List.drop])
      | with_reducible (first | refine awp_region [] ?_ | refine awp_block ?_)
      | go_step)
    rw [show lateX n f ps r fr = (lt0, 1) from by unfold lateX; rw [if_pos (.inl hB)]]
    all_goals (try rfl)
  | true =>
    obtain ⟨hc, hg, hn, hfN, hf⟩ := basicB_inv hB
    obtain ⟨_, f1, f2, f3, f4, f5⟩ := fault_of_N hn.2 hfN
    by_cases c1 : ps.length < 1
    case pos =>
      have e1 : decide ((ps.length : Int) < 1) = true := decide_eq_true (by omega)
      repeat (first
        | (with_reducible (first | refine sops_go ?_ | refine headW_end ?_ | refine sops_end ?_ | refine awp_if ?_ | refine awp_skip ?_ | refine awp_ret ?_ | refine awp_exit ?_); simp only [go_sem, simprocAttr, hF, hB, e1])
        | ((with_reducible refine headW_go ?_); simp only [go_sem, simprocAttr, hF, hB, e1, hbx])
        | with_reducible refine awp_seq_k fun _ _ => ?_
        | (refine awp_draw' (id := 6) [] 11 (by kernel_rfl) (by kernel_rfl) rfl rfl (fun bx0 hbx => ?_); try dsimp only [List.take, List.drop])
        | with_reducible (first | refine awp_region [] ?_ | refine awp_block ?_)
        | go_step)
      refine ⟨_, rbasic_ok n f r hS hla hld, ?_⟩
      simp only [go_sem, simprocAttr, hF, hB, e1]
      repeat (first
        | (with_reducible (first | refine sops_go ?_ | refine headW_end ?_ | refine sops_end ?_ | refine awp_if ?_ | refine awp_skip ?_ | refine awp_ret ?_ | refine awp_exit ?_); simp only [go_sem, simprocAttr, hF, hB, e1])
        | ((with_reducible refine headW_go ?_); simp only [go_sem, simprocAttr, hF, hB, e1, hbx])
        | with_reducible refine awp_seq_k fun _ _ => ?_
        | (refine awp_draw' (id := 6) [] 11 (by kernel_rfl) (by kernel_rfl) rfl rfl (fun bx0 hbx => ?_); try dsimp only [List.take, List.drop])
        | with_reducible (first | refine awp_region [] ?_ | refine awp_block ?_)
        | go_step)
      rw [show lateX n f ps r fr = (lt0, 1) from by unfold lateX; rw [if_pos (.inr (.inl c1))]]
      all_goals (try rfl)
    have e1 : decide ((ps.length : Int) < 1) = false := decide_eq_false (by omega)
    by_cases c2 : 2 < ps.length
    case pos =>
      have e2 : decide ((2 : Int) < (ps.length : Int)) = true := decide_eq_true (by omega)
      repeat (first
        | (with_reducible (first | refine sops_go ?_ | refine headW_end ?_ | refine sops_end ?_ | refine awp_if ?_ | refine awp_skip ?_ | refine awp_ret ?_ | refine awp_exit ?_); simp only [go_sem, simprocAttr, hF, hB, e1, e2])
        | ((with_reducible refine headW_go ?_); simp only [go_sem, simprocAttr, hF, hB, e1, e2, hbx])
        | with_reducible refine awp_seq_k fun _ _ => ?_
        | (refine awp_draw' (id := 6) [] 11 (by kernel_rfl) (by kernel_rfl) rfl rfl (fun bx0 hbx => ?_); try dsimp only [List.take, List.drop])
        | with_reducible (first | refine awp_region [] ?_ | refine awp_block ?_)
        | go_step)
      refine ⟨_, rbasic_ok n f r hS hla hld, ?_⟩
      simp only [go_sem, simprocAttr, hF, hB, e1, e2]
      repeat (first
        | (with_reducible (first | refine sops_go ?_ | refine headW_end ?_ | refine sops_end ?_ | refine awp_if ?_ | refine awp_skip ?_ | refine awp_ret ?_ | refine awp_exit ?_); simp only [go_sem, simprocAttr, hF, hB, e1, e2])
        | ((with_reducible refine headW_go ?_); simp only [go_sem, simprocAttr, hF, hB, e1, e2, hbx])
        | with_reducible refine awp_seq_k fun _ _ => ?_
        | (refine awp_draw' (id := 6) [] 11 (by kernel_rfl) (by kernel_rfl) rfl rfl (fun bx0 hbx => ?_); try dsimp only [List.take, List.drop])
        | with_reducible (first | refine awp_region [] ?_ | refine awp_block ?_)
        | go_step)
      rw [show lateX n f ps r fr = (lt0, 1) from by unfold lateX; rw [if_pos (.inr (.inr c2))]]
      all_goals (try rfl)
    have e2 : decide ((2 : Int) < (ps.length : Int)) = false := decide_eq_false (by omega)
    have c3 : ¬ (basicB n f r = false ∨ ps.length < 1 ∨ 2 < ps.length) := fun h => by
      rcases h with h | h | h
      · rw [hB] at h; cases h
      · exact c1 h
      · exact c2 h
    repeat (first
      | (with_reducible (first | refine sops_go ?_ | refine headW_end ?_ | refine sops_end ?_ | refine awp_if ?_ | refine awp_skip ?_ | refine awp_ret ?_ | refine awp_exit ?_); simp only [go_sem, simprocAttr, hF, hB, e1, e2])
      | ((with_reducible refine headW_go ?_); simp only [go_sem, simprocAttr, hF, hB, e1, e2, hbx])
      | with_reducible refine awp_seq_k fun _ _ => ?_
      | (refine awp_draw' (id := 6) [] 11 (by kernel_rfl) (by kernel_rfl) rfl rfl (fun bx0 hbx => ?_); try dsimp only [List.take, List.drop])
      | with_reducible (first | refine awp_region [] ?_ | refine awp_block ?_)
      | go_step)
    refine ⟨_, rbasic_ok n f r hS hla hld, ?_⟩
    simp only [go_sem, simprocAttr, hF, hB, e1, e2]
    repeat (first
      | (with_reducible (first | refine sops_go ?_ | refine headW_end ?_ | refine sops_end ?_ | refine awp_if ?_ | refine awp_skip ?_ | refine awp_ret ?_ | refine awp_exit ?_); simp only [go_sem, simprocAttr, hF, hB, e1, e2])
      | ((with_reducible refine headW_go ?_); simp only [go_sem, simprocAttr, hF, hB, e1, e2, hbx])
      | with_reducible refine awp_seq_k fun _ _ => ?_
      | (refine awp_draw' (id := 6) [] 11 (by kernel_rfl) (by kernel_rfl) rfl rfl (fun bx0 hbx => ?_); try dsimp only [List.take, List.drop])
      | with_reducible (first | refine awp_region [] ?_ | refine awp_block ?_)
      | go_step)
    refine awp_loop_by (ι := {k : Nat // k ≤ ps.length ∧ (ps.take k).any (fun p => !(routeE n f.fr f.tn p == 0)) = false}) (fun k σ => ⟨(12, iv (k.1 : Int)) :: keepS [2, 4, 5, 6, 8, 10] σ.slot, keepS [5, 6, 8, 10] σ.box, [], σ.ext⟩) (fun k => ps.length - k.1) ⟨0, by omega, rfl⟩ (sub_mk ?_) (fun R hR k => ?_)
    · simp only [go_sem, simprocAttr, hF]
      repeat' (first | rfl | refine ⟨?_, ?_⟩)
    obtain ⟨k, hk, hT⟩ := k
    dsimp only
    simp only [go_sem, simprocAttr, hF]
    by_cases hlt : k < ps.length
    case pos =>
      obtain ⟨p, hp⟩ := get_of_lt hlt
      have hd : decide ((k : Int) < (ps.length : Int)) = true := decide_eq_true (by omega)
      have hw : IntKind.i64.wrap ((k : Int) + 1) = ((k + 1 : Nat) : Int) := by rw [IntKind.wrap_i64]; omega
      repeat (first
        | (with_reducible (first | refine sops_go ?_ | refine headW_end ?_ | refine sops_end ?_ | refine awp_if ?_ | refine awp_skip ?_ | refine awp_ret ?_ | refine awp_exit ?_); simp only [go_sem, simprocAttr, hF, hd, hp])
        | ((with_reducible refine headW_go ?_); simp only [go_sem, simprocAttr, hF, hd, hp, hbx])
        | with_reducible refine awp_seq_k fun _ _ => ?_
        | (refine awp_draw' (id := 6) [] 11 (by kernel_rfl) (by kernel_rfl) rfl rfl (fun bx0 hbx => ?_); try dsimp only [List.take, List.drop])
        | with_reducible (first | refine awp_region [] ?_ | refine awp_block ?_)
        | go_step)
      refine ⟨_, rcheck33_ok n f.fr f.tn p hS hc ⟨f1, f2⟩ ⟨f3, f4⟩ f5 (hpl p (List.mem_of_getElem? hp)), ?_⟩
      simp only [go_sem, simprocAttr, hF]
      by_cases h3 : routeE n f.fr f.tn p = 0
      case neg =>
        have e3 : (routeE n f.fr f.tn p != 0) = true := by simpa using h3
        have hr : ps.any (fun p => !(routeE n f.fr f.tn p == 0)) = true := List.any_eq_true.2 ⟨p, List.mem_of_getElem? hp, by simpa using h3⟩
        have hL : lateX n f ps r fr = (lt0, 1) := by unfold lateX; rw [if_neg c3, if_pos hr]
        try simp only [go_sem, simprocAttr, hF, e3]
        repeat (first
          | (with_reducible (first | refine sops_go ?_ | refine headW_end ?_ | refine sops_end ?_ | refine awp_if ?_ | refine awp_skip ?_ | refine awp_ret ?_ | refine awp_exit ?_); simp only [go_sem, simprocAttr, hF, e3])
          | ((with_reducible refine headW_go ?_); simp only [go_sem, simprocAttr, hF, e3, hbx])
          | with_reducible refine awp_seq_k fun _ _ => ?_
          | (refine awp_draw' (id := 6) [] 11 (by kernel_rfl) (by kernel_rfl) rfl rfl (fun bx0 hbx => ?_); try dsimp only [List.take, List.drop])
          | with_reducible (first | refine awp_region [] ?_ | refine awp_block ?_)
          | go_step)
        all_goals (try rw [hL])
        all_goals (try rfl)
      have e3 : (routeE n f.fr f.tn p != 0) = false := by rw [h3]; rfl
      try simp only [go_sem, simprocAttr, hF, e3]
      repeat (first
        | (with_reducible (first | refine sops_go ?_ | refine headW_end ?_ | refine sops_end ?_ | refine awp_if ?_ | refine awp_skip ?_ | refine awp_ret ?_ | refine awp_exit ?_); simp only [go_sem, simprocAttr, hF, e3])
        | ((with_reducible refine headW_go ?_); simp only [go_sem, simprocAttr, hF, e3, hbx])
        | with_reducible refine awp_seq_k fun _ _ => ?_
        | (refine awp_draw' (id := 6) [] 11 (by kernel_rfl) (by kernel_rfl) rfl rfl (fun bx0 hbx => ?_); try dsimp only [List.take, List.drop])
        | with_reducible (first | refine awp_region [] ?_ | refine awp_block ?_)
        | go_step)
      refine ⟨⟨k + 1, by omega, by rw [List.take_add_one, hp, List.any_append, hT]; simp [h3]⟩, by dsimp only; omega, hR _ _ (sub_mk ?_)⟩
      simp only [go_sem, simprocAttr, hF, hw]
    have hd : decide ((k : Int) < (ps.length : Int)) = false := decide_eq_false (by omega)
    rw [List.take_of_length_le (by omega)] at hT
    have hr' : ¬ ps.any (fun p => !(routeE n f.fr f.tn p == 0)) = true := by rw [hT]; decide
    obtain ⟨LL, hLL⟩ : ∃ LL, LL = (late [f] r).1 := ⟨_, rfl⟩
    have hLl : LL.length ≤ 1000000 := by rw [hLL]; exact late_boundX [f] r
    have hX0 : lateX n f ps r fr = match LL.find? (fun x => x.fr == fr) with
        | none => (lt0, 12)
        | some x => (x, 0) := by unfold lateX; rw [if_neg c3, if_neg hr', hLL]; cases (List.find? (fun x => x.fr == fr) (late [f] r).1) <;> rfl
    repeat (first
      | (with_reducible (first | refine sops_go ?_ | refine headW_end ?_ | refine sops_end ?_ | refine awp_if ?_ | refine awp_skip ?_ | refine awp_ret ?_ | refine awp_exit ?_); simp only [go_sem, simprocAttr, hF, hd])
      | ((with_reducible refine headW_go ?_); simp only [go_sem, simprocAttr, hF, hd, hbx])
      | with_reducible refine awp_seq_k fun _ _ => ?_
      | (refine awp_draw' (id := 6) [] 11 (by kernel_rfl) (by kernel_rfl) rfl rfl (fun bx0 hbx => ?_); try dsimp only [List.take, List.drop])
      | with_reducible (first | refine awp_region [] ?_ | refine awp_block ?_)
      | go_step)
    refine ⟨_, rlate_ok [f] r (by simp) hla hld, ?_⟩
    simp only [go_sem, simprocAttr, hF]
    rw [← hLL]
    repeat (first
      | (with_reducible (first | refine sops_go ?_ | refine headW_end ?_ | refine sops_end ?_ | refine awp_if ?_ | refine awp_skip ?_ | refine awp_ret ?_ | refine awp_exit ?_); simp only [go_sem, simprocAttr, hF])
      | ((with_reducible refine headW_go ?_); simp only [go_sem, simprocAttr, hF, hbx])
      | with_reducible refine awp_seq_k fun _ _ => ?_
      | (refine awp_draw' (id := 6) [] 11 (by kernel_rfl) (by kernel_rfl) rfl rfl (fun bx0 hbx => ?_); try dsimp only [List.take, List.drop])
      | with_reducible (first | refine awp_region [] ?_ | refine awp_block ?_)
      | go_step)
    refine awp_loop_by (ι := {i : Nat // i ≤ LL.length ∧ LL.find? (fun x => x.fr == fr) = (LL.drop i).find? (fun x => x.fr == fr)}) (fun i σ => ⟨(15, iv (i.1 : Int)) :: (13, .sl 3 (LL.map Lt.pv)) :: keepS [4, 10] σ.slot, keepS [10] σ.box, [], σ.ext⟩) (fun i => LL.length - i.1) ⟨0, by omega, rfl⟩ (sub_mk ?_) (fun R2 hR2 i => ?_)
    · simp only [go_sem, simprocAttr, hF]
      repeat' (first | rfl | refine ⟨?_, ?_⟩)
    obtain ⟨i, hi, hU⟩ := i
    dsimp only
    simp only [go_sem, simprocAttr, hF]
    by_cases hit : i < LL.length
    case neg =>
      have hdi : decide ((i : Int) < (LL.length : Int)) = false := decide_eq_false (by omega)
      have hL : lateX n f ps r fr = (lt0, 12) := by rw [hX0, hU, List.drop_of_length_le (by omega)]; rfl
      repeat (first
        | (with_reducible (first | refine sops_go ?_ | refine headW_end ?_ | refine sops_end ?_ | refine awp_if ?_ | refine awp_skip ?_ | refine awp_ret ?_ | refine awp_exit ?_); simp only [go_sem, simprocAttr, hF, hdi])
        | ((with_reducible refine headW_go ?_); simp only [go_sem, simprocAttr, hF, hdi, hbx])
        | with_reducible refine awp_seq_k fun _ _ => ?_
        | (refine awp_draw' (id := 6) [] 11 (by kernel_rfl) (by kernel_rfl) rfl rfl (fun bx0 hbx => ?_); try dsimp only [List.take, List.drop])
        | with_reducible (first | refine awp_region [] ?_ | refine awp_block ?_)
        | go_step)
      all_goals (try rw [hL])
      all_goals (try rfl)
    obtain ⟨x, hx⟩ := get_of_lt hit
    have hdi : decide ((i : Int) < (LL.length : Int)) = true := decide_eq_true (by omega)
    have hwi : IntKind.i64.wrap ((i : Int) + 1) = ((i + 1 : Nat) : Int) := by rw [IntKind.wrap_i64]; omega
    cases ex : (x.fr == fr) with
    | true =>
      have hL : lateX n f ps r fr = (x, 0) := by rw [hX0, hU, drop_of_get hx, List.find?_cons_of_pos (p := fun x : Lt => x.fr == fr) ex]
      repeat (first
        | (with_reducible (first | refine sops_go ?_ | refine headW_end ?_ | refine sops_end ?_ | refine awp_if ?_ | refine awp_skip ?_ | refine awp_ret ?_ | refine awp_exit ?_); simp only [go_sem, simprocAttr, hF, hdi, hx, ex])
        | ((with_reducible refine headW_go ?_); simp only [go_sem, simprocAttr, hF, hdi, hx, ex, hbx])
        | with_reducible refine awp_seq_k fun _ _ => ?_
        | (refine awp_draw' (id := 6) [] 11 (by kernel_rfl) (by kernel_rfl) rfl rfl (fun bx0 hbx => ?_); try dsimp only [List.take, List.drop])
        | with_reducible (first | refine awp_region [] ?_ | refine awp_block ?_)
        | go_step)
      all_goals (try rw [hL])
      all_goals (try rfl)
    | false =>
      repeat (first
        | (with_reducible (first | refine sops_go ?_ | refine headW_end ?_ | refine sops_end ?_ | refine awp_if ?_ | refine awp_skip ?_ | refine awp_ret ?_ | refine awp_exit ?_); simp only [go_sem, simprocAttr, hF, hdi, hx, ex])
        | ((with_reducible refine headW_go ?_); simp only [go_sem, simprocAttr, hF, hdi, hx, ex, hbx])
        | with_reducible refine awp_seq_k fun _ _ => ?_
        | (refine awp_draw' (id := 6) [] 11 (by kernel_rfl) (by kernel_rfl) rfl rfl (fun bx0 hbx => ?_); try dsimp only [List.take, List.drop])
        | with_reducible (first | refine awp_region [] ?_ | refine awp_block ?_)
        | go_step)
      refine ⟨⟨i + 1, by omega, by rw [hU, drop_of_get hx, List.find?_cons_of_neg (p := fun x : Lt => x.fr == fr) (by simp [ex])]⟩, by dsimp only; omega, hR2 _ _ (sub_mk ?_)⟩
      simp only [go_sem, simprocAttr, hF, hwi]
/- The reference of causes, by abstract states. -/
theorem ratt_ok (r : Rec) (fl fr : Int) (hla : r.al.length ≤ 1000000) : FnOK Tryz.prog 80 [.agg r.pv, iv fl, iv fr] ⟨.sl 8 ((ofFrame r.al fl fr).map Att.pv), none⟩ := fn_of ⟨Tryz.f80, _, Tryz.func80, by kernel_rfl, rfl⟩ fun w R hR us hus => by
  cases hus with | cons h0 _ hus =>
  cases hus with | cons h1 _ hus =>
  cases hus with | cons h2 _ hus =>
  cases hus
  obtain ⟨A, D, ca, cd, rfl, hA, _⟩ := rec_rep hR h0
  rw [h1, h2]
  refine (rattempts_any r A D ca cd fl fr w hA hla).mono ?_
  rintro e w' ⟨hb, va, rfl, hown⟩
  refine ⟨_, rfl, hb, ?_⟩
  rw [att_pv]
  have hlen : (ofFrame r.al fl fr).length = ((ofFrame r.al fl fr).map Att.row).length := (List.length_map _).symm
  have hfl : flatA (ofFrame r.al fl fr) = ((ofFrame r.al fl fr).map Att.row).flatten := by unfold flatA; rw [List.flatMap_def]
  rw [hlen, hfl] at hown
  obtain ⟨q, _, h2⟩ := owns_rep (R := R) (by decide) hown (fun row hr => by obtain ⟨x, _, rfl⟩ := List.mem_map.1 hr; rfl) (fun row hr x hx => by obtain ⟨y, _, rfl⟩ := List.mem_map.1 hr; simp only [Att.row, List.mem_cons, List.not_mem_nil, or_false] at hx; rcases hx with rfl | rfl | rfl | rfl | rfl | rfl | rfl | rfl <;> rfl)
  have h3 := h2 none (.inl rfl)
  exact ⟨rfl, h3⟩
theorem rel_bounds {f : Fl} {n : Int} (hf : fault f = 0) (h0 : 0 ≤ n) (h1 : n ≤ 1048576) : 0 ≤ rel f n ∧ rel f n ≤ 600000000 ∧ 1 ≤ f.dl ∧ f.dl ≤ 512 := by
  unfold fault at hf
  split at hf
  · rename_i hb
    simp only [boundsB, Nd.inB, Bool.and_eq_true, decide_eq_true_eq] at hb
    have hm1 : n * f.pe ≤ 1048576 * f.pe := Int.mul_le_mul_of_nonneg_right h1 (by omega)
    have hm0 : 0 ≤ n * f.pe := Int.mul_nonneg h0 (by omega)
    unfold rel
    omega
  · cases hf

set_option maxHeartbeats 40000000 in
theorem rcauses_ok (n : Net) (f : Fl) (r : Rec) (fr a b : Int) (hS : SmallN n) (hB : basicB n f r = true) (hfr : 0 ≤ fr ∧ fr < 1048576) (hi : 0 ≤ idxL n a b) (hla : r.al.length ≤ 1000000) : FnOK Tryz.prog 39 [.agg n.pv, .agg f.pv, .agg r.pv, iv fr, iv a, iv b] ⟨.sl 5 ((causesX n f r fr a b).map Br.pv), none⟩ := by
  obtain ⟨hc, hg, hn, hfN, hf⟩ := basicB_inv hB
  have hN := netOK hc
  obtain ⟨L, hL⟩ : ∃ L, L = onLk r.al f.id fr a b := ⟨_, rfl⟩
  have hLn : L.length ≤ 1000000 := by rw [hL]; exact Nat.le_trans (att_len _ _ _ _ _) hla
  obtain ⟨all, hall⟩ : ∃ all, all = ofFrame r.al f.id fr := ⟨_, rfl⟩
  have hLall : L = all.filter (fun x : Att => x.cf == a && x.ct == b) := by rw [hL, hall]; rfl
  have haln : all.length ≤ 1000000 := by rw [hall]; exact Nat.le_trans (List.length_filter_le _ _) hla
  obtain ⟨z0, z1, z2, z3⟩ := rel_bounds hf hfr.1 (show fr ≤ 1048576 by omega)
  rcases idxL_cases n a b with hix | ⟨i, x, hx, _, _, hix⟩
  · omega
  obtain ⟨m, hm⟩ : ∃ m : Nat, x.ls = (m : Int) ∧ m ≤ 7 := by
    have h := hN.lkb x (List.mem_of_getElem? hx)
    simp only [lkB, Nd.inB, Bool.and_eq_true, decide_eq_true_eq] at h
    exact ⟨x.ls.toNat, by omega, by omega⟩
  obtain ⟨hm, hm7⟩ := hm
  have hloss : lossL n a b = (m : Int) := by unfold lossL; rw [hix, Int.toNat_natCast, List.getD_eq_getElem?_getD, hx]; exact hm
  have hC : causesX n f r fr a b = causesK f fr a b (rel f fr) (rel f fr + f.dl - 1) (m + 1) L (L.length - m) := by unfold causesX; rw [hloss, hL]; rfl
  rw [hC]
  clear hC hloss
  have hix2 : idxP (fun l : Lk => l.fr == a && l.tt == b) n.lk 0 = (i : Int) := hix
  have wdl : IntKind.i64.wrap (rel f fr + f.dl) = rel f fr + f.dl := by rw [IntKind.wrap_i64]; omega
  refine fn_ok Tryz.func39 (by kernel_rfl) rfl (by rw [Tryz.ntmps39]; exact of_decide_eq_true rfl) (fun F hF => ?_)
  rw [Tryz.ntmps39] at hF
  rw [Tryz.results39]
  repeat (first
    | (with_reducible (first | refine sops_go ?_ | refine headW_end ?_ | refine sops_end ?_ | refine awp_if ?_ | refine awp_skip ?_ | refine awp_ret ?_ | refine awp_exit ?_); simp only [go_sem, simprocAttr, hF, hix2, hx, hm])
    | ((with_reducible refine headW_go ?_); simp only [go_sem, simprocAttr, hF, hix2, hx, hm, hbx])
    | with_reducible refine awp_seq_k fun _ _ => ?_
    | (refine awp_draw' (id := 1) [64, 117, 126] 9 (by kernel_rfl) (by kernel_rfl) rfl rfl (fun bx0 hbx => ?_); try dsimp only [List.take, List.drop])
    | (refine awp_draw' (id := 19) [64, 117, 126] 30 (by kernel_rfl) (by kernel_rfl) rfl rfl (fun bx0 hbx => ?_); try dsimp only [List.take, List.drop])
    | with_reducible (first | refine awp_region [64, 117, 126] ?_ | refine awp_block ?_)
    | go_step)
  refine ⟨_, nfind_ok n a b hS.lk, ?_⟩
  simp only [go_sem, simprocAttr, hF, hix2, hx, hm]
  repeat (first
    | (with_reducible (first | refine sops_go ?_ | refine headW_end ?_ | refine sops_end ?_ | refine awp_if ?_ | refine awp_skip ?_ | refine awp_ret ?_ | refine awp_exit ?_); simp only [go_sem, simprocAttr, hF, hix2, hx, hm])
    | ((with_reducible refine headW_go ?_); simp only [go_sem, simprocAttr, hF, hix2, hx, hm, hbx])
    | with_reducible refine awp_seq_k fun _ _ => ?_
    | (refine awp_draw' (id := 1) [64, 117, 126] 9 (by kernel_rfl) (by kernel_rfl) rfl rfl (fun bx0 hbx => ?_); try dsimp only [List.take, List.drop])
    | (refine awp_draw' (id := 19) [64, 117, 126] 30 (by kernel_rfl) (by kernel_rfl) rfl rfl (fun bx0 hbx => ?_); try dsimp only [List.take, List.drop])
    | with_reducible (first | refine awp_region [64, 117, 126] ?_ | refine awp_block ?_)
    | go_step)
  refine ⟨_, rrel_okW f fr hf hfr.1 (by omega), ?_⟩
  simp only [go_sem, simprocAttr, hF]
  repeat (first
    | (with_reducible (first | refine sops_go ?_ | refine headW_end ?_ | refine sops_end ?_ | refine awp_if ?_ | refine awp_skip ?_ | refine awp_ret ?_ | refine awp_exit ?_); simp only [go_sem, simprocAttr, hF])
    | ((with_reducible refine headW_go ?_); simp only [go_sem, simprocAttr, hF, hbx])
    | with_reducible refine awp_seq_k fun _ _ => ?_
    | (refine awp_draw' (id := 1) [64, 117, 126] 9 (by kernel_rfl) (by kernel_rfl) rfl rfl (fun bx0 hbx => ?_); try dsimp only [List.take, List.drop])
    | (refine awp_draw' (id := 19) [64, 117, 126] 30 (by kernel_rfl) (by kernel_rfl) rfl rfl (fun bx0 hbx => ?_); try dsimp only [List.take, List.drop])
    | with_reducible (first | refine awp_region [64, 117, 126] ?_ | refine awp_block ?_)
    | go_step)
  refine ⟨_, ratt_ok r f.id fr hla, ?_⟩
  simp only [go_sem, simprocAttr, hF]
  rw [← hall]
  repeat (first
    | (with_reducible (first | refine sops_go ?_ | refine headW_end ?_ | refine sops_end ?_ | refine awp_if ?_ | refine awp_skip ?_ | refine awp_ret ?_ | refine awp_exit ?_); simp only [go_sem, simprocAttr, hF])
    | ((with_reducible refine headW_go ?_); simp only [go_sem, simprocAttr, hF, hbx])
    | with_reducible refine awp_seq_k fun _ _ => ?_
    | (refine awp_draw' (id := 1) [64, 117, 126] 9 (by kernel_rfl) (by kernel_rfl) rfl rfl (fun bx0 hbx => ?_); try dsimp only [List.take, List.drop])
    | (refine awp_draw' (id := 19) [64, 117, 126] 30 (by kernel_rfl) (by kernel_rfl) rfl rfl (fun bx0 hbx => ?_); try dsimp only [List.take, List.drop])
    | with_reducible (first | refine awp_region [64, 117, 126] ?_ | refine awp_block ?_)
    | go_step)
  refine awp_nil 15 8 66 (by rw [hF]; decide) (by first | rfl | simp only [Av.look]; rfl) ?_
  simp only [go_sem, simprocAttr, hF]
  repeat (first
    | (with_reducible (first | refine sops_go ?_ | refine headW_end ?_ | refine sops_end ?_ | refine awp_if ?_ | refine awp_skip ?_ | refine awp_ret ?_ | refine awp_exit ?_); simp only [go_sem, simprocAttr, hF])
    | ((with_reducible refine headW_go ?_); simp only [go_sem, simprocAttr, hF, hbx])
    | with_reducible refine awp_seq_k fun _ _ => ?_
    | (refine awp_draw' (id := 1) [64, 117, 126] 9 (by kernel_rfl) (by kernel_rfl) rfl rfl (fun bx0 hbx => ?_); try dsimp only [List.take, List.drop])
    | (refine awp_draw' (id := 19) [64, 117, 126] 30 (by kernel_rfl) (by kernel_rfl) rfl rfl (fun bx0 hbx => ?_); try dsimp only [List.take, List.drop])
    | with_reducible (first | refine awp_region [64, 117, 126] ?_ | refine awp_block ?_)
    | go_step)
  refine awp_loop_by (ι := {k : Nat // k ≤ all.length}) (fun k σ => ⟨(17, iv (k.1 : Int)) :: (15, .sl 8 (((all.take k.1).filter (fun x : Att => x.cf == a && x.ct == b)).map Att.pv)) :: keepS [3, 4, 5, 6, 7, 8, 13, 14, 16] σ.slot, keepS [6, 7, 8] σ.box, [(.s 15, (66, 8))], σ.ext⟩) (fun k => all.length - k.1) ⟨0, by omega⟩ (sub_mk ?_) (fun R hR k => ?_)
  · simp only [go_sem, simprocAttr, hF]
    repeat' (first | rfl | refine ⟨?_, ?_⟩)
  obtain ⟨k, hk⟩ := k
  dsimp only
  simp only [go_sem, simprocAttr, hF]
  by_cases hlt : k < all.length
  case pos =>
    obtain ⟨d, hdk⟩ := get_of_lt hlt
    have hd : decide ((k : Int) < (all.length : Int)) = true := decide_eq_true (by omega)
    have hw : IntKind.i64.wrap ((k : Int) + 1) = ((k + 1 : Nat) : Int) := by rw [IntKind.wrap_i64]; omega
    have hT : List.take (k + 1) all = List.take k all ++ [d] := by rw [List.take_add_one, hdk]; rfl
    have hLL : (List.filter (fun x : Att => x.cf == a && x.ct == b) (List.take k all)).length ≤ 99999999 := by
      have h1 := List.length_filter_le (fun x : Att => x.cf == a && x.ct == b) (all.take k)
      have h2 : (all.take k).length ≤ k := by rw [List.length_take]; omega
      omega
    cases e1 : (d.cf == a) with
    | false =>
      have hT1 : List.filter (fun x : Att => x.cf == a && x.ct == b) (List.take (k + 1) all) = List.filter (fun x : Att => x.cf == a && x.ct == b) (List.take k all) := by rw [hT, List.filter_append, List.filter_cons_of_neg (by rw [e1]; simp), List.filter_nil, List.append_nil]
      repeat (first
        | (with_reducible (first | refine sops_go ?_ | refine headW_end ?_ | refine sops_end ?_ | refine awp_if ?_ | refine awp_skip ?_ | refine awp_ret ?_ | refine awp_exit ?_); simp only [go_sem, simprocAttr, hF, hd, hdk, e1, hLL])
        | ((with_reducible refine headW_go ?_); simp only [go_sem, simprocAttr, hF, hd, hdk, e1, hLL, hbx])
        | with_reducible refine awp_seq_k fun _ _ => ?_
        | (refine awp_draw' (id := 1) [64, 117, 126] 9 (by kernel_rfl) (by kernel_rfl) rfl rfl (fun bx0 hbx => ?_); try dsimp only [List.take, List.drop])
        | (refine awp_draw' (id := 19) [64, 117, 126] 30 (by kernel_rfl) (by kernel_rfl) rfl rfl (fun bx0 hbx => ?_); try dsimp only [List.take, List.drop])
        | with_reducible (first | refine awp_region [64, 117, 126] ?_ | refine awp_block ?_)
        | go_step)
      refine ⟨⟨k + 1, by omega⟩, by dsimp only; omega, hR _ _ (sub_mk ?_)⟩
      simp only [go_sem, simprocAttr, hF, hw, hT1, List.map_append]
    | true =>
      cases e2 : (d.ct == b) with
      | false =>
        have hT1 : List.filter (fun x : Att => x.cf == a && x.ct == b) (List.take (k + 1) all) = List.filter (fun x : Att => x.cf == a && x.ct == b) (List.take k all) := by rw [hT, List.filter_append, List.filter_cons_of_neg (by rw [e1, e2]; simp), List.filter_nil, List.append_nil]
        repeat (first
          | (with_reducible (first | refine sops_go ?_ | refine headW_end ?_ | refine sops_end ?_ | refine awp_if ?_ | refine awp_skip ?_ | refine awp_ret ?_ | refine awp_exit ?_); simp only [go_sem, simprocAttr, hF, hd, hdk, e1, e2, hLL])
          | ((with_reducible refine headW_go ?_); simp only [go_sem, simprocAttr, hF, hd, hdk, e1, e2, hLL, hbx])
          | with_reducible refine awp_seq_k fun _ _ => ?_
          | (refine awp_draw' (id := 1) [64, 117, 126] 9 (by kernel_rfl) (by kernel_rfl) rfl rfl (fun bx0 hbx => ?_); try dsimp only [List.take, List.drop])
          | (refine awp_draw' (id := 19) [64, 117, 126] 30 (by kernel_rfl) (by kernel_rfl) rfl rfl (fun bx0 hbx => ?_); try dsimp only [List.take, List.drop])
          | with_reducible (first | refine awp_region [64, 117, 126] ?_ | refine awp_block ?_)
          | go_step)
        refine ⟨⟨k + 1, by omega⟩, by dsimp only; omega, hR _ _ (sub_mk ?_)⟩
        simp only [go_sem, simprocAttr, hF, hw, hT1, List.map_append]
      | true =>
        have hT1 : List.filter (fun x : Att => x.cf == a && x.ct == b) (List.take (k + 1) all) = List.filter (fun x : Att => x.cf == a && x.ct == b) (List.take k all) ++ [d] := by rw [hT, List.filter_append, List.filter_cons_of_pos (by rw [e1, e2]; rfl), List.filter_nil]
        repeat (first
          | (with_reducible (first | refine sops_go ?_ | refine headW_end ?_ | refine sops_end ?_ | refine awp_if ?_ | refine awp_skip ?_ | refine awp_ret ?_ | refine awp_exit ?_); simp only [go_sem, simprocAttr, hF, hd, hdk, e1, e2, hLL])
          | ((with_reducible refine headW_go ?_); simp only [go_sem, simprocAttr, hF, hd, hdk, e1, e2, hLL, hbx])
          | with_reducible refine awp_seq_k fun _ _ => ?_
          | (refine awp_draw' (id := 1) [64, 117, 126] 9 (by kernel_rfl) (by kernel_rfl) rfl rfl (fun bx0 hbx => ?_); try dsimp only [List.take, List.drop])
          | (refine awp_draw' (id := 19) [64, 117, 126] 30 (by kernel_rfl) (by kernel_rfl) rfl rfl (fun bx0 hbx => ?_); try dsimp only [List.take, List.drop])
          | with_reducible (first | refine awp_region [64, 117, 126] ?_ | refine awp_block ?_)
          | go_step)
        refine ⟨⟨k + 1, by omega⟩, by dsimp only; omega, hR _ _ (sub_mk ?_)⟩
        simp only [go_sem, simprocAttr, hF, hw, hT1, List.map_append]
  have hd : decide ((k : Int) < (all.length : Int)) = false := decide_eq_false (by omega)
  have hallL : List.filter (fun x : Att => x.cf == a && x.ct == b) (List.take k all) = L := by rw [List.take_of_length_le (by omega), ← hLall]
  repeat (first
    | (with_reducible (first | refine sops_go ?_ | refine headW_end ?_ | refine sops_end ?_ | refine awp_if ?_ | refine awp_skip ?_ | refine awp_ret ?_ | refine awp_exit ?_); simp only [go_sem, simprocAttr, hF, hd, hallL])
    | ((with_reducible refine headW_go ?_); simp only [go_sem, simprocAttr, hF, hd, hallL, hbx])
    | with_reducible refine awp_seq_k fun _ _ => ?_
    | (refine awp_draw' (id := 1) [64, 117, 126] 9 (by kernel_rfl) (by kernel_rfl) rfl rfl (fun bx0 hbx => ?_); try dsimp only [List.take, List.drop])
    | (refine awp_draw' (id := 19) [64, 117, 126] 30 (by kernel_rfl) (by kernel_rfl) rfl rfl (fun bx0 hbx => ?_); try dsimp only [List.take, List.drop])
    | with_reducible (first | refine awp_region [64, 117, 126] ?_ | refine awp_block ?_)
    | go_step)
  refine awp_nil 18 5 57 (by rw [hF]; decide) (by first | rfl | simp only [Av.look]; rfl) ?_
  simp only [go_sem, simprocAttr, hF]
  repeat (first
    | (with_reducible (first | refine sops_go ?_ | refine headW_end ?_ | refine sops_end ?_ | refine awp_if ?_ | refine awp_skip ?_ | refine awp_ret ?_ | refine awp_exit ?_); simp only [go_sem, simprocAttr, hF, hallL])
    | ((with_reducible refine headW_go ?_); simp only [go_sem, simprocAttr, hF, hallL, hbx])
    | with_reducible refine awp_seq_k fun _ _ => ?_
    | (refine awp_draw' (id := 1) [64, 117, 126] 9 (by kernel_rfl) (by kernel_rfl) rfl rfl (fun bx0 hbx => ?_); try dsimp only [List.take, List.drop])
    | (refine awp_draw' (id := 19) [64, 117, 126] 30 (by kernel_rfl) (by kernel_rfl) rfl rfl (fun bx0 hbx => ?_); try dsimp only [List.take, List.drop])
    | with_reducible (first | refine awp_region [64, 117, 126] ?_ | refine awp_block ?_)
    | go_step)
  refine awp_loop_by (ι := {k : Nat // k ≤ L.length - m}) (fun k σ => ⟨(19, iv (k.1 : Int)) :: (18, .sl 5 ((causesK f fr a b (rel f fr) (rel f fr + f.dl - 1) (m + 1) L k.1).map Br.pv)) :: (15, .sl 8 (L.map Att.pv)) :: keepS [3, 4, 5, 6, 7, 8, 13, 14] σ.slot, keepS [6, 7, 8] σ.box, [(.s 18, (57, 5))], σ.ext⟩) (fun k => (L.length - m) - k.1) ⟨0, by omega⟩ (sub_mk ?_) (fun R2 hR2 q => ?_)
  · simp only [go_sem, simprocAttr, hF]
    try simp only [hallL]
    repeat' (first | rfl | exact True.intro | refine ⟨?_, ?_⟩)
  obtain ⟨q, hq⟩ := q
  dsimp only
  simp only [go_sem, simprocAttr, hF]
  have wq : IntKind.i64.wrap ((q : Int) + (m : Int)) = ((q + m : Nat) : Int) := by rw [IntKind.wrap_i64]; omega
  by_cases hqt : q + m < L.length
  case neg =>
    have hdq : decide (((q + m : Nat) : Int) < (L.length : Int)) = false := decide_eq_false (by omega)
    obtain rfl : q = L.length - m := by omega
    repeat (first
      | (with_reducible (first | refine sops_go ?_ | refine headW_end ?_ | refine sops_end ?_ | refine awp_if ?_ | refine awp_skip ?_ | refine awp_ret ?_ | refine awp_exit ?_); simp only [go_sem, simprocAttr, hF, wq, hdq])
      | ((with_reducible refine headW_go ?_); simp only [go_sem, simprocAttr, hF, wq, hdq, hbx])
      | with_reducible refine awp_seq_k fun _ _ => ?_
      | (refine awp_draw' (id := 1) [64, 117, 126] 9 (by kernel_rfl) (by kernel_rfl) rfl rfl (fun bx0 hbx => ?_); try dsimp only [List.take, List.drop])
      | (refine awp_draw' (id := 19) [64, 117, 126] 30 (by kernel_rfl) (by kernel_rfl) rfl rfl (fun bx0 hbx => ?_); try dsimp only [List.take, List.drop])
      | with_reducible (first | refine awp_region [64, 117, 126] ?_ | refine awp_block ?_)
      | go_step)
    all_goals (try rfl)
  have hdq : decide (((q + m : Nat) : Int) < (L.length : Int)) = true := decide_eq_true (by omega)
  have hwq : IntKind.i64.wrap ((q : Int) + 1) = ((q + 1 : Nat) : Int) := by rw [IntKind.wrap_i64]; omega
  obtain ⟨part, hpart⟩ : ∃ part, part = (L.drop q).take (m + 1) := ⟨_, rfl⟩
  have hpl : part.length = m + 1 := by rw [hpart, List.length_take, List.length_drop]; omega
  have hget : ∀ j, j < m + 1 → L[q + j]? = part[j]? := fun j hj => by rw [hpart, List.getElem?_take_of_lt hj, List.getElem?_drop]
  have hcs : causesK f fr a b (rel f fr) (rel f fr + f.dl - 1) (m + 1) L (q + 1) = causesK f fr a b (rel f fr) (rel f fr + f.dl - 1) (m + 1) L q ++ (if part.all (failB (rel f fr) (rel f fr + f.dl - 1)) = true then [⟨f.id, fr, a, b, part.map Att.s⟩] else []) := by
    rw [causesK_succ, causeAt, ← hpart]
  have hcl : (causesK f fr a b (rel f fr) (rel f fr + f.dl - 1) (m + 1) L q).length ≤ 99999999 := by have := causesK_len f fr a b (rel f fr) (rel f fr + f.dl - 1) (m + 1) L q; omega
  clear hpart
  repeat (first
    | (with_reducible (first | refine sops_go ?_ | refine headW_end ?_ | refine sops_end ?_ | refine awp_if ?_ | refine awp_skip ?_ | refine awp_ret ?_ | refine awp_exit ?_); simp only [go_sem, simprocAttr, hF, wq, hdq])
    | ((with_reducible refine headW_go ?_); simp only [go_sem, simprocAttr, hF, wq, hdq, hbx])
    | with_reducible refine awp_seq_k fun _ _ => ?_
    | (refine awp_draw' (id := 1) [64, 117, 126] 9 (by kernel_rfl) (by kernel_rfl) rfl rfl (fun bx0 hbx => ?_); try dsimp only [List.take, List.drop])
    | (refine awp_draw' (id := 19) [64, 117, 126] 30 (by kernel_rfl) (by kernel_rfl) rfl rfl (fun bx0 hbx => ?_); try dsimp only [List.take, List.drop])
    | with_reducible (first | refine awp_region [64, 117, 126] ?_ | refine awp_block ?_)
    | go_step)
  refine awp_nil 21 1 3 (by rw [hF]; decide) (by first | rfl | simp only [Av.look]; rfl) ?_
  simp only [go_sem, simprocAttr, hF]
  repeat (first
    | (with_reducible (first | refine sops_go ?_ | refine headW_end ?_ | refine sops_end ?_ | refine awp_if ?_ | refine awp_skip ?_ | refine awp_ret ?_ | refine awp_exit ?_); simp only [go_sem, simprocAttr, hF])
    | ((with_reducible refine headW_go ?_); simp only [go_sem, simprocAttr, hF, hbx])
    | with_reducible refine awp_seq_k fun _ _ => ?_
    | (refine awp_draw' (id := 1) [64, 117, 126] 9 (by kernel_rfl) (by kernel_rfl) rfl rfl (fun bx0 hbx => ?_); try dsimp only [List.take, List.drop])
    | (refine awp_draw' (id := 19) [64, 117, 126] 30 (by kernel_rfl) (by kernel_rfl) rfl rfl (fun bx0 hbx => ?_); try dsimp only [List.take, List.drop])
    | with_reducible (first | refine awp_region [64, 117, 126] ?_ | refine awp_block ?_)
    | go_step)
  refine awp_loop_by (ι := {j : Nat // j ≤ m + 1}) (fun j σ => ⟨(22, iv ((q + j.1 : Nat) : Int)) :: (20, bv ((part.take j.1).all (failB (rel f fr) (rel f fr + f.dl - 1)))) :: (21, .sl 1 (((part.take j.1).map Att.s).map fun x => [ip x])) :: keepS [3, 4, 5, 6, 7, 8, 13, 14, 15, 18, 19] σ.slot, keepS [6, 7, 8] σ.box, [(.s 18, (57, 5)), (.s 21, (3, 1))], σ.ext⟩) (fun j => (m + 1) - j.1) ⟨0, by omega⟩ (sub_mk ?_) (fun R3 hR3 j => ?_)
  · simp only [go_sem, simprocAttr, hF]
    try simp only [Nat.add_zero]
    repeat' (first | rfl | exact True.intro | refine ⟨?_, ?_⟩)
  obtain ⟨j, hj⟩ := j
  dsimp only
  simp only [go_sem, simprocAttr, hF]
  by_cases hjt : j < m + 1
  case neg =>
    have hdj : decide (((q + j : Nat) : Int) ≤ ((q + m : Nat) : Int)) = false := decide_eq_false (by omega)
    have hpt : List.take j part = part := List.take_of_length_le (by omega)
    cases hA : part.all (failB (rel f fr) (rel f fr + f.dl - 1)) with
    | false =>
      rw [hA, if_neg (by decide), List.append_nil] at hcs
      repeat (first
        | (with_reducible (first | refine sops_go ?_ | refine headW_end ?_ | refine sops_end ?_ | refine awp_if ?_ | refine awp_skip ?_ | refine awp_ret ?_ | refine awp_exit ?_); simp only [go_sem, simprocAttr, hF, wq, hdj, hpt, hA])
        | ((with_reducible refine headW_go ?_); simp only [go_sem, simprocAttr, hF, wq, hdj, hpt, hA, hbx])
        | with_reducible refine awp_seq_k fun _ _ => ?_
        | (refine awp_draw' (id := 1) [64, 117, 126] 9 (by kernel_rfl) (by kernel_rfl) rfl rfl (fun bx0 hbx => ?_); try dsimp only [List.take, List.drop])
        | (refine awp_draw' (id := 19) [64, 117, 126] 30 (by kernel_rfl) (by kernel_rfl) rfl rfl (fun bx0 hbx => ?_); try dsimp only [List.take, List.drop])
        | with_reducible (first | refine awp_region [64, 117, 126] ?_ | refine awp_block ?_)
        | go_step)
      refine ⟨⟨q + 1, by omega⟩, by dsimp only; omega, hR2 _ _ (sub_mk ?_)⟩
      simp only [go_sem, simprocAttr, hF, hwq, hcs]
    | true =>
      rw [hA, if_pos rfl] at hcs
      repeat (first
        | (with_reducible (first | refine sops_go ?_ | refine headW_end ?_ | refine sops_end ?_ | refine awp_if ?_ | refine awp_skip ?_ | refine awp_ret ?_ | refine awp_exit ?_); simp only [go_sem, simprocAttr, hF, wq, hdj, hpt, hA, hcl])
        | ((with_reducible refine headW_go ?_); simp only [go_sem, simprocAttr, hF, wq, hdj, hpt, hA, hcl, hbx])
        | with_reducible refine awp_seq_k fun _ _ => ?_
        | (refine awp_draw' (id := 1) [64, 117, 126] 9 (by kernel_rfl) (by kernel_rfl) rfl rfl (fun bx0 hbx => ?_); try dsimp only [List.take, List.drop])
        | (refine awp_draw' (id := 19) [64, 117, 126] 30 (by kernel_rfl) (by kernel_rfl) rfl rfl (fun bx0 hbx => ?_); try dsimp only [List.take, List.drop])
        | with_reducible (first | refine awp_region [64, 117, 126] ?_ | refine awp_block ?_)
        | go_step)
      refine ⟨⟨q + 1, by omega⟩, by dsimp only; omega, hR2 _ _ (sub_mk ?_)⟩
      simp only [go_sem, simprocAttr, hF, hwq, hcs, List.map_append, List.map_cons, List.map_nil, Br.pv]
  have hdj : decide (((q + j : Nat) : Int) ≤ ((q + m : Nat) : Int)) = true := decide_eq_true (by omega)
  have hwj : IntKind.i64.wrap (((q + j : Nat) : Int) + 1) = ((q + (j + 1) : Nat) : Int) := by rw [IntKind.wrap_i64]; omega
  obtain ⟨d, hdk⟩ := get_of_lt (l := part) (k := j) (by omega)
  have hdL : L[q + j]? = some d := by rw [hget j hjt, hdk]
  have hT : List.take (j + 1) part = List.take j part ++ [d] := by rw [List.take_add_one, hdk]; rfl
  have hjl : (List.take j part).length ≤ 99999999 := by rw [List.length_take]; omega
  have hAs : (List.take (j + 1) part).all (failB (rel f fr) (rel f fr + f.dl - 1)) = ((List.take j part).all (failB (rel f fr) (rel f fr + f.dl - 1)) && failB (rel f fr) (rel f fr + f.dl - 1) d) := by rw [hT, List.all_append, List.all_cons, List.all_nil, Bool.and_true]
  cases e0 : (List.take j part).all (failB (rel f fr) (rel f fr + f.dl - 1)) with
  | false =>
    have hAs2 : (List.take j part ++ [d]).all (failB (rel f fr) (rel f fr + f.dl - 1)) = false := by rw [← hT, hAs, e0]; rfl
    repeat (first
      | (with_reducible (first | refine sops_go ?_ | refine headW_end ?_ | refine sops_end ?_ | refine awp_if ?_ | refine awp_skip ?_ | refine awp_ret ?_ | refine awp_exit ?_); simp only [go_sem, simprocAttr, hF, wq, hdj, hdL, wdl, hjl, e0])
      | ((with_reducible refine headW_go ?_); simp only [go_sem, simprocAttr, hF, wq, hdj, hdL, wdl, hjl, e0, hbx])
      | with_reducible refine awp_seq_k fun _ _ => ?_
      | (refine awp_draw' (id := 1) [64, 117, 126] 9 (by kernel_rfl) (by kernel_rfl) rfl rfl (fun bx0 hbx => ?_); try dsimp only [List.take, List.drop])
      | (refine awp_draw' (id := 19) [64, 117, 126] 30 (by kernel_rfl) (by kernel_rfl) rfl rfl (fun bx0 hbx => ?_); try dsimp only [List.take, List.drop])
      | with_reducible (first | refine awp_region [64, 117, 126] ?_ | refine awp_block ?_)
      | go_step)
    refine ⟨⟨j + 1, by omega⟩, by dsimp only; omega, hR3 _ _ (sub_mk ?_)⟩
    simp only [go_sem, simprocAttr, hF, hwj, hT, hAs2, List.map_append, List.map_cons, List.map_nil]
  | true =>
    rw [e0, Bool.true_and] at hAs
    cases e1 : (d.o == 1) with
    | true =>
      have e1' : (d.o != 1) = false := by rw [bne, e1]; rfl
      have hAs2 : (List.take j part ++ [d]).all (failB (rel f fr) (rel f fr + f.dl - 1)) = false := by rw [← hT, hAs]; unfold failB; rw [e1]; rfl
      repeat (first
        | (with_reducible (first | refine sops_go ?_ | refine headW_end ?_ | refine sops_end ?_ | refine awp_if ?_ | refine awp_skip ?_ | refine awp_ret ?_ | refine awp_exit ?_); simp only [go_sem, simprocAttr, hF, wq, hdj, hdL, wdl, hjl, e0, e1, e1'])
        | ((with_reducible refine headW_go ?_); simp only [go_sem, simprocAttr, hF, wq, hdj, hdL, wdl, hjl, e0, e1, e1', hbx])
        | with_reducible refine awp_seq_k fun _ _ => ?_
        | (refine awp_draw' (id := 1) [64, 117, 126] 9 (by kernel_rfl) (by kernel_rfl) rfl rfl (fun bx0 hbx => ?_); try dsimp only [List.take, List.drop])
        | (refine awp_draw' (id := 19) [64, 117, 126] 30 (by kernel_rfl) (by kernel_rfl) rfl rfl (fun bx0 hbx => ?_); try dsimp only [List.take, List.drop])
        | with_reducible (first | refine awp_region [64, 117, 126] ?_ | refine awp_block ?_)
        | go_step)
      refine ⟨⟨j + 1, by omega⟩, by dsimp only; omega, hR3 _ _ (sub_mk ?_)⟩
      simp only [go_sem, simprocAttr, hF, hwj, hT, hAs2, List.map_append, List.map_cons, List.map_nil]
    | false =>
      have e1' : (d.o != 1) = true := by rw [bne, e1]; rfl
      cases e2 : decide (rel f fr ≤ d.s) with
      | false =>
        have hAs2 : (List.take j part ++ [d]).all (failB (rel f fr) (rel f fr + f.dl - 1)) = false := by rw [← hT, hAs]; unfold failB; rw [e1, e2]; rfl
        repeat (first
          | (with_reducible (first | refine sops_go ?_ | refine headW_end ?_ | refine sops_end ?_ | refine awp_if ?_ | refine awp_skip ?_ | refine awp_ret ?_ | refine awp_exit ?_); simp only [go_sem, simprocAttr, hF, wq, hdj, hdL, wdl, hjl, e0, e1, e1', e2])
          | ((with_reducible refine headW_go ?_); simp only [go_sem, simprocAttr, hF, wq, hdj, hdL, wdl, hjl, e0, e1, e1', e2, hbx])
          | with_reducible refine awp_seq_k fun _ _ => ?_
          | (refine awp_draw' (id := 1) [64, 117, 126] 9 (by kernel_rfl) (by kernel_rfl) rfl rfl (fun bx0 hbx => ?_); try dsimp only [List.take, List.drop])
          | (refine awp_draw' (id := 19) [64, 117, 126] 30 (by kernel_rfl) (by kernel_rfl) rfl rfl (fun bx0 hbx => ?_); try dsimp only [List.take, List.drop])
          | with_reducible (first | refine awp_region [64, 117, 126] ?_ | refine awp_block ?_)
          | go_step)
        refine ⟨⟨j + 1, by omega⟩, by dsimp only; omega, hR3 _ _ (sub_mk ?_)⟩
        simp only [go_sem, simprocAttr, hF, hwj, hT, hAs2, List.map_append, List.map_cons, List.map_nil]
      | true =>
        have e34 : decide (d.s < rel f fr + f.dl) = decide (d.s ≤ rel f fr + f.dl - 1) := by rw [Bool.eq_iff_iff, decide_eq_true_eq, decide_eq_true_eq]; omega
        cases e3 : decide (d.s < rel f fr + f.dl) with
        | false =>
          have hAs2 : (List.take j part ++ [d]).all (failB (rel f fr) (rel f fr + f.dl - 1)) = false := by rw [← hT, hAs]; unfold failB; rw [e1, e2, ← e34, e3]; rfl
          repeat (first
            | (with_reducible (first | refine sops_go ?_ | refine headW_end ?_ | refine sops_end ?_ | refine awp_if ?_ | refine awp_skip ?_ | refine awp_ret ?_ | refine awp_exit ?_); simp only [go_sem, simprocAttr, hF, wq, hdj, hdL, wdl, hjl, e0, e1, e1', e2, e3])
            | ((with_reducible refine headW_go ?_); simp only [go_sem, simprocAttr, hF, wq, hdj, hdL, wdl, hjl, e0, e1, e1', e2, e3, hbx])
            | with_reducible refine awp_seq_k fun _ _ => ?_
            | (refine awp_draw' (id := 1) [64, 117, 126] 9 (by kernel_rfl) (by kernel_rfl) rfl rfl (fun bx0 hbx => ?_); try dsimp only [List.take, List.drop])
            | (refine awp_draw' (id := 19) [64, 117, 126] 30 (by kernel_rfl) (by kernel_rfl) rfl rfl (fun bx0 hbx => ?_); try dsimp only [List.take, List.drop])
            | with_reducible (first | refine awp_region [64, 117, 126] ?_ | refine awp_block ?_)
            | go_step)
          refine ⟨⟨j + 1, by omega⟩, by dsimp only; omega, hR3 _ _ (sub_mk ?_)⟩
          simp only [go_sem, simprocAttr, hF, hwj, hT, hAs2, List.map_append, List.map_cons, List.map_nil]
        | true =>
          have hAs2 : (List.take j part ++ [d]).all (failB (rel f fr) (rel f fr + f.dl - 1)) = true := by rw [← hT, hAs]; unfold failB; rw [e1, e2, ← e34, e3]; rfl
          repeat (first
            | (with_reducible (first | refine sops_go ?_ | refine headW_end ?_ | refine sops_end ?_ | refine awp_if ?_ | refine awp_skip ?_ | refine awp_ret ?_ | refine awp_exit ?_); simp only [go_sem, simprocAttr, hF, wq, hdj, hdL, wdl, hjl, e0, e1, e1', e2, e3])
            | ((with_reducible refine headW_go ?_); simp only [go_sem, simprocAttr, hF, wq, hdj, hdL, wdl, hjl, e0, e1, e1', e2, e3, hbx])
            | with_reducible refine awp_seq_k fun _ _ => ?_
            | (refine awp_draw' (id := 1) [64, 117, 126] 9 (by kernel_rfl) (by kernel_rfl) rfl rfl (fun bx0 hbx => ?_); try dsimp only [List.take, List.drop])
            | (refine awp_draw' (id := 19) [64, 117, 126] 30 (by kernel_rfl) (by kernel_rfl) rfl rfl (fun bx0 hbx => ?_); try dsimp only [List.take, List.drop])
            | with_reducible (first | refine awp_region [64, 117, 126] ?_ | refine awp_block ?_)
            | go_step)
          refine ⟨⟨j + 1, by omega⟩, by dsimp only; omega, hR3 _ _ (sub_mk ?_)⟩
          simp only [go_sem, simprocAttr, hF, hwj, hT, hAs2, List.map_append, List.map_cons, List.map_nil]
end Go.Proofs.YticnppnejafhdaaGreatDoor

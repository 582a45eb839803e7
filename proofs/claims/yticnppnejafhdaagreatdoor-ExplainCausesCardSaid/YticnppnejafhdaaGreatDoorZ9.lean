import Derived.Shelf.Abstract
import Derived.Test.YticnppnejafhdaaGreatDoorZ8
set_option linter.unusedVariables false
set_option linter.unusedSimpArgs false
/- The check of a flow, by abstract states. -/
namespace Go.Proofs.YticnppnejafhdaaGreatDoor
open Go.RowKit
open Nd Rc Mo
open Av
set_option maxRecDepth 100000
set_option linter.unusedSimpArgs false
attribute [local go_sem] Av.guardB Av.sop Av.hopx Av.hop Av.hopCall Av.hopF Av.hopB Av.evo Av.evos Av.avCells Av.loadK Av.bound Av.abin Av.aun Av.partsC Av.lfill Av.placesB Av.setAt Av.stl Av.takes Av.src Av.bxOf Av.ownOf Av.St.res Av.St.put Av.St.addBox Av.St.putOwn Av.delL Av.delS Av.look Av.lookL Av.storeSt Av.stealSt Av.St.setBox Av.keepL Av.hitB Av.snap Av.snaps Av.snapCaps Av.AV.lit Av.AV.refs Av.capRefs Av.PV.av Av.CV.av Av.startSt Av.steals Av.athen Av.ablock Av.appK Av.AllS Av.AllO Av.AllR Av.keepS Av.St.avAt Av.RetOK Av.retAll Av.retOne Av.intsOf Av.ptrB Av.appB Av.appSt TypeDesc.isRow List.range_zero Option.some.injEq exists_eq_left' exists_eq_left exists_eq' exists_and_left exists_and_right exists_const true_and and_true and_self false_and and_false or_false false_or or_true true_or if_true if_false Bool.false_eq_true List.zipIdx_cons List.zipIdx_nil List.map_cons List.map_nil List.filter_cons List.filter_nil List.contains_cons List.contains_nil List.drop_succ_cons List.drop_zero List.take_succ_cons List.take_zero List.take_nil List.drop_nil List.length_cons List.length_nil List.cons_append List.nil_append List.append_nil List.getElem?_cons_zero List.getElem?_cons_succ List.getElem?_nil Option.bind_some Option.bind_none Option.map_some Option.map_none Option.isNone_none Option.isNone_some Option.isSome_some Option.isSome_none Bool.and_true Bool.true_and Bool.and_false Bool.false_and Bool.or_false Bool.false_or Bool.not_true Bool.not_false beq_true beq_false Bool.true_beq Bool.false_beq Loc.s.injEq Loc.b.injEq decide_true decide_false beq_self_eq_true Nat.zero_add Nat.add_zero List.getElem?_toArray List.toList_toArray List.size_toArray Value.oneCell' List.all_cons List.all_nil Value.int.injEq AV.v.injEq AV.sl.injEq AV.agg.injEq AV.ref.injEq AV.ept.injEq AV.tup.injEq Value.bool.injEq PV.v.injEq PV.sl.injEq List.isEmpty_nil List.isEmpty_cons forall_const not_true_eq_false not_false_eq_true true_implies false_implies Value.string.injEq List.length_map List.getElem?_map Int.toNat_natCast Int.natCast_nonneg List.length_append Value.cells implies_true TypeDesc.struct.injEq TypeDesc.slice.injEq TypeDesc.array.injEq List.getElem?_toArray Prod.mk.injEq and_assoc exists_false List.cons.injEq Operand.tmp.injEq ite_self AV.fnv.injEq AV.clo.injEq ne_eq eq_self Tryz.sz3 Tryz.zr3 Tryz.by3 Tryz.pl3 Tryz.is3 Tryz.underlying3 Tryz.sz4 Tryz.zr4 Tryz.by4 Tryz.pl4 Tryz.is4 Tryz.underlying4 Tryz.sz43 Tryz.zr43 Tryz.by43 Tryz.pl43 Tryz.is43 Tryz.underlying43 Tryz.sz35 Tryz.zr35 Tryz.by35 Tryz.pl35 Tryz.is35 Tryz.underlying35 Tryz.sz33 Tryz.zr33 Tryz.by33 Tryz.pl33 Tryz.is33 Tryz.underlying33 Tryz.sz28 Tryz.zr28 Tryz.by28 Tryz.pl28 Tryz.is28 Tryz.underlying28 Tryz.sz39 Tryz.zr39 Tryz.by39 Tryz.pl39 Tryz.is39 Tryz.underlying39 Tryz.sz57 Tryz.zr57 Tryz.by57 Tryz.pl57 Tryz.is57 Tryz.underlying57 Tryz.sz137 Tryz.zr137 Tryz.by137 Tryz.pl137 Tryz.is137 Tryz.underlying137 Tryz.sz66 Tryz.zr66 Tryz.by66 Tryz.pl66 Tryz.is66 Tryz.underlying66 Tryz.sz64 Tryz.zr64 Tryz.by64 Tryz.pl64 Tryz.is64 Tryz.underlying64 Tryz.sz60 Tryz.zr60 Tryz.by60 Tryz.pl60 Tryz.is60 Tryz.underlying60 Tryz.sz100 Tryz.zr100 Tryz.by100 Tryz.pl100 Tryz.is100 Tryz.underlying100 Tryz.sz103 Tryz.zr103 Tryz.by103 Tryz.pl103 Tryz.is103 Tryz.underlying103 Tryz.sz26 Tryz.zr26 Tryz.by26 Tryz.pl26 Tryz.is26 Tryz.underlying26 Tryz.sz120 Tryz.zr120 Tryz.by120 Tryz.pl120 Tryz.is120 Tryz.underlying120 Tryz.sz117 Tryz.zr117 Tryz.by117 Tryz.pl117 Tryz.is117 Tryz.underlying117 Tryz.sz30 Tryz.zr30 Tryz.by30 Tryz.pl30 Tryz.is30 Tryz.underlying30 Tryz.sz31 Tryz.zr31 Tryz.by31 Tryz.pl31 Tryz.is31 Tryz.underlying31 Tryz.sz40 Tryz.zr40 Tryz.by40 Tryz.pl40 Tryz.is40 Tryz.underlying40 Tryz.sz23 Tryz.zr23 Tryz.by23 Tryz.pl23 Tryz.is23 Tryz.underlying23 Tryz.sz24 Tryz.zr24 Tryz.by24 Tryz.pl24 Tryz.is24 Tryz.underlying24 Tryz.sz22 Tryz.zr22 Tryz.by22 Tryz.pl22 Tryz.is22 Tryz.underlying22 Tryz.sz42 Tryz.zr42 Tryz.by42 Tryz.pl42 Tryz.is42 Tryz.underlying42 Tryz.sz29 Tryz.zr29 Tryz.by29 Tryz.pl29 Tryz.is29 Tryz.underlying29 Tryz.sz83 Tryz.zr83 Tryz.by83 Tryz.pl83 Tryz.is83 Tryz.underlying83 Tryz.it39 Tryz.eg39 Tryz.it137 Tryz.eg137 Tryz.it66 Tryz.eg66 Tryz.it28 Tryz.eg28 Tryz.it60 Tryz.eg60 all_arr loc_ss loc_sb loc_bs loc_bb arr_two arr_one rg1 rg2 rg3 rg4 rg5 rg6 rg7 rg8 ResultVar.tmp.injEq Bool.not_true Bool.not_false undef Rc.Rec.pv Nd.Fl.pv Rc.Dlv.pv Rc.Att.pv Mo.Lt.pv Fn.func.injEq
def nodeB (nodes x : Int) : Bool := decide (0 ≤ x) && decide (x < nodes)
theorem nodeB_f {nodes x : Int} (h : x < 0 ∨ nodes ≤ x) : nodeB nodes x = false := by
 unfold nodeB
 rw [Bool.and_eq_false_iff, decide_eq_false_iff_not, decide_eq_false_iff_not]
 omega
theorem nodeB_t {nodes x : Int} (h : ¬ (x < 0 ∨ nodes ≤ x)) : nodeB nodes x = true := by
 unfold nodeB
 rw [Bool.and_eq_true, decide_eq_true_eq, decide_eq_true_eq]
 omega
set_option maxHeartbeats 2000000 in
theorem fnode_ok (nodes x : Int) : FnOK Tryz.prog 155 [iv x, .ept [ip nodes]] ⟨bv (nodeB nodes x), none⟩ := by
 refine fn_ok Tryz.func155 (by kernel_rfl) rfl (by rw [Tryz.ntmps155]; exact of_decide_eq_true rfl) (fun F hF => ?_)
 rw [Tryz.ntmps155] at hF
 rw [Tryz.results155]
 unfold nodeB
 cases h1 : decide (0 ≤ x) <;> cases h2 : decide (x < nodes)
 · repeat (first
  | (with_reducible (first | refine sops_go ?_ | refine headW_end ?_ | refine sops_end ?_ | refine awp_if ?_ | refine awp_skip ?_ | refine awp_ret ?_ | refine awp_exit ?_); simp only [go_sem, simprocAttr, hF, h1, h2])
  | with_reducible (first | refine awp_seq_k fun _ _ => ?_ | refine awp_region [] ?_ | refine awp_block ?_)
  | go_step)
   all_goals (try rfl)
 · repeat (first
  | (with_reducible (first | refine sops_go ?_ | refine headW_end ?_ | refine sops_end ?_ | refine awp_if ?_ | refine awp_skip ?_ | refine awp_ret ?_ | refine awp_exit ?_); simp only [go_sem, simprocAttr, hF, h1, h2])
  | with_reducible (first | refine awp_seq_k fun _ _ => ?_ | refine awp_region [] ?_ | refine awp_block ?_)
  | go_step)
   all_goals (try rfl)
 · repeat (first
  | (with_reducible (first | refine sops_go ?_ | refine headW_end ?_ | refine sops_end ?_ | refine awp_if ?_ | refine awp_skip ?_ | refine awp_ret ?_ | refine awp_exit ?_); simp only [go_sem, simprocAttr, hF, h1, h2])
  | with_reducible (first | refine awp_seq_k fun _ _ => ?_ | refine awp_region [] ?_ | refine awp_block ?_)
  | go_step)
   all_goals (try rfl)
 · repeat (first
  | (with_reducible (first | refine sops_go ?_ | refine headW_end ?_ | refine sops_end ?_ | refine awp_if ?_ | refine awp_skip ?_ | refine awp_ret ?_ | refine awp_exit ?_); simp only [go_sem, simprocAttr, hF, h1, h2])
  | with_reducible (first | refine awp_seq_k fun _ _ => ?_ | refine awp_region [] ?_ | refine awp_block ?_)
  | go_step)
   all_goals (try rfl)

set_option maxHeartbeats 20000000 in
theorem fcheck_ok (nodes : Int) (f : Fl) : FnOK Tryz.prog 111 [iv nodes, .agg f.pv] ⟨iv (faultN nodes f), none⟩ := by
 refine fn_ok Tryz.func111 (by kernel_rfl) rfl (by rw [Tryz.ntmps111]; exact of_decide_eq_true rfl) (fun F hF => ?_)
 rw [Tryz.ntmps111] at hF
 rw [Tryz.results111]
 by_cases h0 : f.id < 0
 case pos =>
  have e0 : decide (f.id < 0) = true := decide_eq_true (by omega)
  repeat (first
   | (with_reducible (first | refine sops_go ?_ | refine headW_end ?_ | refine sops_end ?_ | refine awp_if ?_ | refine awp_skip ?_ | refine awp_ret ?_ | refine awp_exit ?_); simp only [go_sem, simprocAttr, hF, e0])
   | with_reducible (first | refine awp_seq_k fun _ _ => ?_ | refine awp_region [] ?_ | refine awp_block ?_)
   | go_step)
  rw [faultN, if_pos (by omega)]
 have e0 : decide (f.id < 0) = false := decide_eq_false (by omega)
 by_cases h1 : 255 < f.id
 case pos =>
  have e1 : decide (255 < f.id) = true := decide_eq_true (by omega)
  repeat (first
   | (with_reducible (first | refine sops_go ?_ | refine headW_end ?_ | refine sops_end ?_ | refine awp_if ?_ | refine awp_skip ?_ | refine awp_ret ?_ | refine awp_exit ?_); simp only [go_sem, simprocAttr, hF, e0, e1])
   | with_reducible (first | refine awp_seq_k fun _ _ => ?_ | refine awp_region [] ?_ | refine awp_block ?_)
   | go_step)
  rw [faultN, if_pos (by omega)]
 have e1 : decide (255 < f.id) = false := decide_eq_false (by omega)
 by_cases h2 : f.fr < 0 ∨ nodes ≤ f.fr
 case pos =>
  have e2 : nodeB nodes f.fr = false := nodeB_f h2
  repeat (first
   | (with_reducible (first | refine sops_go ?_ | refine headW_end ?_ | refine sops_end ?_ | refine awp_if ?_ | refine awp_skip ?_ | refine awp_ret ?_ | refine awp_exit ?_); simp only [go_sem, simprocAttr, hF, e0, e1, e2])
   | with_reducible (first | refine awp_seq_k fun _ _ => ?_ | refine awp_region [] ?_ | refine awp_block ?_)
   | go_step)
  refine ⟨_, fnode_ok nodes f.fr, ?_⟩
  simp only [go_sem, simprocAttr, hF, e0, e1, e2]
  repeat (first
   | (with_reducible (first | refine sops_go ?_ | refine headW_end ?_ | refine sops_end ?_ | refine awp_if ?_ | refine awp_skip ?_ | refine awp_ret ?_ | refine awp_exit ?_); simp only [go_sem, simprocAttr, hF, e0, e1, e2])
   | with_reducible (first | refine awp_seq_k fun _ _ => ?_ | refine awp_region [] ?_ | refine awp_block ?_)
   | go_step)
  rw [faultN, if_pos (by omega)]
 have e2 : nodeB nodes f.fr = true := nodeB_t h2
 by_cases h3 : f.tn < 0 ∨ nodes ≤ f.tn
 case pos =>
  have e3 : nodeB nodes f.tn = false := nodeB_f h3
  repeat (first
   | (with_reducible (first | refine sops_go ?_ | refine headW_end ?_ | refine sops_end ?_ | refine awp_if ?_ | refine awp_skip ?_ | refine awp_ret ?_ | refine awp_exit ?_); simp only [go_sem, simprocAttr, hF, e0, e1, e2, e3])
   | with_reducible (first | refine awp_seq_k fun _ _ => ?_ | refine awp_region [] ?_ | refine awp_block ?_)
   | go_step)
  refine ⟨_, fnode_ok nodes f.fr, ?_⟩
  simp only [go_sem, simprocAttr, hF, e0, e1, e2, e3]
  repeat (first
   | (with_reducible (first | refine sops_go ?_ | refine headW_end ?_ | refine sops_end ?_ | refine awp_if ?_ | refine awp_skip ?_ | refine awp_ret ?_ | refine awp_exit ?_); simp only [go_sem, simprocAttr, hF, e0, e1, e2, e3])
   | with_reducible (first | refine awp_seq_k fun _ _ => ?_ | refine awp_region [] ?_ | refine awp_block ?_)
   | go_step)
  refine ⟨_, fnode_ok nodes f.tn, ?_⟩
  simp only [go_sem, simprocAttr, hF, e0, e1, e2, e3]
  repeat (first
   | (with_reducible (first | refine sops_go ?_ | refine headW_end ?_ | refine sops_end ?_ | refine awp_if ?_ | refine awp_skip ?_ | refine awp_ret ?_ | refine awp_exit ?_); simp only [go_sem, simprocAttr, hF, e0, e1, e2, e3])
   | with_reducible (first | refine awp_seq_k fun _ _ => ?_ | refine awp_region [] ?_ | refine awp_block ?_)
   | go_step)
  rw [faultN, if_pos (by omega)]
 have e3 : nodeB nodes f.tn = true := nodeB_t h3
 by_cases h4 : f.pe < 1
 case pos =>
  have e4 : decide (f.pe < 1) = true := decide_eq_true (by omega)
  repeat (first
   | (with_reducible (first | refine sops_go ?_ | refine headW_end ?_ | refine sops_end ?_ | refine awp_if ?_ | refine awp_skip ?_ | refine awp_ret ?_ | refine awp_exit ?_); simp only [go_sem, simprocAttr, hF, e0, e1, e2, e3, e4])
   | with_reducible (first | refine awp_seq_k fun _ _ => ?_ | refine awp_region [] ?_ | refine awp_block ?_)
   | go_step)
  refine ⟨_, fnode_ok nodes f.fr, ?_⟩
  simp only [go_sem, simprocAttr, hF, e0, e1, e2, e3, e4]
  repeat (first
   | (with_reducible (first | refine sops_go ?_ | refine headW_end ?_ | refine sops_end ?_ | refine awp_if ?_ | refine awp_skip ?_ | refine awp_ret ?_ | refine awp_exit ?_); simp only [go_sem, simprocAttr, hF, e0, e1, e2, e3, e4])
   | with_reducible (first | refine awp_seq_k fun _ _ => ?_ | refine awp_region [] ?_ | refine awp_block ?_)
   | go_step)
  refine ⟨_, fnode_ok nodes f.tn, ?_⟩
  simp only [go_sem, simprocAttr, hF, e0, e1, e2, e3, e4]
  repeat (first
   | (with_reducible (first | refine sops_go ?_ | refine headW_end ?_ | refine sops_end ?_ | refine awp_if ?_ | refine awp_skip ?_ | refine awp_ret ?_ | refine awp_exit ?_); simp only [go_sem, simprocAttr, hF, e0, e1, e2, e3, e4])
   | with_reducible (first | refine awp_seq_k fun _ _ => ?_ | refine awp_region [] ?_ | refine awp_block ?_)
   | go_step)
  rw [faultN, if_pos (by omega)]
 have e4 : decide (f.pe < 1) = false := decide_eq_false (by omega)
 by_cases h5 : 512 < f.pe
 case pos =>
  have e5 : decide (512 < f.pe) = true := decide_eq_true (by omega)
  repeat (first
   | (with_reducible (first | refine sops_go ?_ | refine headW_end ?_ | refine sops_end ?_ | refine awp_if ?_ | refine awp_skip ?_ | refine awp_ret ?_ | refine awp_exit ?_); simp only [go_sem, simprocAttr, hF, e0, e1, e2, e3, e4, e5])
   | with_reducible (first | refine awp_seq_k fun _ _ => ?_ | refine awp_region [] ?_ | refine awp_block ?_)
   | go_step)
  refine ⟨_, fnode_ok nodes f.fr, ?_⟩
  simp only [go_sem, simprocAttr, hF, e0, e1, e2, e3, e4, e5]
  repeat (first
   | (with_reducible (first | refine sops_go ?_ | refine headW_end ?_ | refine sops_end ?_ | refine awp_if ?_ | refine awp_skip ?_ | refine awp_ret ?_ | refine awp_exit ?_); simp only [go_sem, simprocAttr, hF, e0, e1, e2, e3, e4, e5])
   | with_reducible (first | refine awp_seq_k fun _ _ => ?_ | refine awp_region [] ?_ | refine awp_block ?_)
   | go_step)
  refine ⟨_, fnode_ok nodes f.tn, ?_⟩
  simp only [go_sem, simprocAttr, hF, e0, e1, e2, e3, e4, e5]
  repeat (first
   | (with_reducible (first | refine sops_go ?_ | refine headW_end ?_ | refine sops_end ?_ | refine awp_if ?_ | refine awp_skip ?_ | refine awp_ret ?_ | refine awp_exit ?_); simp only [go_sem, simprocAttr, hF, e0, e1, e2, e3, e4, e5])
   | with_reducible (first | refine awp_seq_k fun _ _ => ?_ | refine awp_region [] ?_ | refine awp_block ?_)
   | go_step)
  rw [faultN, if_pos (by omega)]
 have e5 : decide (512 < f.pe) = false := decide_eq_false (by omega)
 by_cases h6 : f.ph < 0
 case pos =>
  have e6 : decide (f.ph < 0) = true := decide_eq_true (by omega)
  repeat (first
   | (with_reducible (first | refine sops_go ?_ | refine headW_end ?_ | refine sops_end ?_ | refine awp_if ?_ | refine awp_skip ?_ | refine awp_ret ?_ | refine awp_exit ?_); simp only [go_sem, simprocAttr, hF, e0, e1, e2, e3, e4, e5, e6])
   | with_reducible (first | refine awp_seq_k fun _ _ => ?_ | refine awp_region [] ?_ | refine awp_block ?_)
   | go_step)
  refine ⟨_, fnode_ok nodes f.fr, ?_⟩
  simp only [go_sem, simprocAttr, hF, e0, e1, e2, e3, e4, e5, e6]
  repeat (first
   | (with_reducible (first | refine sops_go ?_ | refine headW_end ?_ | refine sops_end ?_ | refine awp_if ?_ | refine awp_skip ?_ | refine awp_ret ?_ | refine awp_exit ?_); simp only [go_sem, simprocAttr, hF, e0, e1, e2, e3, e4, e5, e6])
   | with_reducible (first | refine awp_seq_k fun _ _ => ?_ | refine awp_region [] ?_ | refine awp_block ?_)
   | go_step)
  refine ⟨_, fnode_ok nodes f.tn, ?_⟩
  simp only [go_sem, simprocAttr, hF, e0, e1, e2, e3, e4, e5, e6]
  repeat (first
   | (with_reducible (first | refine sops_go ?_ | refine headW_end ?_ | refine sops_end ?_ | refine awp_if ?_ | refine awp_skip ?_ | refine awp_ret ?_ | refine awp_exit ?_); simp only [go_sem, simprocAttr, hF, e0, e1, e2, e3, e4, e5, e6])
   | with_reducible (first | refine awp_seq_k fun _ _ => ?_ | refine awp_region [] ?_ | refine awp_block ?_)
   | go_step)
  rw [faultN, if_pos (by omega)]
 have e6 : decide (f.ph < 0) = false := decide_eq_false (by omega)
 by_cases h7 : f.pe ≤ f.ph
 case pos =>
  have e7 : decide (f.pe ≤ f.ph) = true := decide_eq_true (by omega)
  repeat (first
   | (with_reducible (first | refine sops_go ?_ | refine headW_end ?_ | refine sops_end ?_ | refine awp_if ?_ | refine awp_skip ?_ | refine awp_ret ?_ | refine awp_exit ?_); simp only [go_sem, simprocAttr, hF, e0, e1, e2, e3, e4, e5, e6, e7])
   | with_reducible (first | refine awp_seq_k fun _ _ => ?_ | refine awp_region [] ?_ | refine awp_block ?_)
   | go_step)
  refine ⟨_, fnode_ok nodes f.fr, ?_⟩
  simp only [go_sem, simprocAttr, hF, e0, e1, e2, e3, e4, e5, e6, e7]
  repeat (first
   | (with_reducible (first | refine sops_go ?_ | refine headW_end ?_ | refine sops_end ?_ | refine awp_if ?_ | refine awp_skip ?_ | refine awp_ret ?_ | refine awp_exit ?_); simp only [go_sem, simprocAttr, hF, e0, e1, e2, e3, e4, e5, e6, e7])
   | with_reducible (first | refine awp_seq_k fun _ _ => ?_ | refine awp_region [] ?_ | refine awp_block ?_)
   | go_step)
  refine ⟨_, fnode_ok nodes f.tn, ?_⟩
  simp only [go_sem, simprocAttr, hF, e0, e1, e2, e3, e4, e5, e6, e7]
  repeat (first
   | (with_reducible (first | refine sops_go ?_ | refine headW_end ?_ | refine sops_end ?_ | refine awp_if ?_ | refine awp_skip ?_ | refine awp_ret ?_ | refine awp_exit ?_); simp only [go_sem, simprocAttr, hF, e0, e1, e2, e3, e4, e5, e6, e7])
   | with_reducible (first | refine awp_seq_k fun _ _ => ?_ | refine awp_region [] ?_ | refine awp_block ?_)
   | go_step)
  rw [faultN, if_pos (by omega)]
 have e7 : decide (f.pe ≤ f.ph) = false := decide_eq_false (by omega)
 by_cases h8 : f.dl < 1
 case pos =>
  have e8 : decide (f.dl < 1) = true := decide_eq_true (by omega)
  repeat (first
   | (with_reducible (first | refine sops_go ?_ | refine headW_end ?_ | refine sops_end ?_ | refine awp_if ?_ | refine awp_skip ?_ | refine awp_ret ?_ | refine awp_exit ?_); simp only [go_sem, simprocAttr, hF, e0, e1, e2, e3, e4, e5, e6, e7, e8])
   | with_reducible (first | refine awp_seq_k fun _ _ => ?_ | refine awp_region [] ?_ | refine awp_block ?_)
   | go_step)
  refine ⟨_, fnode_ok nodes f.fr, ?_⟩
  simp only [go_sem, simprocAttr, hF, e0, e1, e2, e3, e4, e5, e6, e7, e8]
  repeat (first
   | (with_reducible (first | refine sops_go ?_ | refine headW_end ?_ | refine sops_end ?_ | refine awp_if ?_ | refine awp_skip ?_ | refine awp_ret ?_ | refine awp_exit ?_); simp only [go_sem, simprocAttr, hF, e0, e1, e2, e3, e4, e5, e6, e7, e8])
   | with_reducible (first | refine awp_seq_k fun _ _ => ?_ | refine awp_region [] ?_ | refine awp_block ?_)
   | go_step)
  refine ⟨_, fnode_ok nodes f.tn, ?_⟩
  simp only [go_sem, simprocAttr, hF, e0, e1, e2, e3, e4, e5, e6, e7, e8]
  repeat (first
   | (with_reducible (first | refine sops_go ?_ | refine headW_end ?_ | refine sops_end ?_ | refine awp_if ?_ | refine awp_skip ?_ | refine awp_ret ?_ | refine awp_exit ?_); simp only [go_sem, simprocAttr, hF, e0, e1, e2, e3, e4, e5, e6, e7, e8])
   | with_reducible (first | refine awp_seq_k fun _ _ => ?_ | refine awp_region [] ?_ | refine awp_block ?_)
   | go_step)
  rw [faultN, if_pos (by omega)]
 have e8 : decide (f.dl < 1) = false := decide_eq_false (by omega)
 by_cases h9 : f.pe < f.dl
 case pos =>
  have e9 : decide (f.pe < f.dl) = true := decide_eq_true (by omega)
  repeat (first
   | (with_reducible (first | refine sops_go ?_ | refine headW_end ?_ | refine sops_end ?_ | refine awp_if ?_ | refine awp_skip ?_ | refine awp_ret ?_ | refine awp_exit ?_); simp only [go_sem, simprocAttr, hF, e0, e1, e2, e3, e4, e5, e6, e7, e8, e9])
   | with_reducible (first | refine awp_seq_k fun _ _ => ?_ | refine awp_region [] ?_ | refine awp_block ?_)
   | go_step)
  refine ⟨_, fnode_ok nodes f.fr, ?_⟩
  simp only [go_sem, simprocAttr, hF, e0, e1, e2, e3, e4, e5, e6, e7, e8, e9]
  repeat (first
   | (with_reducible (first | refine sops_go ?_ | refine headW_end ?_ | refine sops_end ?_ | refine awp_if ?_ | refine awp_skip ?_ | refine awp_ret ?_ | refine awp_exit ?_); simp only [go_sem, simprocAttr, hF, e0, e1, e2, e3, e4, e5, e6, e7, e8, e9])
   | with_reducible (first | refine awp_seq_k fun _ _ => ?_ | refine awp_region [] ?_ | refine awp_block ?_)
   | go_step)
  refine ⟨_, fnode_ok nodes f.tn, ?_⟩
  simp only [go_sem, simprocAttr, hF, e0, e1, e2, e3, e4, e5, e6, e7, e8, e9]
  repeat (first
   | (with_reducible (first | refine sops_go ?_ | refine headW_end ?_ | refine sops_end ?_ | refine awp_if ?_ | refine awp_skip ?_ | refine awp_ret ?_ | refine awp_exit ?_); simp only [go_sem, simprocAttr, hF, e0, e1, e2, e3, e4, e5, e6, e7, e8, e9])
   | with_reducible (first | refine awp_seq_k fun _ _ => ?_ | refine awp_region [] ?_ | refine awp_block ?_)
   | go_step)
  rw [faultN, if_pos (by omega)]
 have e9 : decide (f.pe < f.dl) = false := decide_eq_false (by omega)
 by_cases h10 : f.fr = f.tn
 case pos =>
  have e10 : (f.fr == f.tn) = true := by simpa using h10
  repeat (first
   | (with_reducible (first | refine sops_go ?_ | refine headW_end ?_ | refine sops_end ?_ | refine awp_if ?_ | refine awp_skip ?_ | refine awp_ret ?_ | refine awp_exit ?_); simp only [go_sem, simprocAttr, hF, e0, e1, e2, e3, e4, e5, e6, e7, e8, e9, e10])
   | with_reducible (first | refine awp_seq_k fun _ _ => ?_ | refine awp_region [] ?_ | refine awp_block ?_)
   | go_step)
  refine ⟨_, fnode_ok nodes f.fr, ?_⟩
  simp only [go_sem, simprocAttr, hF, e0, e1, e2, e3, e4, e5, e6, e7, e8, e9, e10]
  repeat (first
   | (with_reducible (first | refine sops_go ?_ | refine headW_end ?_ | refine sops_end ?_ | refine awp_if ?_ | refine awp_skip ?_ | refine awp_ret ?_ | refine awp_exit ?_); simp only [go_sem, simprocAttr, hF, e0, e1, e2, e3, e4, e5, e6, e7, e8, e9, e10])
   | with_reducible (first | refine awp_seq_k fun _ _ => ?_ | refine awp_region [] ?_ | refine awp_block ?_)
   | go_step)
  refine ⟨_, fnode_ok nodes f.tn, ?_⟩
  simp only [go_sem, simprocAttr, hF, e0, e1, e2, e3, e4, e5, e6, e7, e8, e9, e10]
  repeat (first
   | (with_reducible (first | refine sops_go ?_ | refine headW_end ?_ | refine sops_end ?_ | refine awp_if ?_ | refine awp_skip ?_ | refine awp_ret ?_ | refine awp_exit ?_); simp only [go_sem, simprocAttr, hF, e0, e1, e2, e3, e4, e5, e6, e7, e8, e9, e10])
   | with_reducible (first | refine awp_seq_k fun _ _ => ?_ | refine awp_region [] ?_ | refine awp_block ?_)
   | go_step)
  rw [faultN, if_neg (by omega), if_pos h10]
 have e10 : (f.fr == f.tn) = false := by simpa using h10
 repeat (first
  | (with_reducible (first | refine sops_go ?_ | refine headW_end ?_ | refine sops_end ?_ | refine awp_if ?_ | refine awp_skip ?_ | refine awp_ret ?_ | refine awp_exit ?_); simp only [go_sem, simprocAttr, hF, e0, e1, e2, e3, e4, e5, e6, e7, e8, e9, e10])
  | with_reducible (first | refine awp_seq_k fun _ _ => ?_ | refine awp_region [] ?_ | refine awp_block ?_)
  | go_step)
 refine ⟨_, fnode_ok nodes f.fr, ?_⟩
 simp only [go_sem, simprocAttr, hF, e0, e1, e2, e3, e4, e5, e6, e7, e8, e9, e10]
 repeat (first
  | (with_reducible (first | refine sops_go ?_ | refine headW_end ?_ | refine sops_end ?_ | refine awp_if ?_ | refine awp_skip ?_ | refine awp_ret ?_ | refine awp_exit ?_); simp only [go_sem, simprocAttr, hF, e0, e1, e2, e3, e4, e5, e6, e7, e8, e9, e10])
  | with_reducible (first | refine awp_seq_k fun _ _ => ?_ | refine awp_region [] ?_ | refine awp_block ?_)
  | go_step)
 refine ⟨_, fnode_ok nodes f.tn, ?_⟩
 simp only [go_sem, simprocAttr, hF, e0, e1, e2, e3, e4, e5, e6, e7, e8, e9, e10]
 repeat (first
  | (with_reducible (first | refine sops_go ?_ | refine headW_end ?_ | refine sops_end ?_ | refine awp_if ?_ | refine awp_skip ?_ | refine awp_ret ?_ | refine awp_exit ?_); simp only [go_sem, simprocAttr, hF, e0, e1, e2, e3, e4, e5, e6, e7, e8, e9, e10])
  | with_reducible (first | refine awp_seq_k fun _ _ => ?_ | refine awp_region [] ?_ | refine awp_block ?_)
  | go_step)
 rw [faultN, if_neg (by omega), if_neg h10]

theorem c11 : ((1 : Nat) : Int) = 1 := rfl
theorem c00 : ((0 : Nat) : Int) = 0 := rfl
theorem c01 : decide ((0 : Int) < 0) = false := rfl

set_option maxHeartbeats 20000000 in
theorem fCheck_ok (nodes : Int) (f : Fl) : FnOK Tryz.prog 81 [iv nodes, .sl 6 [f.pv]] ⟨.tup [.c (ip (chkF1 nodes f).1), .c (ip (chkF1 nodes f).2)], none⟩ := by
 refine fn_ok Tryz.func81 (by kernel_rfl) rfl (by rw [Tryz.ntmps81]; exact of_decide_eq_true rfl) (fun F hF => ?_)
 rw [Tryz.ntmps81] at hF
 rw [Tryz.results81]
 by_cases h0 : nodes < 2
 case pos =>
  have e0 : decide (nodes < 2) = true := decide_eq_true (by omega)
  repeat (first
   | (with_reducible (first | refine sops_go ?_ | refine headW_end ?_ | refine sops_end ?_ | refine awp_if ?_ | refine awp_skip ?_ | refine awp_ret ?_ | refine awp_exit ?_); simp only [go_sem, simprocAttr, hF, e0])
   | ((with_reducible refine headW_go ?_); simp only [go_sem, simprocAttr, hF, e0, hbx])
   | with_reducible refine awp_seq_k fun _ _ => ?_
   | (refine awp_draw' (id := 11) [] 13 (by kernel_rfl) (by kernel_rfl) rfl rfl (fun bx0 hbx => ?_); try dsimp only [List.take, List.drop])
   | with_reducible (first | refine awp_region [] ?_ | refine awp_block ?_)
   | go_step)
  rw [chkF1, if_pos (by omega)]
 have e0 : decide (nodes < 2) = false := decide_eq_false (by omega)
 by_cases h1 : 32 < nodes
 case pos =>
  have e1 : decide (32 < nodes) = true := decide_eq_true (by omega)
  repeat (first
   | (with_reducible (first | refine sops_go ?_ | refine headW_end ?_ | refine sops_end ?_ | refine awp_if ?_ | refine awp_skip ?_ | refine awp_ret ?_ | refine awp_exit ?_); simp only [go_sem, simprocAttr, hF, e0, e1])
   | ((with_reducible refine headW_go ?_); simp only [go_sem, simprocAttr, hF, e0, e1, hbx])
   | with_reducible refine awp_seq_k fun _ _ => ?_
   | (refine awp_draw' (id := 11) [] 13 (by kernel_rfl) (by kernel_rfl) rfl rfl (fun bx0 hbx => ?_); try dsimp only [List.take, List.drop])
   | with_reducible (first | refine awp_region [] ?_ | refine awp_block ?_)
   | go_step)
  rw [chkF1, if_pos (by omega)]
 have e1 : decide (32 < nodes) = false := decide_eq_false (by omega)
 repeat (first
  | (with_reducible (first | refine sops_go ?_ | refine headW_end ?_ | refine sops_end ?_ | refine awp_if ?_ | refine awp_skip ?_ | refine awp_ret ?_ | refine awp_exit ?_); simp only [go_sem, simprocAttr, hF, e0, e1])
  | ((with_reducible refine headW_go ?_); simp only [go_sem, simprocAttr, hF, e0, e1, hbx])
  | with_reducible refine awp_seq_k fun _ _ => ?_
  | (refine awp_draw' (id := 11) [] 13 (by kernel_rfl) (by kernel_rfl) rfl rfl (fun bx0 hbx => ?_); try dsimp only [List.take, List.drop])
  | with_reducible (first | refine awp_region [] ?_ | refine awp_block ?_)
  | go_step)
 refine awp_loop_by (ι := {k : Nat // k ≤ 1 ∧ (k = 1 → faultN nodes f = 0)}) (fun k σ => ⟨(20, iv (k.1 : Int)) :: keepS [0, 1, 4, 5, 18, 19] σ.slot, [], [], σ.ext⟩) (fun k => 1 - k.1) ⟨0, by omega, by omega⟩ (sub_mk ?_) (fun R hR k => ?_)
 · simp only [go_sem, simprocAttr, hF]
   repeat' (first | rfl | refine ⟨?_, ?_⟩)
 obtain ⟨k, hk, hT⟩ := k
 dsimp only
 simp only [go_sem, simprocAttr, hF]
 by_cases hlt : k < 1
 case neg =>
  obtain rfl : k = 1 := by omega
  have hd : decide (((1 : Nat) : Int) < 1) = false := rfl
  repeat (first
   | (with_reducible (first | refine sops_go ?_ | refine headW_end ?_ | refine sops_end ?_ | refine awp_if ?_ | refine awp_skip ?_ | refine awp_ret ?_ | refine awp_exit ?_); simp only [go_sem, simprocAttr, hF, hd, c11])
   | ((with_reducible refine headW_go ?_); simp only [go_sem, simprocAttr, hF, hd, c11, hbx])
   | with_reducible refine awp_seq_k fun _ _ => ?_
   | (refine awp_draw' (id := 11) [] 13 (by kernel_rfl) (by kernel_rfl) rfl rfl (fun bx0 hbx => ?_); try dsimp only [List.take, List.drop])
   | with_reducible (first | refine awp_region [] ?_ | refine awp_block ?_)
   | go_step)
  rw [chkF1, if_neg (by omega), if_pos (hT rfl)]
 obtain rfl : k = 0 := by omega
 have hd : decide (((0 : Nat) : Int) < 1) = true := rfl
 have hw : IntKind.i64.wrap (((0 : Nat) : Int) + 1) = ((1 : Nat) : Int) := rfl
 repeat (first
  | (with_reducible (first | refine sops_go ?_ | refine headW_end ?_ | refine sops_end ?_ | refine awp_if ?_ | refine awp_skip ?_ | refine awp_ret ?_ | refine awp_exit ?_); simp only [go_sem, simprocAttr, hF, hd, c11, c00, c01])
  | ((with_reducible refine headW_go ?_); simp only [go_sem, simprocAttr, hF, hd, c11, c00, c01, hbx])
  | with_reducible refine awp_seq_k fun _ _ => ?_
  | (refine awp_draw' (id := 11) [] 13 (by kernel_rfl) (by kernel_rfl) rfl rfl (fun bx0 hbx => ?_); try dsimp only [List.take, List.drop])
  | with_reducible (first | refine awp_region [] ?_ | refine awp_block ?_)
  | go_step)
 refine ⟨_, fcheck_ok nodes f, ?_⟩
 simp only [go_sem, simprocAttr, hF]
 by_cases h3 : faultN nodes f = 0
 case neg =>
  have e3 : (faultN nodes f != 0) = true := by simpa using h3
  try simp only [go_sem, simprocAttr, hF, e3]
  repeat (first
   | (with_reducible (first | refine sops_go ?_ | refine headW_end ?_ | refine sops_end ?_ | refine awp_if ?_ | refine awp_skip ?_ | refine awp_ret ?_ | refine awp_exit ?_); simp only [go_sem, simprocAttr, hF, e3])
   | ((with_reducible refine headW_go ?_); simp only [go_sem, simprocAttr, hF, e3, hbx])
   | with_reducible refine awp_seq_k fun _ _ => ?_
   | (refine awp_draw' (id := 11) [] 13 (by kernel_rfl) (by kernel_rfl) rfl rfl (fun bx0 hbx => ?_); try dsimp only [List.take, List.drop])
   | with_reducible (first | refine awp_region [] ?_ | refine awp_block ?_)
   | go_step)
  rw [chkF1, if_neg (by omega), if_neg h3]
 have e3 : (faultN nodes f != 0) = false := by simpa using h3
 try simp only [go_sem, simprocAttr, hF, e3, c01, c00]
 repeat (first
  | (with_reducible (first | refine sops_go ?_ | refine headW_end ?_ | refine sops_end ?_ | refine awp_if ?_ | refine awp_skip ?_ | refine awp_ret ?_ | refine awp_exit ?_); simp only [go_sem, simprocAttr, hF, e3, c01, c00])
  | ((with_reducible refine headW_go ?_); simp only [go_sem, simprocAttr, hF, e3, c01, c00, hbx])
  | with_reducible refine awp_seq_k fun _ _ => ?_
  | (refine awp_draw' (id := 11) [] 13 (by kernel_rfl) (by kernel_rfl) rfl rfl (fun bx0 hbx => ?_); try dsimp only [List.take, List.drop])
  | with_reducible (first | refine awp_region [] ?_ | refine awp_block ?_)
  | go_step)
 refine ⟨⟨1, by omega, fun _ => h3⟩, by dsimp only; omega, hR _ _ (sub_mk ?_)⟩
 simp only [go_sem, simprocAttr, hF, hw]
 all_goals rfl
/- explain.base and check, by abstract states. -/
attribute [local go_sem] Tryz.sz141 Tryz.zr141 Tryz.by141 Tryz.pl141 Tryz.is141 Tryz.underlying141 Tryz.sz67 Tryz.zr67 Tryz.by67 Tryz.pl67 Tryz.is67 Tryz.underlying67 Mo.Net.pv Mo.Lk.pv prow_pv irow_pv Br.pv
set_option maxHeartbeats 20000000 in
theorem base_ok (n : Net) (f : Fl) (r : Rec) (hS : SmallN n) (hla : r.al.length ≤ 1000000) (hld : r.dl.length ≤ 1000000) : FnOK Tryz.prog 40 [.agg n.pv, .agg f.pv, .agg r.pv] ⟨bv (basicB n f r), none⟩ := by
 refine fn_ok Tryz.func40 (by kernel_rfl) rfl (by rw [Tryz.ntmps40]; exact of_decide_eq_true rfl) (fun F hF => ?_)
 rw [Tryz.ntmps40] at hF
 rw [Tryz.results40]
 by_cases h1 : chkN n = 0
 case neg =>
  have e1 : (chkN n != 0) = true := by simpa using h1
  have hB : basicB n f r = false := by unfold basicB; rw [decide_eq_false h1]; rfl
  rw [hB]
  repeat (first
   | (with_reducible (first | refine sops_go ?_ | refine headW_end ?_ | refine sops_end ?_ | refine awp_if ?_ | refine awp_skip ?_ | refine awp_ret ?_ | refine awp_exit ?_); simp only [go_sem, simprocAttr, hF, e1])
   | with_reducible (first | refine awp_seq_k fun _ _ => ?_ | refine awp_region [] ?_ | refine awp_block ?_)
   | go_step)
  refine ⟨_, ncheck_ok n hS.pow hS.rows hS.lk hS.mg, ?_⟩
  simp only [go_sem, simprocAttr, hF, e1]
  repeat (first
   | (with_reducible (first | refine sops_go ?_ | refine headW_end ?_ | refine sops_end ?_ | refine awp_if ?_ | refine awp_skip ?_ | refine awp_ret ?_ | refine awp_exit ?_); simp only [go_sem, simprocAttr, hF, e1])
   | with_reducible (first | refine awp_seq_k fun _ _ => ?_ | refine awp_region [] ?_ | refine awp_block ?_)
   | go_step)
  all_goals (try rfl)
 have e1 : (chkN n != 0) = false := by simpa using h1
 cases hg : good r with
 | false =>
  have hr : checkE r = 1 := by rw [checkE, hg]; rfl
  have e2 : ((checkE r) != 0) = true := by rw [hr]; rfl
  have hB : basicB n f r = false := by unfold basicB; rw [hg, decide_eq_true h1]; rfl
  rw [hB]
  repeat (first
   | (with_reducible (first | refine sops_go ?_ | refine headW_end ?_ | refine sops_end ?_ | refine awp_if ?_ | refine awp_skip ?_ | refine awp_ret ?_ | refine awp_exit ?_); simp only [go_sem, simprocAttr, hF, e1, e2])
   | with_reducible (first | refine awp_seq_k fun _ _ => ?_ | refine awp_region [] ?_ | refine awp_block ?_)
   | go_step)
  refine ⟨_, ncheck_ok n hS.pow hS.rows hS.lk hS.mg, ?_⟩
  simp only [go_sem, simprocAttr, hF, e1]
  repeat (first
   | (with_reducible (first | refine sops_go ?_ | refine headW_end ?_ | refine sops_end ?_ | refine awp_if ?_ | refine awp_skip ?_ | refine awp_ret ?_ | refine awp_exit ?_); simp only [go_sem, simprocAttr, hF, e1, e2])
   | with_reducible (first | refine awp_seq_k fun _ _ => ?_ | refine awp_region [] ?_ | refine awp_block ?_)
   | go_step)
  refine ⟨_, check_ok r hla hld, ?_⟩
  simp only [go_sem, simprocAttr, hF, e2]
  repeat (first
   | (with_reducible (first | refine sops_go ?_ | refine headW_end ?_ | refine sops_end ?_ | refine awp_if ?_ | refine awp_skip ?_ | refine awp_ret ?_ | refine awp_exit ?_); simp only [go_sem, simprocAttr, hF, e1, e2])
   | with_reducible (first | refine awp_seq_k fun _ _ => ?_ | refine awp_region [] ?_ | refine awp_block ?_)
   | go_step)
  all_goals (try rfl)
 | true =>
  have hr : checkE r = 0 := by rw [checkE, hg]; rfl
  have e2 : ((checkE r) != 0) = false := by rw [hr]; rfl
  have hB : basicB n f r = ((chkF1 n.nodes f).2 == 0) := by unfold basicB; rw [hg, decide_eq_true h1, Bool.true_and, Bool.true_and]; exact (Bool.beq_eq_decide_eq _ _).symm
  rw [hB]
  repeat (first
   | (with_reducible (first | refine sops_go ?_ | refine headW_end ?_ | refine sops_end ?_ | refine awp_if ?_ | refine awp_skip ?_ | refine awp_ret ?_ | refine awp_exit ?_); simp only [go_sem, simprocAttr, hF, e1, e2])
   | with_reducible (first | refine awp_seq_k fun _ _ => ?_ | refine awp_region [] ?_ | refine awp_block ?_)
   | go_step)
  refine ⟨_, ncheck_ok n hS.pow hS.rows hS.lk hS.mg, ?_⟩
  simp only [go_sem, simprocAttr, hF, e1]
  repeat (first
   | (with_reducible (first | refine sops_go ?_ | refine headW_end ?_ | refine sops_end ?_ | refine awp_if ?_ | refine awp_skip ?_ | refine awp_ret ?_ | refine awp_exit ?_); simp only [go_sem, simprocAttr, hF, e1, e2])
   | with_reducible (first | refine awp_seq_k fun _ _ => ?_ | refine awp_region [] ?_ | refine awp_block ?_)
   | go_step)
  refine ⟨_, check_ok r hla hld, ?_⟩
  simp only [go_sem, simprocAttr, hF, e2]
  repeat (first
   | (with_reducible (first | refine sops_go ?_ | refine headW_end ?_ | refine sops_end ?_ | refine awp_if ?_ | refine awp_skip ?_ | refine awp_ret ?_ | refine awp_exit ?_); simp only [go_sem, simprocAttr, hF, e1, e2])
   | with_reducible (first | refine awp_seq_k fun _ _ => ?_ | refine awp_region [] ?_ | refine awp_block ?_)
   | go_step)
  refine ⟨_, fCheck_ok n.nodes f, ?_⟩
  simp only [go_sem, simprocAttr, hF]
  repeat (first
   | (with_reducible (first | refine sops_go ?_ | refine headW_end ?_ | refine sops_end ?_ | refine awp_if ?_ | refine awp_skip ?_ | refine awp_ret ?_ | refine awp_exit ?_); simp only [go_sem, simprocAttr, hF])
   | with_reducible (first | refine awp_seq_k fun _ _ => ?_ | refine awp_region [] ?_ | refine awp_block ?_)
   | go_step)
  all_goals (try rfl)

set_option maxHeartbeats 2000000 in
theorem check1_ok (n : Net) (f : Fl) (p : List Int) (hS : SmallN n) (hc : chkN n = 0) (hfr : 0 ≤ f.fr ∧ f.fr < n.nodes) (htn : 0 ≤ f.tn ∧ f.tn < n.nodes) (hne : f.fr ≠ f.tn) (hl : p.length ≤ 1000000) : FnOK Tryz.prog 65 [.sl 1 (p.map irow_pv), .ept n.pv, .ept f.pv] ⟨bv (!(routeE n f.fr f.tn p == 0)), none⟩ := by
 refine fn_ok Tryz.func65 (by kernel_rfl) rfl (by rw [Tryz.ntmps65]; exact of_decide_eq_true rfl) (fun F hF => ?_)
 rw [Tryz.ntmps65] at hF
 rw [Tryz.results65]
 repeat (first
  | (with_reducible (first | refine sops_go ?_ | refine headW_end ?_ | refine sops_end ?_ | refine awp_if ?_ | refine awp_skip ?_ | refine awp_ret ?_ | refine awp_exit ?_); simp only [go_sem, simprocAttr, hF])
  | with_reducible (first | refine awp_seq_k fun _ _ => ?_ | refine awp_region [] ?_ | refine awp_block ?_)
  | go_step)
 refine ⟨_, rcheckP_ok n f.fr f.tn p hS hc hfr htn hne hl, ?_⟩
 simp only [go_sem, simprocAttr, hF]
 repeat (first
  | (with_reducible (first | refine sops_go ?_ | refine headW_end ?_ | refine sops_end ?_ | refine awp_if ?_ | refine awp_skip ?_ | refine awp_ret ?_ | refine awp_exit ?_); simp only [go_sem, simprocAttr, hF])
  | with_reducible (first | refine awp_seq_k fun _ _ => ?_ | refine awp_region [] ?_ | refine awp_block ?_)
  | go_step)
 all_goals (try rfl)

set_option maxHeartbeats 2000000 in
theorem check2_ok (x : Lt) (fr : Int) : FnOK Tryz.prog 69 [.agg x.pv, .ept [ip fr]] ⟨bv (x.fr == fr), none⟩ := by
 refine fn_ok Tryz.func69 (by kernel_rfl) rfl (by rw [Tryz.ntmps69]; exact of_decide_eq_true rfl) (fun F hF => ?_)
 rw [Tryz.ntmps69] at hF
 rw [Tryz.results69]
 repeat (first
  | (with_reducible (first | refine sops_go ?_ | refine headW_end ?_ | refine sops_end ?_ | refine awp_if ?_ | refine awp_skip ?_ | refine awp_ret ?_ | refine awp_exit ?_); simp only [go_sem, simprocAttr, hF])
  | with_reducible (first | refine awp_seq_k fun _ _ => ?_ | refine awp_region [] ?_ | refine awp_block ?_)
  | go_step)
 all_goals (try rfl)

set_option maxHeartbeats 20000000 in
theorem checkL_ok (n : Net) (f : Fl) (ps : List (List Int)) (r : Rec) (fr : Int) (hS : SmallN n) (hla : r.al.length ≤ 1000000) (hld : r.dl.length ≤ 1000000) (hps : ps.length ≤ 1000000) (hpl : ∀ p ∈ ps, p.length ≤ 1000000) : FnOK Tryz.prog 36 [.agg n.pv, .agg f.pv, .sl 1 (ps.map prow_pv), .agg r.pv, iv fr] ⟨.tup [.g (lateX n f ps r fr).1.pv, .c (ip (lateX n f ps r fr).2)], none⟩ := by
 refine fn_ok Tryz.func36 (by kernel_rfl) rfl (by rw [Tryz.ntmps36]; exact of_decide_eq_true rfl) (fun F hF => ?_)
 rw [Tryz.ntmps36] at hF
 rw [Tryz.results36]
 cases hB : basicB n f r with
 | false =>
  repeat (first
   | (with_reducible (first | refine sops_go ?_ | refine headW_end ?_ | refine sops_end ?_ | refine awp_if ?_ | refine awp_skip ?_ | refine awp_ret ?_ | refine awp_exit ?_); simp only [go_sem, simprocAttr, hF, hB])
   | with_reducible (first | refine awp_seq_k fun _ _ => ?_ | refine awp_region [] ?_ | refine awp_block ?_)
   | go_step)
  refine ⟨_, base_ok n f r hS hla hld, ?_⟩
  simp only [go_sem, simprocAttr, hF, hB]
  repeat (first
   | (with_reducible (first | refine sops_go ?_ | refine headW_end ?_ | refine sops_end ?_ | refine awp_if ?_ | refine awp_skip ?_ | refine awp_ret ?_ | refine awp_exit ?_); simp only [go_sem, simprocAttr, hF, hB])
   | with_reducible (first | refine awp_seq_k fun _ _ => ?_ | refine awp_region [] ?_ | refine awp_block ?_)
   | go_step)
  rw [show lateX n f ps r fr = (lt0, 1) from by unfold lateX; rw [if_pos (.inl hB)]]
  all_goals (try rfl)
 | true =>
  obtain ⟨hc, hg, hn, hfN, hf⟩ := basicB_inv hB
  obtain ⟨_, f1, f2, f3, f4, f5⟩ := fault_of_N hn.2 hfN
  by_cases c1 : ps.length < 1
  case pos =>
   have e1 : decide ((ps.length : Int) < 1) = true := decide_eq_true (by omega)
   repeat (first
    | (with_reducible (first | refine sops_go ?_ | refine headW_end ?_ | refine sops_end ?_ | refine awp_if ?_ | refine awp_skip ?_ | refine awp_ret ?_ | refine awp_exit ?_); simp only [go_sem, simprocAttr, hF, hB, e1])
    | with_reducible (first | refine awp_seq_k fun _ _ => ?_ | refine awp_region [] ?_ | refine awp_block ?_)
    | go_step)
   refine ⟨_, base_ok n f r hS hla hld, ?_⟩
   simp only [go_sem, simprocAttr, hF, hB, e1]
   repeat (first
    | (with_reducible (first | refine sops_go ?_ | refine headW_end ?_ | refine sops_end ?_ | refine awp_if ?_ | refine awp_skip ?_ | refine awp_ret ?_ | refine awp_exit ?_); simp only [go_sem, simprocAttr, hF, hB, e1])
    | with_reducible (first | refine awp_seq_k fun _ _ => ?_ | refine awp_region [] ?_ | refine awp_block ?_)
    | go_step)
   rw [show lateX n f ps r fr = (lt0, 1) from by unfold lateX; rw [if_pos (.inr (.inl c1))]]
   all_goals (try rfl)
  have e1 : decide ((ps.length : Int) < 1) = false := decide_eq_false (by omega)
  by_cases c2 : 2 < ps.length
  case pos =>
   have e2 : decide ((2 : Int) < (ps.length : Int)) = true := decide_eq_true (by omega)
   repeat (first
    | (with_reducible (first | refine sops_go ?_ | refine headW_end ?_ | refine sops_end ?_ | refine awp_if ?_ | refine awp_skip ?_ | refine awp_ret ?_ | refine awp_exit ?_); simp only [go_sem, simprocAttr, hF, hB, e1, e2])
    | with_reducible (first | refine awp_seq_k fun _ _ => ?_ | refine awp_region [] ?_ | refine awp_block ?_)
    | go_step)
   refine ⟨_, base_ok n f r hS hla hld, ?_⟩
   simp only [go_sem, simprocAttr, hF, hB, e1, e2]
   repeat (first
    | (with_reducible (first | refine sops_go ?_ | refine headW_end ?_ | refine sops_end ?_ | refine awp_if ?_ | refine awp_skip ?_ | refine awp_ret ?_ | refine awp_exit ?_); simp only [go_sem, simprocAttr, hF, hB, e1, e2])
    | with_reducible (first | refine awp_seq_k fun _ _ => ?_ | refine awp_region [] ?_ | refine awp_block ?_)
    | go_step)
   rw [show lateX n f ps r fr = (lt0, 1) from by unfold lateX; rw [if_pos (.inr (.inr c2))]]
   all_goals (try rfl)
  have e2 : decide ((2 : Int) < (ps.length : Int)) = false := decide_eq_false (by omega)
  have c3 : ¬ (basicB n f r = false ∨ ps.length < 1 ∨ 2 < ps.length) := fun h => by
   rcases h with h | h | h
   · rw [hB] at h; cases h
   · exact c1 h
   · exact c2 h
  cases hr : ps.any (fun p => !(routeE n f.fr f.tn p == 0)) with
  | true =>
   repeat (first
    | (with_reducible (first | refine sops_go ?_ | refine headW_end ?_ | refine sops_end ?_ | refine awp_if ?_ | refine awp_skip ?_ | refine awp_ret ?_ | refine awp_exit ?_); simp only [go_sem, simprocAttr, hF, hB, e1, e2])
    | with_reducible (first | refine awp_seq_k fun _ _ => ?_ | refine awp_region [] ?_ | refine awp_block ?_)
    | go_step)
   refine ⟨_, base_ok n f r hS hla hld, ?_⟩
   simp only [go_sem, simprocAttr, hF, hB, e1, e2]
   repeat (first
    | (with_reducible (first | refine sops_go ?_ | refine headW_end ?_ | refine sops_end ?_ | refine awp_if ?_ | refine awp_skip ?_ | refine awp_ret ?_ | refine awp_exit ?_); simp only [go_sem, simprocAttr, hF, hB, e1, e2])
    | with_reducible (first | refine awp_seq_k fun _ _ => ?_ | refine awp_region [] ?_ | refine awp_block ?_)
    | go_step)
   refine ⟨_, contR_ok _ [n.pv, f.pv] (fun p => !(routeE n f.fr f.tn p == 0)) ps hps (fun y hy => check1_ok n f y hS hc ⟨f1, f2⟩ ⟨f3, f4⟩ f5 (hpl y hy)), ?_⟩
   simp only [go_sem, simprocAttr, hF]
   try simp only [go_sem, simprocAttr, hF, hB, e1, e2, hr]
   repeat (first
    | (with_reducible (first | refine sops_go ?_ | refine headW_end ?_ | refine sops_end ?_ | refine awp_if ?_ | refine awp_skip ?_ | refine awp_ret ?_ | refine awp_exit ?_); simp only [go_sem, simprocAttr, hF, hB, e1, e2, hr])
    | with_reducible (first | refine awp_seq_k fun _ _ => ?_ | refine awp_region [] ?_ | refine awp_block ?_)
    | go_step)
   rw [show lateX n f ps r fr = (lt0, 1) from by unfold lateX; rw [if_neg c3, if_pos hr]]
   all_goals (try rfl)
  | false =>
   have hr' : ¬ ps.any (fun p => !(routeE n f.fr f.tn p == 0)) = true := by rw [hr]; decide
   repeat (first
    | (with_reducible (first | refine sops_go ?_ | refine headW_end ?_ | refine sops_end ?_ | refine awp_if ?_ | refine awp_skip ?_ | refine awp_ret ?_ | refine awp_exit ?_); simp only [go_sem, simprocAttr, hF, hB, e1, e2])
    | with_reducible (first | refine awp_seq_k fun _ _ => ?_ | refine awp_region [] ?_ | refine awp_block ?_)
    | go_step)
   refine ⟨_, base_ok n f r hS hla hld, ?_⟩
   simp only [go_sem, simprocAttr, hF, hB, e1, e2]
   repeat (first
    | (with_reducible (first | refine sops_go ?_ | refine headW_end ?_ | refine sops_end ?_ | refine awp_if ?_ | refine awp_skip ?_ | refine awp_ret ?_ | refine awp_exit ?_); simp only [go_sem, simprocAttr, hF, hB, e1, e2])
    | with_reducible (first | refine awp_seq_k fun _ _ => ?_ | refine awp_region [] ?_ | refine awp_block ?_)
    | go_step)
   refine ⟨_, contR_ok _ [n.pv, f.pv] (fun p => !(routeE n f.fr f.tn p == 0)) ps hps (fun y hy => check1_ok n f y hS hc ⟨f1, f2⟩ ⟨f3, f4⟩ f5 (hpl y hy)), ?_⟩
   simp only [go_sem, simprocAttr, hF]
   try simp only [go_sem, simprocAttr, hF, hB, e1, e2, hr]
   repeat (first
    | (with_reducible (first | refine sops_go ?_ | refine headW_end ?_ | refine sops_end ?_ | refine awp_if ?_ | refine awp_skip ?_ | refine awp_ret ?_ | refine awp_exit ?_); simp only [go_sem, simprocAttr, hF, hB, e1, e2, hr])
    | with_reducible (first | refine awp_seq_k fun _ _ => ?_ | refine awp_region [] ?_ | refine awp_block ?_)
    | go_step)
   refine ⟨_, late_ok [f] r (by simp) hla hld, ?_⟩
   simp only [go_sem, simprocAttr, hF, hr]
   repeat (first
    | (with_reducible (first | refine sops_go ?_ | refine headW_end ?_ | refine sops_end ?_ | refine awp_if ?_ | refine awp_skip ?_ | refine awp_ret ?_ | refine awp_exit ?_); simp only [go_sem, simprocAttr, hF])
    | with_reducible (first | refine awp_seq_k fun _ _ => ?_ | refine awp_region [] ?_ | refine awp_block ?_)
    | go_step)
   refine ⟨_, idxT_ok _ [[ip fr]] (fun x => x.fr == fr) (late [f] r).1 (late_boundX [f] r) (fun y _ => check2_ok y fr), ?_⟩
   simp only [go_sem, simprocAttr, hF]
   rcases find_idx (fun x : Lt => x.fr == fr) (late [f] r).1 0 with ⟨q1, q2⟩ | ⟨i, x, q0, q1, q2, q3⟩
   · have e3 : decide ((-1 : Int) < 0) = true := rfl
     have hL : lateX n f ps r fr = (lt0, 12) := by unfold lateX; rw [if_neg c3, if_neg hr', q1]
     try simp only [go_sem, simprocAttr, hF, q2, e3]
     repeat (first
      | (with_reducible (first | refine sops_go ?_ | refine headW_end ?_ | refine sops_end ?_ | refine awp_if ?_ | refine awp_skip ?_ | refine awp_ret ?_ | refine awp_exit ?_); simp only [go_sem, simprocAttr, hF, q2, e3])
      | with_reducible (first | refine awp_seq_k fun _ _ => ?_ | refine awp_region [] ?_ | refine awp_block ?_)
      | go_step)
     all_goals (try rw [hL])
     all_goals (try rfl)
   · have e3 : decide ((i : Int) < 0) = false := decide_eq_false (by omega)
     rw [Int.zero_add] at q2
     have hL : lateX n f ps r fr = (x, 0) := by unfold lateX; rw [if_neg c3, if_neg hr', q1]
     try simp only [go_sem, simprocAttr, hF, q2, e3, q0]
     repeat (first
      | (with_reducible (first | refine sops_go ?_ | refine headW_end ?_ | refine sops_end ?_ | refine awp_if ?_ | refine awp_skip ?_ | refine awp_ret ?_ | refine awp_exit ?_); simp only [go_sem, simprocAttr, hF, q2, e3, q0])
      | with_reducible (first | refine awp_seq_k fun _ _ => ?_ | refine awp_region [] ?_ | refine awp_block ?_)
      | go_step)
     all_goals (try rw [hL])
     all_goals (try rfl)
/- The closures of explain.causes, by abstract states. -/
def offB (a b : Int) (x : Att) : Bool := x.cf != a || x.ct != b
theorem keep_off (a b : Int) (l : List Att) : keepP (offB a b) l = l.filter fun x => x.cf == a && x.ct == b := by
 unfold keepP offB
 exact List.filter_congr fun x _ => by cases h1 : (x.cf == a) <;> cases h2 : (x.ct == b) <;> simp [bne, h1, h2]

set_option maxHeartbeats 2000000 in
theorem causes1_ok (x : Att) (a b : Int) : FnOK Tryz.prog 74 [.agg x.pv, .ept [ip a], .ept [ip b]] ⟨bv (offB a b x), none⟩ := by
 refine fn_ok Tryz.func74 (by kernel_rfl) rfl (by rw [Tryz.ntmps74]; exact of_decide_eq_true rfl) (fun F hF => ?_)
 rw [Tryz.ntmps74] at hF
 rw [Tryz.results74]
 unfold offB
 cases h1 : (x.cf != a) <;> cases h2 : (x.ct != b)
 · repeat (first
  | (with_reducible (first | refine sops_go ?_ | refine headW_end ?_ | refine sops_end ?_ | refine awp_if ?_ | refine awp_skip ?_ | refine awp_ret ?_ | refine awp_exit ?_); simp only [go_sem, simprocAttr, hF, h1, h2])
  | with_reducible (first | refine awp_seq_k fun _ _ => ?_ | refine awp_region [] ?_ | refine awp_block ?_)
  | go_step)
   all_goals (try rfl)
 · repeat (first
  | (with_reducible (first | refine sops_go ?_ | refine headW_end ?_ | refine sops_end ?_ | refine awp_if ?_ | refine awp_skip ?_ | refine awp_ret ?_ | refine awp_exit ?_); simp only [go_sem, simprocAttr, hF, h1, h2])
  | with_reducible (first | refine awp_seq_k fun _ _ => ?_ | refine awp_region [] ?_ | refine awp_block ?_)
  | go_step)
   all_goals (try rfl)
 · repeat (first
  | (with_reducible (first | refine sops_go ?_ | refine headW_end ?_ | refine sops_end ?_ | refine awp_if ?_ | refine awp_skip ?_ | refine awp_ret ?_ | refine awp_exit ?_); simp only [go_sem, simprocAttr, hF, h1, h2])
  | with_reducible (first | refine awp_seq_k fun _ _ => ?_ | refine awp_region [] ?_ | refine awp_block ?_)
  | go_step)
   all_goals (try rfl)
 · repeat (first
  | (with_reducible (first | refine sops_go ?_ | refine headW_end ?_ | refine sops_end ?_ | refine awp_if ?_ | refine awp_skip ?_ | refine awp_ret ?_ | refine awp_exit ?_); simp only [go_sem, simprocAttr, hF, h1, h2])
  | with_reducible (first | refine awp_seq_k fun _ _ => ?_ | refine awp_region [] ?_ | refine awp_block ?_)
  | go_step)
   all_goals (try rfl)

set_option maxHeartbeats 2000000 in
theorem causes2_ok (x : Att) (lo hi : Int) : FnOK Tryz.prog 75 [.agg x.pv, .ept [ip lo], .ept [ip hi]] ⟨bv (failB lo hi x), none⟩ := by
 refine fn_ok Tryz.func75 (by kernel_rfl) rfl (by rw [Tryz.ntmps75]; exact of_decide_eq_true rfl) (fun F hF => ?_)
 rw [Tryz.ntmps75] at hF
 rw [Tryz.results75]
 unfold failB
 have h0 : (x.o != 1) = !(x.o == 1) := rfl
 cases h1 : (x.o == 1) <;> cases h2 : decide (lo ≤ x.s) <;> cases h3 : decide (x.s ≤ hi)
 · repeat (first
  | (with_reducible (first | refine sops_go ?_ | refine headW_end ?_ | refine sops_end ?_ | refine awp_if ?_ | refine awp_skip ?_ | refine awp_ret ?_ | refine awp_exit ?_); simp only [go_sem, simprocAttr, hF, h0, h1, h2, h3])
  | with_reducible (first | refine awp_seq_k fun _ _ => ?_ | refine awp_region [] ?_ | refine awp_block ?_)
  | go_step)
   all_goals (try rfl)
 · repeat (first
  | (with_reducible (first | refine sops_go ?_ | refine headW_end ?_ | refine sops_end ?_ | refine awp_if ?_ | refine awp_skip ?_ | refine awp_ret ?_ | refine awp_exit ?_); simp only [go_sem, simprocAttr, hF, h0, h1, h2, h3])
  | with_reducible (first | refine awp_seq_k fun _ _ => ?_ | refine awp_region [] ?_ | refine awp_block ?_)
  | go_step)
   all_goals (try rfl)
 · repeat (first
  | (with_reducible (first | refine sops_go ?_ | refine headW_end ?_ | refine sops_end ?_ | refine awp_if ?_ | refine awp_skip ?_ | refine awp_ret ?_ | refine awp_exit ?_); simp only [go_sem, simprocAttr, hF, h0, h1, h2, h3])
  | with_reducible (first | refine awp_seq_k fun _ _ => ?_ | refine awp_region [] ?_ | refine awp_block ?_)
  | go_step)
   all_goals (try rfl)
 · repeat (first
  | (with_reducible (first | refine sops_go ?_ | refine headW_end ?_ | refine sops_end ?_ | refine awp_if ?_ | refine awp_skip ?_ | refine awp_ret ?_ | refine awp_exit ?_); simp only [go_sem, simprocAttr, hF, h0, h1, h2, h3])
  | with_reducible (first | refine awp_seq_k fun _ _ => ?_ | refine awp_region [] ?_ | refine awp_block ?_)
  | go_step)
   all_goals (try rfl)
 · repeat (first
  | (with_reducible (first | refine sops_go ?_ | refine headW_end ?_ | refine sops_end ?_ | refine awp_if ?_ | refine awp_skip ?_ | refine awp_ret ?_ | refine awp_exit ?_); simp only [go_sem, simprocAttr, hF, h0, h1, h2, h3])
  | with_reducible (first | refine awp_seq_k fun _ _ => ?_ | refine awp_region [] ?_ | refine awp_block ?_)
  | go_step)
   all_goals (try rfl)
 · repeat (first
  | (with_reducible (first | refine sops_go ?_ | refine headW_end ?_ | refine sops_end ?_ | refine awp_if ?_ | refine awp_skip ?_ | refine awp_ret ?_ | refine awp_exit ?_); simp only [go_sem, simprocAttr, hF, h0, h1, h2, h3])
  | with_reducible (first | refine awp_seq_k fun _ _ => ?_ | refine awp_region [] ?_ | refine awp_block ?_)
  | go_step)
   all_goals (try rfl)
 · repeat (first
  | (with_reducible (first | refine sops_go ?_ | refine headW_end ?_ | refine sops_end ?_ | refine awp_if ?_ | refine awp_skip ?_ | refine awp_ret ?_ | refine awp_exit ?_); simp only [go_sem, simprocAttr, hF, h0, h1, h2, h3])
  | with_reducible (first | refine awp_seq_k fun _ _ => ?_ | refine awp_region [] ?_ | refine awp_block ?_)
  | go_step)
   all_goals (try rfl)
 · repeat (first
  | (with_reducible (first | refine sops_go ?_ | refine headW_end ?_ | refine sops_end ?_ | refine awp_if ?_ | refine awp_skip ?_ | refine awp_ret ?_ | refine awp_exit ?_); simp only [go_sem, simprocAttr, hF, h0, h1, h2, h3])
  | with_reducible (first | refine awp_seq_k fun _ _ => ?_ | refine awp_region [] ?_ | refine awp_block ?_)
  | go_step)
   all_goals (try rfl)
end Go.Proofs.YticnppnejafhdaaGreatDoor
/- ContainsFunc at attempts, with a closure that asks a function in a variable: by hand. -/
namespace Go.Proofs.YticnppnejafhdaaGreatDoor
open Go.RowKit
open Nd Rc Mo
open Av
theorem calls_att2 {fid k1 k2 : Nat} {m1 m2 : Int} {v : Bool} {x : Att} {W : World} (h : FnOK Tryz.prog fid [.agg x.pv, .ept [ip m1], .ept [ip m2]] ⟨bv v, none⟩) (h1 : W.cell? ⟨k1, 0, none⟩ = some (.int .i64 m1)) (h2 : W.cell? ⟨k2, 0, none⟩ = some (.int .i64 m2)) :
    Calls Tryz.prog fid #[.agg #[.int .i64 x.s, .int .i64 x.f, .int .i64 x.cs, .int .i64 x.co, .int .i64 x.cf, .int .i64 x.ct, .int .i64 x.cl, .int .i64 x.o], .pointer (some ⟨k1, 0, none⟩), .pointer (some ⟨k2, 0, none⟩)] W fun e w' => e = .returned (.bool v) ∧ Below W.heap.size W w' := by
  have hept : ∀ k m, W.cell? ⟨k, 0, none⟩ = some (.int .i64 m) → RepA (fun q => W.cell? q) (fun _ => 0) (.ept [ip m]) (.pointer (some ⟨k, 0, none⟩)) := fun k m hk => ⟨_, 0, [.int .i64 m], rfl, .cons (.v _ rfl) .nil, fun i x hx => by
    cases i with
    | zero => simp at hx; subst hx; exact hk
    | succ i => simp at hx⟩
  have := h.2 W (fun q => W.cell? q) (fun _ _ h => h) [.agg #[.int .i64 x.s, .int .i64 x.f, .int .i64 x.cs, .int .i64 x.co, .int .i64 x.cf, .int .i64 x.ct, .int .i64 x.cl, .int .i64 x.o], .pointer (some ⟨k1, 0, none⟩), .pointer (some ⟨k2, 0, none⟩)]
    (.cons ⟨_, rfl, rep_of_ints (xs := [.int .i64 x.s, .int .i64 x.f, .int .i64 x.cs, .int .i64 x.co, .int .i64 x.cf, .int .i64 x.ct, .int .i64 x.cl, .int .i64 x.o]) (by intro u hu; simp at hu; rcases hu with rfl | rfl | rfl | rfl | rfl | rfl | rfl | rfl <;> rfl)⟩ rfl (.cons (hept k1 m1 h1) rfl (.cons (hept k2 m2 h2) rfl .nil)))
  refine this.mono ?_
  rintro e w' ⟨u, rfl, hb, hres⟩
  exact ⟨by rw [show u = .bool v from hres.2], hb⟩
set_option maxRecDepth 100000 in
set_option maxHeartbeats 2000000 in
theorem causes3_any (x : Att) (lo hi : Int) (b g1 g2 : Nat) (w : World) (hc : w.cell? ⟨b, 0, none⟩ = some (.func (.func 75) #[] #[.pointer (some ⟨g1, 0, none⟩), .pointer (some ⟨g2, 0, none⟩)])) (h1 : w.cell? ⟨g1, 0, none⟩ = some (.int .i64 lo)) (h2 : w.cell? ⟨g2, 0, none⟩ = some (.int .i64 hi)) :
    Calls Tryz.prog 76 #[.agg #[.int .i64 x.s, .int .i64 x.f, .int .i64 x.cs, .int .i64 x.co, .int .i64 x.cf, .int .i64 x.ct, .int .i64 x.cl, .int .i64 x.o], .pointer (some ⟨b, 0, none⟩)] w fun e w' => e = .returned (.bool (!failB lo hi x)) ∧ Below w.heap.size w w' := by
  have hg : b < w.heap.size := World.block_lt_of_cell? w _ hc
  have HC : Hid (∀ W, Below w.heap.size w W → Calls Tryz.prog 75 #[.agg #[.int .i64 x.s, .int .i64 x.f, .int .i64 x.cs, .int .i64 x.co, .int .i64 x.cf, .int .i64 x.ct, .int .i64 x.cl, .int .i64 x.o], .pointer (some ⟨g1, 0, none⟩), .pointer (some ⟨g2, 0, none⟩)] W fun e w' => e = .returned (.bool (failB lo hi x)) ∧ Below W.heap.size W w') := Lib.hid fun W hW => calls_att2 (causes2_ok x lo hi) ((hW.cell (p := ⟨g1, 0, none⟩) (World.block_lt_of_cell? w _ h1)).trans h1) ((hW.cell (p := ⟨g2, 0, none⟩) (World.block_lt_of_cell? w _ h2)).trans h2)
  clear h1 h2
  go_enter Tryz.func76, Tryz.ntmps76
  go_wp2_with fail
  refine (HC.out _ ((Below.refl _ _).alloc (Nat.le_refl _) _)).mono ?_
  rintro e w2 ⟨rfl, hb2⟩
  go_wp2_with fail
  go_ret
  exact ⟨rfl, ((Below.refl _ _).alloc (Nat.le_refl _) _).trans (hb2.mono (by simp))⟩
set_option maxRecDepth 100000 in
set_option maxHeartbeats 2000000 in
theorem containsHA_any (p : Att → Bool) (g0 : FuncId) (cb : Array Value) (l : List Att) (A : Option Addr) (c : Nat) (w : World) (eg : ∀ args w, (callFunc g0 args).run Tryz.prog w = .ok (.enter g0 args) w) (hA : LiesA w w.heap.size A l) (hl : l.length ≤ 1000000)
    (hp : ∀ W, Below w.heap.size w W → ∀ a : Att, Calls Tryz.prog g0 (#[.agg #[.int .i64 a.s, .int .i64 a.f, .int .i64 a.cs, .int .i64 a.co, .int .i64 a.cf, .int .i64 a.ct, .int .i64 a.cl, .int .i64 a.o]] ++ cb) W fun e w' => e = .returned (.bool (p a)) ∧ Below W.heap.size W w') :
    Calls Tryz.prog 24 #[.slice A l.length c, .func (.func g0) #[] cb] w fun e w' => e = .returned (.bool (l.any p)) ∧ Below w.heap.size w w' := by
  have h0 := Lib.hid (idx_any p l)
  have HX := Lib.hid (indexHA_any p g0 cb l A c w eg hA hl hp)
  clear hp
  go_enter Tryz.func24, Tryz.ntmps24
  go_wp2_with fail
  refine HX.out.mono ?_
  rintro e w1 ⟨rfl, hb⟩
  go_wp2_with fail
  go_ret
  exact ⟨ret_bool h0.out, hb⟩
namespace Av
section
variable {n d : Nat} {σ : St} {o : Oper} {K : St → Prop}
/-- ContainsFunc of some attempts, one of which does not fail. -/
theorem hand_contains {x y : Operand} {ats : Array TypeId} {k0 g1 g2 : Nat} {l : List Att} {lo hi : Int} (ho : o.op = .call { callee := .value (.func 24), args := #[x, y], argTypes := ats }) (hd : o.dst = some d) (hdn : d < n)
    (hx : evo (look σ.slot) x = some (.sl 8 (l.map Att.pv))) (hy : evo (look σ.slot) y = some (.clo 76 [(k0, 0)])) (hb0 : look σ.box k0 = some [.v (.func (.func 75) #[] #[.pointer (some ⟨g1, 0, none⟩), .pointer (some ⟨g2, 0, none⟩)])])
    (hb1 : look σ.box (g1 + 1000000) = some [ip lo]) (hb2 : look σ.box (g2 + 1000000) = some [ip hi]) (hl : l.length ≤ 1000000) (h : K (σ.put d (bv (l.any fun a => !failB lo hi a)))) : Hand Tryz.prog n σ o K := by
  refine hand_call hd fun F γ a w hF hr => ?_
  obtain ⟨A, c, e1, hA⟩ := lies_of_rep (fun p v hp => hr.cell hp) (by decide) (show RepP _ (.sl 8 ((l.map Att.row).map fun row => row.map PV.v)) (a.eval x) from att_pv l ▸ (evo_ok hr (fun _ _ _ hy => hy) hx).1)
  rw [List.length_map] at e1
  have e2 : a.eval y = .func (.func 76) #[] #[.pointer (some ⟨γ.bx k0, 0, none⟩)] := (evo_ok hr (fun _ _ _ hy => hy) hy).1
  have hcell : ∀ k v, look σ.box k = some [.v v] → w.cell? ⟨γ.bx k, 0, none⟩ = some v := fun k v hk => by
    obtain ⟨us, ty, h1, _, h3⟩ := hr.boxes k _ hk
    cases h3 with | cons h3 h4 =>
    cases h4
    cases h3
    rw [cell_of_row w _ 0 _ ty (0, 0) h1]
    rfl
  have c0 := hcell _ _ hb0
  have c1 : w.cell? ⟨g1, 0, none⟩ = some (.int .i64 lo) := by
    have := hcell _ _ hb1
    rwa [hr.dyn _ (by rw [hb1]; rfl) (by omega), Nat.add_sub_cancel] at this
  have c2 : w.cell? ⟨g2, 0, none⟩ = some (.int .i64 hi) := by
    have := hcell _ _ hb2
    rwa [hr.dyn _ (by rw [hb2]; rfl) (by omega), Nat.add_sub_cancel] at this
  refine ⟨24, #[a.eval x, a.eval y], ?_, ?_⟩
  · have henter : Enters Tryz.prog 24 := ⟨Tryz.f24, _, Tryz.func24, by kernel_rfl, rfl⟩
    have hf : a.eval (.func 24) = .func (.func 24) #[] #[] := rfl
    simp [execOp, ho, resolve, hf, Deferred.ofValue, invoke, run_callFunc henter]
  have h3 : Enters Tryz.prog 76 := ⟨Tryz.f76, _, Tryz.func76, by kernel_rfl, rfl⟩
  rw [e1, e2]
  refine (containsHA_any (fun a => !failB lo hi a) 76 #[.pointer (some ⟨γ.bx k0, 0, none⟩)] l A c w (fun args w => run_callFunc h3 args w) hA hl (fun W hW x => ?_)).mono ?_
  · exact causes3_any x lo hi (γ.bx k0) g1 g2 W ((hW.cell (p := ⟨γ.bx k0, 0, none⟩) (World.block_lt_of_cell? w _ c0)).trans c0) ((hW.cell (p := ⟨g1, 0, none⟩) (World.block_lt_of_cell? w _ c1)).trans c1) ((hW.cell (p := ⟨g2, 0, none⟩) (World.block_lt_of_cell? w _ c2)).trans c2)
  · rintro e w1 ⟨rfl, hb⟩
    exact ⟨_, _, γ, rfl, h, (hr.grow hb).put (by rw [hF]; exact hdn) rfl (fun k hk => by cases hk)⟩
/-- A function value whose captured variables have their blocks' numbers as names. -/
theorem hand_makeFunc2 {fid g1 g2 : Nat} {x1 x2 : Operand} {cs1 cs2 : List PV} (ho : o.op = .makeFunc (.func fid) #[] #[x1, x2]) (hd : o.dst = some d) (hdn : d < n) (hx1 : evo (look σ.slot) x1 = some (.ref (g1 + 1000000) 0)) (hx2 : evo (look σ.slot) x2 = some (.ref (g2 + 1000000) 0))
    (hb1 : look σ.box (g1 + 1000000) = some cs1) (hb2 : look σ.box (g2 + 1000000) = some cs2) (h : K (σ.put d (.v (.func (.func fid) #[] #[.pointer (some ⟨g1, 0, none⟩), .pointer (some ⟨g2, 0, none⟩)])))) : Hand Tryz.prog n σ o K := by
  refine hand_value hd hdn fun F γ a w hF hr => ⟨.v (.func (.func fid) #[] #[.pointer (some ⟨g1, 0, none⟩), .pointer (some ⟨g2, 0, none⟩)]), _, w, σ.ext, ?_, Turn.same hr.exth (fun _ h => h) (fun _ h => .inr h), rfl, fun k hk => (by cases hk), h⟩
  have e1 : a.eval x1 = .pointer (some ⟨γ.bx (g1 + 1000000), 0, none⟩) := (evo_ok hr (fun _ _ _ hy => hy) hx1).1
  have e2 : a.eval x2 = .pointer (some ⟨γ.bx (g2 + 1000000), 0, none⟩) := (evo_ok hr (fun _ _ _ hy => hy) hx2).1
  rw [hr.dyn _ (by rw [hb1]; rfl) (by omega), Nat.add_sub_cancel] at e1
  rw [hr.dyn _ (by rw [hb2]; rfl) (by omega), Nat.add_sub_cancel] at e2
  simp [execOp, ho, e1, e2, Instr.makeFunc]
end
end Av
end Go.Proofs.YticnppnejafhdaaGreatDoor
/- explain.causes, by abstract states. -/
namespace Go.Proofs.YticnppnejafhdaaGreatDoor
open Go.RowKit
open Nd Rc Mo
open Av
set_option maxRecDepth 100000
set_option linter.unusedSimpArgs false
attribute [local go_sem] Av.guardB Av.sop Av.hopx Av.hop Av.hopCall Av.hopF Av.hopB Av.evo Av.evos Av.avCells Av.loadK Av.bound Av.abin Av.aun Av.partsC Av.lfill Av.placesB Av.setAt Av.stl Av.takes Av.src Av.bxOf Av.ownOf Av.St.res Av.St.put Av.St.addBox Av.St.putOwn Av.delL Av.delS Av.look Av.lookL Av.storeSt Av.stealSt Av.St.setBox Av.keepL Av.hitB Av.snap Av.snaps Av.snapCaps Av.AV.lit Av.AV.refs Av.capRefs Av.PV.av Av.CV.av Av.startSt Av.steals Av.athen Av.ablock Av.appK Av.AllS Av.AllO Av.AllR Av.keepS Av.St.avAt Av.RetOK Av.retAll Av.retOne Av.intsOf Av.ptrB Av.appB Av.appSt TypeDesc.isRow List.range_zero Option.some.injEq exists_eq_left' exists_eq_left exists_eq' exists_and_left exists_and_right exists_const true_and and_true and_self false_and and_false or_false false_or or_true true_or if_true if_false Bool.false_eq_true List.zipIdx_cons List.zipIdx_nil List.map_cons List.map_nil List.filter_cons List.filter_nil List.contains_cons List.contains_nil List.drop_succ_cons List.drop_zero List.take_succ_cons List.take_zero List.take_nil List.drop_nil List.length_cons List.length_nil List.cons_append List.nil_append List.append_nil List.getElem?_cons_zero List.getElem?_cons_succ List.getElem?_nil Option.bind_some Option.bind_none Option.map_some Option.map_none Option.isNone_none Option.isNone_some Option.isSome_some Option.isSome_none Bool.and_true Bool.true_and Bool.and_false Bool.false_and Bool.or_false Bool.false_or Bool.not_true Bool.not_false beq_true beq_false Bool.true_beq Bool.false_beq Loc.s.injEq Loc.b.injEq decide_true decide_false beq_self_eq_true Nat.zero_add Nat.add_zero List.getElem?_toArray List.toList_toArray List.size_toArray Value.oneCell' List.all_cons List.all_nil Value.int.injEq AV.v.injEq AV.sl.injEq AV.agg.injEq AV.ref.injEq AV.ept.injEq AV.tup.injEq Value.bool.injEq PV.v.injEq PV.sl.injEq List.isEmpty_nil List.isEmpty_cons forall_const not_true_eq_false not_false_eq_true true_implies false_implies Value.string.injEq List.length_map List.getElem?_map Int.toNat_natCast Int.natCast_nonneg List.length_append Value.cells implies_true TypeDesc.struct.injEq TypeDesc.slice.injEq TypeDesc.array.injEq List.getElem?_toArray Prod.mk.injEq and_assoc exists_false List.cons.injEq Operand.tmp.injEq ite_self AV.fnv.injEq AV.clo.injEq ne_eq eq_self Tryz.sz3 Tryz.zr3 Tryz.by3 Tryz.pl3 Tryz.is3 Tryz.underlying3 Tryz.sz4 Tryz.zr4 Tryz.by4 Tryz.pl4 Tryz.is4 Tryz.underlying4 Tryz.sz43 Tryz.zr43 Tryz.by43 Tryz.pl43 Tryz.is43 Tryz.underlying43 Tryz.sz35 Tryz.zr35 Tryz.by35 Tryz.pl35 Tryz.is35 Tryz.underlying35 Tryz.sz33 Tryz.zr33 Tryz.by33 Tryz.pl33 Tryz.is33 Tryz.underlying33 Tryz.sz28 Tryz.zr28 Tryz.by28 Tryz.pl28 Tryz.is28 Tryz.underlying28 Tryz.sz39 Tryz.zr39 Tryz.by39 Tryz.pl39 Tryz.is39 Tryz.underlying39 Tryz.sz57 Tryz.zr57 Tryz.by57 Tryz.pl57 Tryz.is57 Tryz.underlying57 Tryz.sz137 Tryz.zr137 Tryz.by137 Tryz.pl137 Tryz.is137 Tryz.underlying137 Tryz.sz66 Tryz.zr66 Tryz.by66 Tryz.pl66 Tryz.is66 Tryz.underlying66 Tryz.sz64 Tryz.zr64 Tryz.by64 Tryz.pl64 Tryz.is64 Tryz.underlying64 Tryz.sz60 Tryz.zr60 Tryz.by60 Tryz.pl60 Tryz.is60 Tryz.underlying60 Tryz.sz100 Tryz.zr100 Tryz.by100 Tryz.pl100 Tryz.is100 Tryz.underlying100 Tryz.sz103 Tryz.zr103 Tryz.by103 Tryz.pl103 Tryz.is103 Tryz.underlying103 Tryz.sz26 Tryz.zr26 Tryz.by26 Tryz.pl26 Tryz.is26 Tryz.underlying26 Tryz.sz120 Tryz.zr120 Tryz.by120 Tryz.pl120 Tryz.is120 Tryz.underlying120 Tryz.sz117 Tryz.zr117 Tryz.by117 Tryz.pl117 Tryz.is117 Tryz.underlying117 Tryz.sz30 Tryz.zr30 Tryz.by30 Tryz.pl30 Tryz.is30 Tryz.underlying30 Tryz.sz31 Tryz.zr31 Tryz.by31 Tryz.pl31 Tryz.is31 Tryz.underlying31 Tryz.sz40 Tryz.zr40 Tryz.by40 Tryz.pl40 Tryz.is40 Tryz.underlying40 Tryz.sz23 Tryz.zr23 Tryz.by23 Tryz.pl23 Tryz.is23 Tryz.underlying23 Tryz.sz24 Tryz.zr24 Tryz.by24 Tryz.pl24 Tryz.is24 Tryz.underlying24 Tryz.sz22 Tryz.zr22 Tryz.by22 Tryz.pl22 Tryz.is22 Tryz.underlying22 Tryz.sz141 Tryz.zr141 Tryz.by141 Tryz.pl141 Tryz.is141 Tryz.underlying141 Tryz.sz42 Tryz.zr42 Tryz.by42 Tryz.pl42 Tryz.is42 Tryz.underlying42 Tryz.sz29 Tryz.zr29 Tryz.by29 Tryz.pl29 Tryz.is29 Tryz.underlying29 Tryz.sz83 Tryz.zr83 Tryz.by83 Tryz.pl83 Tryz.is83 Tryz.underlying83 Tryz.sz67 Tryz.zr67 Tryz.by67 Tryz.pl67 Tryz.is67 Tryz.underlying67 Tryz.it39 Tryz.eg39 Tryz.it137 Tryz.eg137 Tryz.it66 Tryz.eg66 Tryz.it28 Tryz.eg28 Tryz.it60 Tryz.eg60 all_arr loc_ss loc_sb loc_bs loc_bb arr_two arr_one rg1 rg2 rg3 rg4 rg5 rg6 rg7 rg8 ResultVar.tmp.injEq Bool.not_true Bool.not_false undef Rc.Rec.pv Nd.Fl.pv Rc.Dlv.pv Rc.Att.pv Mo.Lt.pv Fn.func.injEq Mo.Net.pv Mo.Lk.pv prow_pv irow_pv Br.pv Av.St.ren Av.AV.ren Av.ren1
theorem fail_all (lo hi : Int) (l : List Att) : l.all (failB lo hi) = !(l.any fun a => !failB lo hi a) := by
 induction l with
 | nil => rfl
 | cons x l ih => rw [List.all_cons, List.any_cons, ih, Bool.not_or, Bool.not_not]

set_option maxHeartbeats 20000000 in
theorem causes_ok (n : Net) (f : Fl) (r : Rec) (fr a b : Int) (hS : SmallN n) (hB : basicB n f r = true) (hfr : 0 ≤ fr ∧ fr < 1048576) (hi : 0 ≤ idxL n a b) (hla : r.al.length ≤ 1000000) : FnOK Tryz.prog 37 [.agg n.pv, .agg f.pv, .agg r.pv, iv fr, iv a, iv b] ⟨.sl 5 ((causesX n f r fr a b).map Br.pv), none⟩ := by
 obtain ⟨hc, hg, hn, hfN, hf⟩ := basicB_inv hB
 have hN := netOK hc
 obtain ⟨L, hL⟩ : ∃ L, L = onLk r.al f.id fr a b := ⟨_, rfl⟩
 have hLn : L.length ≤ 1000000 := by rw [hL]; exact Nat.le_trans (att_len _ _ _ _ _) hla
 have hkeep : keepP (offB a b) (ofFrame r.al f.id fr) = L := by rw [keep_off, hL]; rfl
 have hofl : (ofFrame r.al f.id fr).length ≤ 1000000 := Nat.le_trans (List.length_filter_le _ _) hla
 rcases idxL_cases n a b with hix | ⟨i, x, hx, _, _, hix⟩
 · omega
 obtain ⟨m, hm⟩ : ∃ m : Nat, x.ls = (m : Int) ∧ m ≤ 7 := by
  have h := hN.lkb x (List.mem_of_getElem? hx)
  simp only [lkB, Nd.inB, Bool.and_eq_true, decide_eq_true_eq] at h
  exact ⟨x.ls.toNat, by omega, by omega⟩
 obtain ⟨hm, hm7⟩ := hm
 have hloss : lossL n a b = (m : Int) := by unfold lossL; rw [hix, Int.toNat_natCast, List.getD_eq_getElem?_getD, hx]; exact hm
 have hC : causesX n f r fr a b = causesK f fr a b (rel f fr) (rel f fr + f.dl - 1) (m + 1) L (L.length - m) := by unfold causesX; rw [hloss, hL]; rfl
 rw [hC]
 clear hC hloss
 have hwm : IntKind.i64.wrap ((m : Int) + 1) = ((m + 1 : Nat) : Int) := by rw [IntKind.wrap_i64]; omega
 have w1 : IntKind.i64.wrap ((L.length : Int) - ((m + 1 : Nat) : Int)) = (L.length : Int) - ((m + 1 : Nat) : Int) := by rw [IntKind.wrap_i64]; omega
 have w2 : IntKind.i64.wrap ((L.length : Int) - ((m + 1 : Nat) : Int) + 1) = (L.length : Int) - (m : Int) := by rw [IntKind.wrap_i64]; omega
 have hmx : (if (L.length : Int) - (m : Int) < 0 then 0 else (L.length : Int) - (m : Int)) = ((L.length - m : Nat) : Int) := by split <;> omega
 refine fn_ok Tryz.func37 (by kernel_rfl) rfl (by rw [Tryz.ntmps37]; exact of_decide_eq_true rfl) (fun F hF => ?_)
 rw [Tryz.ntmps37] at hF
 rw [Tryz.results37]
 repeat (first
  | (with_reducible (first | refine sops_go ?_ | refine headW_end ?_ | refine sops_end ?_ | refine awp_if ?_ | refine awp_skip ?_ | refine awp_ret ?_ | refine awp_exit ?_); simp only [go_sem, simprocAttr, hF])
  | ((with_reducible refine headW_go ?_); simp only [go_sem, simprocAttr, hF, hbx])
  | with_reducible refine awp_seq_k fun _ _ => ?_
  | (refine awp_draw' (id := 7) [95, 102, 1000050, 1000052, 1000053, 1000081] 10 (by kernel_rfl) (by kernel_rfl) rfl rfl (fun bx0 hbx => ?_); try dsimp only [List.take, List.drop])
  | with_reducible (first | refine awp_region [95, 102, 1000050, 1000052, 1000053, 1000081] ?_ | refine awp_block ?_)
  | go_step)
 refine ⟨_, window_okW f fr hf hfr.1 (by omega), ?_⟩
 simp only [go_sem, simprocAttr, hF]
 repeat (first
  | (with_reducible (first | refine sops_go ?_ | refine headW_end ?_ | refine sops_end ?_ | refine awp_if ?_ | refine awp_skip ?_ | refine awp_ret ?_ | refine awp_exit ?_); simp only [go_sem, simprocAttr, hF])
  | ((with_reducible refine headW_go ?_); simp only [go_sem, simprocAttr, hF, hbx])
  | with_reducible refine awp_seq_k fun _ _ => ?_
  | (refine awp_draw' (id := 7) [95, 102, 1000050, 1000052, 1000053, 1000081] 10 (by kernel_rfl) (by kernel_rfl) rfl rfl (fun bx0 hbx => ?_); try dsimp only [List.take, List.drop])
  | with_reducible (first | refine awp_region [95, 102, 1000050, 1000052, 1000053, 1000081] ?_ | refine awp_block ?_)
  | go_step)
 refine ⟨_, due_okW f fr hf hfr.1 (by omega), ?_⟩
 simp only [go_sem, simprocAttr, hF]
 repeat (first
  | (with_reducible (first | refine sops_go ?_ | refine headW_end ?_ | refine sops_end ?_ | refine awp_if ?_ | refine awp_skip ?_ | refine awp_ret ?_ | refine awp_exit ?_); simp only [go_sem, simprocAttr, hF])
  | ((with_reducible refine headW_go ?_); simp only [go_sem, simprocAttr, hF, hbx])
  | with_reducible refine awp_seq_k fun _ _ => ?_
  | (refine awp_draw' (id := 7) [95, 102, 1000050, 1000052, 1000053, 1000081] 10 (by kernel_rfl) (by kernel_rfl) rfl rfl (fun bx0 hbx => ?_); try dsimp only [List.take, List.drop])
  | (with_reducible refine awp_region (id := 0) [95, 102, 1000050, 1000052, 1000053, 1000081] ?_)
  | (with_reducible refine awp_region (id := 1) [95, 102, 1000050, 1000052, 1000053, 1000081] ?_)
  | (with_reducible refine awp_region (id := 2) [95, 102, 1000050, 1000052, 1000053, 1000081] ?_)
  | (with_reducible refine awp_region (id := 3) [95, 102, 1000050, 1000052, 1000053, 1000081] ?_)
  | (with_reducible refine awp_region (id := 4) [95, 102, 1000050, 1000052, 1000053, 1000081] ?_)
  | (with_reducible refine awp_region (id := 5) [95, 102, 1000050, 1000052, 1000053, 1000081] ?_)
  | (with_reducible refine awp_region (id := 8) [95, 102, 1000050, 1000052, 1000053, 1000081] ?_)
  | (with_reducible refine awp_region (id := 9) [95, 102, 1000050, 1000052, 1000053, 1000081] ?_)
  | (with_reducible refine awp_region (id := 10) [95, 102, 1000050, 1000052, 1000053, 1000081] ?_)
  | (with_reducible refine awp_region (id := 11) [95, 102, 1000050, 1000052, 1000053, 1000081] ?_)
  | (with_reducible refine awp_region (id := 12) [95, 102, 1000050, 1000052, 1000053, 1000081] ?_)
  | (with_reducible refine awp_region (id := 13) [95, 102, 1000050, 1000052, 1000053, 1000081] ?_)
  | (with_reducible refine awp_region (id := 14) [95, 102, 1000050, 1000052, 1000053, 1000081] ?_)
  | (with_reducible refine awp_region (id := 15) [95, 102, 1000050, 1000052, 1000053, 1000081] ?_)
  | (with_reducible refine awp_region (id := 16) [95, 102, 1000050, 1000052, 1000053, 1000081] ?_)
  | (with_reducible refine awp_region (id := 17) [95, 102, 1000050, 1000052, 1000053, 1000081] ?_)
  | (with_reducible refine awp_region (id := 18) [95, 102, 1000050, 1000052, 1000053, 1000081] ?_)
  | (with_reducible refine awp_region (id := 19) [95, 102, 1000050, 1000052, 1000053, 1000081] ?_)
  | (with_reducible refine awp_region (id := 20) [95, 102, 1000050, 1000052, 1000053, 1000081] ?_)
  | (with_reducible refine awp_region (id := 21) [95, 102, 1000050, 1000052, 1000053, 1000081] ?_)
  | (with_reducible refine awp_region (id := 22) [95, 102, 1000050, 1000052, 1000053, 1000081] ?_)
  | (with_reducible refine awp_block ?_)
  | go_step)
 refine hand_attempts (d := 50) r f.id fr hla rfl rfl (by decide) ?_ ?_ ?_ (fun V => ?_)
 · simp only [go_sem, simprocAttr, hF]
 · simp only [go_sem, simprocAttr, hF]
 · simp only [go_sem, simprocAttr, hF]
 simp only [go_sem, simprocAttr, hF]
 repeat (first
  | (with_reducible (first | refine sops_go ?_ | refine headW_end ?_ | refine sops_end ?_ | refine awp_if ?_ | refine awp_skip ?_ | refine awp_ret ?_ | refine awp_exit ?_); simp only [go_sem, simprocAttr, hF])
  | ((with_reducible refine headW_go ?_); simp only [go_sem, simprocAttr, hF, hbx])
  | with_reducible refine awp_seq_k fun _ _ => ?_
  | (refine awp_draw' (id := 7) [95, 102, 1000050, 1000052, 1000053, 1000081] 10 (by kernel_rfl) (by kernel_rfl) rfl rfl (fun bx0 hbx => ?_); try dsimp only [List.take, List.drop])
  | (with_reducible refine awp_region (id := 0) [95, 102, 1000050, 1000052, 1000053, 1000081] ?_)
  | (with_reducible refine awp_region (id := 1) [95, 102, 1000050, 1000052, 1000053, 1000081] ?_)
  | (with_reducible refine awp_region (id := 2) [95, 102, 1000050, 1000052, 1000053, 1000081] ?_)
  | (with_reducible refine awp_region (id := 3) [95, 102, 1000050, 1000052, 1000053, 1000081] ?_)
  | (with_reducible refine awp_region (id := 4) [95, 102, 1000050, 1000052, 1000053, 1000081] ?_)
  | (with_reducible refine awp_region (id := 5) [95, 102, 1000050, 1000052, 1000053, 1000081] ?_)
  | (with_reducible refine awp_region (id := 8) [95, 102, 1000050, 1000052, 1000053, 1000081] ?_)
  | (with_reducible refine awp_region (id := 9) [95, 102, 1000050, 1000052, 1000053, 1000081] ?_)
  | (with_reducible refine awp_region (id := 10) [95, 102, 1000050, 1000052, 1000053, 1000081] ?_)
  | (with_reducible refine awp_region (id := 11) [95, 102, 1000050, 1000052, 1000053, 1000081] ?_)
  | (with_reducible refine awp_region (id := 12) [95, 102, 1000050, 1000052, 1000053, 1000081] ?_)
  | (with_reducible refine awp_region (id := 13) [95, 102, 1000050, 1000052, 1000053, 1000081] ?_)
  | (with_reducible refine awp_region (id := 14) [95, 102, 1000050, 1000052, 1000053, 1000081] ?_)
  | (with_reducible refine awp_region (id := 15) [95, 102, 1000050, 1000052, 1000053, 1000081] ?_)
  | (with_reducible refine awp_region (id := 16) [95, 102, 1000050, 1000052, 1000053, 1000081] ?_)
  | (with_reducible refine awp_region (id := 17) [95, 102, 1000050, 1000052, 1000053, 1000081] ?_)
  | (with_reducible refine awp_region (id := 18) [95, 102, 1000050, 1000052, 1000053, 1000081] ?_)
  | (with_reducible refine awp_region (id := 19) [95, 102, 1000050, 1000052, 1000053, 1000081] ?_)
  | (with_reducible refine awp_region (id := 20) [95, 102, 1000050, 1000052, 1000053, 1000081] ?_)
  | (with_reducible refine awp_region (id := 21) [95, 102, 1000050, 1000052, 1000053, 1000081] ?_)
  | (with_reducible refine awp_region (id := 22) [95, 102, 1000050, 1000052, 1000053, 1000081] ?_)
  | (with_reducible refine awp_block ?_)
  | go_step)
 refine hand_delete (d := 52) (fid := 74) (k1 := 10) (k2 := 11) (V := V) (l := ofFrame r.al f.id fr) (m1 := a) (m2 := b) (offB a b) Ext.nil rfl rfl (by decide) ?_ ?_ ?_ ?_ ?_ hofl (fun y => causes1_ok y a b) ?_
 · rfl
 · simp only [go_sem, simprocAttr, hF]
 · simp only [go_sem, simprocAttr, hF]
 · simp only [go_sem, simprocAttr, hF]
 · simp only [go_sem, simprocAttr, hF]
 simp only [go_sem, simprocAttr, hF, hkeep]
 repeat (first
  | (with_reducible (first | refine sops_go ?_ | refine headW_end ?_ | refine sops_end ?_ | refine awp_if ?_ | refine awp_skip ?_ | refine awp_ret ?_ | refine awp_exit ?_); simp only [go_sem, simprocAttr, hF])
  | ((with_reducible refine headW_go ?_); simp only [go_sem, simprocAttr, hF, hbx])
  | with_reducible refine awp_seq_k fun _ _ => ?_
  | (refine awp_draw' (id := 7) [95, 102, 1000050, 1000052, 1000053, 1000081] 10 (by kernel_rfl) (by kernel_rfl) rfl rfl (fun bx0 hbx => ?_); try dsimp only [List.take, List.drop])
  | (with_reducible refine awp_region (id := 0) [95, 102, 1000050, 1000052, 1000053, 1000081] ?_)
  | (with_reducible refine awp_region (id := 1) [95, 102, 1000050, 1000052, 1000053, 1000081] ?_)
  | (with_reducible refine awp_region (id := 2) [95, 102, 1000050, 1000052, 1000053, 1000081] ?_)
  | (with_reducible refine awp_region (id := 3) [95, 102, 1000050, 1000052, 1000053, 1000081] ?_)
  | (with_reducible refine awp_region (id := 4) [95, 102, 1000050, 1000052, 1000053, 1000081] ?_)
  | (with_reducible refine awp_region (id := 5) [95, 102, 1000050, 1000052, 1000053, 1000081] ?_)
  | (with_reducible refine awp_region (id := 8) [95, 102, 1000050, 1000052, 1000053, 1000081] ?_)
  | (with_reducible refine awp_region (id := 9) [95, 102, 1000050, 1000052, 1000053, 1000081] ?_)
  | (with_reducible refine awp_region (id := 10) [95, 102, 1000050, 1000052, 1000053, 1000081] ?_)
  | (with_reducible refine awp_region (id := 11) [95, 102, 1000050, 1000052, 1000053, 1000081] ?_)
  | (with_reducible refine awp_region (id := 12) [95, 102, 1000050, 1000052, 1000053, 1000081] ?_)
  | (with_reducible refine awp_region (id := 13) [95, 102, 1000050, 1000052, 1000053, 1000081] ?_)
  | (with_reducible refine awp_region (id := 14) [95, 102, 1000050, 1000052, 1000053, 1000081] ?_)
  | (with_reducible refine awp_region (id := 15) [95, 102, 1000050, 1000052, 1000053, 1000081] ?_)
  | (with_reducible refine awp_region (id := 16) [95, 102, 1000050, 1000052, 1000053, 1000081] ?_)
  | (with_reducible refine awp_region (id := 17) [95, 102, 1000050, 1000052, 1000053, 1000081] ?_)
  | (with_reducible refine awp_region (id := 18) [95, 102, 1000050, 1000052, 1000053, 1000081] ?_)
  | (with_reducible refine awp_region (id := 19) [95, 102, 1000050, 1000052, 1000053, 1000081] ?_)
  | (with_reducible refine awp_region (id := 20) [95, 102, 1000050, 1000052, 1000053, 1000081] ?_)
  | (with_reducible refine awp_region (id := 21) [95, 102, 1000050, 1000052, 1000053, 1000081] ?_)
  | (with_reducible refine awp_region (id := 22) [95, 102, 1000050, 1000052, 1000053, 1000081] ?_)
  | (with_reducible refine awp_block ?_)
  | go_step)
 refine awp_ren 13 rfl (by decide) (fun _ => rfl) (fun g1 hg1 => ?_)
 simp only [go_sem, simprocAttr, hF]
 refine awp_ren 16 rfl (by decide) (fun _ => rfl) (fun g2 hg2 => ?_)
 have hgg : (g1 + 1000000 = g2 + 1000000) = False := by
  refine eq_false fun h => ?_
  simp only [Av.look_cons, h, if_pos] at hg2
  revert hg2
  simp
 have hgg2 : (g2 + 1000000 = g1 + 1000000) = False := eq_false fun h => by rw [h] at hgg; simp at hgg
 simp only [go_sem, simprocAttr, hF, hgg, hgg2]
 repeat (first
  | (with_reducible (first | refine sops_go ?_ | refine headW_end ?_ | refine sops_end ?_ | refine awp_if ?_ | refine awp_skip ?_ | refine awp_ret ?_ | refine awp_exit ?_); simp only [go_sem, simprocAttr, hF, hgg, hgg2])
  | ((with_reducible refine headW_go ?_); simp only [go_sem, simprocAttr, hF, hgg, hgg2, hbx])
  | with_reducible refine awp_seq_k fun _ _ => ?_
  | (with_reducible refine awp_region (id := 0) [95, 102, 1000050, 1000052, 1000053, 1000081] ?_)
  | (with_reducible refine awp_region (id := 1) [95, 102, 1000050, 1000052, 1000053, 1000081] ?_)
  | (with_reducible refine awp_region (id := 2) [95, 102, 1000050, 1000052, 1000053, 1000081] ?_)
  | (with_reducible refine awp_region (id := 3) [95, 102, 1000050, 1000052, 1000053, 1000081] ?_)
  | (with_reducible refine awp_region (id := 4) [95, 102, 1000050, 1000052, 1000053, 1000081] ?_)
  | (with_reducible refine awp_region (id := 5) [95, 102, 1000050, 1000052, 1000053, 1000081] ?_)
  | (with_reducible refine awp_region (id := 6) [95, 102, 1000050, 1000052, 1000053, 1000081] ?_)
  | (with_reducible refine awp_region (id := 8) [95, 102, 1000050, 1000052, 1000053, 1000081] ?_)
  | (with_reducible refine awp_region (id := 9) [95, 102, 1000050, 1000052, 1000053, 1000081] ?_)
  | (with_reducible refine awp_region (id := 10) [95, 102, 1000050, 1000052, 1000053, 1000081] ?_)
  | (with_reducible refine awp_region (id := 11) [95, 102, 1000050, 1000052, 1000053, 1000081] ?_)
  | (with_reducible refine awp_region (id := 12) [95, 102, 1000050, 1000052, 1000053, 1000081] ?_)
  | (with_reducible refine awp_region (id := 13) [95, 102, 1000050, 1000052, 1000053, 1000081] ?_)
  | (with_reducible refine awp_region (id := 14) [95, 102, 1000050, 1000052, 1000053, 1000081] ?_)
  | (with_reducible refine awp_region (id := 15) [95, 102, 1000050, 1000052, 1000053, 1000081] ?_)
  | (with_reducible refine awp_region (id := 16) [95, 102, 1000050, 1000052, 1000053, 1000081] ?_)
  | (with_reducible refine awp_region (id := 17) [95, 102, 1000050, 1000052, 1000053, 1000081] ?_)
  | (with_reducible refine awp_region (id := 18) [95, 102, 1000050, 1000052, 1000053, 1000081] ?_)
  | (with_reducible refine awp_region (id := 19) [95, 102, 1000050, 1000052, 1000053, 1000081] ?_)
  | (with_reducible refine awp_region (id := 20) [95, 102, 1000050, 1000052, 1000053, 1000081] ?_)
  | (with_reducible refine awp_region (id := 21) [95, 102, 1000050, 1000052, 1000053, 1000081] ?_)
  | (with_reducible refine awp_region (id := 22) [95, 102, 1000050, 1000052, 1000053, 1000081] ?_)
  | (with_reducible refine awp_block ?_)
  | go_step)
 refine hand_makeFunc2 (d := 53) (g1 := g1) (g2 := g2) (cs1 := [ip (rel f fr)]) (cs2 := [ip (rel f fr + f.dl - 1)]) rfl rfl (by decide) ?_ ?_ ?_ ?_ ?_
 · simp only [go_sem, simprocAttr, hF]
 · simp only [go_sem, simprocAttr, hF]
 · simp only [go_sem, simprocAttr, hF, hgg, hgg2]
 · simp only [go_sem, simprocAttr, hF, hgg, hgg2]
 simp only [go_sem, simprocAttr, hF, hgg, hgg2]
 repeat (first
  | (with_reducible (first | refine sops_go ?_ | refine headW_end ?_ | refine sops_end ?_ | refine awp_if ?_ | refine awp_skip ?_ | refine awp_ret ?_ | refine awp_exit ?_); simp only [go_sem, simprocAttr, hF, hgg, hgg2])
  | ((with_reducible refine headW_go ?_); simp only [go_sem, simprocAttr, hF, hgg, hgg2, hbx])
  | with_reducible refine awp_seq_k fun _ _ => ?_
  | (refine awp_draw' (id := 7) [95, 102, 1000050, 1000052, 1000053, 1000081] 10 (by kernel_rfl) (by kernel_rfl) rfl rfl (fun bx0 hbx => ?_); try dsimp only [List.take, List.drop])
  | with_reducible (first | refine awp_region [95, 102, 1000050, 1000052, 1000053, 1000081] ?_ | refine awp_block ?_)
  | go_step)
 refine ⟨_, nindex_ok n a b hS hc, ?_⟩
 simp only [go_sem, simprocAttr, hF, hgg, hgg2, hwm, w1, w2, hmx, hix, hx, hm, Nat.le_refl]
 repeat (first
  | (with_reducible (first | refine sops_go ?_ | refine headW_end ?_ | refine sops_end ?_ | refine awp_if ?_ | refine awp_skip ?_ | refine awp_ret ?_ | refine awp_exit ?_); simp only [go_sem, simprocAttr, hF, hgg, hgg2, hwm, w1, w2, hmx, hix, hx, hm, Nat.le_refl])
  | ((with_reducible refine headW_go ?_); simp only [go_sem, simprocAttr, hF, hgg, hgg2, hwm, w1, w2, hmx, hix, hx, hm, Nat.le_refl, hbx])
  | with_reducible refine awp_seq_k fun _ _ => ?_
  | (refine awp_draw' (id := 7) [95, 102, 1000050, 1000052, 1000053, 1000081] 10 (by kernel_rfl) (by kernel_rfl) rfl rfl (fun bx0 hbx => ?_); try dsimp only [List.take, List.drop])
  | with_reducible (first | refine awp_region [95, 102, 1000050, 1000052, 1000053, 1000081] ?_ | refine awp_block ?_)
  | go_step)
 refine awp_nil 21 5 57 (by rw [hF]; decide) (by first | rfl | simp only [Av.look]; rfl) ?_
 simp only [go_sem, simprocAttr, hF, hgg, hgg2]
 repeat (first
  | (with_reducible (first | refine sops_go ?_ | refine headW_end ?_ | refine sops_end ?_ | refine awp_if ?_ | refine awp_skip ?_ | refine awp_ret ?_ | refine awp_exit ?_); simp only [go_sem, simprocAttr, hF, hgg, hgg2, hwm, w1, w2, hmx, hix, hx, hm, Nat.le_refl])
  | ((with_reducible refine headW_go ?_); simp only [go_sem, simprocAttr, hF, hgg, hgg2, hwm, w1, w2, hmx, hix, hx, hm, Nat.le_refl, hbx])
  | with_reducible refine awp_seq_k fun _ _ => ?_
  | (refine awp_draw' (id := 7) [95, 102, 1000050, 1000052, 1000053, 1000081] 10 (by kernel_rfl) (by kernel_rfl) rfl rfl (fun bx0 hbx => ?_); try dsimp only [List.take, List.drop])
  | with_reducible (first | refine awp_region [95, 102, 1000050, 1000052, 1000053, 1000081] ?_ | refine awp_block ?_)
  | go_step)
 refine awp_loop_by (ι := {k : Nat // k ≤ L.length - m}) (fun k σ => ⟨(70, iv (k.1 : Int)) :: (21, .sl 5 ((causesK f fr a b (rel f fr) (rel f fr + f.dl - 1) (m + 1) L k.1).map Br.pv)) :: keepS [3, 7, 10, 11, 18, 19, 20, 69] σ.slot, [(7, f.pv), (10, [ip a]), (11, [ip b]), (19, [.v (.func (.func 75) #[] #[.pointer (some ⟨g1, 0, none⟩), .pointer (some ⟨g2, 0, none⟩)])]), (g1 + 1000000, [ip (rel f fr)]), (g2 + 1000000, [ip (rel f fr + f.dl - 1)])], [(.s 21, (57, 5))], σ.ext⟩) (fun k => (L.length - m) - k.1) ⟨0, by omega⟩ (sub_mk ?_) (fun R hR k => ?_)
 · simp only [go_sem, simprocAttr, hF, hgg, hgg2]
   repeat' (first | rfl | refine ⟨?_, ?_⟩)
 obtain ⟨k, hk⟩ := k
 dsimp only
 simp only [go_sem, simprocAttr, hF, hgg, hgg2]
 by_cases hlt : k < L.length - m
 case neg =>
  have hd : decide ((k : Int) < ((L.length - m : Nat) : Int)) = false := decide_eq_false (by omega)
  obtain rfl : k = L.length - m := by omega
  repeat (first
   | (with_reducible (first | refine sops_go ?_ | refine headW_end ?_ | refine sops_end ?_ | refine awp_if ?_ | refine awp_skip ?_ | refine awp_ret ?_ | refine awp_exit ?_); simp only [go_sem, simprocAttr, hF, hgg, hgg2, hd])
   | ((with_reducible refine headW_go ?_); simp only [go_sem, simprocAttr, hF, hgg, hgg2, hd, hbx])
   | with_reducible refine awp_seq_k fun _ _ => ?_
   | (refine awp_draw' (id := 7) [95, 102, 1000050, 1000052, 1000053, 1000081] 10 (by kernel_rfl) (by kernel_rfl) rfl rfl (fun bx0 hbx => ?_); try dsimp only [List.take, List.drop])
   | with_reducible (first | refine awp_region [95, 102, 1000050, 1000052, 1000053, 1000081] ?_ | refine awp_block ?_)
   | go_step)
  all_goals (try rfl)
 have hd : decide ((k : Int) < ((L.length - m : Nat) : Int)) = true := decide_eq_true (by omega)
 have hw : IntKind.i64.wrap ((k : Int) + 1) = ((k + 1 : Nat) : Int) := by rw [IntKind.wrap_i64]; omega
 have w3 : IntKind.i64.wrap ((k : Int) + ((m + 1 : Nat) : Int)) = ((k + (m + 1) : Nat) : Int) := by rw [IntKind.wrap_i64]; omega
 obtain ⟨part, hpart⟩ : ∃ part, part = (L.drop k).take (m + 1) := ⟨_, rfl⟩
 have hpl : part.length = m + 1 := by rw [hpart, List.length_take, List.length_drop]; omega
 have hsl : List.drop k (List.take (k + (m + 1)) (List.map Att.pv L)) = List.map Att.pv part := by
  rw [hpart, List.drop_take, Nat.add_sub_cancel_left, List.map_take, List.map_drop]
 have hcs : causesK f fr a b (rel f fr) (rel f fr + f.dl - 1) (m + 1) L (k + 1) = causesK f fr a b (rel f fr) (rel f fr + f.dl - 1) (m + 1) L k ++ (if (part.any fun x => !failB (rel f fr) (rel f fr + f.dl - 1) x) = true then [] else [⟨f.id, fr, a, b, part.map Att.s⟩]) := by
  rw [causesK_succ, causeAt, ← hpart, fail_all]
  cases (part.any fun x => !failB (rel f fr) (rel f fr + f.dl - 1) x) <;> rfl
 have hle1 : k ≤ k + (m + 1) := by omega
 have hle2 : k + (m + 1) ≤ L.length := by omega
 clear hpart
 repeat (first
  | (with_reducible (first | refine sops_go ?_ | refine headW_end ?_ | refine sops_end ?_ | refine awp_if ?_ | refine awp_skip ?_ | refine awp_ret ?_ | refine awp_exit ?_); simp only [go_sem, simprocAttr, hF, hgg, hgg2, hd, w3, hsl, hle1, hle2, Nat.le_refl])
  | ((with_reducible refine headW_go ?_); simp only [go_sem, simprocAttr, hF, hgg, hgg2, hd, w3, hsl, hle1, hle2, Nat.le_refl, hbx])
  | with_reducible refine awp_seq_k fun _ _ => ?_
  | (refine awp_draw' (id := 7) [95, 102, 1000050, 1000052, 1000053, 1000081] 10 (by kernel_rfl) (by kernel_rfl) rfl rfl (fun bx0 hbx => ?_); try dsimp only [List.take, List.drop])
  | with_reducible (first | refine awp_region [95, 102, 1000050, 1000052, 1000053, 1000081] ?_ | refine awp_block ?_)
  | go_step)
 refine hand_contains (d := 81) (k0 := 19) (g1 := g1) (g2 := g2) (l := part) (lo := (rel f fr)) (hi := (rel f fr + f.dl - 1)) rfl rfl (by decide) ?_ ?_ ?_ ?_ ?_ (by omega) ?_
 · simp only [go_sem, simprocAttr, hF]
 · simp only [go_sem, simprocAttr, hF]
 · simp only [go_sem, simprocAttr, hF, hgg, hgg2]
 · simp only [go_sem, simprocAttr, hF, hgg, hgg2]
 · simp only [go_sem, simprocAttr, hF, hgg, hgg2]
 simp only [go_sem, simprocAttr, hF, hgg, hgg2]
 cases hq : part.any fun x => !failB (rel f fr) (rel f fr + f.dl - 1) x with
 | true =>
  rw [hq, if_pos rfl, List.append_nil] at hcs
  try simp only [go_sem, simprocAttr, hF, hgg, hgg2, hq]
  repeat (first
   | (with_reducible (first | refine sops_go ?_ | refine headW_end ?_ | refine sops_end ?_ | refine awp_if ?_ | refine awp_skip ?_ | refine awp_ret ?_ | refine awp_exit ?_); simp only [go_sem, simprocAttr, hF, hgg, hgg2, hq])
   | ((with_reducible refine headW_go ?_); simp only [go_sem, simprocAttr, hF, hgg, hgg2, hq, hbx])
   | with_reducible refine awp_seq_k fun _ _ => ?_
   | (refine awp_draw' (id := 7) [95, 102, 1000050, 1000052, 1000053, 1000081] 10 (by kernel_rfl) (by kernel_rfl) rfl rfl (fun bx0 hbx => ?_); try dsimp only [List.take, List.drop])
   | with_reducible (first | refine awp_region [95, 102, 1000050, 1000052, 1000053, 1000081] ?_ | refine awp_block ?_)
   | go_step)
  refine ⟨⟨k + 1, by omega⟩, by dsimp only; omega, hR _ _ (sub_mk ?_)⟩
  simp only [go_sem, simprocAttr, hF, hw, hcs, hgg, hgg2]
 | false =>
  rw [hq, if_neg (by decide)] at hcs
  try simp only [go_sem, simprocAttr, hF, hgg, hgg2, hq]
  repeat (first
   | (with_reducible (first | refine sops_go ?_ | refine headW_end ?_ | refine sops_end ?_ | refine awp_if ?_ | refine awp_skip ?_ | refine awp_ret ?_ | refine awp_exit ?_); simp only [go_sem, simprocAttr, hF, hgg, hgg2, hq])
   | ((with_reducible refine headW_go ?_); simp only [go_sem, simprocAttr, hF, hgg, hgg2, hq, hbx])
   | with_reducible refine awp_seq_k fun _ _ => ?_
   | (refine awp_draw' (id := 7) [95, 102, 1000050, 1000052, 1000053, 1000081] 10 (by kernel_rfl) (by kernel_rfl) rfl rfl (fun bx0 hbx => ?_); try dsimp only [List.take, List.drop])
   | with_reducible (first | refine awp_region [95, 102, 1000050, 1000052, 1000053, 1000081] ?_ | refine awp_block ?_)
   | go_step)
  refine awp_nilB 24 4 1 3 rfl rfl ?_
  simp only [go_sem, simprocAttr, hF, hgg, hgg2]
  repeat (first
   | (with_reducible (first | refine sops_go ?_ | refine headW_end ?_ | refine sops_end ?_ | refine awp_if ?_ | refine awp_skip ?_ | refine awp_ret ?_ | refine awp_exit ?_); simp only [go_sem, simprocAttr, hF, hgg, hgg2, hpl])
   | ((with_reducible refine headW_go ?_); simp only [go_sem, simprocAttr, hF, hgg, hgg2, hpl, hbx])
   | with_reducible refine awp_seq_k fun _ _ => ?_
   | (refine awp_draw' (id := 7) [95, 102, 1000050, 1000052, 1000053, 1000081] 10 (by kernel_rfl) (by kernel_rfl) rfl rfl (fun bx0 hbx => ?_); try dsimp only [List.take, List.drop])
   | with_reducible (first | refine awp_region [95, 102, 1000050, 1000052, 1000053, 1000081] ?_ | refine awp_block ?_)
   | go_step)
  refine awp_loop_by (ι := {j : Nat // j ≤ m + 1}) (fun j σ => ⟨(90, iv (j.1 : Int)) :: keepS [3, 7, 10, 11, 18, 19, 20, 21, 24, 69, 70, 88, 89] σ.slot, (24, [ip f.id, ip fr, ip a, ip b, .sl 1 (((part.take j.1).map Att.s).map fun x => [ip x])]) :: [(7, f.pv), (10, [ip a]), (11, [ip b]), (19, [.v (.func (.func 75) #[] #[.pointer (some ⟨g1, 0, none⟩), .pointer (some ⟨g2, 0, none⟩)])]), (g1 + 1000000, [ip (rel f fr)]), (g2 + 1000000, [ip (rel f fr + f.dl - 1)])], [(.s 21, (57, 5)), (.b 24 4, (3, 1))], σ.ext⟩) (fun j => (m + 1) - j.1) ⟨0, by omega⟩ (sub_mk ?_) (fun R2 hR2 j => ?_)
  · simp only [go_sem, simprocAttr, hF, hgg, hgg2, List.take_zero, List.map_nil]
    repeat' (first | rfl | refine ⟨?_, ?_⟩)
  obtain ⟨j, hj⟩ := j
  dsimp only
  simp only [go_sem, simprocAttr, hF, hgg, hgg2]
  by_cases hjt : j < m + 1
  case neg =>
   have hdj : decide ((j : Int) < (part.length : Int)) = false := decide_eq_false (by omega)
   have hall : List.take j part = part := List.take_of_length_le (by omega)
   have hcl : (causesK f fr a b (rel f fr) (rel f fr + f.dl - 1) (m + 1) L k).length ≤ 99999999 := by have := causesK_len f fr a b (rel f fr) (rel f fr + f.dl - 1) (m + 1) L k; omega
   repeat (first
    | (with_reducible (first | refine sops_go ?_ | refine headW_end ?_ | refine sops_end ?_ | refine awp_if ?_ | refine awp_skip ?_ | refine awp_ret ?_ | refine awp_exit ?_); simp only [go_sem, simprocAttr, hF, hgg, hgg2, hdj, hall, hcl])
    | ((with_reducible refine headW_go ?_); simp only [go_sem, simprocAttr, hF, hgg, hgg2, hdj, hall, hcl, hbx])
    | with_reducible refine awp_seq_k fun _ _ => ?_
    | (refine awp_draw' (id := 7) [95, 102, 1000050, 1000052, 1000053, 1000081] 10 (by kernel_rfl) (by kernel_rfl) rfl rfl (fun bx0 hbx => ?_); try dsimp only [List.take, List.drop])
    | with_reducible (first | refine awp_region [95, 102, 1000050, 1000052, 1000053, 1000081] ?_ | refine awp_block ?_)
    | go_step)
   refine ⟨⟨k + 1, by omega⟩, by dsimp only; omega, hR _ _ (sub_mk ?_)⟩
   simp only [go_sem, simprocAttr, hF, hw, hcs, List.map_append, Br.pv, hgg, hgg2]
  have hdj : decide ((j : Int) < (part.length : Int)) = true := decide_eq_true (by omega)
  have hwj : IntKind.i64.wrap ((j : Int) + 1) = ((j + 1 : Nat) : Int) := by rw [IntKind.wrap_i64]; omega
  obtain ⟨d, hdk⟩ := get_of_lt (l := part) (k := j) (by omega)
  have hT : List.take (j + 1) part = List.take j part ++ [d] := by rw [List.take_add_one, hdk]; rfl
  have hjl : (List.take j part).length ≤ 99999999 := by rw [List.length_take]; omega
  repeat (first
   | (with_reducible (first | refine sops_go ?_ | refine headW_end ?_ | refine sops_end ?_ | refine awp_if ?_ | refine awp_skip ?_ | refine awp_ret ?_ | refine awp_exit ?_); simp only [go_sem, simprocAttr, hF, hgg, hgg2, hdj, hdk, hjl])
   | ((with_reducible refine headW_go ?_); simp only [go_sem, simprocAttr, hF, hgg, hgg2, hdj, hdk, hjl, hbx])
   | with_reducible refine awp_seq_k fun _ _ => ?_
   | (refine awp_draw' (id := 7) [95, 102, 1000050, 1000052, 1000053, 1000081] 10 (by kernel_rfl) (by kernel_rfl) rfl rfl (fun bx0 hbx => ?_); try dsimp only [List.take, List.drop])
   | with_reducible (first | refine awp_region [95, 102, 1000050, 1000052, 1000053, 1000081] ?_ | refine awp_block ?_)
   | go_step)
  refine ⟨⟨j + 1, by omega⟩, by dsimp only; omega, hR2 _ _ (sub_mk ?_)⟩
  simp only [go_sem, simprocAttr, hF, hwj, hT, List.map_append, hgg, hgg2]
end Go.Proofs.YticnppnejafhdaaGreatDoor

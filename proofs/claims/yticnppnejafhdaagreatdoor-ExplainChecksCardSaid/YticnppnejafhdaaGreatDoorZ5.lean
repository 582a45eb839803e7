import Derived.Shelf.Abstract
import Derived.Test.YticnppnejafhdaaGreatDoorZ4
set_option linter.unusedVariables false
set_option linter.unusedSimpArgs false
/- The check of a flow, by abstract states. -/
namespace Go.Proofs.YticnppnejafhdaaGreatDoor
open Go.RowKit
open Nd Rc Mo
open Av
set_option maxRecDepth 100000
set_option linter.unusedSimpArgs false
attribute [local go_sem] Av.guardB Av.sop Av.hopx Av.hop Av.hopCall Av.hopF Av.hopB Av.evo Av.evos Av.avCells Av.loadK Av.bound Av.abin Av.aun Av.partsC Av.lfill Av.placesB Av.setAt Av.stl Av.takes Av.src Av.bxOf Av.ownOf Av.St.res Av.St.put Av.St.addBox Av.St.putOwn Av.delL Av.delS Av.look Av.lookL Av.storeSt Av.stealSt Av.St.setBox Av.keepL Av.hitB Av.snap Av.snaps Av.snapCaps Av.AV.lit Av.AV.refs Av.capRefs Av.PV.av Av.CV.av Av.startSt Av.steals Av.athen Av.ablock Av.appK Av.AllS Av.AllO Av.AllR Av.keepS Av.St.avAt Av.RetOK Av.retAll Av.retOne Av.intsOf Av.ptrB TypeDesc.isRow List.range_zero Option.some.injEq exists_eq_left' exists_eq_left exists_eq' exists_and_left exists_and_right exists_const true_and and_true and_self false_and and_false or_false false_or or_true true_or if_true if_false Bool.false_eq_true List.zipIdx_cons List.zipIdx_nil List.map_cons List.map_nil List.filter_cons List.filter_nil List.contains_cons List.contains_nil List.drop_succ_cons List.drop_zero List.take_succ_cons List.take_zero List.take_nil List.drop_nil List.length_cons List.length_nil List.cons_append List.nil_append List.append_nil List.getElem?_cons_zero List.getElem?_cons_succ List.getElem?_nil Option.bind_some Option.bind_none Option.map_some Option.map_none Option.isNone_none Option.isNone_some Option.isSome_some Option.isSome_none Bool.and_true Bool.true_and Bool.and_false Bool.false_and Bool.or_false Bool.false_or Bool.not_true Bool.not_false beq_true beq_false Bool.true_beq Bool.false_beq Loc.s.injEq Loc.b.injEq decide_true decide_false beq_self_eq_true Nat.zero_add Nat.add_zero List.getElem?_toArray List.toList_toArray List.size_toArray Value.oneCell' List.all_cons List.all_nil Value.int.injEq AV.v.injEq AV.sl.injEq AV.agg.injEq AV.ref.injEq AV.ept.injEq AV.tup.injEq Value.bool.injEq PV.v.injEq PV.sl.injEq List.isEmpty_nil List.isEmpty_cons forall_const not_true_eq_false not_false_eq_true true_implies false_implies Value.string.injEq List.length_map List.getElem?_map Int.toNat_natCast Int.natCast_nonneg List.length_append Value.cells implies_true TypeDesc.struct.injEq TypeDesc.slice.injEq TypeDesc.array.injEq List.getElem?_toArray Prod.mk.injEq and_assoc exists_false List.cons.injEq Operand.tmp.injEq ite_self AV.fnv.injEq AV.clo.injEq ne_eq eq_self Tryz.sz3 Tryz.zr3 Tryz.by3 Tryz.pl3 Tryz.is3 Tryz.underlying3 Tryz.sz4 Tryz.zr4 Tryz.by4 Tryz.pl4 Tryz.is4 Tryz.underlying4 Tryz.sz43 Tryz.zr43 Tryz.by43 Tryz.pl43 Tryz.is43 Tryz.underlying43 Tryz.sz35 Tryz.zr35 Tryz.by35 Tryz.pl35 Tryz.is35 Tryz.underlying35 Tryz.sz33 Tryz.zr33 Tryz.by33 Tryz.pl33 Tryz.is33 Tryz.underlying33 Tryz.sz28 Tryz.zr28 Tryz.by28 Tryz.pl28 Tryz.is28 Tryz.underlying28 Tryz.sz39 Tryz.zr39 Tryz.by39 Tryz.pl39 Tryz.is39 Tryz.underlying39 Tryz.sz57 Tryz.zr57 Tryz.by57 Tryz.pl57 Tryz.is57 Tryz.underlying57 Tryz.sz137 Tryz.zr137 Tryz.by137 Tryz.pl137 Tryz.is137 Tryz.underlying137 Tryz.sz66 Tryz.zr66 Tryz.by66 Tryz.pl66 Tryz.is66 Tryz.underlying66 Tryz.sz64 Tryz.zr64 Tryz.by64 Tryz.pl64 Tryz.is64 Tryz.underlying64 Tryz.sz60 Tryz.zr60 Tryz.by60 Tryz.pl60 Tryz.is60 Tryz.underlying60 Tryz.sz100 Tryz.zr100 Tryz.by100 Tryz.pl100 Tryz.is100 Tryz.underlying100 Tryz.sz103 Tryz.zr103 Tryz.by103 Tryz.pl103 Tryz.is103 Tryz.underlying103 Tryz.sz26 Tryz.zr26 Tryz.by26 Tryz.pl26 Tryz.is26 Tryz.underlying26 Tryz.sz120 Tryz.zr120 Tryz.by120 Tryz.pl120 Tryz.is120 Tryz.underlying120 Tryz.sz117 Tryz.zr117 Tryz.by117 Tryz.pl117 Tryz.is117 Tryz.underlying117 Tryz.sz30 Tryz.zr30 Tryz.by30 Tryz.pl30 Tryz.is30 Tryz.underlying30 Tryz.sz31 Tryz.zr31 Tryz.by31 Tryz.pl31 Tryz.is31 Tryz.underlying31 Tryz.sz40 Tryz.zr40 Tryz.by40 Tryz.pl40 Tryz.is40 Tryz.underlying40 Tryz.sz23 Tryz.zr23 Tryz.by23 Tryz.pl23 Tryz.is23 Tryz.underlying23 Tryz.sz24 Tryz.zr24 Tryz.by24 Tryz.pl24 Tryz.is24 Tryz.underlying24 Tryz.sz22 Tryz.zr22 Tryz.by22 Tryz.pl22 Tryz.is22 Tryz.underlying22 Tryz.sz42 Tryz.zr42 Tryz.by42 Tryz.pl42 Tryz.is42 Tryz.underlying42 Tryz.sz29 Tryz.zr29 Tryz.by29 Tryz.pl29 Tryz.is29 Tryz.underlying29 Tryz.sz83 Tryz.zr83 Tryz.by83 Tryz.pl83 Tryz.is83 Tryz.underlying83 Tryz.it39 Tryz.eg39 Tryz.it137 Tryz.eg137 Tryz.it66 Tryz.eg66 Tryz.it28 Tryz.eg28 Tryz.it60 Tryz.eg60 all_arr loc_ss loc_sb loc_bs loc_bb arr_two arr_one rg1 rg2 rg3 rg4 rg5 rg6 rg7 rg8 ResultVar.tmp.injEq Bool.not_true Bool.not_false undef Rc.Rec.pv Nd.Fl.pv Rc.Dlv.pv Rc.Att.pv Mo.Lt.pv Fn.func.injEq
def nodeB (nodes x : Int) : Bool := decide (0 ≤ x) && decide (x < nodes)
theorem nodeB_f {nodes x : Int} (h : x < 0 ∨ nodes ≤ x) : nodeB nodes x = false := by
 unfold nodeB
 rw [Bool.and_eq_false_iff, decide_eq_false_iff_not, decide_eq_false_iff_not]
 omega
theorem nodeB_t {nodes x : Int} (h : ¬ (x < 0 ∨ nodes ≤ x)) : nodeB nodes x = true := by
 unfold nodeB
 rw [Bool.and_eq_true, decide_eq_true_eq, decide_eq_true_eq]
 omega
def inR (n a b : Int) : Bool := decide (a ≤ n) && decide (n ≤ b)
theorem inR_f {n a b : Int} (h : n < a ∨ b < n) : inR n a b = false := by
 unfold inR
 rw [Bool.and_eq_false_iff, decide_eq_false_iff_not, decide_eq_false_iff_not]
 omega
theorem inR_t {n a b : Int} (h : ¬ (n < a ∨ b < n)) : inR n a b = true := by
 unfold inR
 rw [Bool.and_eq_true, decide_eq_true_eq, decide_eq_true_eq]
 omega

set_option maxHeartbeats 2000000 in
theorem fnode_ok (nodes x : Int) : FnOK Tryz.prog 155 [iv x, .ept [ip nodes]] ⟨bv (nodeB nodes x), none⟩ := by
 refine fn_ok Tryz.func155 (by kernel_rfl) rfl (by rw [Tryz.ntmps155]; exact of_decide_eq_true rfl) (fun F hF => ?_)
 rw [Tryz.ntmps155] at hF
 rw [Tryz.results155]
 unfold nodeB
 cases h1 : decide (0 ≤ x) <;> cases h2 : decide (x < nodes)
 · repeat (first
  | (with_reducible (first | refine sg0 ?_ | refine hw0 ?_ | refine se0 ?_ | refine ai0 ?_ | refine as0 ?_ | refine at0 ?_ | refine ax0 ?_); simp only [go_sem, simprocAttr, hF, h1, h2])
  | with_reducible (first | refine aq0 fun _ _ => ?_ | refine ar0 [] ?_ | refine ab0 ?_)
  | go_step)
   all_goals (try rfl)
 · repeat (first
  | (with_reducible (first | refine sg0 ?_ | refine hw0 ?_ | refine se0 ?_ | refine ai0 ?_ | refine as0 ?_ | refine at0 ?_ | refine ax0 ?_); simp only [go_sem, simprocAttr, hF, h1, h2])
  | with_reducible (first | refine aq0 fun _ _ => ?_ | refine ar0 [] ?_ | refine ab0 ?_)
  | go_step)
   all_goals (try rfl)
 · repeat (first
  | (with_reducible (first | refine sg0 ?_ | refine hw0 ?_ | refine se0 ?_ | refine ai0 ?_ | refine as0 ?_ | refine at0 ?_ | refine ax0 ?_); simp only [go_sem, simprocAttr, hF, h1, h2])
  | with_reducible (first | refine aq0 fun _ _ => ?_ | refine ar0 [] ?_ | refine ab0 ?_)
  | go_step)
   all_goals (try rfl)
 · repeat (first
  | (with_reducible (first | refine sg0 ?_ | refine hw0 ?_ | refine se0 ?_ | refine ai0 ?_ | refine as0 ?_ | refine at0 ?_ | refine ax0 ?_); simp only [go_sem, simprocAttr, hF, h1, h2])
  | with_reducible (first | refine aq0 fun _ _ => ?_ | refine ar0 [] ?_ | refine ab0 ?_)
  | go_step)
   all_goals (try rfl)

set_option maxHeartbeats 20000000 in
theorem fcheck_ok (nodes : Int) (f : Fl) : FnOK Tryz.prog 111 [iv nodes, .agg f.pv] ⟨iv (faultN nodes f), none⟩ := by
 refine fn_ok Tryz.func111 (by kernel_rfl) rfl (by rw [Tryz.ntmps111]; exact of_decide_eq_true rfl) (fun F hF => ?_)
 rw [Tryz.ntmps111] at hF
 rw [Tryz.results111]
 by_cases h0 : f.id < 0
 case pos =>
  have e0 : decide (f.id < 0) = true := decide_eq_true (by omega)
  repeat (first
   | (with_reducible (first | refine sg0 ?_ | refine hw0 ?_ | refine se0 ?_ | refine ai0 ?_ | refine as0 ?_ | refine at0 ?_ | refine ax0 ?_); simp only [go_sem, simprocAttr, hF, e0])
   | with_reducible (first | refine aq0 fun _ _ => ?_ | refine ar0 [] ?_ | refine ab0 ?_)
   | go_step)
  rw [faultN, if_pos (by omega)]
 have e0 : decide (f.id < 0) = false := decide_eq_false (by omega)
 by_cases h1 : 255 < f.id
 case pos =>
  have e1 : decide (255 < f.id) = true := decide_eq_true (by omega)
  repeat (first
   | (with_reducible (first | refine sg0 ?_ | refine hw0 ?_ | refine se0 ?_ | refine ai0 ?_ | refine as0 ?_ | refine at0 ?_ | refine ax0 ?_); simp only [go_sem, simprocAttr, hF, e0, e1])
   | with_reducible (first | refine aq0 fun _ _ => ?_ | refine ar0 [] ?_ | refine ab0 ?_)
   | go_step)
  rw [faultN, if_pos (by omega)]
 have e1 : decide (255 < f.id) = false := decide_eq_false (by omega)
 by_cases h2 : f.fr < 0 ∨ nodes ≤ f.fr
 case pos =>
  have e2 : nodeB nodes f.fr = false := nodeB_f h2
  repeat (first
   | (with_reducible (first | refine sg0 ?_ | refine hw0 ?_ | refine se0 ?_ | refine ai0 ?_ | refine as0 ?_ | refine at0 ?_ | refine ax0 ?_); simp only [go_sem, simprocAttr, hF, e0, e1, e2])
   | with_reducible (first | refine aq0 fun _ _ => ?_ | refine ar0 [] ?_ | refine ab0 ?_)
   | go_step)
  refine ⟨_, fnode_ok nodes f.fr, ?_⟩
  simp only [go_sem, simprocAttr, hF, e0, e1, e2]
  repeat (first
   | (with_reducible (first | refine sg0 ?_ | refine hw0 ?_ | refine se0 ?_ | refine ai0 ?_ | refine as0 ?_ | refine at0 ?_ | refine ax0 ?_); simp only [go_sem, simprocAttr, hF, e0, e1, e2])
   | with_reducible (first | refine aq0 fun _ _ => ?_ | refine ar0 [] ?_ | refine ab0 ?_)
   | go_step)
  rw [faultN, if_pos (by omega)]
 have e2 : nodeB nodes f.fr = true := nodeB_t h2
 by_cases h3 : f.tn < 0 ∨ nodes ≤ f.tn
 case pos =>
  have e3 : nodeB nodes f.tn = false := nodeB_f h3
  repeat (first
   | (with_reducible (first | refine sg0 ?_ | refine hw0 ?_ | refine se0 ?_ | refine ai0 ?_ | refine as0 ?_ | refine at0 ?_ | refine ax0 ?_); simp only [go_sem, simprocAttr, hF, e0, e1, e2, e3])
   | with_reducible (first | refine aq0 fun _ _ => ?_ | refine ar0 [] ?_ | refine ab0 ?_)
   | go_step)
  refine ⟨_, fnode_ok nodes f.fr, ?_⟩
  simp only [go_sem, simprocAttr, hF, e0, e1, e2, e3]
  repeat (first
   | (with_reducible (first | refine sg0 ?_ | refine hw0 ?_ | refine se0 ?_ | refine ai0 ?_ | refine as0 ?_ | refine at0 ?_ | refine ax0 ?_); simp only [go_sem, simprocAttr, hF, e0, e1, e2, e3])
   | with_reducible (first | refine aq0 fun _ _ => ?_ | refine ar0 [] ?_ | refine ab0 ?_)
   | go_step)
  refine ⟨_, fnode_ok nodes f.tn, ?_⟩
  simp only [go_sem, simprocAttr, hF, e0, e1, e2, e3]
  repeat (first
   | (with_reducible (first | refine sg0 ?_ | refine hw0 ?_ | refine se0 ?_ | refine ai0 ?_ | refine as0 ?_ | refine at0 ?_ | refine ax0 ?_); simp only [go_sem, simprocAttr, hF, e0, e1, e2, e3])
   | with_reducible (first | refine aq0 fun _ _ => ?_ | refine ar0 [] ?_ | refine ab0 ?_)
   | go_step)
  rw [faultN, if_pos (by omega)]
 have e3 : nodeB nodes f.tn = true := nodeB_t h3
 by_cases h4 : f.pe < 1
 case pos =>
  have e4 : decide (f.pe < 1) = true := decide_eq_true (by omega)
  repeat (first
   | (with_reducible (first | refine sg0 ?_ | refine hw0 ?_ | refine se0 ?_ | refine ai0 ?_ | refine as0 ?_ | refine at0 ?_ | refine ax0 ?_); simp only [go_sem, simprocAttr, hF, e0, e1, e2, e3, e4])
   | with_reducible (first | refine aq0 fun _ _ => ?_ | refine ar0 [] ?_ | refine ab0 ?_)
   | go_step)
  refine ⟨_, fnode_ok nodes f.fr, ?_⟩
  simp only [go_sem, simprocAttr, hF, e0, e1, e2, e3, e4]
  repeat (first
   | (with_reducible (first | refine sg0 ?_ | refine hw0 ?_ | refine se0 ?_ | refine ai0 ?_ | refine as0 ?_ | refine at0 ?_ | refine ax0 ?_); simp only [go_sem, simprocAttr, hF, e0, e1, e2, e3, e4])
   | with_reducible (first | refine aq0 fun _ _ => ?_ | refine ar0 [] ?_ | refine ab0 ?_)
   | go_step)
  refine ⟨_, fnode_ok nodes f.tn, ?_⟩
  simp only [go_sem, simprocAttr, hF, e0, e1, e2, e3, e4]
  repeat (first
   | (with_reducible (first | refine sg0 ?_ | refine hw0 ?_ | refine se0 ?_ | refine ai0 ?_ | refine as0 ?_ | refine at0 ?_ | refine ax0 ?_); simp only [go_sem, simprocAttr, hF, e0, e1, e2, e3, e4])
   | with_reducible (first | refine aq0 fun _ _ => ?_ | refine ar0 [] ?_ | refine ab0 ?_)
   | go_step)
  rw [faultN, if_pos (by omega)]
 have e4 : decide (f.pe < 1) = false := decide_eq_false (by omega)
 by_cases h5 : 512 < f.pe
 case pos =>
  have e5 : decide (512 < f.pe) = true := decide_eq_true (by omega)
  repeat (first
   | (with_reducible (first | refine sg0 ?_ | refine hw0 ?_ | refine se0 ?_ | refine ai0 ?_ | refine as0 ?_ | refine at0 ?_ | refine ax0 ?_); simp only [go_sem, simprocAttr, hF, e0, e1, e2, e3, e4, e5])
   | with_reducible (first | refine aq0 fun _ _ => ?_ | refine ar0 [] ?_ | refine ab0 ?_)
   | go_step)
  refine ⟨_, fnode_ok nodes f.fr, ?_⟩
  simp only [go_sem, simprocAttr, hF, e0, e1, e2, e3, e4, e5]
  repeat (first
   | (with_reducible (first | refine sg0 ?_ | refine hw0 ?_ | refine se0 ?_ | refine ai0 ?_ | refine as0 ?_ | refine at0 ?_ | refine ax0 ?_); simp only [go_sem, simprocAttr, hF, e0, e1, e2, e3, e4, e5])
   | with_reducible (first | refine aq0 fun _ _ => ?_ | refine ar0 [] ?_ | refine ab0 ?_)
   | go_step)
  refine ⟨_, fnode_ok nodes f.tn, ?_⟩
  simp only [go_sem, simprocAttr, hF, e0, e1, e2, e3, e4, e5]
  repeat (first
   | (with_reducible (first | refine sg0 ?_ | refine hw0 ?_ | refine se0 ?_ | refine ai0 ?_ | refine as0 ?_ | refine at0 ?_ | refine ax0 ?_); simp only [go_sem, simprocAttr, hF, e0, e1, e2, e3, e4, e5])
   | with_reducible (first | refine aq0 fun _ _ => ?_ | refine ar0 [] ?_ | refine ab0 ?_)
   | go_step)
  rw [faultN, if_pos (by omega)]
 have e5 : decide (512 < f.pe) = false := decide_eq_false (by omega)
 by_cases h6 : f.ph < 0
 case pos =>
  have e6 : decide (f.ph < 0) = true := decide_eq_true (by omega)
  repeat (first
   | (with_reducible (first | refine sg0 ?_ | refine hw0 ?_ | refine se0 ?_ | refine ai0 ?_ | refine as0 ?_ | refine at0 ?_ | refine ax0 ?_); simp only [go_sem, simprocAttr, hF, e0, e1, e2, e3, e4, e5, e6])
   | with_reducible (first | refine aq0 fun _ _ => ?_ | refine ar0 [] ?_ | refine ab0 ?_)
   | go_step)
  refine ⟨_, fnode_ok nodes f.fr, ?_⟩
  simp only [go_sem, simprocAttr, hF, e0, e1, e2, e3, e4, e5, e6]
  repeat (first
   | (with_reducible (first | refine sg0 ?_ | refine hw0 ?_ | refine se0 ?_ | refine ai0 ?_ | refine as0 ?_ | refine at0 ?_ | refine ax0 ?_); simp only [go_sem, simprocAttr, hF, e0, e1, e2, e3, e4, e5, e6])
   | with_reducible (first | refine aq0 fun _ _ => ?_ | refine ar0 [] ?_ | refine ab0 ?_)
   | go_step)
  refine ⟨_, fnode_ok nodes f.tn, ?_⟩
  simp only [go_sem, simprocAttr, hF, e0, e1, e2, e3, e4, e5, e6]
  repeat (first
   | (with_reducible (first | refine sg0 ?_ | refine hw0 ?_ | refine se0 ?_ | refine ai0 ?_ | refine as0 ?_ | refine at0 ?_ | refine ax0 ?_); simp only [go_sem, simprocAttr, hF, e0, e1, e2, e3, e4, e5, e6])
   | with_reducible (first | refine aq0 fun _ _ => ?_ | refine ar0 [] ?_ | refine ab0 ?_)
   | go_step)
  rw [faultN, if_pos (by omega)]
 have e6 : decide (f.ph < 0) = false := decide_eq_false (by omega)
 by_cases h7 : f.pe ≤ f.ph
 case pos =>
  have e7 : decide (f.pe ≤ f.ph) = true := decide_eq_true (by omega)
  repeat (first
   | (with_reducible (first | refine sg0 ?_ | refine hw0 ?_ | refine se0 ?_ | refine ai0 ?_ | refine as0 ?_ | refine at0 ?_ | refine ax0 ?_); simp only [go_sem, simprocAttr, hF, e0, e1, e2, e3, e4, e5, e6, e7])
   | with_reducible (first | refine aq0 fun _ _ => ?_ | refine ar0 [] ?_ | refine ab0 ?_)
   | go_step)
  refine ⟨_, fnode_ok nodes f.fr, ?_⟩
  simp only [go_sem, simprocAttr, hF, e0, e1, e2, e3, e4, e5, e6, e7]
  repeat (first
   | (with_reducible (first | refine sg0 ?_ | refine hw0 ?_ | refine se0 ?_ | refine ai0 ?_ | refine as0 ?_ | refine at0 ?_ | refine ax0 ?_); simp only [go_sem, simprocAttr, hF, e0, e1, e2, e3, e4, e5, e6, e7])
   | with_reducible (first | refine aq0 fun _ _ => ?_ | refine ar0 [] ?_ | refine ab0 ?_)
   | go_step)
  refine ⟨_, fnode_ok nodes f.tn, ?_⟩
  simp only [go_sem, simprocAttr, hF, e0, e1, e2, e3, e4, e5, e6, e7]
  repeat (first
   | (with_reducible (first | refine sg0 ?_ | refine hw0 ?_ | refine se0 ?_ | refine ai0 ?_ | refine as0 ?_ | refine at0 ?_ | refine ax0 ?_); simp only [go_sem, simprocAttr, hF, e0, e1, e2, e3, e4, e5, e6, e7])
   | with_reducible (first | refine aq0 fun _ _ => ?_ | refine ar0 [] ?_ | refine ab0 ?_)
   | go_step)
  rw [faultN, if_pos (by omega)]
 have e7 : decide (f.pe ≤ f.ph) = false := decide_eq_false (by omega)
 by_cases h8 : f.dl < 1
 case pos =>
  have e8 : decide (f.dl < 1) = true := decide_eq_true (by omega)
  repeat (first
   | (with_reducible (first | refine sg0 ?_ | refine hw0 ?_ | refine se0 ?_ | refine ai0 ?_ | refine as0 ?_ | refine at0 ?_ | refine ax0 ?_); simp only [go_sem, simprocAttr, hF, e0, e1, e2, e3, e4, e5, e6, e7, e8])
   | with_reducible (first | refine aq0 fun _ _ => ?_ | refine ar0 [] ?_ | refine ab0 ?_)
   | go_step)
  refine ⟨_, fnode_ok nodes f.fr, ?_⟩
  simp only [go_sem, simprocAttr, hF, e0, e1, e2, e3, e4, e5, e6, e7, e8]
  repeat (first
   | (with_reducible (first | refine sg0 ?_ | refine hw0 ?_ | refine se0 ?_ | refine ai0 ?_ | refine as0 ?_ | refine at0 ?_ | refine ax0 ?_); simp only [go_sem, simprocAttr, hF, e0, e1, e2, e3, e4, e5, e6, e7, e8])
   | with_reducible (first | refine aq0 fun _ _ => ?_ | refine ar0 [] ?_ | refine ab0 ?_)
   | go_step)
  refine ⟨_, fnode_ok nodes f.tn, ?_⟩
  simp only [go_sem, simprocAttr, hF, e0, e1, e2, e3, e4, e5, e6, e7, e8]
  repeat (first
   | (with_reducible (first | refine sg0 ?_ | refine hw0 ?_ | refine se0 ?_ | refine ai0 ?_ | refine as0 ?_ | refine at0 ?_ | refine ax0 ?_); simp only [go_sem, simprocAttr, hF, e0, e1, e2, e3, e4, e5, e6, e7, e8])
   | with_reducible (first | refine aq0 fun _ _ => ?_ | refine ar0 [] ?_ | refine ab0 ?_)
   | go_step)
  rw [faultN, if_pos (by omega)]
 have e8 : decide (f.dl < 1) = false := decide_eq_false (by omega)
 by_cases h9 : f.pe < f.dl
 case pos =>
  have e9 : decide (f.pe < f.dl) = true := decide_eq_true (by omega)
  repeat (first
   | (with_reducible (first | refine sg0 ?_ | refine hw0 ?_ | refine se0 ?_ | refine ai0 ?_ | refine as0 ?_ | refine at0 ?_ | refine ax0 ?_); simp only [go_sem, simprocAttr, hF, e0, e1, e2, e3, e4, e5, e6, e7, e8, e9])
   | with_reducible (first | refine aq0 fun _ _ => ?_ | refine ar0 [] ?_ | refine ab0 ?_)
   | go_step)
  refine ⟨_, fnode_ok nodes f.fr, ?_⟩
  simp only [go_sem, simprocAttr, hF, e0, e1, e2, e3, e4, e5, e6, e7, e8, e9]
  repeat (first
   | (with_reducible (first | refine sg0 ?_ | refine hw0 ?_ | refine se0 ?_ | refine ai0 ?_ | refine as0 ?_ | refine at0 ?_ | refine ax0 ?_); simp only [go_sem, simprocAttr, hF, e0, e1, e2, e3, e4, e5, e6, e7, e8, e9])
   | with_reducible (first | refine aq0 fun _ _ => ?_ | refine ar0 [] ?_ | refine ab0 ?_)
   | go_step)
  refine ⟨_, fnode_ok nodes f.tn, ?_⟩
  simp only [go_sem, simprocAttr, hF, e0, e1, e2, e3, e4, e5, e6, e7, e8, e9]
  repeat (first
   | (with_reducible (first | refine sg0 ?_ | refine hw0 ?_ | refine se0 ?_ | refine ai0 ?_ | refine as0 ?_ | refine at0 ?_ | refine ax0 ?_); simp only [go_sem, simprocAttr, hF, e0, e1, e2, e3, e4, e5, e6, e7, e8, e9])
   | with_reducible (first | refine aq0 fun _ _ => ?_ | refine ar0 [] ?_ | refine ab0 ?_)
   | go_step)
  rw [faultN, if_pos (by omega)]
 have e9 : decide (f.pe < f.dl) = false := decide_eq_false (by omega)
 by_cases h10 : f.fr = f.tn
 case pos =>
  have e10 : (f.fr == f.tn) = true := by simpa using h10
  repeat (first
   | (with_reducible (first | refine sg0 ?_ | refine hw0 ?_ | refine se0 ?_ | refine ai0 ?_ | refine as0 ?_ | refine at0 ?_ | refine ax0 ?_); simp only [go_sem, simprocAttr, hF, e0, e1, e2, e3, e4, e5, e6, e7, e8, e9, e10])
   | with_reducible (first | refine aq0 fun _ _ => ?_ | refine ar0 [] ?_ | refine ab0 ?_)
   | go_step)
  refine ⟨_, fnode_ok nodes f.fr, ?_⟩
  simp only [go_sem, simprocAttr, hF, e0, e1, e2, e3, e4, e5, e6, e7, e8, e9, e10]
  repeat (first
   | (with_reducible (first | refine sg0 ?_ | refine hw0 ?_ | refine se0 ?_ | refine ai0 ?_ | refine as0 ?_ | refine at0 ?_ | refine ax0 ?_); simp only [go_sem, simprocAttr, hF, e0, e1, e2, e3, e4, e5, e6, e7, e8, e9, e10])
   | with_reducible (first | refine aq0 fun _ _ => ?_ | refine ar0 [] ?_ | refine ab0 ?_)
   | go_step)
  refine ⟨_, fnode_ok nodes f.tn, ?_⟩
  simp only [go_sem, simprocAttr, hF, e0, e1, e2, e3, e4, e5, e6, e7, e8, e9, e10]
  repeat (first
   | (with_reducible (first | refine sg0 ?_ | refine hw0 ?_ | refine se0 ?_ | refine ai0 ?_ | refine as0 ?_ | refine at0 ?_ | refine ax0 ?_); simp only [go_sem, simprocAttr, hF, e0, e1, e2, e3, e4, e5, e6, e7, e8, e9, e10])
   | with_reducible (first | refine aq0 fun _ _ => ?_ | refine ar0 [] ?_ | refine ab0 ?_)
   | go_step)
  rw [faultN, if_neg (by omega), if_pos h10]
 have e10 : (f.fr == f.tn) = false := by simpa using h10
 repeat (first
  | (with_reducible (first | refine sg0 ?_ | refine hw0 ?_ | refine se0 ?_ | refine ai0 ?_ | refine as0 ?_ | refine at0 ?_ | refine ax0 ?_); simp only [go_sem, simprocAttr, hF, e0, e1, e2, e3, e4, e5, e6, e7, e8, e9, e10])
  | with_reducible (first | refine aq0 fun _ _ => ?_ | refine ar0 [] ?_ | refine ab0 ?_)
  | go_step)
 refine ⟨_, fnode_ok nodes f.fr, ?_⟩
 simp only [go_sem, simprocAttr, hF, e0, e1, e2, e3, e4, e5, e6, e7, e8, e9, e10]
 repeat (first
  | (with_reducible (first | refine sg0 ?_ | refine hw0 ?_ | refine se0 ?_ | refine ai0 ?_ | refine as0 ?_ | refine at0 ?_ | refine ax0 ?_); simp only [go_sem, simprocAttr, hF, e0, e1, e2, e3, e4, e5, e6, e7, e8, e9, e10])
  | with_reducible (first | refine aq0 fun _ _ => ?_ | refine ar0 [] ?_ | refine ab0 ?_)
  | go_step)
 refine ⟨_, fnode_ok nodes f.tn, ?_⟩
 simp only [go_sem, simprocAttr, hF, e0, e1, e2, e3, e4, e5, e6, e7, e8, e9, e10]
 repeat (first
  | (with_reducible (first | refine sg0 ?_ | refine hw0 ?_ | refine se0 ?_ | refine ai0 ?_ | refine as0 ?_ | refine at0 ?_ | refine ax0 ?_); simp only [go_sem, simprocAttr, hF, e0, e1, e2, e3, e4, e5, e6, e7, e8, e9, e10])
  | with_reducible (first | refine aq0 fun _ _ => ?_ | refine ar0 [] ?_ | refine ab0 ?_)
  | go_step)
 rw [faultN, if_neg (by omega), if_neg h10]

theorem c11 : ((1 : Nat) : Int) = 1 := rfl
theorem c00 : ((0 : Nat) : Int) = 0 := rfl
theorem c01 : decide ((0 : Int) < 0) = false := rfl

set_option maxHeartbeats 20000000 in
theorem fCheck_ok (nodes : Int) (f : Fl) : FnOK Tryz.prog 81 [iv nodes, .sl 6 [f.pv]] ⟨.tup [.c (ip (chkF1 nodes f).1), .c (ip (chkF1 nodes f).2)], none⟩ := by
 refine fn_ok Tryz.func81 (by kernel_rfl) rfl (by rw [Tryz.ntmps81]; exact of_decide_eq_true rfl) (fun F hF => ?_)
 rw [Tryz.ntmps81] at hF
 rw [Tryz.results81]
 by_cases h0 : nodes < 2
 case pos =>
  have e0 : decide (nodes < 2) = true := decide_eq_true (by omega)
  repeat (first
   | (with_reducible (first | refine sg0 ?_ | refine hw0 ?_ | refine se0 ?_ | refine ai0 ?_ | refine as0 ?_ | refine at0 ?_ | refine ax0 ?_); simp only [go_sem, simprocAttr, hF, e0])
   | ((with_reducible refine hg0 ?_); simp only [go_sem, simprocAttr, hF, e0, hbx])
   | with_reducible refine aq0 fun _ _ => ?_
   | (refine awp_draw' (id := 11) [] 13 (by kernel_rfl) (by kernel_rfl) rfl rfl (fun bx0 hbx => ?_); try dsimp only [List.take, List.drop])
   | with_reducible (first | refine ar0 [] ?_ | refine ab0 ?_)
   | go_step)
  rw [chkF1, if_pos (by omega)]
 have e0 : decide (nodes < 2) = false := decide_eq_false (by omega)
 by_cases h1 : 32 < nodes
 case pos =>
  have e1 : decide (32 < nodes) = true := decide_eq_true (by omega)
  repeat (first
   | (with_reducible (first | refine sg0 ?_ | refine hw0 ?_ | refine se0 ?_ | refine ai0 ?_ | refine as0 ?_ | refine at0 ?_ | refine ax0 ?_); simp only [go_sem, simprocAttr, hF, e0, e1])
   | ((with_reducible refine hg0 ?_); simp only [go_sem, simprocAttr, hF, e0, e1, hbx])
   | with_reducible refine aq0 fun _ _ => ?_
   | (refine awp_draw' (id := 11) [] 13 (by kernel_rfl) (by kernel_rfl) rfl rfl (fun bx0 hbx => ?_); try dsimp only [List.take, List.drop])
   | with_reducible (first | refine ar0 [] ?_ | refine ab0 ?_)
   | go_step)
  rw [chkF1, if_pos (by omega)]
 have e1 : decide (32 < nodes) = false := decide_eq_false (by omega)
 repeat (first
  | (with_reducible (first | refine sg0 ?_ | refine hw0 ?_ | refine se0 ?_ | refine ai0 ?_ | refine as0 ?_ | refine at0 ?_ | refine ax0 ?_); simp only [go_sem, simprocAttr, hF, e0, e1])
  | ((with_reducible refine hg0 ?_); simp only [go_sem, simprocAttr, hF, e0, e1, hbx])
  | with_reducible refine aq0 fun _ _ => ?_
  | (refine awp_draw' (id := 11) [] 13 (by kernel_rfl) (by kernel_rfl) rfl rfl (fun bx0 hbx => ?_); try dsimp only [List.take, List.drop])
  | with_reducible (first | refine ar0 [] ?_ | refine ab0 ?_)
  | go_step)
 refine awp_loop_by (ι := {k : Nat // k ≤ 1 ∧ (k = 1 → faultN nodes f = 0)}) (fun k σ => ⟨(20, iv (k.1 : Int)) :: keepS [0, 1, 4, 5, 18, 19] σ.slot, [], [], σ.ext⟩) (fun k => 1 - k.1) ⟨0, by omega, by omega⟩ (sub_mk ?_) (fun R hR k => ?_)
 · simp only [go_sem, simprocAttr, hF]
   repeat' (first | rfl | refine ⟨?_, ?_⟩)
 obtain ⟨k, hk, hT⟩ := k
 dsimp only
 simp only [go_sem, simprocAttr, hF]
 by_cases hlt : k < 1
 case neg =>
  obtain rfl : k = 1 := by omega
  have hd : decide (((1 : Nat) : Int) < 1) = false := rfl
  repeat (first
   | (with_reducible (first | refine sg0 ?_ | refine hw0 ?_ | refine se0 ?_ | refine ai0 ?_ | refine as0 ?_ | refine at0 ?_ | refine ax0 ?_); simp only [go_sem, simprocAttr, hF, hd, c11])
   | ((with_reducible refine hg0 ?_); simp only [go_sem, simprocAttr, hF, hd, c11, hbx])
   | with_reducible refine aq0 fun _ _ => ?_
   | (refine awp_draw' (id := 11) [] 13 (by kernel_rfl) (by kernel_rfl) rfl rfl (fun bx0 hbx => ?_); try dsimp only [List.take, List.drop])
   | with_reducible (first | refine ar0 [] ?_ | refine ab0 ?_)
   | go_step)
  rw [chkF1, if_neg (by omega), if_pos (hT rfl)]
 obtain rfl : k = 0 := by omega
 have hd : decide (((0 : Nat) : Int) < 1) = true := rfl
 have hw : IntKind.i64.wrap (((0 : Nat) : Int) + 1) = ((1 : Nat) : Int) := rfl
 repeat (first
  | (with_reducible (first | refine sg0 ?_ | refine hw0 ?_ | refine se0 ?_ | refine ai0 ?_ | refine as0 ?_ | refine at0 ?_ | refine ax0 ?_); simp only [go_sem, simprocAttr, hF, hd, c11, c00, c01])
  | ((with_reducible refine hg0 ?_); simp only [go_sem, simprocAttr, hF, hd, c11, c00, c01, hbx])
  | with_reducible refine aq0 fun _ _ => ?_
  | (refine awp_draw' (id := 11) [] 13 (by kernel_rfl) (by kernel_rfl) rfl rfl (fun bx0 hbx => ?_); try dsimp only [List.take, List.drop])
  | with_reducible (first | refine ar0 [] ?_ | refine ab0 ?_)
  | go_step)
 refine ⟨_, fcheck_ok nodes f, ?_⟩
 simp only [go_sem, simprocAttr, hF]
 by_cases h3 : faultN nodes f = 0
 case neg =>
  have e3 : (faultN nodes f != 0) = true := by simpa using h3
  try simp only [go_sem, simprocAttr, hF, e3]
  repeat (first
   | (with_reducible (first | refine sg0 ?_ | refine hw0 ?_ | refine se0 ?_ | refine ai0 ?_ | refine as0 ?_ | refine at0 ?_ | refine ax0 ?_); simp only [go_sem, simprocAttr, hF, e3])
   | ((with_reducible refine hg0 ?_); simp only [go_sem, simprocAttr, hF, e3, hbx])
   | with_reducible refine aq0 fun _ _ => ?_
   | (refine awp_draw' (id := 11) [] 13 (by kernel_rfl) (by kernel_rfl) rfl rfl (fun bx0 hbx => ?_); try dsimp only [List.take, List.drop])
   | with_reducible (first | refine ar0 [] ?_ | refine ab0 ?_)
   | go_step)
  rw [chkF1, if_neg (by omega), if_neg h3]
 have e3 : (faultN nodes f != 0) = false := by simpa using h3
 try simp only [go_sem, simprocAttr, hF, e3, c01, c00]
 repeat (first
  | (with_reducible (first | refine sg0 ?_ | refine hw0 ?_ | refine se0 ?_ | refine ai0 ?_ | refine as0 ?_ | refine at0 ?_ | refine ax0 ?_); simp only [go_sem, simprocAttr, hF, e3, c01, c00])
  | ((with_reducible refine hg0 ?_); simp only [go_sem, simprocAttr, hF, e3, c01, c00, hbx])
  | with_reducible refine aq0 fun _ _ => ?_
  | (refine awp_draw' (id := 11) [] 13 (by kernel_rfl) (by kernel_rfl) rfl rfl (fun bx0 hbx => ?_); try dsimp only [List.take, List.drop])
  | with_reducible (first | refine ar0 [] ?_ | refine ab0 ?_)
  | go_step)
 refine ⟨⟨1, by omega, fun _ => h3⟩, by dsimp only; omega, hR _ _ (sub_mk ?_)⟩
 simp only [go_sem, simprocAttr, hF, hw]
 all_goals rfl
/- explain.base and check, by abstract states. -/
attribute [local go_sem] Tryz.sz141 Tryz.zr141 Tryz.by141 Tryz.pl141 Tryz.is141 Tryz.underlying141 Tryz.sz67 Tryz.zr67 Tryz.by67 Tryz.pl67 Tryz.is67 Tryz.underlying67 Mo.Net.pv Mo.Lk.pv prow_pv irow_pv Br.pv
set_option maxHeartbeats 20000000 in
theorem base_ok (n : Net) (f : Fl) (r : Rec) (hS : SmallN n) (hla : r.al.length ≤ 1000000) (hld : r.dl.length ≤ 1000000) : FnOK Tryz.prog 40 [.agg n.pv, .agg f.pv, .agg r.pv] ⟨bv (basicB n f r), none⟩ := by
 refine fn_ok Tryz.func40 (by kernel_rfl) rfl (by rw [Tryz.ntmps40]; exact of_decide_eq_true rfl) (fun F hF => ?_)
 rw [Tryz.ntmps40] at hF
 rw [Tryz.results40]
 by_cases h1 : chkN n = 0
 case neg =>
  have e1 : (chkN n != 0) = true := by simpa using h1
  have hB : basicB n f r = false := by unfold basicB; rw [decide_eq_false h1]; rfl
  rw [hB]
  repeat (first
   | (with_reducible (first | refine sg0 ?_ | refine hw0 ?_ | refine se0 ?_ | refine ai0 ?_ | refine as0 ?_ | refine at0 ?_ | refine ax0 ?_); simp only [go_sem, simprocAttr, hF, e1])
   | with_reducible (first | refine aq0 fun _ _ => ?_ | refine ar0 [] ?_ | refine ab0 ?_)
   | go_step)
  refine ⟨_, ncheck_ok n hS.pow hS.rows hS.lk hS.mg, ?_⟩
  simp only [go_sem, simprocAttr, hF, e1]
  repeat (first
   | (with_reducible (first | refine sg0 ?_ | refine hw0 ?_ | refine se0 ?_ | refine ai0 ?_ | refine as0 ?_ | refine at0 ?_ | refine ax0 ?_); simp only [go_sem, simprocAttr, hF, e1])
   | with_reducible (first | refine aq0 fun _ _ => ?_ | refine ar0 [] ?_ | refine ab0 ?_)
   | go_step)
  all_goals (try rfl)
 have e1 : (chkN n != 0) = false := by simpa using h1
 cases hg : good r with
 | false =>
  have hr : checkE r = 1 := by rw [checkE, hg]; rfl
  have e2 : ((checkE r) != 0) = true := by rw [hr]; rfl
  have hB : basicB n f r = false := by unfold basicB; rw [hg, decide_eq_true h1]; rfl
  rw [hB]
  repeat (first
   | (with_reducible (first | refine sg0 ?_ | refine hw0 ?_ | refine se0 ?_ | refine ai0 ?_ | refine as0 ?_ | refine at0 ?_ | refine ax0 ?_); simp only [go_sem, simprocAttr, hF, e1, e2])
   | with_reducible (first | refine aq0 fun _ _ => ?_ | refine ar0 [] ?_ | refine ab0 ?_)
   | go_step)
  refine ⟨_, ncheck_ok n hS.pow hS.rows hS.lk hS.mg, ?_⟩
  simp only [go_sem, simprocAttr, hF, e1]
  repeat (first
   | (with_reducible (first | refine sg0 ?_ | refine hw0 ?_ | refine se0 ?_ | refine ai0 ?_ | refine as0 ?_ | refine at0 ?_ | refine ax0 ?_); simp only [go_sem, simprocAttr, hF, e1, e2])
   | with_reducible (first | refine aq0 fun _ _ => ?_ | refine ar0 [] ?_ | refine ab0 ?_)
   | go_step)
  refine ⟨_, check_ok r hla hld, ?_⟩
  simp only [go_sem, simprocAttr, hF, e2]
  repeat (first
   | (with_reducible (first | refine sg0 ?_ | refine hw0 ?_ | refine se0 ?_ | refine ai0 ?_ | refine as0 ?_ | refine at0 ?_ | refine ax0 ?_); simp only [go_sem, simprocAttr, hF, e1, e2])
   | with_reducible (first | refine aq0 fun _ _ => ?_ | refine ar0 [] ?_ | refine ab0 ?_)
   | go_step)
  all_goals (try rfl)
 | true =>
  have hr : checkE r = 0 := by rw [checkE, hg]; rfl
  have e2 : ((checkE r) != 0) = false := by rw [hr]; rfl
  have hB : basicB n f r = ((chkF1 n.nodes f).2 == 0) := by unfold basicB; rw [hg, decide_eq_true h1, Bool.true_and, Bool.true_and]; exact (Bool.beq_eq_decide_eq _ _).symm
  rw [hB]
  repeat (first
   | (with_reducible (first | refine sg0 ?_ | refine hw0 ?_ | refine se0 ?_ | refine ai0 ?_ | refine as0 ?_ | refine at0 ?_ | refine ax0 ?_); simp only [go_sem, simprocAttr, hF, e1, e2])
   | with_reducible (first | refine aq0 fun _ _ => ?_ | refine ar0 [] ?_ | refine ab0 ?_)
   | go_step)
  refine ⟨_, ncheck_ok n hS.pow hS.rows hS.lk hS.mg, ?_⟩
  simp only [go_sem, simprocAttr, hF, e1]
  repeat (first
   | (with_reducible (first | refine sg0 ?_ | refine hw0 ?_ | refine se0 ?_ | refine ai0 ?_ | refine as0 ?_ | refine at0 ?_ | refine ax0 ?_); simp only [go_sem, simprocAttr, hF, e1, e2])
   | with_reducible (first | refine aq0 fun _ _ => ?_ | refine ar0 [] ?_ | refine ab0 ?_)
   | go_step)
  refine ⟨_, check_ok r hla hld, ?_⟩
  simp only [go_sem, simprocAttr, hF, e2]
  repeat (first
   | (with_reducible (first | refine sg0 ?_ | refine hw0 ?_ | refine se0 ?_ | refine ai0 ?_ | refine as0 ?_ | refine at0 ?_ | refine ax0 ?_); simp only [go_sem, simprocAttr, hF, e1, e2])
   | with_reducible (first | refine aq0 fun _ _ => ?_ | refine ar0 [] ?_ | refine ab0 ?_)
   | go_step)
  refine ⟨_, fCheck_ok n.nodes f, ?_⟩
  simp only [go_sem, simprocAttr, hF]
  repeat (first
   | (with_reducible (first | refine sg0 ?_ | refine hw0 ?_ | refine se0 ?_ | refine ai0 ?_ | refine as0 ?_ | refine at0 ?_ | refine ax0 ?_); simp only [go_sem, simprocAttr, hF])
   | with_reducible (first | refine aq0 fun _ _ => ?_ | refine ar0 [] ?_ | refine ab0 ?_)
   | go_step)
  all_goals (try rfl)

set_option maxHeartbeats 2000000 in
theorem check1_ok (n : Net) (f : Fl) (p : List Int) (hS : SmallN n) (hc : chkN n = 0) (hfr : 0 ≤ f.fr ∧ f.fr < n.nodes) (htn : 0 ≤ f.tn ∧ f.tn < n.nodes) (hne : f.fr ≠ f.tn) (hl : p.length ≤ 1000000) : FnOK Tryz.prog 65 [.sl 1 (p.map irow_pv), .ept n.pv, .ept f.pv] ⟨bv (!(routeE n f.fr f.tn p == 0)), none⟩ := by
 refine fn_ok Tryz.func65 (by kernel_rfl) rfl (by rw [Tryz.ntmps65]; exact of_decide_eq_true rfl) (fun F hF => ?_)
 rw [Tryz.ntmps65] at hF
 rw [Tryz.results65]
 repeat (first
  | (with_reducible (first | refine sg0 ?_ | refine hw0 ?_ | refine se0 ?_ | refine ai0 ?_ | refine as0 ?_ | refine at0 ?_ | refine ax0 ?_); simp only [go_sem, simprocAttr, hF])
  | with_reducible (first | refine aq0 fun _ _ => ?_ | refine ar0 [] ?_ | refine ab0 ?_)
  | go_step)
 refine ⟨_, rcheckP_ok n f.fr f.tn p hS hc hfr htn hne hl, ?_⟩
 simp only [go_sem, simprocAttr, hF]
 repeat (first
  | (with_reducible (first | refine sg0 ?_ | refine hw0 ?_ | refine se0 ?_ | refine ai0 ?_ | refine as0 ?_ | refine at0 ?_ | refine ax0 ?_); simp only [go_sem, simprocAttr, hF])
  | with_reducible (first | refine aq0 fun _ _ => ?_ | refine ar0 [] ?_ | refine ab0 ?_)
  | go_step)
 all_goals (try rfl)

set_option maxHeartbeats 2000000 in
theorem check2_ok (x : Lt) (fr : Int) : FnOK Tryz.prog 69 [.agg x.pv, .ept [ip fr]] ⟨bv (x.fr == fr), none⟩ := by
 refine fn_ok Tryz.func69 (by kernel_rfl) rfl (by rw [Tryz.ntmps69]; exact of_decide_eq_true rfl) (fun F hF => ?_)
 rw [Tryz.ntmps69] at hF
 rw [Tryz.results69]
 repeat (first
  | (with_reducible (first | refine sg0 ?_ | refine hw0 ?_ | refine se0 ?_ | refine ai0 ?_ | refine as0 ?_ | refine at0 ?_ | refine ax0 ?_); simp only [go_sem, simprocAttr, hF])
  | with_reducible (first | refine aq0 fun _ _ => ?_ | refine ar0 [] ?_ | refine ab0 ?_)
  | go_step)
 all_goals (try rfl)

set_option maxHeartbeats 20000000 in
theorem checkL_ok (n : Net) (f : Fl) (ps : List (List Int)) (r : Rec) (fr : Int) (hS : SmallN n) (hla : r.al.length ≤ 1000000) (hld : r.dl.length ≤ 1000000) (hps : ps.length ≤ 1000000) (hpl : ∀ p ∈ ps, p.length ≤ 1000000) : FnOK Tryz.prog 36 [.agg n.pv, .agg f.pv, .sl 1 (ps.map prow_pv), .agg r.pv, iv fr] ⟨.tup [.g (lateX n f ps r fr).1.pv, .c (ip (lateX n f ps r fr).2)], none⟩ := by
 refine fn_ok Tryz.func36 (by kernel_rfl) rfl (by rw [Tryz.ntmps36]; exact of_decide_eq_true rfl) (fun F hF => ?_)
 rw [Tryz.ntmps36] at hF
 rw [Tryz.results36]
 cases hB : basicB n f r with
 | false =>
  repeat (first
   | (with_reducible (first | refine sg0 ?_ | refine hw0 ?_ | refine se0 ?_ | refine ai0 ?_ | refine as0 ?_ | refine at0 ?_ | refine ax0 ?_); simp only [go_sem, simprocAttr, hF, hB])
   | with_reducible (first | refine aq0 fun _ _ => ?_ | refine ar0 [] ?_ | refine ab0 ?_)
   | go_step)
  refine ⟨_, base_ok n f r hS hla hld, ?_⟩
  simp only [go_sem, simprocAttr, hF, hB]
  repeat (first
   | (with_reducible (first | refine sg0 ?_ | refine hw0 ?_ | refine se0 ?_ | refine ai0 ?_ | refine as0 ?_ | refine at0 ?_ | refine ax0 ?_); simp only [go_sem, simprocAttr, hF, hB])
   | with_reducible (first | refine aq0 fun _ _ => ?_ | refine ar0 [] ?_ | refine ab0 ?_)
   | go_step)
  rw [show lateX n f ps r fr = (lt0, 1) from by unfold lateX; rw [if_pos (.inl hB)]]
  all_goals (try rfl)
 | true =>
  obtain ⟨hc, hg, hn, hfN, hf⟩ := basicB_inv hB
  obtain ⟨_, f1, f2, f3, f4, f5⟩ := fault_of_N hn.2 hfN
  by_cases c1 : ps.length < 1
  case pos =>
   have e1 : decide ((ps.length : Int) < 1) = true := decide_eq_true (by omega)
   repeat (first
    | (with_reducible (first | refine sg0 ?_ | refine hw0 ?_ | refine se0 ?_ | refine ai0 ?_ | refine as0 ?_ | refine at0 ?_ | refine ax0 ?_); simp only [go_sem, simprocAttr, hF, hB, e1])
    | with_reducible (first | refine aq0 fun _ _ => ?_ | refine ar0 [] ?_ | refine ab0 ?_)
    | go_step)
   refine ⟨_, base_ok n f r hS hla hld, ?_⟩
   simp only [go_sem, simprocAttr, hF, hB, e1]
   repeat (first
    | (with_reducible (first | refine sg0 ?_ | refine hw0 ?_ | refine se0 ?_ | refine ai0 ?_ | refine as0 ?_ | refine at0 ?_ | refine ax0 ?_); simp only [go_sem, simprocAttr, hF, hB, e1])
    | with_reducible (first | refine aq0 fun _ _ => ?_ | refine ar0 [] ?_ | refine ab0 ?_)
    | go_step)
   rw [show lateX n f ps r fr = (lt0, 1) from by unfold lateX; rw [if_pos (.inr (.inl c1))]]
   all_goals (try rfl)
  have e1 : decide ((ps.length : Int) < 1) = false := decide_eq_false (by omega)
  by_cases c2 : 2 < ps.length
  case pos =>
   have e2 : decide ((2 : Int) < (ps.length : Int)) = true := decide_eq_true (by omega)
   repeat (first
    | (with_reducible (first | refine sg0 ?_ | refine hw0 ?_ | refine se0 ?_ | refine ai0 ?_ | refine as0 ?_ | refine at0 ?_ | refine ax0 ?_); simp only [go_sem, simprocAttr, hF, hB, e1, e2])
    | with_reducible (first | refine aq0 fun _ _ => ?_ | refine ar0 [] ?_ | refine ab0 ?_)
    | go_step)
   refine ⟨_, base_ok n f r hS hla hld, ?_⟩
   simp only [go_sem, simprocAttr, hF, hB, e1, e2]
   repeat (first
    | (with_reducible (first | refine sg0 ?_ | refine hw0 ?_ | refine se0 ?_ | refine ai0 ?_ | refine as0 ?_ | refine at0 ?_ | refine ax0 ?_); simp only [go_sem, simprocAttr, hF, hB, e1, e2])
    | with_reducible (first | refine aq0 fun _ _ => ?_ | refine ar0 [] ?_ | refine ab0 ?_)
    | go_step)
   rw [show lateX n f ps r fr = (lt0, 1) from by unfold lateX; rw [if_pos (.inr (.inr c2))]]
   all_goals (try rfl)
  have e2 : decide ((2 : Int) < (ps.length : Int)) = false := decide_eq_false (by omega)
  have c3 : ¬ (basicB n f r = false ∨ ps.length < 1 ∨ 2 < ps.length) := fun h => by
   rcases h with h | h | h
   · rw [hB] at h; cases h
   · exact c1 h
   · exact c2 h
  cases hr : ps.any (fun p => !(routeE n f.fr f.tn p == 0)) with
  | true =>
   repeat (first
    | (with_reducible (first | refine sg0 ?_ | refine hw0 ?_ | refine se0 ?_ | refine ai0 ?_ | refine as0 ?_ | refine at0 ?_ | refine ax0 ?_); simp only [go_sem, simprocAttr, hF, hB, e1, e2])
    | with_reducible (first | refine aq0 fun _ _ => ?_ | refine ar0 [] ?_ | refine ab0 ?_)
    | go_step)
   refine ⟨_, base_ok n f r hS hla hld, ?_⟩
   simp only [go_sem, simprocAttr, hF, hB, e1, e2]
   repeat (first
    | (with_reducible (first | refine sg0 ?_ | refine hw0 ?_ | refine se0 ?_ | refine ai0 ?_ | refine as0 ?_ | refine at0 ?_ | refine ax0 ?_); simp only [go_sem, simprocAttr, hF, hB, e1, e2])
    | with_reducible (first | refine aq0 fun _ _ => ?_ | refine ar0 [] ?_ | refine ab0 ?_)
    | go_step)
   refine ⟨_, contR_ok _ [n.pv, f.pv] (fun p => !(routeE n f.fr f.tn p == 0)) ps hps (fun y hy => check1_ok n f y hS hc ⟨f1, f2⟩ ⟨f3, f4⟩ f5 (hpl y hy)), ?_⟩
   simp only [go_sem, simprocAttr, hF]
   try simp only [go_sem, simprocAttr, hF, hB, e1, e2, hr]
   repeat (first
    | (with_reducible (first | refine sg0 ?_ | refine hw0 ?_ | refine se0 ?_ | refine ai0 ?_ | refine as0 ?_ | refine at0 ?_ | refine ax0 ?_); simp only [go_sem, simprocAttr, hF, hB, e1, e2, hr])
    | with_reducible (first | refine aq0 fun _ _ => ?_ | refine ar0 [] ?_ | refine ab0 ?_)
    | go_step)
   rw [show lateX n f ps r fr = (lt0, 1) from by unfold lateX; rw [if_neg c3, if_pos hr]]
   all_goals (try rfl)
  | false =>
   have hr' : ¬ ps.any (fun p => !(routeE n f.fr f.tn p == 0)) = true := by rw [hr]; decide
   repeat (first
    | (with_reducible (first | refine sg0 ?_ | refine hw0 ?_ | refine se0 ?_ | refine ai0 ?_ | refine as0 ?_ | refine at0 ?_ | refine ax0 ?_); simp only [go_sem, simprocAttr, hF, hB, e1, e2])
    | with_reducible (first | refine aq0 fun _ _ => ?_ | refine ar0 [] ?_ | refine ab0 ?_)
    | go_step)
   refine ⟨_, base_ok n f r hS hla hld, ?_⟩
   simp only [go_sem, simprocAttr, hF, hB, e1, e2]
   repeat (first
    | (with_reducible (first | refine sg0 ?_ | refine hw0 ?_ | refine se0 ?_ | refine ai0 ?_ | refine as0 ?_ | refine at0 ?_ | refine ax0 ?_); simp only [go_sem, simprocAttr, hF, hB, e1, e2])
    | with_reducible (first | refine aq0 fun _ _ => ?_ | refine ar0 [] ?_ | refine ab0 ?_)
    | go_step)
   refine ⟨_, contR_ok _ [n.pv, f.pv] (fun p => !(routeE n f.fr f.tn p == 0)) ps hps (fun y hy => check1_ok n f y hS hc ⟨f1, f2⟩ ⟨f3, f4⟩ f5 (hpl y hy)), ?_⟩
   simp only [go_sem, simprocAttr, hF]
   try simp only [go_sem, simprocAttr, hF, hB, e1, e2, hr]
   repeat (first
    | (with_reducible (first | refine sg0 ?_ | refine hw0 ?_ | refine se0 ?_ | refine ai0 ?_ | refine as0 ?_ | refine at0 ?_ | refine ax0 ?_); simp only [go_sem, simprocAttr, hF, hB, e1, e2, hr])
    | with_reducible (first | refine aq0 fun _ _ => ?_ | refine ar0 [] ?_ | refine ab0 ?_)
    | go_step)
   refine ⟨_, late_ok [f] r (by simp) hla hld, ?_⟩
   simp only [go_sem, simprocAttr, hF, hr]
   repeat (first
    | (with_reducible (first | refine sg0 ?_ | refine hw0 ?_ | refine se0 ?_ | refine ai0 ?_ | refine as0 ?_ | refine at0 ?_ | refine ax0 ?_); simp only [go_sem, simprocAttr, hF])
    | with_reducible (first | refine aq0 fun _ _ => ?_ | refine ar0 [] ?_ | refine ab0 ?_)
    | go_step)
   refine ⟨_, idxT_ok _ [[ip fr]] (fun x => x.fr == fr) (late [f] r).1 (late_boundX [f] r) (fun y _ => check2_ok y fr), ?_⟩
   simp only [go_sem, simprocAttr, hF]
   rcases find_idx (fun x : Lt => x.fr == fr) (late [f] r).1 0 with ⟨q1, q2⟩ | ⟨i, x, q0, q1, q2, q3⟩
   · have e3 : decide ((-1 : Int) < 0) = true := rfl
     have hL : lateX n f ps r fr = (lt0, 12) := by unfold lateX; rw [if_neg c3, if_neg hr', q1]
     try simp only [go_sem, simprocAttr, hF, q2, e3]
     repeat (first
      | (with_reducible (first | refine sg0 ?_ | refine hw0 ?_ | refine se0 ?_ | refine ai0 ?_ | refine as0 ?_ | refine at0 ?_ | refine ax0 ?_); simp only [go_sem, simprocAttr, hF, q2, e3])
      | with_reducible (first | refine aq0 fun _ _ => ?_ | refine ar0 [] ?_ | refine ab0 ?_)
      | go_step)
     all_goals (try rw [hL])
     all_goals (try rfl)
   · have e3 : decide ((i : Int) < 0) = false := decide_eq_false (by omega)
     rw [Int.zero_add] at q2
     have hL : lateX n f ps r fr = (x, 0) := by unfold lateX; rw [if_neg c3, if_neg hr', q1]
     try simp only [go_sem, simprocAttr, hF, q2, e3, q0]
     repeat (first
      | (with_reducible (first | refine sg0 ?_ | refine hw0 ?_ | refine se0 ?_ | refine ai0 ?_ | refine as0 ?_ | refine at0 ?_ | refine ax0 ?_); simp only [go_sem, simprocAttr, hF, q2, e3, q0])
      | with_reducible (first | refine aq0 fun _ _ => ?_ | refine ar0 [] ?_ | refine ab0 ?_)
      | go_step)
     all_goals (try rw [hL])
     all_goals (try rfl)
/- The closures of explain.causes, by abstract states. -/
def offB (a b : Int) (x : Att) : Bool := x.cf != a || x.ct != b
theorem keep_off (a b : Int) (l : List Att) : keepP (offB a b) l = l.filter fun x => x.cf == a && x.ct == b := by
 unfold keepP offB
 exact List.filter_congr fun x _ => by cases h1 : (x.cf == a) <;> cases h2 : (x.ct == b) <;> simp [bne, h1, h2]

set_option maxHeartbeats 2000000 in
theorem causes1_ok (x : Att) (a b : Int) : FnOK Tryz.prog 74 [.agg x.pv, .ept [ip a], .ept [ip b]] ⟨bv (offB a b x), none⟩ := by
 refine fn_ok Tryz.func74 (by kernel_rfl) rfl (by rw [Tryz.ntmps74]; exact of_decide_eq_true rfl) (fun F hF => ?_)
 rw [Tryz.ntmps74] at hF
 rw [Tryz.results74]
 unfold offB
 cases h1 : (x.cf != a) <;> cases h2 : (x.ct != b)
 · repeat (first
  | (with_reducible (first | refine sg0 ?_ | refine hw0 ?_ | refine se0 ?_ | refine ai0 ?_ | refine as0 ?_ | refine at0 ?_ | refine ax0 ?_); simp only [go_sem, simprocAttr, hF, h1, h2])
  | with_reducible (first | refine aq0 fun _ _ => ?_ | refine ar0 [] ?_ | refine ab0 ?_)
  | go_step)
   all_goals (try rfl)
 · repeat (first
  | (with_reducible (first | refine sg0 ?_ | refine hw0 ?_ | refine se0 ?_ | refine ai0 ?_ | refine as0 ?_ | refine at0 ?_ | refine ax0 ?_); simp only [go_sem, simprocAttr, hF, h1, h2])
  | with_reducible (first | refine aq0 fun _ _ => ?_ | refine ar0 [] ?_ | refine ab0 ?_)
  | go_step)
   all_goals (try rfl)
 · repeat (first
  | (with_reducible (first | refine sg0 ?_ | refine hw0 ?_ | refine se0 ?_ | refine ai0 ?_ | refine as0 ?_ | refine at0 ?_ | refine ax0 ?_); simp only [go_sem, simprocAttr, hF, h1, h2])
  | with_reducible (first | refine aq0 fun _ _ => ?_ | refine ar0 [] ?_ | refine ab0 ?_)
  | go_step)
   all_goals (try rfl)
 · repeat (first
  | (with_reducible (first | refine sg0 ?_ | refine hw0 ?_ | refine se0 ?_ | refine ai0 ?_ | refine as0 ?_ | refine at0 ?_ | refine ax0 ?_); simp only [go_sem, simprocAttr, hF, h1, h2])
  | with_reducible (first | refine aq0 fun _ _ => ?_ | refine ar0 [] ?_ | refine ab0 ?_)
  | go_step)
   all_goals (try rfl)

set_option maxHeartbeats 2000000 in
theorem causes2_ok (x : Att) (lo hi : Int) : FnOK Tryz.prog 75 [.agg x.pv, .ept [ip lo], .ept [ip hi]] ⟨bv (failB lo hi x), none⟩ := by
 refine fn_ok Tryz.func75 (by kernel_rfl) rfl (by rw [Tryz.ntmps75]; exact of_decide_eq_true rfl) (fun F hF => ?_)
 rw [Tryz.ntmps75] at hF
 rw [Tryz.results75]
 unfold failB
 have h0 : (x.o != 1) = !(x.o == 1) := rfl
 cases h1 : (x.o == 1) <;> cases h2 : decide (lo ≤ x.s) <;> cases h3 : decide (x.s ≤ hi)
 · repeat (first
  | (with_reducible (first | refine sg0 ?_ | refine hw0 ?_ | refine se0 ?_ | refine ai0 ?_ | refine as0 ?_ | refine at0 ?_ | refine ax0 ?_); simp only [go_sem, simprocAttr, hF, h0, h1, h2, h3])
  | with_reducible (first | refine aq0 fun _ _ => ?_ | refine ar0 [] ?_ | refine ab0 ?_)
  | go_step)
   all_goals (try rfl)
 · repeat (first
  | (with_reducible (first | refine sg0 ?_ | refine hw0 ?_ | refine se0 ?_ | refine ai0 ?_ | refine as0 ?_ | refine at0 ?_ | refine ax0 ?_); simp only [go_sem, simprocAttr, hF, h0, h1, h2, h3])
  | with_reducible (first | refine aq0 fun _ _ => ?_ | refine ar0 [] ?_ | refine ab0 ?_)
  | go_step)
   all_goals (try rfl)
 · repeat (first
  | (with_reducible (first | refine sg0 ?_ | refine hw0 ?_ | refine se0 ?_ | refine ai0 ?_ | refine as0 ?_ | refine at0 ?_ | refine ax0 ?_); simp only [go_sem, simprocAttr, hF, h0, h1, h2, h3])
  | with_reducible (first | refine aq0 fun _ _ => ?_ | refine ar0 [] ?_ | refine ab0 ?_)
  | go_step)
   all_goals (try rfl)
 · repeat (first
  | (with_reducible (first | refine sg0 ?_ | refine hw0 ?_ | refine se0 ?_ | refine ai0 ?_ | refine as0 ?_ | refine at0 ?_ | refine ax0 ?_); simp only [go_sem, simprocAttr, hF, h0, h1, h2, h3])
  | with_reducible (first | refine aq0 fun _ _ => ?_ | refine ar0 [] ?_ | refine ab0 ?_)
  | go_step)
   all_goals (try rfl)
 · repeat (first
  | (with_reducible (first | refine sg0 ?_ | refine hw0 ?_ | refine se0 ?_ | refine ai0 ?_ | refine as0 ?_ | refine at0 ?_ | refine ax0 ?_); simp only [go_sem, simprocAttr, hF, h0, h1, h2, h3])
  | with_reducible (first | refine aq0 fun _ _ => ?_ | refine ar0 [] ?_ | refine ab0 ?_)
  | go_step)
   all_goals (try rfl)
 · repeat (first
  | (with_reducible (first | refine sg0 ?_ | refine hw0 ?_ | refine se0 ?_ | refine ai0 ?_ | refine as0 ?_ | refine at0 ?_ | refine ax0 ?_); simp only [go_sem, simprocAttr, hF, h0, h1, h2, h3])
  | with_reducible (first | refine aq0 fun _ _ => ?_ | refine ar0 [] ?_ | refine ab0 ?_)
  | go_step)
   all_goals (try rfl)
 · repeat (first
  | (with_reducible (first | refine sg0 ?_ | refine hw0 ?_ | refine se0 ?_ | refine ai0 ?_ | refine as0 ?_ | refine at0 ?_ | refine ax0 ?_); simp only [go_sem, simprocAttr, hF, h0, h1, h2, h3])
  | with_reducible (first | refine aq0 fun _ _ => ?_ | refine ar0 [] ?_ | refine ab0 ?_)
  | go_step)
   all_goals (try rfl)
 · repeat (first
  | (with_reducible (first | refine sg0 ?_ | refine hw0 ?_ | refine se0 ?_ | refine ai0 ?_ | refine as0 ?_ | refine at0 ?_ | refine ax0 ?_); simp only [go_sem, simprocAttr, hF, h0, h1, h2, h3])
  | with_reducible (first | refine aq0 fun _ _ => ?_ | refine ar0 [] ?_ | refine ab0 ?_)
  | go_step)
   all_goals (try rfl)
end Go.Proofs.YticnppnejafhdaaGreatDoor
/- ContainsFunc at attempts, with a closure that asks a function in a variable: by hand. -/
namespace Go.Proofs.YticnppnejafhdaaGreatDoor
open Go.RowKit
open Nd Rc Mo
open Av
theorem calls_att2 {fid k1 k2 : Nat} {m1 m2 : Int} {v : Bool} {x : Att} {W : World} (h : FnOK Tryz.prog fid [.agg x.pv, .ept [ip m1], .ept [ip m2]] ⟨bv v, none⟩) (h1 : W.cell? ⟨k1, 0, none⟩ = some (.int .i64 m1)) (h2 : W.cell? ⟨k2, 0, none⟩ = some (.int .i64 m2)) :
    Calls Tryz.prog fid #[.agg #[.int .i64 x.s, .int .i64 x.f, .int .i64 x.cs, .int .i64 x.co, .int .i64 x.cf, .int .i64 x.ct, .int .i64 x.cl, .int .i64 x.o], .pointer (some ⟨k1, 0, none⟩), .pointer (some ⟨k2, 0, none⟩)] W fun e w' => e = .returned (.bool v) ∧ Below W.heap.size W w' := by
  have hept : ∀ k m, W.cell? ⟨k, 0, none⟩ = some (.int .i64 m) → RepA (fun q => W.cell? q) (fun _ => 0) (.ept [ip m]) (.pointer (some ⟨k, 0, none⟩)) := fun k m hk => ⟨_, 0, [.int .i64 m], rfl, .cons (.v _ rfl) .nil, fun i x hx => by
    cases i with
    | zero => simp at hx; subst hx; exact hk
    | succ i => simp at hx⟩
  have := h.2 W (fun q => W.cell? q) (fun _ _ h => h) [.agg #[.int .i64 x.s, .int .i64 x.f, .int .i64 x.cs, .int .i64 x.co, .int .i64 x.cf, .int .i64 x.ct, .int .i64 x.cl, .int .i64 x.o], .pointer (some ⟨k1, 0, none⟩), .pointer (some ⟨k2, 0, none⟩)]
    (.cons ⟨_, rfl, rep_of_ints (xs := [.int .i64 x.s, .int .i64 x.f, .int .i64 x.cs, .int .i64 x.co, .int .i64 x.cf, .int .i64 x.ct, .int .i64 x.cl, .int .i64 x.o]) (by intro u hu; simp at hu; rcases hu with rfl | rfl | rfl | rfl | rfl | rfl | rfl | rfl <;> rfl)⟩ rfl (.cons (hept k1 m1 h1) rfl (.cons (hept k2 m2 h2) rfl .nil)))
  refine this.mono ?_
  rintro e w' ⟨u, rfl, hb, hres⟩
  exact ⟨by rw [show u = .bool v from hres.2], hb⟩
set_option maxRecDepth 100000 in
set_option maxHeartbeats 2000000 in
theorem causes3_any (x : Att) (lo hi : Int) (b g1 g2 : Nat) (w : World) (hc : w.cell? ⟨b, 0, none⟩ = some (.func (.func 75) #[] #[.pointer (some ⟨g1, 0, none⟩), .pointer (some ⟨g2, 0, none⟩)])) (h1 : w.cell? ⟨g1, 0, none⟩ = some (.int .i64 lo)) (h2 : w.cell? ⟨g2, 0, none⟩ = some (.int .i64 hi)) :
    Calls Tryz.prog 76 #[.agg #[.int .i64 x.s, .int .i64 x.f, .int .i64 x.cs, .int .i64 x.co, .int .i64 x.cf, .int .i64 x.ct, .int .i64 x.cl, .int .i64 x.o], .pointer (some ⟨b, 0, none⟩)] w fun e w' => e = .returned (.bool (!failB lo hi x)) ∧ Below w.heap.size w w' := by
  have hg : b < w.heap.size := World.block_lt_of_cell? w _ hc
  have HC : Hid (∀ W, Below w.heap.size w W → Calls Tryz.prog 75 #[.agg #[.int .i64 x.s, .int .i64 x.f, .int .i64 x.cs, .int .i64 x.co, .int .i64 x.cf, .int .i64 x.ct, .int .i64 x.cl, .int .i64 x.o], .pointer (some ⟨g1, 0, none⟩), .pointer (some ⟨g2, 0, none⟩)] W fun e w' => e = .returned (.bool (failB lo hi x)) ∧ Below W.heap.size W w') := Lib.hid fun W hW => calls_att2 (causes2_ok x lo hi) ((hW.cell (p := ⟨g1, 0, none⟩) (World.block_lt_of_cell? w _ h1)).trans h1) ((hW.cell (p := ⟨g2, 0, none⟩) (World.block_lt_of_cell? w _ h2)).trans h2)
  clear h1 h2
  go_enter Tryz.func76, Tryz.ntmps76
  go_wp2_with fail
  refine (HC.out _ ((Below.refl _ _).alloc (Nat.le_refl _) _)).mono ?_
  rintro e w2 ⟨rfl, hb2⟩
  go_wp2_with fail
  go_ret
  exact ⟨rfl, ((Below.refl _ _).alloc (Nat.le_refl _) _).trans (hb2.mono (by simp))⟩
set_option maxRecDepth 100000 in
set_option maxHeartbeats 2000000 in
theorem containsHA_any (p : Att → Bool) (g0 : FuncId) (cb : Array Value) (l : List Att) (A : Option Addr) (c : Nat) (w : World) (eg : ∀ args w, (callFunc g0 args).run Tryz.prog w = .ok (.enter g0 args) w) (hA : LiesA w w.heap.size A l) (hl : l.length ≤ 1000000)
    (hp : ∀ W, Below w.heap.size w W → ∀ a : Att, Calls Tryz.prog g0 (#[.agg #[.int .i64 a.s, .int .i64 a.f, .int .i64 a.cs, .int .i64 a.co, .int .i64 a.cf, .int .i64 a.ct, .int .i64 a.cl, .int .i64 a.o]] ++ cb) W fun e w' => e = .returned (.bool (p a)) ∧ Below W.heap.size W w') :
    Calls Tryz.prog 24 #[.slice A l.length c, .func (.func g0) #[] cb] w fun e w' => e = .returned (.bool (l.any p)) ∧ Below w.heap.size w w' := by
  have h0 := Lib.hid (idx_any p l)
  have HX := Lib.hid (indexHA_any p g0 cb l A c w eg hA hl hp)
  clear hp
  go_enter Tryz.func24, Tryz.ntmps24
  go_wp2_with fail
  refine HX.out.mono ?_
  rintro e w1 ⟨rfl, hb⟩
  go_wp2_with fail
  go_ret
  exact ⟨ret_bool h0.out, hb⟩
namespace Av
section
variable {n d : Nat} {σ : St} {o : Oper} {K : St → Prop}
/-- ContainsFunc of some attempts, one of which does not fail. -/
theorem hand_contains {x y : Operand} {ats : Array TypeId} {k0 g1 g2 : Nat} {l : List Att} {lo hi : Int} (ho : o.op = .call { callee := .value (.func 24), args := #[x, y], argTypes := ats }) (hd : o.dst = some d) (hdn : d < n)
    (hx : evo (look σ.slot) x = some (.sl 8 (l.map Att.pv))) (hy : evo (look σ.slot) y = some (.clo 76 [(k0, 0)])) (hb0 : look σ.box k0 = some [.v (.func (.func 75) #[] #[.pointer (some ⟨g1, 0, none⟩), .pointer (some ⟨g2, 0, none⟩)])])
    (hb1 : look σ.box (g1 + 1000000) = some [ip lo]) (hb2 : look σ.box (g2 + 1000000) = some [ip hi]) (hl : l.length ≤ 1000000) (h : K (σ.put d (bv (l.any fun a => !failB lo hi a)))) : Hand Tryz.prog n σ o K := by
  refine hand_call hd fun F γ a w hF hr => ?_
  obtain ⟨A, c, e1, hA⟩ := lies_of_rep (fun p v hp => hr.cell hp) (by decide) (show RepP _ (.sl 8 ((l.map Att.row).map fun row => row.map PV.v)) (a.eval x) from att_pv l ▸ (evo_ok hr (fun _ _ _ hy => hy) hx).1)
  rw [List.length_map] at e1
  have e2 : a.eval y = .func (.func 76) #[] #[.pointer (some ⟨γ.bx k0, 0, none⟩)] := (evo_ok hr (fun _ _ _ hy => hy) hy).1
  have hcell : ∀ k v, look σ.box k = some [.v v] → w.cell? ⟨γ.bx k, 0, none⟩ = some v := fun k v hk => by
    obtain ⟨us, ty, h1, _, h3⟩ := hr.boxes k _ hk
    cases h3 with | cons h3 h4 =>
    cases h4
    cases h3
    rw [cell_of_row w _ 0 _ ty (0, 0) h1]
    rfl
  have c0 := hcell _ _ hb0
  have c1 : w.cell? ⟨g1, 0, none⟩ = some (.int .i64 lo) := by
    have := hcell _ _ hb1
    rwa [hr.dyn _ (by rw [hb1]; rfl) (by omega), Nat.add_sub_cancel] at this
  have c2 : w.cell? ⟨g2, 0, none⟩ = some (.int .i64 hi) := by
    have := hcell _ _ hb2
    rwa [hr.dyn _ (by rw [hb2]; rfl) (by omega), Nat.add_sub_cancel] at this
  refine ⟨24, #[a.eval x, a.eval y], ?_, ?_⟩
  · have henter : Enters Tryz.prog 24 := ⟨Tryz.f24, _, Tryz.func24, by kernel_rfl, rfl⟩
    have hf : a.eval (.func 24) = .func (.func 24) #[] #[] := rfl
    simp [execOp, ho, resolve, hf, Deferred.ofValue, invoke, run_callFunc henter]
  have h3 : Enters Tryz.prog 76 := ⟨Tryz.f76, _, Tryz.func76, by kernel_rfl, rfl⟩
  rw [e1, e2]
  refine (containsHA_any (fun a => !failB lo hi a) 76 #[.pointer (some ⟨γ.bx k0, 0, none⟩)] l A c w (fun args w => run_callFunc h3 args w) hA hl (fun W hW x => ?_)).mono ?_
  · exact causes3_any x lo hi (γ.bx k0) g1 g2 W ((hW.cell (p := ⟨γ.bx k0, 0, none⟩) (World.block_lt_of_cell? w _ c0)).trans c0) ((hW.cell (p := ⟨g1, 0, none⟩) (World.block_lt_of_cell? w _ c1)).trans c1) ((hW.cell (p := ⟨g2, 0, none⟩) (World.block_lt_of_cell? w _ c2)).trans c2)
  · rintro e w1 ⟨rfl, hb⟩
    exact ⟨_, _, γ, rfl, h, (hr.grow hb).put (by rw [hF]; exact hdn) rfl (fun k hk => by cases hk)⟩
/-- A function value whose captured variables have their blocks' numbers as names. -/
theorem hand_makeFunc2 {fid g1 g2 : Nat} {x1 x2 : Operand} {cs1 cs2 : List PV} (ho : o.op = .makeFunc (.func fid) #[] #[x1, x2]) (hd : o.dst = some d) (hdn : d < n) (hx1 : evo (look σ.slot) x1 = some (.ref (g1 + 1000000) 0)) (hx2 : evo (look σ.slot) x2 = some (.ref (g2 + 1000000) 0))
    (hb1 : look σ.box (g1 + 1000000) = some cs1) (hb2 : look σ.box (g2 + 1000000) = some cs2) (h : K (σ.put d (.v (.func (.func fid) #[] #[.pointer (some ⟨g1, 0, none⟩), .pointer (some ⟨g2, 0, none⟩)])))) : Hand Tryz.prog n σ o K := by
  refine hand_value hd hdn fun F γ a w hF hr => ⟨.v (.func (.func fid) #[] #[.pointer (some ⟨g1, 0, none⟩), .pointer (some ⟨g2, 0, none⟩)]), _, w, σ.ext, ?_, Turn.same hr.exth (fun _ h => h) (fun _ h => .inr h), rfl, fun k hk => (by cases hk), h⟩
  have e1 : a.eval x1 = .pointer (some ⟨γ.bx (g1 + 1000000), 0, none⟩) := (evo_ok hr (fun _ _ _ hy => hy) hx1).1
  have e2 : a.eval x2 = .pointer (some ⟨γ.bx (g2 + 1000000), 0, none⟩) := (evo_ok hr (fun _ _ _ hy => hy) hx2).1
  rw [hr.dyn _ (by rw [hb1]; rfl) (by omega), Nat.add_sub_cancel] at e1
  rw [hr.dyn _ (by rw [hb2]; rfl) (by omega), Nat.add_sub_cancel] at e2
  simp [execOp, ho, e1, e2, Instr.makeFunc]
end
end Av
end Go.Proofs.YticnppnejafhdaaGreatDoor
/- explain.causes, by abstract states. -/
namespace Go.Proofs.YticnppnejafhdaaGreatDoor
open Go.RowKit
open Nd Rc Mo
open Av
set_option maxRecDepth 100000
set_option linter.unusedSimpArgs false
attribute [local go_sem] Av.guardB Av.sop Av.hopx Av.hop Av.hopCall Av.hopF Av.hopB Av.evo Av.evos Av.avCells Av.loadK Av.bound Av.abin Av.aun Av.partsC Av.lfill Av.placesB Av.setAt Av.stl Av.takes Av.src Av.bxOf Av.ownOf Av.St.res Av.St.put Av.St.addBox Av.St.putOwn Av.delL Av.delS Av.look Av.lookL Av.storeSt Av.stealSt Av.St.setBox Av.keepL Av.hitB Av.snap Av.snaps Av.snapCaps Av.AV.lit Av.AV.refs Av.capRefs Av.PV.av Av.CV.av Av.startSt Av.steals Av.athen Av.ablock Av.appK Av.AllS Av.AllO Av.AllR Av.keepS Av.St.avAt Av.RetOK Av.retAll Av.retOne Av.intsOf Av.ptrB TypeDesc.isRow List.range_zero Option.some.injEq exists_eq_left' exists_eq_left exists_eq' exists_and_left exists_and_right exists_const true_and and_true and_self false_and and_false or_false false_or or_true true_or if_true if_false Bool.false_eq_true List.zipIdx_cons List.zipIdx_nil List.map_cons List.map_nil List.filter_cons List.filter_nil List.contains_cons List.contains_nil List.drop_succ_cons List.drop_zero List.take_succ_cons List.take_zero List.take_nil List.drop_nil List.length_cons List.length_nil List.cons_append List.nil_append List.append_nil List.getElem?_cons_zero List.getElem?_cons_succ List.getElem?_nil Option.bind_some Option.bind_none Option.map_some Option.map_none Option.isNone_none Option.isNone_some Option.isSome_some Option.isSome_none Bool.and_true Bool.true_and Bool.and_false Bool.false_and Bool.or_false Bool.false_or Bool.not_true Bool.not_false beq_true beq_false Bool.true_beq Bool.false_beq Loc.s.injEq Loc.b.injEq decide_true decide_false beq_self_eq_true Nat.zero_add Nat.add_zero List.getElem?_toArray List.toList_toArray List.size_toArray Value.oneCell' List.all_cons List.all_nil Value.int.injEq AV.v.injEq AV.sl.injEq AV.agg.injEq AV.ref.injEq AV.ept.injEq AV.tup.injEq Value.bool.injEq PV.v.injEq PV.sl.injEq List.isEmpty_nil List.isEmpty_cons forall_const not_true_eq_false not_false_eq_true true_implies false_implies Value.string.injEq List.length_map List.getElem?_map Int.toNat_natCast Int.natCast_nonneg List.length_append Value.cells implies_true TypeDesc.struct.injEq TypeDesc.slice.injEq TypeDesc.array.injEq List.getElem?_toArray Prod.mk.injEq and_assoc exists_false List.cons.injEq Operand.tmp.injEq ite_self AV.fnv.injEq AV.clo.injEq ne_eq eq_self Tryz.sz3 Tryz.zr3 Tryz.by3 Tryz.pl3 Tryz.is3 Tryz.underlying3 Tryz.sz4 Tryz.zr4 Tryz.by4 Tryz.pl4 Tryz.is4 Tryz.underlying4 Tryz.sz43 Tryz.zr43 Tryz.by43 Tryz.pl43 Tryz.is43 Tryz.underlying43 Tryz.sz35 Tryz.zr35 Tryz.by35 Tryz.pl35 Tryz.is35 Tryz.underlying35 Tryz.sz33 Tryz.zr33 Tryz.by33 Tryz.pl33 Tryz.is33 Tryz.underlying33 Tryz.sz28 Tryz.zr28 Tryz.by28 Tryz.pl28 Tryz.is28 Tryz.underlying28 Tryz.sz39 Tryz.zr39 Tryz.by39 Tryz.pl39 Tryz.is39 Tryz.underlying39 Tryz.sz57 Tryz.zr57 Tryz.by57 Tryz.pl57 Tryz.is57 Tryz.underlying57 Tryz.sz137 Tryz.zr137 Tryz.by137 Tryz.pl137 Tryz.is137 Tryz.underlying137 Tryz.sz66 Tryz.zr66 Tryz.by66 Tryz.pl66 Tryz.is66 Tryz.underlying66 Tryz.sz64 Tryz.zr64 Tryz.by64 Tryz.pl64 Tryz.is64 Tryz.underlying64 Tryz.sz60 Tryz.zr60 Tryz.by60 Tryz.pl60 Tryz.is60 Tryz.underlying60 Tryz.sz100 Tryz.zr100 Tryz.by100 Tryz.pl100 Tryz.is100 Tryz.underlying100 Tryz.sz103 Tryz.zr103 Tryz.by103 Tryz.pl103 Tryz.is103 Tryz.underlying103 Tryz.sz26 Tryz.zr26 Tryz.by26 Tryz.pl26 Tryz.is26 Tryz.underlying26 Tryz.sz120 Tryz.zr120 Tryz.by120 Tryz.pl120 Tryz.is120 Tryz.underlying120 Tryz.sz117 Tryz.zr117 Tryz.by117 Tryz.pl117 Tryz.is117 Tryz.underlying117 Tryz.sz30 Tryz.zr30 Tryz.by30 Tryz.pl30 Tryz.is30 Tryz.underlying30 Tryz.sz31 Tryz.zr31 Tryz.by31 Tryz.pl31 Tryz.is31 Tryz.underlying31 Tryz.sz40 Tryz.zr40 Tryz.by40 Tryz.pl40 Tryz.is40 Tryz.underlying40 Tryz.sz23 Tryz.zr23 Tryz.by23 Tryz.pl23 Tryz.is23 Tryz.underlying23 Tryz.sz24 Tryz.zr24 Tryz.by24 Tryz.pl24 Tryz.is24 Tryz.underlying24 Tryz.sz22 Tryz.zr22 Tryz.by22 Tryz.pl22 Tryz.is22 Tryz.underlying22 Tryz.sz141 Tryz.zr141 Tryz.by141 Tryz.pl141 Tryz.is141 Tryz.underlying141 Tryz.sz42 Tryz.zr42 Tryz.by42 Tryz.pl42 Tryz.is42 Tryz.underlying42 Tryz.sz29 Tryz.zr29 Tryz.by29 Tryz.pl29 Tryz.is29 Tryz.underlying29 Tryz.sz83 Tryz.zr83 Tryz.by83 Tryz.pl83 Tryz.is83 Tryz.underlying83 Tryz.sz67 Tryz.zr67 Tryz.by67 Tryz.pl67 Tryz.is67 Tryz.underlying67 Tryz.it39 Tryz.eg39 Tryz.it137 Tryz.eg137 Tryz.it66 Tryz.eg66 Tryz.it28 Tryz.eg28 Tryz.it60 Tryz.eg60 all_arr loc_ss loc_sb loc_bs loc_bb arr_two arr_one rg1 rg2 rg3 rg4 rg5 rg6 rg7 rg8 ResultVar.tmp.injEq Bool.not_true Bool.not_false undef Rc.Rec.pv Nd.Fl.pv Rc.Dlv.pv Rc.Att.pv Mo.Lt.pv Fn.func.injEq Mo.Net.pv Mo.Lk.pv prow_pv irow_pv Br.pv Av.St.ren Av.AV.ren Av.ren1
theorem fail_all (lo hi : Int) (l : List Att) : l.all (failB lo hi) = !(l.any fun a => !failB lo hi a) := by
 induction l with
 | nil => rfl
 | cons x l ih => rw [List.all_cons, List.any_cons, ih, Bool.not_or, Bool.not_not]

set_option maxHeartbeats 20000000 in
theorem causes_ok (n : Net) (f : Fl) (r : Rec) (fr a b : Int) (hS : SmallN n) (hB : basicB n f r = true) (hfr : 0 ≤ fr ∧ fr < 1048576) (hi : 0 ≤ idxL n a b) (hla : r.al.length ≤ 1000000) : FnOK Tryz.prog 37 [.agg n.pv, .agg f.pv, .agg r.pv, iv fr, iv a, iv b] ⟨.sl 5 ((causesX n f r fr a b).map Br.pv), none⟩ := by
 obtain ⟨hc, hg, hn, hfN, hf⟩ := basicB_inv hB
 have hN := netOK hc
 obtain ⟨L, hL⟩ : ∃ L, L = onLk r.al f.id fr a b := ⟨_, rfl⟩
 have hLn : L.length ≤ 1000000 := by rw [hL]; exact Nat.le_trans (att_len _ _ _ _ _) hla
 have hkeep : keepP (offB a b) (ofFrame r.al f.id fr) = L := by rw [keep_off, hL]; rfl
 have hofl : (ofFrame r.al f.id fr).length ≤ 1000000 := Nat.le_trans (List.length_filter_le _ _) hla
 rcases idxL_cases n a b with hix | ⟨i, x, hx, _, _, hix⟩
 · omega
 obtain ⟨m, hm⟩ : ∃ m : Nat, x.ls = (m : Int) ∧ m ≤ 7 := by
  have h := hN.lkb x (List.mem_of_getElem? hx)
  simp only [lkB, Nd.inB, Bool.and_eq_true, decide_eq_true_eq] at h
  exact ⟨x.ls.toNat, by omega, by omega⟩
 obtain ⟨hm, hm7⟩ := hm
 have hloss : lossL n a b = (m : Int) := by unfold lossL; rw [hix, Int.toNat_natCast, List.getD_eq_getElem?_getD, hx]; exact hm
 have hC : causesX n f r fr a b = causesK f fr a b (rel f fr) (rel f fr + f.dl - 1) (m + 1) L (L.length - m) := by unfold causesX; rw [hloss, hL]; rfl
 rw [hC]
 clear hC hloss
 have hwm : IntKind.i64.wrap ((m : Int) + 1) = ((m + 1 : Nat) : Int) := by rw [IntKind.wrap_i64]; omega
 have w1 : IntKind.i64.wrap ((L.length : Int) - ((m + 1 : Nat) : Int)) = (L.length : Int) - ((m + 1 : Nat) : Int) := by rw [IntKind.wrap_i64]; omega
 have w2 : IntKind.i64.wrap ((L.length : Int) - ((m + 1 : Nat) : Int) + 1) = (L.length : Int) - (m : Int) := by rw [IntKind.wrap_i64]; omega
 have hmx : (if (L.length : Int) - (m : Int) < 0 then 0 else (L.length : Int) - (m : Int)) = ((L.length - m : Nat) : Int) := by split <;> omega
 refine fn_ok Tryz.func37 (by kernel_rfl) rfl (by rw [Tryz.ntmps37]; exact of_decide_eq_true rfl) (fun F hF => ?_)
 rw [Tryz.ntmps37] at hF
 rw [Tryz.results37]
 repeat (first
  | (with_reducible (first | refine sg0 ?_ | refine hw0 ?_ | refine se0 ?_ | refine ai0 ?_ | refine as0 ?_ | refine at0 ?_ | refine ax0 ?_); simp only [go_sem, simprocAttr, hF])
  | ((with_reducible refine hg0 ?_); simp only [go_sem, simprocAttr, hF, hbx])
  | with_reducible refine aq0 fun _ _ => ?_
  | (refine awp_draw' (id := 7) [95, 102, 1000050, 1000052, 1000053, 1000081] 10 (by kernel_rfl) (by kernel_rfl) rfl rfl (fun bx0 hbx => ?_); try dsimp only [List.take, List.drop])
  | with_reducible (first | refine ar0 [95, 102, 1000050, 1000052, 1000053, 1000081] ?_ | refine ab0 ?_)
  | go_step)
 refine ⟨_, window_okW f fr hf hfr.1 (by omega), ?_⟩
 simp only [go_sem, simprocAttr, hF]
 repeat (first
  | (with_reducible (first | refine sg0 ?_ | refine hw0 ?_ | refine se0 ?_ | refine ai0 ?_ | refine as0 ?_ | refine at0 ?_ | refine ax0 ?_); simp only [go_sem, simprocAttr, hF])
  | ((with_reducible refine hg0 ?_); simp only [go_sem, simprocAttr, hF, hbx])
  | with_reducible refine aq0 fun _ _ => ?_
  | (refine awp_draw' (id := 7) [95, 102, 1000050, 1000052, 1000053, 1000081] 10 (by kernel_rfl) (by kernel_rfl) rfl rfl (fun bx0 hbx => ?_); try dsimp only [List.take, List.drop])
  | with_reducible (first | refine ar0 [95, 102, 1000050, 1000052, 1000053, 1000081] ?_ | refine ab0 ?_)
  | go_step)
 refine ⟨_, due_okW f fr hf hfr.1 (by omega), ?_⟩
 simp only [go_sem, simprocAttr, hF]
 repeat (first
  | (with_reducible (first | refine sg0 ?_ | refine hw0 ?_ | refine se0 ?_ | refine ai0 ?_ | refine as0 ?_ | refine at0 ?_ | refine ax0 ?_); simp only [go_sem, simprocAttr, hF])
  | ((with_reducible refine hg0 ?_); simp only [go_sem, simprocAttr, hF, hbx])
  | with_reducible refine aq0 fun _ _ => ?_
  | (refine awp_draw' (id := 7) [95, 102, 1000050, 1000052, 1000053, 1000081] 10 (by kernel_rfl) (by kernel_rfl) rfl rfl (fun bx0 hbx => ?_); try dsimp only [List.take, List.drop])
  | (with_reducible refine ar0 (id := 0) [95, 102, 1000050, 1000052, 1000053, 1000081] ?_)
  | (with_reducible refine ar0 (id := 1) [95, 102, 1000050, 1000052, 1000053, 1000081] ?_)
  | (with_reducible refine ar0 (id := 2) [95, 102, 1000050, 1000052, 1000053, 1000081] ?_)
  | (with_reducible refine ar0 (id := 3) [95, 102, 1000050, 1000052, 1000053, 1000081] ?_)
  | (with_reducible refine ar0 (id := 4) [95, 102, 1000050, 1000052, 1000053, 1000081] ?_)
  | (with_reducible refine ar0 (id := 5) [95, 102, 1000050, 1000052, 1000053, 1000081] ?_)
  | (with_reducible refine ar0 (id := 8) [95, 102, 1000050, 1000052, 1000053, 1000081] ?_)
  | (with_reducible refine ar0 (id := 9) [95, 102, 1000050, 1000052, 1000053, 1000081] ?_)
  | (with_reducible refine ar0 (id := 10) [95, 102, 1000050, 1000052, 1000053, 1000081] ?_)
  | (with_reducible refine ar0 (id := 11) [95, 102, 1000050, 1000052, 1000053, 1000081] ?_)
  | (with_reducible refine ar0 (id := 12) [95, 102, 1000050, 1000052, 1000053, 1000081] ?_)
  | (with_reducible refine ar0 (id := 13) [95, 102, 1000050, 1000052, 1000053, 1000081] ?_)
  | (with_reducible refine ar0 (id := 14) [95, 102, 1000050, 1000052, 1000053, 1000081] ?_)
  | (with_reducible refine ar0 (id := 15) [95, 102, 1000050, 1000052, 1000053, 1000081] ?_)
  | (with_reducible refine ar0 (id := 16) [95, 102, 1000050, 1000052, 1000053, 1000081] ?_)
  | (with_reducible refine ar0 (id := 17) [95, 102, 1000050, 1000052, 1000053, 1000081] ?_)
  | (with_reducible refine ar0 (id := 18) [95, 102, 1000050, 1000052, 1000053, 1000081] ?_)
  | (with_reducible refine ar0 (id := 19) [95, 102, 1000050, 1000052, 1000053, 1000081] ?_)
  | (with_reducible refine ar0 (id := 20) [95, 102, 1000050, 1000052, 1000053, 1000081] ?_)
  | (with_reducible refine ar0 (id := 21) [95, 102, 1000050, 1000052, 1000053, 1000081] ?_)
  | (with_reducible refine ar0 (id := 22) [95, 102, 1000050, 1000052, 1000053, 1000081] ?_)
  | (with_reducible refine ab0 ?_)
  | go_step)
 refine hand_attempts (d := 50) r f.id fr hla rfl rfl (by decide) ?_ ?_ ?_ (fun V => ?_)
 · simp only [go_sem, simprocAttr, hF]
 · simp only [go_sem, simprocAttr, hF]
 · simp only [go_sem, simprocAttr, hF]
 simp only [go_sem, simprocAttr, hF]
 repeat (first
  | (with_reducible (first | refine sg0 ?_ | refine hw0 ?_ | refine se0 ?_ | refine ai0 ?_ | refine as0 ?_ | refine at0 ?_ | refine ax0 ?_); simp only [go_sem, simprocAttr, hF])
  | ((with_reducible refine hg0 ?_); simp only [go_sem, simprocAttr, hF, hbx])
  | with_reducible refine aq0 fun _ _ => ?_
  | (refine awp_draw' (id := 7) [95, 102, 1000050, 1000052, 1000053, 1000081] 10 (by kernel_rfl) (by kernel_rfl) rfl rfl (fun bx0 hbx => ?_); try dsimp only [List.take, List.drop])
  | (with_reducible refine ar0 (id := 0) [95, 102, 1000050, 1000052, 1000053, 1000081] ?_)
  | (with_reducible refine ar0 (id := 1) [95, 102, 1000050, 1000052, 1000053, 1000081] ?_)
  | (with_reducible refine ar0 (id := 2) [95, 102, 1000050, 1000052, 1000053, 1000081] ?_)
  | (with_reducible refine ar0 (id := 3) [95, 102, 1000050, 1000052, 1000053, 1000081] ?_)
  | (with_reducible refine ar0 (id := 4) [95, 102, 1000050, 1000052, 1000053, 1000081] ?_)
  | (with_reducible refine ar0 (id := 5) [95, 102, 1000050, 1000052, 1000053, 1000081] ?_)
  | (with_reducible refine ar0 (id := 8) [95, 102, 1000050, 1000052, 1000053, 1000081] ?_)
  | (with_reducible refine ar0 (id := 9) [95, 102, 1000050, 1000052, 1000053, 1000081] ?_)
  | (with_reducible refine ar0 (id := 10) [95, 102, 1000050, 1000052, 1000053, 1000081] ?_)
  | (with_reducible refine ar0 (id := 11) [95, 102, 1000050, 1000052, 1000053, 1000081] ?_)
  | (with_reducible refine ar0 (id := 12) [95, 102, 1000050, 1000052, 1000053, 1000081] ?_)
  | (with_reducible refine ar0 (id := 13) [95, 102, 1000050, 1000052, 1000053, 1000081] ?_)
  | (with_reducible refine ar0 (id := 14) [95, 102, 1000050, 1000052, 1000053, 1000081] ?_)
  | (with_reducible refine ar0 (id := 15) [95, 102, 1000050, 1000052, 1000053, 1000081] ?_)
  | (with_reducible refine ar0 (id := 16) [95, 102, 1000050, 1000052, 1000053, 1000081] ?_)
  | (with_reducible refine ar0 (id := 17) [95, 102, 1000050, 1000052, 1000053, 1000081] ?_)
  | (with_reducible refine ar0 (id := 18) [95, 102, 1000050, 1000052, 1000053, 1000081] ?_)
  | (with_reducible refine ar0 (id := 19) [95, 102, 1000050, 1000052, 1000053, 1000081] ?_)
  | (with_reducible refine ar0 (id := 20) [95, 102, 1000050, 1000052, 1000053, 1000081] ?_)
  | (with_reducible refine ar0 (id := 21) [95, 102, 1000050, 1000052, 1000053, 1000081] ?_)
  | (with_reducible refine ar0 (id := 22) [95, 102, 1000050, 1000052, 1000053, 1000081] ?_)
  | (with_reducible refine ab0 ?_)
  | go_step)
 refine hand_delete (d := 52) (fid := 74) (k1 := 10) (k2 := 11) (V := V) (l := ofFrame r.al f.id fr) (m1 := a) (m2 := b) (offB a b) Ext.nil rfl rfl (by decide) ?_ ?_ ?_ ?_ ?_ hofl (fun y => causes1_ok y a b) ?_
 · rfl
 · simp only [go_sem, simprocAttr, hF]
 · simp only [go_sem, simprocAttr, hF]
 · simp only [go_sem, simprocAttr, hF]
 · simp only [go_sem, simprocAttr, hF]
 simp only [go_sem, simprocAttr, hF, hkeep]
 repeat (first
  | (with_reducible (first | refine sg0 ?_ | refine hw0 ?_ | refine se0 ?_ | refine ai0 ?_ | refine as0 ?_ | refine at0 ?_ | refine ax0 ?_); simp only [go_sem, simprocAttr, hF])
  | ((with_reducible refine hg0 ?_); simp only [go_sem, simprocAttr, hF, hbx])
  | with_reducible refine aq0 fun _ _ => ?_
  | (refine awp_draw' (id := 7) [95, 102, 1000050, 1000052, 1000053, 1000081] 10 (by kernel_rfl) (by kernel_rfl) rfl rfl (fun bx0 hbx => ?_); try dsimp only [List.take, List.drop])
  | (with_reducible refine ar0 (id := 0) [95, 102, 1000050, 1000052, 1000053, 1000081] ?_)
  | (with_reducible refine ar0 (id := 1) [95, 102, 1000050, 1000052, 1000053, 1000081] ?_)
  | (with_reducible refine ar0 (id := 2) [95, 102, 1000050, 1000052, 1000053, 1000081] ?_)
  | (with_reducible refine ar0 (id := 3) [95, 102, 1000050, 1000052, 1000053, 1000081] ?_)
  | (with_reducible refine ar0 (id := 4) [95, 102, 1000050, 1000052, 1000053, 1000081] ?_)
  | (with_reducible refine ar0 (id := 5) [95, 102, 1000050, 1000052, 1000053, 1000081] ?_)
  | (with_reducible refine ar0 (id := 8) [95, 102, 1000050, 1000052, 1000053, 1000081] ?_)
  | (with_reducible refine ar0 (id := 9) [95, 102, 1000050, 1000052, 1000053, 1000081] ?_)
  | (with_reducible refine ar0 (id := 10) [95, 102, 1000050, 1000052, 1000053, 1000081] ?_)
  | (with_reducible refine ar0 (id := 11) [95, 102, 1000050, 1000052, 1000053, 1000081] ?_)
  | (with_reducible refine ar0 (id := 12) [95, 102, 1000050, 1000052, 1000053, 1000081] ?_)
  | (with_reducible refine ar0 (id := 13) [95, 102, 1000050, 1000052, 1000053, 1000081] ?_)
  | (with_reducible refine ar0 (id := 14) [95, 102, 1000050, 1000052, 1000053, 1000081] ?_)
  | (with_reducible refine ar0 (id := 15) [95, 102, 1000050, 1000052, 1000053, 1000081] ?_)
  | (with_reducible refine ar0 (id := 16) [95, 102, 1000050, 1000052, 1000053, 1000081] ?_)
  | (with_reducible refine ar0 (id := 17) [95, 102, 1000050, 1000052, 1000053, 1000081] ?_)
  | (with_reducible refine ar0 (id := 18) [95, 102, 1000050, 1000052, 1000053, 1000081] ?_)
  | (with_reducible refine ar0 (id := 19) [95, 102, 1000050, 1000052, 1000053, 1000081] ?_)
  | (with_reducible refine ar0 (id := 20) [95, 102, 1000050, 1000052, 1000053, 1000081] ?_)
  | (with_reducible refine ar0 (id := 21) [95, 102, 1000050, 1000052, 1000053, 1000081] ?_)
  | (with_reducible refine ar0 (id := 22) [95, 102, 1000050, 1000052, 1000053, 1000081] ?_)
  | (with_reducible refine ab0 ?_)
  | go_step)
 refine awp_ren 13 rfl (by decide) (fun _ => rfl) (fun g1 hg1 => ?_)
 simp only [go_sem, simprocAttr, hF]
 refine awp_ren 16 rfl (by decide) (fun _ => rfl) (fun g2 hg2 => ?_)
 have hgg : (g1 + 1000000 = g2 + 1000000) = False := by
  refine eq_false fun h => ?_
  simp only [Av.look_cons, h, if_pos] at hg2
  revert hg2
  simp
 have hgg2 : (g2 + 1000000 = g1 + 1000000) = False := eq_false fun h => by rw [h] at hgg; simp at hgg
 simp only [go_sem, simprocAttr, hF, hgg, hgg2]
 repeat (first
  | (with_reducible (first | refine sg0 ?_ | refine hw0 ?_ | refine se0 ?_ | refine ai0 ?_ | refine as0 ?_ | refine at0 ?_ | refine ax0 ?_); simp only [go_sem, simprocAttr, hF, hgg, hgg2])
  | ((with_reducible refine hg0 ?_); simp only [go_sem, simprocAttr, hF, hgg, hgg2, hbx])
  | with_reducible refine aq0 fun _ _ => ?_
  | (with_reducible refine ar0 (id := 0) [95, 102, 1000050, 1000052, 1000053, 1000081] ?_)
  | (with_reducible refine ar0 (id := 1) [95, 102, 1000050, 1000052, 1000053, 1000081] ?_)
  | (with_reducible refine ar0 (id := 2) [95, 102, 1000050, 1000052, 1000053, 1000081] ?_)
  | (with_reducible refine ar0 (id := 3) [95, 102, 1000050, 1000052, 1000053, 1000081] ?_)
  | (with_reducible refine ar0 (id := 4) [95, 102, 1000050, 1000052, 1000053, 1000081] ?_)
  | (with_reducible refine ar0 (id := 5) [95, 102, 1000050, 1000052, 1000053, 1000081] ?_)
  | (with_reducible refine ar0 (id := 6) [95, 102, 1000050, 1000052, 1000053, 1000081] ?_)
  | (with_reducible refine ar0 (id := 8) [95, 102, 1000050, 1000052, 1000053, 1000081] ?_)
  | (with_reducible refine ar0 (id := 9) [95, 102, 1000050, 1000052, 1000053, 1000081] ?_)
  | (with_reducible refine ar0 (id := 10) [95, 102, 1000050, 1000052, 1000053, 1000081] ?_)
  | (with_reducible refine ar0 (id := 11) [95, 102, 1000050, 1000052, 1000053, 1000081] ?_)
  | (with_reducible refine ar0 (id := 12) [95, 102, 1000050, 1000052, 1000053, 1000081] ?_)
  | (with_reducible refine ar0 (id := 13) [95, 102, 1000050, 1000052, 1000053, 1000081] ?_)
  | (with_reducible refine ar0 (id := 14) [95, 102, 1000050, 1000052, 1000053, 1000081] ?_)
  | (with_reducible refine ar0 (id := 15) [95, 102, 1000050, 1000052, 1000053, 1000081] ?_)
  | (with_reducible refine ar0 (id := 16) [95, 102, 1000050, 1000052, 1000053, 1000081] ?_)
  | (with_reducible refine ar0 (id := 17) [95, 102, 1000050, 1000052, 1000053, 1000081] ?_)
  | (with_reducible refine ar0 (id := 18) [95, 102, 1000050, 1000052, 1000053, 1000081] ?_)
  | (with_reducible refine ar0 (id := 19) [95, 102, 1000050, 1000052, 1000053, 1000081] ?_)
  | (with_reducible refine ar0 (id := 20) [95, 102, 1000050, 1000052, 1000053, 1000081] ?_)
  | (with_reducible refine ar0 (id := 21) [95, 102, 1000050, 1000052, 1000053, 1000081] ?_)
  | (with_reducible refine ar0 (id := 22) [95, 102, 1000050, 1000052, 1000053, 1000081] ?_)
  | (with_reducible refine ab0 ?_)
  | go_step)
 refine hand_makeFunc2 (d := 53) (g1 := g1) (g2 := g2) (cs1 := [ip (rel f fr)]) (cs2 := [ip (rel f fr + f.dl - 1)]) rfl rfl (by decide) ?_ ?_ ?_ ?_ ?_
 · simp only [go_sem, simprocAttr, hF]
 · simp only [go_sem, simprocAttr, hF]
 · simp only [go_sem, simprocAttr, hF, hgg, hgg2]
 · simp only [go_sem, simprocAttr, hF, hgg, hgg2]
 simp only [go_sem, simprocAttr, hF, hgg, hgg2]
 repeat (first
  | (with_reducible (first | refine sg0 ?_ | refine hw0 ?_ | refine se0 ?_ | refine ai0 ?_ | refine as0 ?_ | refine at0 ?_ | refine ax0 ?_); simp only [go_sem, simprocAttr, hF, hgg, hgg2])
  | ((with_reducible refine hg0 ?_); simp only [go_sem, simprocAttr, hF, hgg, hgg2, hbx])
  | with_reducible refine aq0 fun _ _ => ?_
  | (refine awp_draw' (id := 7) [95, 102, 1000050, 1000052, 1000053, 1000081] 10 (by kernel_rfl) (by kernel_rfl) rfl rfl (fun bx0 hbx => ?_); try dsimp only [List.take, List.drop])
  | with_reducible (first | refine ar0 [95, 102, 1000050, 1000052, 1000053, 1000081] ?_ | refine ab0 ?_)
  | go_step)
 refine ⟨_, nindex_ok n a b hS hc, ?_⟩
 simp only [go_sem, simprocAttr, hF, hgg, hgg2, hwm, w1, w2, hmx, hix, hx, hm, Nat.le_refl]
 repeat (first
  | (with_reducible (first | refine sg0 ?_ | refine hw0 ?_ | refine se0 ?_ | refine ai0 ?_ | refine as0 ?_ | refine at0 ?_ | refine ax0 ?_); simp only [go_sem, simprocAttr, hF, hgg, hgg2, hwm, w1, w2, hmx, hix, hx, hm, Nat.le_refl])
  | ((with_reducible refine hg0 ?_); simp only [go_sem, simprocAttr, hF, hgg, hgg2, hwm, w1, w2, hmx, hix, hx, hm, Nat.le_refl, hbx])
  | with_reducible refine aq0 fun _ _ => ?_
  | (refine awp_draw' (id := 7) [95, 102, 1000050, 1000052, 1000053, 1000081] 10 (by kernel_rfl) (by kernel_rfl) rfl rfl (fun bx0 hbx => ?_); try dsimp only [List.take, List.drop])
  | with_reducible (first | refine ar0 [95, 102, 1000050, 1000052, 1000053, 1000081] ?_ | refine ab0 ?_)
  | go_step)
 refine awp_nil 21 5 57 (by rw [hF]; decide) (by first | rfl | simp only [Av.look]; rfl) ?_
 simp only [go_sem, simprocAttr, hF, hgg, hgg2]
 repeat (first
  | (with_reducible (first | refine sg0 ?_ | refine hw0 ?_ | refine se0 ?_ | refine ai0 ?_ | refine as0 ?_ | refine at0 ?_ | refine ax0 ?_); simp only [go_sem, simprocAttr, hF, hgg, hgg2, hwm, w1, w2, hmx, hix, hx, hm, Nat.le_refl])
  | ((with_reducible refine hg0 ?_); simp only [go_sem, simprocAttr, hF, hgg, hgg2, hwm, w1, w2, hmx, hix, hx, hm, Nat.le_refl, hbx])
  | with_reducible refine aq0 fun _ _ => ?_
  | (refine awp_draw' (id := 7) [95, 102, 1000050, 1000052, 1000053, 1000081] 10 (by kernel_rfl) (by kernel_rfl) rfl rfl (fun bx0 hbx => ?_); try dsimp only [List.take, List.drop])
  | with_reducible (first | refine ar0 [95, 102, 1000050, 1000052, 1000053, 1000081] ?_ | refine ab0 ?_)
  | go_step)
 refine awp_loop_by (ι := {k : Nat // k ≤ L.length - m}) (fun k σ => ⟨(70, iv (k.1 : Int)) :: (21, .sl 5 ((causesK f fr a b (rel f fr) (rel f fr + f.dl - 1) (m + 1) L k.1).map Br.pv)) :: keepS [3, 7, 10, 11, 18, 19, 20, 69] σ.slot, [(7, f.pv), (10, [ip a]), (11, [ip b]), (19, [.v (.func (.func 75) #[] #[.pointer (some ⟨g1, 0, none⟩), .pointer (some ⟨g2, 0, none⟩)])]), (g1 + 1000000, [ip (rel f fr)]), (g2 + 1000000, [ip (rel f fr + f.dl - 1)])], [(.s 21, (57, 5))], σ.ext⟩) (fun k => (L.length - m) - k.1) ⟨0, by omega⟩ (sub_mk ?_) (fun R hR k => ?_)
 · simp only [go_sem, simprocAttr, hF, hgg, hgg2]
   repeat' (first | rfl | refine ⟨?_, ?_⟩)
 obtain ⟨k, hk⟩ := k
 dsimp only
 simp only [go_sem, simprocAttr, hF, hgg, hgg2]
 by_cases hlt : k < L.length - m
 case neg =>
  have hd : decide ((k : Int) < ((L.length - m : Nat) : Int)) = false := decide_eq_false (by omega)
  obtain rfl : k = L.length - m := by omega
  repeat (first
   | (with_reducible (first | refine sg0 ?_ | refine hw0 ?_ | refine se0 ?_ | refine ai0 ?_ | refine as0 ?_ | refine at0 ?_ | refine ax0 ?_); simp only [go_sem, simprocAttr, hF, hgg, hgg2, hd])
   | ((with_reducible refine hg0 ?_); simp only [go_sem, simprocAttr, hF, hgg, hgg2, hd, hbx])
   | with_reducible refine aq0 fun _ _ => ?_
   | (refine awp_draw' (id := 7) [95, 102, 1000050, 1000052, 1000053, 1000081] 10 (by kernel_rfl) (by kernel_rfl) rfl rfl (fun bx0 hbx => ?_); try dsimp only [List.take, List.drop])
   | with_reducible (first | refine ar0 [95, 102, 1000050, 1000052, 1000053, 1000081] ?_ | refine ab0 ?_)
   | go_step)
  all_goals (try rfl)
 have hd : decide ((k : Int) < ((L.length - m : Nat) : Int)) = true := decide_eq_true (by omega)
 have hw : IntKind.i64.wrap ((k : Int) + 1) = ((k + 1 : Nat) : Int) := by rw [IntKind.wrap_i64]; omega
 have w3 : IntKind.i64.wrap ((k : Int) + ((m + 1 : Nat) : Int)) = ((k + (m + 1) : Nat) : Int) := by rw [IntKind.wrap_i64]; omega
 obtain ⟨part, hpart⟩ : ∃ part, part = (L.drop k).take (m + 1) := ⟨_, rfl⟩
 have hpl : part.length = m + 1 := by rw [hpart, List.length_take, List.length_drop]; omega
 have hsl : List.drop k (List.take (k + (m + 1)) (List.map Att.pv L)) = List.map Att.pv part := by
  rw [hpart, List.drop_take, Nat.add_sub_cancel_left, List.map_take, List.map_drop]
 have hcs : causesK f fr a b (rel f fr) (rel f fr + f.dl - 1) (m + 1) L (k + 1) = causesK f fr a b (rel f fr) (rel f fr + f.dl - 1) (m + 1) L k ++ (if (part.any fun x => !failB (rel f fr) (rel f fr + f.dl - 1) x) = true then [] else [⟨f.id, fr, a, b, part.map Att.s⟩]) := by
  rw [causesK_succ, causeAt, ← hpart, fail_all]
  cases (part.any fun x => !failB (rel f fr) (rel f fr + f.dl - 1) x) <;> rfl
 have hle1 : k ≤ k + (m + 1) := by omega
 have hle2 : k + (m + 1) ≤ L.length := by omega
 clear hpart
 repeat (first
  | (with_reducible (first | refine sg0 ?_ | refine hw0 ?_ | refine se0 ?_ | refine ai0 ?_ | refine as0 ?_ | refine at0 ?_ | refine ax0 ?_); simp only [go_sem, simprocAttr, hF, hgg, hgg2, hd, w3, hsl, hle1, hle2, Nat.le_refl])
  | ((with_reducible refine hg0 ?_); simp only [go_sem, simprocAttr, hF, hgg, hgg2, hd, w3, hsl, hle1, hle2, Nat.le_refl, hbx])
  | with_reducible refine aq0 fun _ _ => ?_
  | (refine awp_draw' (id := 7) [95, 102, 1000050, 1000052, 1000053, 1000081] 10 (by kernel_rfl) (by kernel_rfl) rfl rfl (fun bx0 hbx => ?_); try dsimp only [List.take, List.drop])
  | with_reducible (first | refine ar0 [95, 102, 1000050, 1000052, 1000053, 1000081] ?_ | refine ab0 ?_)
  | go_step)
 refine hand_contains (d := 81) (k0 := 19) (g1 := g1) (g2 := g2) (l := part) (lo := (rel f fr)) (hi := (rel f fr + f.dl - 1)) rfl rfl (by decide) ?_ ?_ ?_ ?_ ?_ (by omega) ?_
 · simp only [go_sem, simprocAttr, hF]
 · simp only [go_sem, simprocAttr, hF]
 · simp only [go_sem, simprocAttr, hF, hgg, hgg2]
 · simp only [go_sem, simprocAttr, hF, hgg, hgg2]
 · simp only [go_sem, simprocAttr, hF, hgg, hgg2]
 simp only [go_sem, simprocAttr, hF, hgg, hgg2]
 cases hq : part.any fun x => !failB (rel f fr) (rel f fr + f.dl - 1) x with
 | true =>
  rw [hq, if_pos rfl, List.append_nil] at hcs
  try simp only [go_sem, simprocAttr, hF, hgg, hgg2, hq]
  repeat (first
   | (with_reducible (first | refine sg0 ?_ | refine hw0 ?_ | refine se0 ?_ | refine ai0 ?_ | refine as0 ?_ | refine at0 ?_ | refine ax0 ?_); simp only [go_sem, simprocAttr, hF, hgg, hgg2, hq])
   | ((with_reducible refine hg0 ?_); simp only [go_sem, simprocAttr, hF, hgg, hgg2, hq, hbx])
   | with_reducible refine aq0 fun _ _ => ?_
   | (refine awp_draw' (id := 7) [95, 102, 1000050, 1000052, 1000053, 1000081] 10 (by kernel_rfl) (by kernel_rfl) rfl rfl (fun bx0 hbx => ?_); try dsimp only [List.take, List.drop])
   | with_reducible (first | refine ar0 [95, 102, 1000050, 1000052, 1000053, 1000081] ?_ | refine ab0 ?_)
   | go_step)
  refine ⟨⟨k + 1, by omega⟩, by dsimp only; omega, hR _ _ (sub_mk ?_)⟩
  simp only [go_sem, simprocAttr, hF, hw, hcs, hgg, hgg2]
 | false =>
  rw [hq, if_neg (by decide)] at hcs
  try simp only [go_sem, simprocAttr, hF, hgg, hgg2, hq]
  repeat (first
   | (with_reducible (first | refine sg0 ?_ | refine hw0 ?_ | refine se0 ?_ | refine ai0 ?_ | refine as0 ?_ | refine at0 ?_ | refine ax0 ?_); simp only [go_sem, simprocAttr, hF, hgg, hgg2, hq])
   | ((with_reducible refine hg0 ?_); simp only [go_sem, simprocAttr, hF, hgg, hgg2, hq, hbx])
   | with_reducible refine aq0 fun _ _ => ?_
   | (refine awp_draw' (id := 7) [95, 102, 1000050, 1000052, 1000053, 1000081] 10 (by kernel_rfl) (by kernel_rfl) rfl rfl (fun bx0 hbx => ?_); try dsimp only [List.take, List.drop])
   | with_reducible (first | refine ar0 [95, 102, 1000050, 1000052, 1000053, 1000081] ?_ | refine ab0 ?_)
   | go_step)
  refine awp_nilB 24 4 1 3 rfl rfl ?_
  simp only [go_sem, simprocAttr, hF, hgg, hgg2]
  repeat (first
   | (with_reducible (first | refine sg0 ?_ | refine hw0 ?_ | refine se0 ?_ | refine ai0 ?_ | refine as0 ?_ | refine at0 ?_ | refine ax0 ?_); simp only [go_sem, simprocAttr, hF, hgg, hgg2, hpl])
   | ((with_reducible refine hg0 ?_); simp only [go_sem, simprocAttr, hF, hgg, hgg2, hpl, hbx])
   | with_reducible refine aq0 fun _ _ => ?_
   | (refine awp_draw' (id := 7) [95, 102, 1000050, 1000052, 1000053, 1000081] 10 (by kernel_rfl) (by kernel_rfl) rfl rfl (fun bx0 hbx => ?_); try dsimp only [List.take, List.drop])
   | with_reducible (first | refine ar0 [95, 102, 1000050, 1000052, 1000053, 1000081] ?_ | refine ab0 ?_)
   | go_step)
  refine awp_loop_by (ι := {j : Nat // j ≤ m + 1}) (fun j σ => ⟨(90, iv (j.1 : Int)) :: keepS [3, 7, 10, 11, 18, 19, 20, 21, 24, 69, 70, 88, 89] σ.slot, (24, [ip f.id, ip fr, ip a, ip b, .sl 1 (((part.take j.1).map Att.s).map fun x => [ip x])]) :: [(7, f.pv), (10, [ip a]), (11, [ip b]), (19, [.v (.func (.func 75) #[] #[.pointer (some ⟨g1, 0, none⟩), .pointer (some ⟨g2, 0, none⟩)])]), (g1 + 1000000, [ip (rel f fr)]), (g2 + 1000000, [ip (rel f fr + f.dl - 1)])], [(.s 21, (57, 5)), (.b 24 4, (3, 1))], σ.ext⟩) (fun j => (m + 1) - j.1) ⟨0, by omega⟩ (sub_mk ?_) (fun R2 hR2 j => ?_)
  · simp only [go_sem, simprocAttr, hF, hgg, hgg2, List.take_zero, List.map_nil]
    repeat' (first | rfl | refine ⟨?_, ?_⟩)
  obtain ⟨j, hj⟩ := j
  dsimp only
  simp only [go_sem, simprocAttr, hF, hgg, hgg2]
  by_cases hjt : j < m + 1
  case neg =>
   have hdj : decide ((j : Int) < (part.length : Int)) = false := decide_eq_false (by omega)
   have hall : List.take j part = part := List.take_of_length_le (by omega)
   have hcl : (causesK f fr a b (rel f fr) (rel f fr + f.dl - 1) (m + 1) L k).length ≤ 99999999 := by have := causesK_len f fr a b (rel f fr) (rel f fr + f.dl - 1) (m + 1) L k; omega
   repeat (first
    | (with_reducible (first | refine sg0 ?_ | refine hw0 ?_ | refine se0 ?_ | refine ai0 ?_ | refine as0 ?_ | refine at0 ?_ | refine ax0 ?_); simp only [go_sem, simprocAttr, hF, hgg, hgg2, hdj, hall, hcl])
    | ((with_reducible refine hg0 ?_); simp only [go_sem, simprocAttr, hF, hgg, hgg2, hdj, hall, hcl, hbx])
    | with_reducible refine aq0 fun _ _ => ?_
    | (refine awp_draw' (id := 7) [95, 102, 1000050, 1000052, 1000053, 1000081] 10 (by kernel_rfl) (by kernel_rfl) rfl rfl (fun bx0 hbx => ?_); try dsimp only [List.take, List.drop])
    | with_reducible (first | refine ar0 [95, 102, 1000050, 1000052, 1000053, 1000081] ?_ | refine ab0 ?_)
    | go_step)
   refine ⟨⟨k + 1, by omega⟩, by dsimp only; omega, hR _ _ (sub_mk ?_)⟩
   simp only [go_sem, simprocAttr, hF, hw, hcs, List.map_append, Br.pv, hgg, hgg2]
  have hdj : decide ((j : Int) < (part.length : Int)) = true := decide_eq_true (by omega)
  have hwj : IntKind.i64.wrap ((j : Int) + 1) = ((j + 1 : Nat) : Int) := by rw [IntKind.wrap_i64]; omega
  obtain ⟨d, hdk⟩ := get_of_lt (l := part) (k := j) (by omega)
  have hT : List.take (j + 1) part = List.take j part ++ [d] := by rw [List.take_add_one, hdk]; rfl
  have hjl : (List.take j part).length ≤ 99999999 := by rw [List.length_take]; omega
  repeat (first
   | (with_reducible (first | refine sg0 ?_ | refine hw0 ?_ | refine se0 ?_ | refine ai0 ?_ | refine as0 ?_ | refine at0 ?_ | refine ax0 ?_); simp only [go_sem, simprocAttr, hF, hgg, hgg2, hdj, hdk, hjl])
   | ((with_reducible refine hg0 ?_); simp only [go_sem, simprocAttr, hF, hgg, hgg2, hdj, hdk, hjl, hbx])
   | with_reducible refine aq0 fun _ _ => ?_
   | (refine awp_draw' (id := 7) [95, 102, 1000050, 1000052, 1000053, 1000081] 10 (by kernel_rfl) (by kernel_rfl) rfl rfl (fun bx0 hbx => ?_); try dsimp only [List.take, List.drop])
   | with_reducible (first | refine ar0 [95, 102, 1000050, 1000052, 1000053, 1000081] ?_ | refine ab0 ?_)
   | go_step)
  refine ⟨⟨j + 1, by omega⟩, by dsimp only; omega, hR2 _ _ (sub_mk ?_)⟩
  simp only [go_sem, simprocAttr, hF, hwj, hT, List.map_append, hgg, hgg2]
/- explain.Find, by abstract states. -/
theorem firstC_step {n : Net} {f : Fl} {r : Rec} {fr x y : Int} {p : List Int} {i : Nat} (hi : 1 ≤ i) (hx : p[i - 1]? = some x) (hy : p[i]? = some y) :
 firstC n f r fr (p.drop (i - 1)) = match (causesX n f r fr x y)[0]? with
  | some c => some c
  | none => firstC n f r fr (p.drop i) := by
 rw [drop_of_get hx, show i - 1 + 1 = i by omega, drop_of_get hy, firstC, List.head?_eq_getElem?]
 cases (causesX n f r fr x y)[0]? <;> rfl
theorem firstC_end {n : Net} {f : Fl} {r : Rec} {fr : Int} {p : List Int} {i : Nat} (hi : p.length ≤ i) : firstC n f r fr (p.drop (i - 1)) = none := by
 have h : (p.drop (i - 1)).length ≤ 1 := by rw [List.length_drop]; omega
 match hq : p.drop (i - 1) with
 | [] => rfl
 | [x] => rfl
 | x :: y :: l => rw [hq] at h; simp at h

set_option maxHeartbeats 20000000 in
theorem find_okX (n : Net) (f : Fl) (ps : List (List Int)) (r : Rec) (fr : Int) (hS : SmallN n) (hla : r.al.length ≤ 1000000) (hld : r.dl.length ≤ 1000000) (hps : ps.length ≤ 1000000) (hpl : ∀ p ∈ ps, p.length ≤ 1000000) : FnOK Tryz.prog 11 [.agg n.pv, .agg f.pv, .sl 1 (ps.map prow_pv), .agg r.pv, iv fr] ⟨.tup [.g (findX n f ps r fr).1.pv, .c (ip (findX n f ps r fr).2)], none⟩ := by
 refine fn_ok Tryz.func11 (by kernel_rfl) rfl (by rw [Tryz.ntmps11]; exact of_decide_eq_true rfl) (fun F hF => ?_)
 rw [Tryz.ntmps11] at hF
 rw [Tryz.results11]
 repeat (first
  | (with_reducible (first | refine sg0 ?_ | refine hw0 ?_ | refine se0 ?_ | refine ai0 ?_ | refine as0 ?_ | refine at0 ?_ | refine ax0 ?_); simp only [go_sem, simprocAttr, hF])
  | ((with_reducible refine hg0 ?_); simp only [go_sem, simprocAttr, hF, hbx])
  | with_reducible refine aq0 fun _ _ => ?_
  | (refine awp_draw' (id := 12) [69] 14 (by kernel_rfl) (by kernel_rfl) rfl rfl (fun bx0 hbx => ?_); try dsimp only [List.take, List.drop])
  | (refine awp_draw' (id := 14) [69] 6 (by kernel_rfl) (by kernel_rfl) rfl rfl (fun bx0 hbx => ?_); try dsimp only [List.take, List.drop])
  | with_reducible (first | refine ar0 [69] ?_ | refine ab0 ?_)
  | go_step)
 refine ⟨_, checkL_ok n f ps r fr hS hla hld hps hpl, ?_⟩
 simp only [go_sem, simprocAttr, hF]
 by_cases hL : (lateX n f ps r fr).2 = 0
 case neg =>
  have e1 : ((lateX n f ps r fr).2 != 0) = true := by simpa using hL
  have hX : findX n f ps r fr = (ex0, (lateX n f ps r fr).2) := by unfold findX; rw [if_pos hL]
  try simp only [go_sem, simprocAttr, hF, e1]
  repeat (first
   | ((refine awp_nilB (c := .ret) 10 3 5 57 (cs := _) rfl rfl ?_); simp only [go_sem, simprocAttr, hF, e1])
   | (with_reducible (first | refine sg0 ?_ | refine hw0 ?_ | refine se0 ?_ | refine ai0 ?_ | refine as0 ?_ | refine at0 ?_ | refine ax0 ?_); simp only [go_sem, simprocAttr, hF, e1])
   | ((with_reducible refine hg0 ?_); simp only [go_sem, simprocAttr, hF, e1, hbx])
   | with_reducible refine aq0 fun _ _ => ?_
   | (refine awp_draw' (id := 12) [69] 14 (by kernel_rfl) (by kernel_rfl) rfl rfl (fun bx0 hbx => ?_); try dsimp only [List.take, List.drop])
   | (refine awp_draw' (id := 14) [69] 6 (by kernel_rfl) (by kernel_rfl) rfl rfl (fun bx0 hbx => ?_); try dsimp only [List.take, List.drop])
   | with_reducible (first | refine ar0 [69] ?_ | refine ab0 ?_)
   | go_step)
  all_goals (try rw [hX])
  all_goals (try rfl)
 have e1 : ((lateX n f ps r fr).2 != 0) = false := by rw [hL]; rfl
 have LO := lateX_ok hL
 have hN := netOK (basicB_inv LO.base).1
 try simp only [go_sem, simprocAttr, hF, e1]
 repeat (first
  | (with_reducible (first | refine sg0 ?_ | refine hw0 ?_ | refine se0 ?_ | refine ai0 ?_ | refine as0 ?_ | refine at0 ?_ | refine ax0 ?_); simp only [go_sem, simprocAttr, hF, e1])
  | ((with_reducible refine hg0 ?_); simp only [go_sem, simprocAttr, hF, e1, hbx])
  | with_reducible refine aq0 fun _ _ => ?_
  | (refine awp_draw' (id := 12) [69] 14 (by kernel_rfl) (by kernel_rfl) rfl rfl (fun bx0 hbx => ?_); try dsimp only [List.take, List.drop])
  | (refine awp_draw' (id := 14) [69] 6 (by kernel_rfl) (by kernel_rfl) rfl rfl (fun bx0 hbx => ?_); try dsimp only [List.take, List.drop])
  | with_reducible (first | refine ar0 [69] ?_ | refine ab0 ?_)
  | go_step)
 refine awp_nilB 14 3 5 57 (cs := _) rfl rfl ?_
 simp only [go_sem, simprocAttr, hF]
 refine awp_loop_by (ι := {k : Nat // k ≤ ps.length ∧ (ps.take k).any (fun p => (firstC n f r fr p).isNone) = false}) (fun k σ => ⟨(37, iv (k.1 : Int)) :: keepS [2, 4, 5, 6, 8, 10, 14, 35, 36] σ.slot, (14, [ip (lateX n f ps r fr).1.fl, ip (lateX n f ps r fr).1.fr, ip (lateX n f ps r fr).1.sl, .sl 5 (((ps.take k.1).filterMap (firstC n f r fr)).map Br.pv)]) :: keepS [5, 6, 8, 10] σ.box, [(.b 14 3, (57, 5))], σ.ext⟩) (fun k => ps.length - k.1) ⟨0, by omega, rfl⟩ (sub_mk ?_) (fun R hR k => ?_)
 · simp only [go_sem, simprocAttr, hF]
   repeat' (first | rfl | refine ⟨?_, ?_⟩)
 obtain ⟨k, hk, hT⟩ := k
 dsimp only
 simp only [go_sem, simprocAttr, hF]
 by_cases hlt : k < ps.length
 case neg =>
  have hd : decide ((k : Int) < (ps.length : Int)) = false := decide_eq_false (by omega)
  have hX : findX n f ps r fr = (⟨(lateX n f ps r fr).1, ps.filterMap (firstC n f r fr)⟩, 0) := by
   rw [List.take_of_length_le (by omega)] at hT
   unfold findX
   rw [if_neg (fun h => h hL), if_neg (by rw [hT]; decide)]
  have hall : List.take k ps = ps := List.take_of_length_le (by omega)
  repeat (first
   | (with_reducible (first | refine sg0 ?_ | refine hw0 ?_ | refine se0 ?_ | refine ai0 ?_ | refine as0 ?_ | refine at0 ?_ | refine ax0 ?_); simp only [go_sem, simprocAttr, hF, hd])
   | ((with_reducible refine hg0 ?_); simp only [go_sem, simprocAttr, hF, hd, hbx])
   | with_reducible refine aq0 fun _ _ => ?_
   | (refine awp_draw' (id := 12) [69] 14 (by kernel_rfl) (by kernel_rfl) rfl rfl (fun bx0 hbx => ?_); try dsimp only [List.take, List.drop])
   | (refine awp_draw' (id := 14) [69] 6 (by kernel_rfl) (by kernel_rfl) rfl rfl (fun bx0 hbx => ?_); try dsimp only [List.take, List.drop])
   | with_reducible (first | refine ar0 [69] ?_ | refine ab0 ?_)
   | go_step)
  all_goals (try rw [hX])
  all_goals (try rw [hall])
  all_goals (try rfl)
 obtain ⟨p, hp⟩ := get_of_lt hlt
 have hd : decide ((k : Int) < (ps.length : Int)) = true := decide_eq_true (by omega)
 have hw : IntKind.i64.wrap ((k : Int) + 1) = ((k + 1 : Nat) : Int) := by rw [IntKind.wrap_i64]; omega
 obtain ⟨r1, r2, r3⟩ := route_inv (LO.rt p (List.mem_of_getElem? hp))
 have hTk : List.take (k + 1) ps = List.take k ps ++ [p] := by rw [List.take_add_one, hp]; rfl
 obtain ⟨acc, hacc⟩ : ∃ acc, acc = (List.take k ps).filterMap (firstC n f r fr) := ⟨_, rfl⟩
 have haccl : acc.length ≤ 2 := by
  rw [hacc]
  refine Nat.le_trans (List.length_filterMap_le _ _) ?_
  rw [List.length_take]
  have := LO.l2
  omega
 rw [← hacc]
 repeat (first
  | (with_reducible (first | refine sg0 ?_ | refine hw0 ?_ | refine se0 ?_ | refine ai0 ?_ | refine as0 ?_ | refine at0 ?_ | refine ax0 ?_); simp only [go_sem, simprocAttr, hF, hd, hp])
  | ((with_reducible refine hg0 ?_); simp only [go_sem, simprocAttr, hF, hd, hp, hbx])
  | with_reducible refine aq0 fun _ _ => ?_
  | (refine awp_draw' (id := 12) [69] 14 (by kernel_rfl) (by kernel_rfl) rfl rfl (fun bx0 hbx => ?_); try dsimp only [List.take, List.drop])
  | (refine awp_draw' (id := 14) [69] 6 (by kernel_rfl) (by kernel_rfl) rfl rfl (fun bx0 hbx => ?_); try dsimp only [List.take, List.drop])
  | with_reducible (first | refine ar0 [69] ?_ | refine ab0 ?_)
  | go_step)
 refine awp_loop_by (ι := {x : Nat × Option Br // 1 ≤ x.1 ∧ x.1 ≤ p.length ∧ (x.2 = none → firstC n f r fr p = firstC n f r fr (p.drop (x.1 - 1))) ∧ (∀ c, x.2 = some c → firstC n f r fr p = some c)}) (fun x σ => ⟨(18, iv (x.1.1 : Int)) :: (17, bv x.1.2.isSome) :: keepS [2, 4, 5, 6, 8, 10, 14, 16, 35, 36, 37] σ.slot, (14, [ip (lateX n f ps r fr).1.fl, ip (lateX n f ps r fr).1.fr, ip (lateX n f ps r fr).1.sl, .sl 5 ((acc ++ x.1.2.toList).map Br.pv)]) :: keepS [5, 6, 8, 10] σ.box, [(.b 14 3, (57, 5))], σ.ext⟩) (fun x => p.length - x.1.1) ⟨(1, none), Nat.le_refl _, by dsimp only; omega, fun _ => rfl, fun _ h => (by cases h)⟩ (sub_mk ?_) (fun R2 hR2 x => ?_)
 · simp only [go_sem, simprocAttr, hF]
   try simp only [Option.toList_none, List.append_nil, Option.isSome_none]
   repeat' (first | rfl | exact True.intro | refine ⟨?_, ?_⟩)
 obtain ⟨⟨i, oc⟩, hi1, hip, hN1, hS1⟩ := x
 dsimp only at hi1 hip hN1 hS1 ⊢
 simp only [go_sem, simprocAttr, hF]
 have hwi : IntKind.i64.wrap ((i : Int) + 1) = ((i + 1 : Nat) : Int) := by rw [IntKind.wrap_i64]; omega
 cases oc with
 | some c =>
  have hfc := hS1 c rfl
  have hany : (List.take (k + 1) ps).any (fun p => (firstC n f r fr p).isNone) = false := by rw [hTk, List.any_append, hT, List.any_cons, hfc]; rfl
  have hfm : (List.take (k + 1) ps).filterMap (firstC n f r fr) = acc ++ [c] := by rw [hTk, List.filterMap_append, hacc, List.filterMap_cons, hfc]; rfl
  cases hlti : decide ((i : Int) < (p.length : Int)) with
  | false =>
   try simp only [go_sem, simprocAttr, hF, hlti, Option.isSome_some, Option.toList_some]
   repeat (first
    | (with_reducible (first | refine sg0 ?_ | refine hw0 ?_ | refine se0 ?_ | refine ai0 ?_ | refine as0 ?_ | refine at0 ?_ | refine ax0 ?_); simp only [go_sem, simprocAttr, hF, hlti, Option.isSome_some, Option.toList_some])
    | ((with_reducible refine hg0 ?_); simp only [go_sem, simprocAttr, hF, hlti, Option.isSome_some, Option.toList_some, hbx])
    | with_reducible refine aq0 fun _ _ => ?_
    | (refine awp_draw' (id := 12) [69] 14 (by kernel_rfl) (by kernel_rfl) rfl rfl (fun bx0 hbx => ?_); try dsimp only [List.take, List.drop])
    | (refine awp_draw' (id := 14) [69] 6 (by kernel_rfl) (by kernel_rfl) rfl rfl (fun bx0 hbx => ?_); try dsimp only [List.take, List.drop])
    | with_reducible (first | refine ar0 [69] ?_ | refine ab0 ?_)
    | go_step)
   refine ⟨⟨k + 1, by omega, hany⟩, by dsimp only; omega, hR _ _ (sub_mk ?_)⟩
   simp only [go_sem, simprocAttr, hF, hw, hfm]
  | true =>
   try simp only [go_sem, simprocAttr, hF, hlti, Option.isSome_some, Option.toList_some]
   repeat (first
    | (with_reducible (first | refine sg0 ?_ | refine hw0 ?_ | refine se0 ?_ | refine ai0 ?_ | refine as0 ?_ | refine at0 ?_ | refine ax0 ?_); simp only [go_sem, simprocAttr, hF, hlti, Option.isSome_some, Option.toList_some])
    | ((with_reducible refine hg0 ?_); simp only [go_sem, simprocAttr, hF, hlti, Option.isSome_some, Option.toList_some, hbx])
    | with_reducible refine aq0 fun _ _ => ?_
    | (refine awp_draw' (id := 12) [69] 14 (by kernel_rfl) (by kernel_rfl) rfl rfl (fun bx0 hbx => ?_); try dsimp only [List.take, List.drop])
    | (refine awp_draw' (id := 14) [69] 6 (by kernel_rfl) (by kernel_rfl) rfl rfl (fun bx0 hbx => ?_); try dsimp only [List.take, List.drop])
    | with_reducible (first | refine ar0 [69] ?_ | refine ab0 ?_)
    | go_step)
   refine ⟨⟨k + 1, by omega, hany⟩, by dsimp only; omega, hR _ _ (sub_mk ?_)⟩
   simp only [go_sem, simprocAttr, hF, hw, hfm]
 | none =>
  have hfc := hN1 rfl
  by_cases hlti : i < p.length
  case neg =>
   have hdi : decide ((i : Int) < (p.length : Int)) = false := decide_eq_false (by omega)
   have hX : findX n f ps r fr = (ex0, 7) := by
    have hnn : firstC n f r fr p = none := by rw [hfc]; exact firstC_end (by omega)
    have hany : ps.any (fun p => (firstC n f r fr p).isNone) = true := List.any_eq_true.2 ⟨p, List.mem_of_getElem? hp, by rw [hnn]; rfl⟩
    unfold findX
    rw [if_neg (fun h => h hL), if_pos hany]
   try simp only [go_sem, simprocAttr, hF, hdi, Option.isSome_none, Option.toList_none]
   repeat (first
    | ((refine awp_nilB (c := .ret) 10 3 5 57 (cs := _) rfl rfl ?_); simp only [go_sem, simprocAttr, hF, hdi, Option.isSome_none, Option.toList_none])
    | (with_reducible (first | refine sg0 ?_ | refine hw0 ?_ | refine se0 ?_ | refine ai0 ?_ | refine as0 ?_ | refine at0 ?_ | refine ax0 ?_); simp only [go_sem, simprocAttr, hF, hdi, Option.isSome_none, Option.toList_none])
    | ((with_reducible refine hg0 ?_); simp only [go_sem, simprocAttr, hF, hdi, Option.isSome_none, Option.toList_none, hbx])
    | with_reducible refine aq0 fun _ _ => ?_
    | (refine awp_draw' (id := 12) [69] 14 (by kernel_rfl) (by kernel_rfl) rfl rfl (fun bx0 hbx => ?_); try dsimp only [List.take, List.drop])
    | (refine awp_draw' (id := 14) [69] 6 (by kernel_rfl) (by kernel_rfl) rfl rfl (fun bx0 hbx => ?_); try dsimp only [List.take, List.drop])
    | with_reducible (first | refine ar0 [69] ?_ | refine ab0 ?_)
    | go_step)
   all_goals (try rw [hX])
   all_goals (try rfl)
  have hdi : decide ((i : Int) < (p.length : Int)) = true := decide_eq_true (by omega)
  have hwp : IntKind.i64.wrap ((i : Int) - 1) = ((i - 1 : Nat) : Int) := by rw [IntKind.wrap_i64]; omega
  obtain ⟨x, hx⟩ := get_of_lt (l := p) (k := i - 1) (by omega)
  obtain ⟨y, hy⟩ := get_of_lt (l := p) (k := i) hlti
  have hst := firstC_step (n := n) (f := f) (r := r) (fr := fr) hi1 hx hy
  have hix := r3 (i - 1) x y hx (by rw [show i - 1 + 1 = i by omega]; exact hy)
  try simp only [go_sem, simprocAttr, hF, hdi, hwp, hx, hy, Option.isSome_none, Option.toList_none, List.append_nil]
  repeat (first
   | (with_reducible (first | refine sg0 ?_ | refine hw0 ?_ | refine se0 ?_ | refine ai0 ?_ | refine as0 ?_ | refine at0 ?_ | refine ax0 ?_); simp only [go_sem, simprocAttr, hF, hdi, hwp, hx, hy, Option.isSome_none, Option.toList_none, List.append_nil])
   | ((with_reducible refine hg0 ?_); simp only [go_sem, simprocAttr, hF, hdi, hwp, hx, hy, Option.isSome_none, Option.toList_none, List.append_nil, hbx])
   | with_reducible refine aq0 fun _ _ => ?_
   | (refine awp_draw' (id := 12) [69] 14 (by kernel_rfl) (by kernel_rfl) rfl rfl (fun bx0 hbx => ?_); try dsimp only [List.take, List.drop])
   | (refine awp_draw' (id := 14) [69] 6 (by kernel_rfl) (by kernel_rfl) rfl rfl (fun bx0 hbx => ?_); try dsimp only [List.take, List.drop])
   | with_reducible (first | refine ar0 [69] ?_ | refine ab0 ?_)
   | go_step)
  refine ⟨_, causes_ok n f r fr x y hS LO.base ⟨LO.fr0, LO.fr1⟩ hix hla, ?_⟩
  simp only [go_sem, simprocAttr, hF, hdi, hwp, hx, hy, Option.isSome_none, Option.toList_none, List.append_nil]
  generalize causesX n f r fr x y = CX at hst ⊢
  cases CX with
  | nil =>
   have hst' : firstC n f r fr p = firstC n f r fr (p.drop i) := by rw [hfc, hst]; rfl
   have e4 : decide ((0 : Int) < ((0 : Nat) : Int)) = false := rfl
   try simp only [go_sem, simprocAttr, hF, hdi, hwp, hx, hy, Option.isSome_none, Option.toList_none, List.append_nil, List.map_nil, List.length_nil, e4]
   repeat (first
    | (with_reducible (first | refine sg0 ?_ | refine hw0 ?_ | refine se0 ?_ | refine ai0 ?_ | refine as0 ?_ | refine at0 ?_ | refine ax0 ?_); simp only [go_sem, simprocAttr, hF, hdi, hwp, hx, hy, Option.isSome_none, Option.toList_none, List.append_nil, List.map_nil, List.length_nil, e4])
    | ((with_reducible refine hg0 ?_); simp only [go_sem, simprocAttr, hF, hdi, hwp, hx, hy, Option.isSome_none, Option.toList_none, List.append_nil, List.map_nil, List.length_nil, e4, hbx])
    | with_reducible refine aq0 fun _ _ => ?_
    | (refine awp_draw' (id := 12) [69] 14 (by kernel_rfl) (by kernel_rfl) rfl rfl (fun bx0 hbx => ?_); try dsimp only [List.take, List.drop])
    | (refine awp_draw' (id := 14) [69] 6 (by kernel_rfl) (by kernel_rfl) rfl rfl (fun bx0 hbx => ?_); try dsimp only [List.take, List.drop])
    | with_reducible (first | refine ar0 [69] ?_ | refine ab0 ?_)
    | go_step)
   refine ⟨⟨(i + 1, none), by dsimp only; omega, by dsimp only; omega, fun _ => (by dsimp only; rw [Nat.add_sub_cancel]; exact hst'), fun _ h => (by cases h)⟩, by dsimp only; omega, hR2 _ _ (sub_mk ?_)⟩
   simp only [go_sem, simprocAttr, hF, hwi, Option.isSome_none, Option.toList_none, List.append_nil]
  | cons c CX =>
   have hst' : firstC n f r fr p = some c := by rw [hfc, hst]; rfl
   have e4 : decide ((0 : Int) < ((CX.length + 1 : Nat) : Int)) = true := decide_eq_true (by omega)
   have z0 : Int.toNat 0 = 0 := rfl
   have hal : acc.length ≤ 99999999 := by omega
   try simp only [go_sem, simprocAttr, hF, hdi, hwp, hx, hy, Option.isSome_none, Option.toList_none, List.append_nil, List.map_cons, List.length_cons, e4, z0, hal]
   repeat (first
    | (with_reducible (first | refine sg0 ?_ | refine hw0 ?_ | refine se0 ?_ | refine ai0 ?_ | refine as0 ?_ | refine at0 ?_ | refine ax0 ?_); simp only [go_sem, simprocAttr, hF, hdi, hwp, hx, hy, Option.isSome_none, Option.toList_none, List.append_nil, List.map_cons, List.length_cons, e4, z0, hal])
    | ((with_reducible refine hg0 ?_); simp only [go_sem, simprocAttr, hF, hdi, hwp, hx, hy, Option.isSome_none, Option.toList_none, List.append_nil, List.map_cons, List.length_cons, e4, z0, hal, hbx])
    | with_reducible refine aq0 fun _ _ => ?_
    | (refine awp_draw' (id := 12) [69] 14 (by kernel_rfl) (by kernel_rfl) rfl rfl (fun bx0 hbx => ?_); try dsimp only [List.take, List.drop])
    | (refine awp_draw' (id := 14) [69] 6 (by kernel_rfl) (by kernel_rfl) rfl rfl (fun bx0 hbx => ?_); try dsimp only [List.take, List.drop])
    | with_reducible (first | refine ar0 [69] ?_ | refine ab0 ?_)
    | go_step)
   refine ⟨⟨(i + 1, some c), by dsimp only; omega, by dsimp only; omega, fun h => (by cases h), fun _ h => (by cases h; exact hst')⟩, by dsimp only; omega, hR2 _ _ (sub_mk ?_)⟩
   simp only [go_sem, simprocAttr, hF, hwi, Option.isSome_some, Option.toList_some, List.map_append, List.map_cons, List.map_nil, Br.pv]
/- slices.Equal of numbers, by abstract states. -/
set_option maxHeartbeats 2000000 in
theorem eqI_ok (a b : List Int) (ha : a.length ≤ 1000000) : FnOK Tryz.prog 32 [.sl 1 (a.map (fun x => [ip x])), .sl 1 (b.map (fun x => [ip x]))] ⟨bv (decide (a = b)), none⟩ := by
 refine fn_ok Tryz.func32 (by kernel_rfl) rfl (by rw [Tryz.ntmps32]; exact of_decide_eq_true rfl) (fun F hF => ?_)
 rw [Tryz.ntmps32] at hF
 rw [Tryz.results32]
 have hal : ((a.length : Int) != (b.length : Int)) = !decide (a.length = b.length) := by rw [Bool.eq_iff_iff]; simp; omega
 by_cases hl : a.length = b.length
 case neg =>
  have hn : decide (a.length = b.length) = false := decide_eq_false hl
  repeat (first
   | (with_reducible (first | refine sg0 ?_ | refine hw0 ?_ | refine se0 ?_ | refine ai0 ?_ | refine as0 ?_ | refine at0 ?_ | refine ax0 ?_); simp only [go_sem, simprocAttr, hF, hal, hn])
   | ((with_reducible refine hg0 ?_); simp only [go_sem, simprocAttr, hF, hal, hn, hbx])
   | with_reducible refine aq0 fun _ _ => ?_
   | (refine awp_draw' (id := 6) [] 9 (by kernel_rfl) (by kernel_rfl) rfl rfl (fun bx0 hbx => ?_); try dsimp only [List.take, List.drop])
   | with_reducible (first | refine ar0 [] ?_ | refine ab0 ?_)
   | go_step)
  rw [decide_eq_false (fun h => hl (by rw [h]))]
 have hn : decide (a.length = b.length) = true := decide_eq_true hl
 repeat (first
  | (with_reducible (first | refine sg0 ?_ | refine hw0 ?_ | refine se0 ?_ | refine ai0 ?_ | refine as0 ?_ | refine at0 ?_ | refine ax0 ?_); simp only [go_sem, simprocAttr, hF, hal, hn])
  | ((with_reducible refine hg0 ?_); simp only [go_sem, simprocAttr, hF, hal, hn, hbx])
  | with_reducible refine aq0 fun _ _ => ?_
  | (refine awp_draw' (id := 6) [] 9 (by kernel_rfl) (by kernel_rfl) rfl rfl (fun bx0 hbx => ?_); try dsimp only [List.take, List.drop])
  | with_reducible (first | refine ar0 [] ?_ | refine ab0 ?_)
  | go_step)
 refine awp_loop_by (ι := {k : Nat // k ≤ a.length ∧ decide (a = b) = decide (a.drop k = b.drop k)}) (fun k σ => ⟨(13, iv (k.1 : Int)) :: keepS [0, 1, 4, 12] σ.slot, σ.box, [], σ.ext⟩) (fun k => a.length - k.1) ⟨0, by omega, rfl⟩ (sub_mk ?_) (fun R hR k => ?_)
 · simp only [go_sem, simprocAttr, hF]
   repeat' (first | rfl | refine ⟨?_, ?_⟩)
 obtain ⟨k, hk, hT⟩ := k
 dsimp only
 simp only [go_sem, simprocAttr, hF]
 by_cases hlt : k < a.length
 case neg =>
  have hd : decide ((k : Int) < (a.length : Int)) = false := decide_eq_false (by omega)
  repeat (first
   | (with_reducible (first | refine sg0 ?_ | refine hw0 ?_ | refine se0 ?_ | refine ai0 ?_ | refine as0 ?_ | refine at0 ?_ | refine ax0 ?_); simp only [go_sem, simprocAttr, hF, hd])
   | ((with_reducible refine hg0 ?_); simp only [go_sem, simprocAttr, hF, hd, hbx])
   | with_reducible refine aq0 fun _ _ => ?_
   | (refine awp_draw' (id := 6) [] 9 (by kernel_rfl) (by kernel_rfl) rfl rfl (fun bx0 hbx => ?_); try dsimp only [List.take, List.drop])
   | with_reducible (first | refine ar0 [] ?_ | refine ab0 ?_)
   | go_step)
  rw [hT, List.drop_of_length_le (by omega), List.drop_of_length_le (by omega)]
  rfl
 obtain ⟨x, hxk⟩ := get_of_lt hlt
 obtain ⟨y, hyk⟩ := get_of_lt (l := b) (k := k) (by omega)
 have hd : decide ((k : Int) < (a.length : Int)) = true := decide_eq_true (by omega)
 have hw : IntKind.i64.wrap ((k : Int) + 1) = ((k + 1 : Nat) : Int) := by rw [IntKind.wrap_i64]; omega
 have hT' : decide (a = b) = ((x == y) && decide (a.drop (k + 1) = b.drop (k + 1))) := by
  rw [hT, drop_of_get hxk, drop_of_get hyk, Bool.eq_iff_iff]
  simp
 cases he : (x == y) with
 | false =>
  have hne : (x != y) = true := by rw [bne, he]; rfl
  repeat (first
   | (with_reducible (first | refine sg0 ?_ | refine hw0 ?_ | refine se0 ?_ | refine ai0 ?_ | refine as0 ?_ | refine at0 ?_ | refine ax0 ?_); simp only [go_sem, simprocAttr, hF, hd, hxk, hyk, he, hne])
   | ((with_reducible refine hg0 ?_); simp only [go_sem, simprocAttr, hF, hd, hxk, hyk, he, hne, hbx])
   | with_reducible refine aq0 fun _ _ => ?_
   | (refine awp_draw' (id := 6) [] 9 (by kernel_rfl) (by kernel_rfl) rfl rfl (fun bx0 hbx => ?_); try dsimp only [List.take, List.drop])
   | with_reducible (first | refine ar0 [] ?_ | refine ab0 ?_)
   | go_step)
  rw [hT', he]
  rfl
 | true =>
  have hne : (x != y) = false := by rw [bne, he]; rfl
  repeat (first
   | (with_reducible (first | refine sg0 ?_ | refine hw0 ?_ | refine se0 ?_ | refine ai0 ?_ | refine as0 ?_ | refine at0 ?_ | refine ax0 ?_); simp only [go_sem, simprocAttr, hF, hd, hxk, hyk, he, hne])
   | ((with_reducible refine hg0 ?_); simp only [go_sem, simprocAttr, hF, hd, hxk, hyk, he, hne, hbx])
   | with_reducible refine aq0 fun _ _ => ?_
   | (refine awp_draw' (id := 6) [] 9 (by kernel_rfl) (by kernel_rfl) rfl rfl (fun bx0 hbx => ?_); try dsimp only [List.take, List.drop])
   | with_reducible (first | refine ar0 [] ?_ | refine ab0 ?_)
   | go_step)
  refine ⟨⟨k + 1, by omega, by rw [hT', he, Bool.true_and]⟩, by dsimp only; omega, hR _ _ (sub_mk ?_)⟩
  simp only [go_sem, simprocAttr, hF, hw]
/- explain.Check, by abstract states. -/
attribute [local go_sem] Ex.pv
set_option maxHeartbeats 2000000 in
theorem ck1_ok (b c : Br) (hb : b.sl.length ≤ 1000000) : FnOK Tryz.prog 49 [.agg b.pv, .ept c.pv] ⟨bv (decide (b.sl = c.sl)), none⟩ := by
 refine fn_ok Tryz.func49 (by kernel_rfl) rfl (by rw [Tryz.ntmps49]; exact of_decide_eq_true rfl) (fun F hF => ?_)
 rw [Tryz.ntmps49] at hF
 rw [Tryz.results49]
 repeat (first
  | (with_reducible (first | refine sg0 ?_ | refine hw0 ?_ | refine se0 ?_ | refine ai0 ?_ | refine as0 ?_ | refine at0 ?_ | refine ax0 ?_); simp only [go_sem, simprocAttr, hF])
  | with_reducible (first | refine aq0 fun _ _ => ?_ | refine ar0 [] ?_ | refine ab0 ?_)
  | go_step)
 refine ⟨_, eqI_ok b.sl c.sl hb, ?_⟩
 simp only [go_sem, simprocAttr, hF]
 repeat (first
  | (with_reducible (first | refine sg0 ?_ | refine hw0 ?_ | refine se0 ?_ | refine ai0 ?_ | refine as0 ?_ | refine at0 ?_ | refine ax0 ?_); simp only [go_sem, simprocAttr, hF])
  | with_reducible (first | refine aq0 fun _ _ => ?_ | refine ar0 [] ?_ | refine ab0 ?_)
  | go_step)
 all_goals (try rfl)

set_option maxHeartbeats 20000000 in
theorem check_okX (n : Net) (f : Fl) (ps : List (List Int)) (r : Rec) (x : Ex) (hS : SmallN n) (hla : r.al.length ≤ 1000000) (hld : r.dl.length ≤ 1000000) (hps : ps.length ≤ 1000000) (hpl : ∀ p ∈ ps, p.length ≤ 1000000) : FnOK Tryz.prog 20 [.agg n.pv, .agg f.pv, .sl 1 (ps.map prow_pv), .agg r.pv, .agg x.pv] ⟨iv (checkX n f ps r x), none⟩ := by
 refine fn_ok Tryz.func20 (by kernel_rfl) rfl (by rw [Tryz.ntmps20]; exact of_decide_eq_true rfl) (fun F hF => ?_)
 rw [Tryz.ntmps20] at hF
 rw [Tryz.results20]
 repeat (first
  | (with_reducible (first | refine sg0 ?_ | refine hw0 ?_ | refine se0 ?_ | refine ai0 ?_ | refine as0 ?_ | refine at0 ?_ | refine ax0 ?_); simp only [go_sem, simprocAttr, hF])
  | ((with_reducible refine hg0 ?_); simp only [go_sem, simprocAttr, hF, hbx])
  | with_reducible refine aq0 fun _ _ => ?_
  | (refine awp_draw' (id := 11) [] 33 (by kernel_rfl) (by kernel_rfl) rfl rfl (fun bx0 hbx => ?_); try dsimp only [List.take, List.drop])
  | with_reducible (first | refine ar0 [] ?_ | refine ab0 ?_)
  | go_step)
 refine ⟨_, checkL_ok n f ps r x.lt.fr hS hla hld hps hpl, ?_⟩
 simp only [go_sem, simprocAttr, hF]
 by_cases hL : (lateX n f ps r x.lt.fr).2 = 0
 case neg =>
  have e1 : ((lateX n f ps r x.lt.fr).2 != 0) = true := by simpa using hL
  have hX : checkX n f ps r x = (lateX n f ps r x.lt.fr).2 := by unfold checkX; rw [if_pos hL]
  try simp only [go_sem, simprocAttr, hF, e1]
  repeat (first
   | (with_reducible (first | refine sg0 ?_ | refine hw0 ?_ | refine se0 ?_ | refine ai0 ?_ | refine as0 ?_ | refine at0 ?_ | refine ax0 ?_); simp only [go_sem, simprocAttr, hF, e1])
   | ((with_reducible refine hg0 ?_); simp only [go_sem, simprocAttr, hF, e1, hbx])
   | with_reducible refine aq0 fun _ _ => ?_
   | (refine awp_draw' (id := 11) [] 33 (by kernel_rfl) (by kernel_rfl) rfl rfl (fun bx0 hbx => ?_); try dsimp only [List.take, List.drop])
   | with_reducible (first | refine ar0 [] ?_ | refine ab0 ?_)
   | go_step)
  all_goals (try rw [hX])
  all_goals (try rfl)
 have e1 : ((lateX n f ps r x.lt.fr).2 != 0) = false := by rw [hL]; rfl
 have LO := lateX_ok hL
 have hN := netOK (basicB_inv LO.base).1
 obtain ⟨y, hy⟩ : ∃ y, y = (lateX n f ps r x.lt.fr).1 := ⟨_, rfl⟩
 rw [← hy]
 have hxl : (([x.lt.fl, x.lt.fr, x.lt.sl] == [y.fl, y.fr, y.sl]) = false ∧ y ≠ x.lt) ∨ (([x.lt.fl, x.lt.fr, x.lt.sl] == [y.fl, y.fr, y.sl]) = true ∧ y = x.lt) := by
  obtain ⟨⟨x1, x2, x3⟩, ca⟩ := x
  obtain ⟨y1, y2, y3⟩ := y
  by_cases h : x1 = y1 ∧ x2 = y2 ∧ x3 = y3
  · obtain ⟨rfl, rfl, rfl⟩ := h
    exact .inr ⟨by simp, rfl⟩
  · refine .inl ⟨?_, fun h2 => h ?_⟩
    · simp only [beq_eq_false_iff_ne, ne_eq, List.cons.injEq, and_true]
      exact h
    · injection h2 with h2 h3 h4
      exact ⟨h2.symm, h3.symm, h4.symm⟩
 rcases hxl with ⟨e2, hne⟩ | ⟨e2, hyx⟩
 case inl =>
  have hX : checkX n f ps r x = 20 := by unfold checkX; rw [if_neg (fun h => h hL), if_pos (.inl (by rw [← hy]; exact hne))]
  try simp only [go_sem, simprocAttr, hF, e1, e2]
  repeat (first
   | (with_reducible (first | refine sg0 ?_ | refine hw0 ?_ | refine se0 ?_ | refine ai0 ?_ | refine as0 ?_ | refine at0 ?_ | refine ax0 ?_); simp only [go_sem, simprocAttr, hF, e1, e2])
   | ((with_reducible refine hg0 ?_); simp only [go_sem, simprocAttr, hF, e1, e2, hbx])
   | with_reducible refine aq0 fun _ _ => ?_
   | (refine awp_draw' (id := 11) [] 33 (by kernel_rfl) (by kernel_rfl) rfl rfl (fun bx0 hbx => ?_); try dsimp only [List.take, List.drop])
   | with_reducible (first | refine ar0 [] ?_ | refine ab0 ?_)
   | go_step)
  all_goals (try rw [hX])
  all_goals (try rfl)
 subst hyx
 by_cases hcl : x.ca.length = ps.length
 case neg =>
  have e3 : ((x.ca.length : Int) != (ps.length : Int)) = true := by rw [bne_iff_ne]; omega
  have hX : checkX n f ps r x = 20 := by unfold checkX; rw [if_neg (fun h => h hL), if_pos (.inr hcl)]
  try simp only [go_sem, simprocAttr, hF, e1, e2, e3]
  repeat (first
   | (with_reducible (first | refine sg0 ?_ | refine hw0 ?_ | refine se0 ?_ | refine ai0 ?_ | refine as0 ?_ | refine at0 ?_ | refine ax0 ?_); simp only [go_sem, simprocAttr, hF, e1, e2, e3])
   | ((with_reducible refine hg0 ?_); simp only [go_sem, simprocAttr, hF, e1, e2, e3, hbx])
   | with_reducible refine aq0 fun _ _ => ?_
   | (refine awp_draw' (id := 11) [] 33 (by kernel_rfl) (by kernel_rfl) rfl rfl (fun bx0 hbx => ?_); try dsimp only [List.take, List.drop])
   | with_reducible (first | refine ar0 [] ?_ | refine ab0 ?_)
   | go_step)
  all_goals (try rw [hX])
  all_goals (try rfl)
 have e3 : ((x.ca.length : Int) != (ps.length : Int)) = false := by rw [hcl]; simp
 have hX : checkX n f ps r x = if (List.zip ps x.ca).all (fun q => okC n f r x.lt.fr q.1 q.2) = true then 0 else 20 := by unfold checkX; rw [if_neg (fun h => h hL), if_neg (by rintro (h | h); exact h hy.symm; exact h hcl)]
 clear hy
 try simp only [go_sem, simprocAttr, hF, e1, e2, e3]
 repeat (first
  | (with_reducible (first | refine sg0 ?_ | refine hw0 ?_ | refine se0 ?_ | refine ai0 ?_ | refine as0 ?_ | refine at0 ?_ | refine ax0 ?_); simp only [go_sem, simprocAttr, hF, e1, e2, e3])
  | ((with_reducible refine hg0 ?_); simp only [go_sem, simprocAttr, hF, e1, e2, e3, hbx])
  | with_reducible refine aq0 fun _ _ => ?_
  | (refine awp_draw' (id := 11) [] 33 (by kernel_rfl) (by kernel_rfl) rfl rfl (fun bx0 hbx => ?_); try dsimp only [List.take, List.drop])
  | with_reducible (first | refine ar0 [] ?_ | refine ab0 ?_)
  | go_step)
 refine awp_loop_by (ι := {k : Nat // k ≤ x.ca.length ∧ ∀ j, j < k → ∀ p c, ps[j]? = some p → x.ca[j]? = some c → okC n f r x.lt.fr p c = true}) (fun k σ => ⟨(47, iv (k.1 : Int)) :: keepS [2, 5, 6, 8, 9, 11, 45, 46] σ.slot, (11, [ip x.lt.fl, ip x.lt.fr, ip x.lt.sl]) :: keepS [5, 6, 8, 9] σ.box, [], σ.ext⟩) (fun k => x.ca.length - k.1) ⟨0, by omega, fun j hj => absurd hj (Nat.not_lt_zero _)⟩ (sub_mk ?_) (fun R hR k => ?_)
 · simp only [go_sem, simprocAttr, hF]
   repeat' (first | rfl | exact True.intro | refine ⟨?_, ?_⟩ | skip)
 obtain ⟨k, hk, hT⟩ := k
 dsimp only
 simp only [go_sem, simprocAttr, hF]
 by_cases hlt : k < x.ca.length
 case neg =>
  have hd : decide ((k : Int) < (x.ca.length : Int)) = false := decide_eq_false (by omega)
  have hgood : checkX n f ps r x = 0 := by
   rw [hX, zip_all (q := fun q => okC n f r x.lt.fr q.1 q.2) (fun j p c h1 h2 => hT j (by have := (List.getElem?_eq_some_iff.1 h2).1; omega) p c h1 h2)]
   rfl
  repeat (first
   | (with_reducible (first | refine sg0 ?_ | refine hw0 ?_ | refine se0 ?_ | refine ai0 ?_ | refine as0 ?_ | refine at0 ?_ | refine ax0 ?_); simp only [go_sem, simprocAttr, hF, hd])
   | ((with_reducible refine hg0 ?_); simp only [go_sem, simprocAttr, hF, hd, hbx])
   | with_reducible refine aq0 fun _ _ => ?_
   | (refine awp_draw' (id := 11) [] 33 (by kernel_rfl) (by kernel_rfl) rfl rfl (fun bx0 hbx => ?_); try dsimp only [List.take, List.drop])
   | with_reducible (first | refine ar0 [] ?_ | refine ab0 ?_)
   | go_step)
  all_goals (try rw [hgood])
  all_goals (try rfl)
 have hd : decide ((k : Int) < (x.ca.length : Int)) = true := decide_eq_true (by omega)
 have hw : IntKind.i64.wrap ((k : Int) + 1) = ((k + 1 : Nat) : Int) := by rw [IntKind.wrap_i64]; omega
 obtain ⟨c, hc2⟩ := get_of_lt hlt
 obtain ⟨p, hp⟩ := get_of_lt (l := ps) (k := k) (by omega)
 have hrt := LO.rt p (List.mem_of_getElem? hp)
 obtain ⟨r1, r2, r3⟩ := route_inv hrt
 repeat (first
  | (with_reducible (first | refine sg0 ?_ | refine hw0 ?_ | refine se0 ?_ | refine ai0 ?_ | refine as0 ?_ | refine at0 ?_ | refine ax0 ?_); simp only [go_sem, simprocAttr, hF, hd, hp, hc2])
  | ((with_reducible refine hg0 ?_); simp only [go_sem, simprocAttr, hF, hd, hp, hc2, hbx])
  | with_reducible refine aq0 fun _ _ => ?_
  | (refine awp_draw' (id := 11) [] 33 (by kernel_rfl) (by kernel_rfl) rfl rfl (fun bx0 hbx => ?_); try dsimp only [List.take, List.drop])
  | with_reducible (first | refine ar0 [] ?_ | refine ab0 ?_)
  | go_step)
 refine ⟨_, sidx_ok p c.fm (by omega), ?_⟩
 simp only [go_sem, simprocAttr, hF]
 rcases find_idx (fun y => c.fm == y) p 0 with ⟨q1, q2⟩ | ⟨i, z, q0, q1, q2, q3⟩
 case inl =>
  have e3 : decide ((-1 : Int) < 0) = true := rfl
  have hbad : checkX n f ps r x = 20 := by
   rw [hX, zip_not hp hc2 (q := fun q => okC n f r x.lt.fr q.1 q.2) (by
    unfold okC
    rw [Bool.and_eq_false_iff]
    left
    rw [Bool.eq_false_iff]
    intro h
    obtain ⟨j, h1, _⟩ := onB_iff.1 h
    have := List.find?_eq_none.1 q1 c.fm (List.mem_of_getElem? h1)
    simp at this
   )]
   rfl
  try simp only [go_sem, simprocAttr, hF, q2, e3]
  repeat (first
   | (with_reducible (first | refine sg0 ?_ | refine hw0 ?_ | refine se0 ?_ | refine ai0 ?_ | refine as0 ?_ | refine at0 ?_ | refine ax0 ?_); simp only [go_sem, simprocAttr, hF, q2, e3])
   | ((with_reducible refine hg0 ?_); simp only [go_sem, simprocAttr, hF, q2, e3, hbx])
   | with_reducible refine aq0 fun _ _ => ?_
   | (refine awp_draw' (id := 11) [] 33 (by kernel_rfl) (by kernel_rfl) rfl rfl (fun bx0 hbx => ?_); try dsimp only [List.take, List.drop])
   | with_reducible (first | refine ar0 [] ?_ | refine ab0 ?_)
   | go_step)
  all_goals (try rw [hbad])
  all_goals (try rfl)
 obtain rfl : c.fm = z := by simpa using q3
 rw [Int.zero_add] at q2
 have e3 : decide ((i : Int) < 0) = false := decide_eq_false (by omega)
 have wi : IntKind.i64.wrap ((i : Int) + 1) = ((i + 1 : Nat) : Int) := by
  have := (List.getElem?_eq_some_iff.1 q0).1
  rw [IntKind.wrap_i64]; omega
 have hon := onB_at hrt (y := c.tt) q0
 by_cases c4 : p.length ≤ i + 1
 case pos =>
  have e4 : decide ((p.length : Int) ≤ ((i + 1 : Nat) : Int)) = true := decide_eq_true (by omega)
  have hbad : checkX n f ps r x = 20 := by
   rw [hX, zip_not hp hc2 (q := fun q => okC n f r x.lt.fr q.1 q.2) (by
    unfold okC
    rw [Bool.and_eq_false_iff]
    left
    rw [Bool.eq_false_iff]
    intro h
    rw [hon, List.getElem?_eq_none c4] at h
    cases h
   )]
   rfl
  try simp only [go_sem, simprocAttr, hF, q2, e3, wi, hp, hc2, e4]
  repeat (first
   | (with_reducible (first | refine sg0 ?_ | refine hw0 ?_ | refine se0 ?_ | refine ai0 ?_ | refine as0 ?_ | refine at0 ?_ | refine ax0 ?_); simp only [go_sem, simprocAttr, hF, q2, e3, wi, hp, hc2, e4])
   | ((with_reducible refine hg0 ?_); simp only [go_sem, simprocAttr, hF, q2, e3, wi, hp, hc2, e4, hbx])
   | with_reducible refine aq0 fun _ _ => ?_
   | (refine awp_draw' (id := 11) [] 33 (by kernel_rfl) (by kernel_rfl) rfl rfl (fun bx0 hbx => ?_); try dsimp only [List.take, List.drop])
   | with_reducible (first | refine ar0 [] ?_ | refine ab0 ?_)
   | go_step)
  all_goals (try rw [hbad])
  all_goals (try rfl)
 have e4 : decide ((p.length : Int) ≤ ((i + 1 : Nat) : Int)) = false := decide_eq_false (by omega)
 obtain ⟨u, hu⟩ := get_of_lt (l := p) (k := i + 1) (by omega)
 by_cases c5 : u = c.tt
 case neg =>
  have e5 : (u != c.tt) = true := by simpa using c5
  have hbad : checkX n f ps r x = 20 := by
   rw [hX, zip_not hp hc2 (q := fun q => okC n f r x.lt.fr q.1 q.2) (by
    unfold okC
    rw [Bool.and_eq_false_iff]
    left
    rw [Bool.eq_false_iff]
    intro h
    rw [hon, hu] at h
    exact c5 (Option.some.inj h)
   )]
   rfl
  try simp only [go_sem, simprocAttr, hF, q2, e3, wi, hp, hc2, e4, hu, e5]
  repeat (first
   | (with_reducible (first | refine sg0 ?_ | refine hw0 ?_ | refine se0 ?_ | refine ai0 ?_ | refine as0 ?_ | refine at0 ?_ | refine ax0 ?_); simp only [go_sem, simprocAttr, hF, q2, e3, wi, hp, hc2, e4, hu, e5])
   | ((with_reducible refine hg0 ?_); simp only [go_sem, simprocAttr, hF, q2, e3, wi, hp, hc2, e4, hu, e5, hbx])
   | with_reducible refine aq0 fun _ _ => ?_
   | (refine awp_draw' (id := 11) [] 33 (by kernel_rfl) (by kernel_rfl) rfl rfl (fun bx0 hbx => ?_); try dsimp only [List.take, List.drop])
   | with_reducible (first | refine ar0 [] ?_ | refine ab0 ?_)
   | go_step)
  all_goals (try rw [hbad])
  all_goals (try rfl)
 have e5 : (u != c.tt) = false := by simpa using c5
 have honT : onB p c.fm c.tt = true := hon.2 (by rw [hu, c5])
 have hokc : okC n f r x.lt.fr p c = (c.fl == f.id && (c.fr == x.lt.fr && (causesX n f r x.lt.fr c.fm c.tt).any fun y => decide (y.sl = c.sl))) := by unfold okC; rw [honT, Bool.true_and, contains_X]
 by_cases c6 : c.fl = f.id
 case neg =>
  have e6 : (c.fl != f.id) = true := by simpa using c6
  have hbad : checkX n f ps r x = 20 := by
   rw [hX, zip_not hp hc2 (q := fun q => okC n f r x.lt.fr q.1 q.2) (by
    rw [hokc, show (c.fl == f.id) = false by simpa using c6]
    rfl
   )]
   rfl
  try simp only [go_sem, simprocAttr, hF, q2, e3, wi, hp, hc2, e4, hu, e5, e6]
  repeat (first
   | (with_reducible (first | refine sg0 ?_ | refine hw0 ?_ | refine se0 ?_ | refine ai0 ?_ | refine as0 ?_ | refine at0 ?_ | refine ax0 ?_); simp only [go_sem, simprocAttr, hF, q2, e3, wi, hp, hc2, e4, hu, e5, e6])
   | ((with_reducible refine hg0 ?_); simp only [go_sem, simprocAttr, hF, q2, e3, wi, hp, hc2, e4, hu, e5, e6, hbx])
   | with_reducible refine aq0 fun _ _ => ?_
   | (refine awp_draw' (id := 11) [] 33 (by kernel_rfl) (by kernel_rfl) rfl rfl (fun bx0 hbx => ?_); try dsimp only [List.take, List.drop])
   | with_reducible (first | refine ar0 [] ?_ | refine ab0 ?_)
   | go_step)
  all_goals (try rw [hbad])
  all_goals (try rfl)
 have e6 : (c.fl != f.id) = false := by simpa using c6
 by_cases c7 : c.fr = x.lt.fr
 case neg =>
  have e7 : (c.fr != x.lt.fr) = true := by simpa using c7
  have hbad : checkX n f ps r x = 20 := by
   rw [hX, zip_not hp hc2 (q := fun q => okC n f r x.lt.fr q.1 q.2) (by
    rw [hokc, show (c.fr == x.lt.fr) = false by simpa using c7, Bool.false_and, Bool.and_false]
   )]
   rfl
  try simp only [go_sem, simprocAttr, hF, q2, e3, wi, hp, hc2, e4, hu, e5, e6, e7]
  repeat (first
   | (with_reducible (first | refine sg0 ?_ | refine hw0 ?_ | refine se0 ?_ | refine ai0 ?_ | refine as0 ?_ | refine at0 ?_ | refine ax0 ?_); simp only [go_sem, simprocAttr, hF, q2, e3, wi, hp, hc2, e4, hu, e5, e6, e7])
   | ((with_reducible refine hg0 ?_); simp only [go_sem, simprocAttr, hF, q2, e3, wi, hp, hc2, e4, hu, e5, e6, e7, hbx])
   | with_reducible refine aq0 fun _ _ => ?_
   | (refine awp_draw' (id := 11) [] 33 (by kernel_rfl) (by kernel_rfl) rfl rfl (fun bx0 hbx => ?_); try dsimp only [List.take, List.drop])
   | with_reducible (first | refine ar0 [] ?_ | refine ab0 ?_)
   | go_step)
  all_goals (try rw [hbad])
  all_goals (try rfl)
 have e7 : (c.fr != x.lt.fr) = false := by simpa using c7
 have hix := r3 i c.fm c.tt q0 (by rw [hu, c5])
 have hok2 : okC n f r x.lt.fr p c = ((causesX n f r x.lt.fr c.fm c.tt).any fun y => decide (y.sl = c.sl)) := by rw [hokc, show (c.fl == f.id) = true by simpa using c6, show (c.fr == x.lt.fr) = true by simpa using c7]; rfl
 try simp only [go_sem, simprocAttr, hF, q2, e3, wi, hp, hc2, e4, hu, e5, e6, e7]
 repeat (first
  | (with_reducible (first | refine sg0 ?_ | refine hw0 ?_ | refine se0 ?_ | refine ai0 ?_ | refine as0 ?_ | refine at0 ?_ | refine ax0 ?_); simp only [go_sem, simprocAttr, hF, q2, e3, wi, hp, hc2, e4, hu, e5, e6, e7])
  | ((with_reducible refine hg0 ?_); simp only [go_sem, simprocAttr, hF, q2, e3, wi, hp, hc2, e4, hu, e5, e6, e7, hbx])
  | with_reducible refine aq0 fun _ _ => ?_
  | (refine awp_draw' (id := 11) [] 33 (by kernel_rfl) (by kernel_rfl) rfl rfl (fun bx0 hbx => ?_); try dsimp only [List.take, List.drop])
  | with_reducible (first | refine ar0 [] ?_ | refine ab0 ?_)
  | go_step)
 refine ⟨_, causes_ok n f r x.lt.fr c.fm c.tt hS LO.base ⟨LO.fr0, LO.fr1⟩ hix hla, ?_⟩
 simp only [go_sem, simprocAttr, hF]
 repeat (first
  | (with_reducible (first | refine sg0 ?_ | refine hw0 ?_ | refine se0 ?_ | refine ai0 ?_ | refine as0 ?_ | refine at0 ?_ | refine ax0 ?_); simp only [go_sem, simprocAttr, hF])
  | ((with_reducible refine hg0 ?_); simp only [go_sem, simprocAttr, hF, hbx])
  | with_reducible refine aq0 fun _ _ => ?_
  | (refine awp_draw' (id := 11) [] 33 (by kernel_rfl) (by kernel_rfl) rfl rfl (fun bx0 hbx => ?_); try dsimp only [List.take, List.drop])
  | with_reducible (first | refine ar0 [] ?_ | refine ab0 ?_)
  | go_step)
 refine ⟨_, contB_ok _ [c.pv] (fun y => decide (y.sl = c.sl)) (causesX n f r x.lt.fr c.fm c.tt) (Nat.le_trans causesX_len hla) (fun y hy => ck1_ok y c (Nat.le_trans (sl_len hy) hla)), ?_⟩
 simp only [go_sem, simprocAttr, hF]
 cases ha : (causesX n f r x.lt.fr c.fm c.tt).any fun y => decide (y.sl = c.sl) with
 | false =>
  have hbad : checkX n f ps r x = 20 := by
   rw [hX, zip_not hp hc2 (q := fun q => okC n f r x.lt.fr q.1 q.2) (by
    rw [hok2, ha]
   )]
   rfl
  try simp only [go_sem, simprocAttr, hF, ha]
  repeat (first
   | (with_reducible (first | refine sg0 ?_ | refine hw0 ?_ | refine se0 ?_ | refine ai0 ?_ | refine as0 ?_ | refine at0 ?_ | refine ax0 ?_); simp only [go_sem, simprocAttr, hF, ha])
   | ((with_reducible refine hg0 ?_); simp only [go_sem, simprocAttr, hF, ha, hbx])
   | with_reducible refine aq0 fun _ _ => ?_
   | (refine awp_draw' (id := 11) [] 33 (by kernel_rfl) (by kernel_rfl) rfl rfl (fun bx0 hbx => ?_); try dsimp only [List.take, List.drop])
   | with_reducible (first | refine ar0 [] ?_ | refine ab0 ?_)
   | go_step)
  all_goals (try rw [hbad])
  all_goals (try rfl)
 | true =>
  try simp only [go_sem, simprocAttr, hF, ha]
  repeat (first
   | (with_reducible (first | refine sg0 ?_ | refine hw0 ?_ | refine se0 ?_ | refine ai0 ?_ | refine as0 ?_ | refine at0 ?_ | refine ax0 ?_); simp only [go_sem, simprocAttr, hF, ha])
   | ((with_reducible refine hg0 ?_); simp only [go_sem, simprocAttr, hF, ha, hbx])
   | with_reducible refine aq0 fun _ _ => ?_
   | (refine awp_draw' (id := 11) [] 33 (by kernel_rfl) (by kernel_rfl) rfl rfl (fun bx0 hbx => ?_); try dsimp only [List.take, List.drop])
   | with_reducible (first | refine ar0 [] ?_ | refine ab0 ?_)
   | go_step)
  refine ⟨⟨k + 1, by omega, fun j hj p' c' h1 h2 => by
   by_cases hjk : j = k
   · subst hjk
     rw [hp] at h1; rw [hc2] at h2; cases h1; cases h2
     rw [hok2, ha]
   · exact hT j (by omega) p' c' h1 h2⟩, by dsimp only; omega, hR _ _ (sub_mk ?_)⟩
  simp only [go_sem, simprocAttr, hF, hw]
/- explain.Causes, by abstract states. -/
set_option maxHeartbeats 20000000 in
theorem causesR_ok (n : Net) (f : Fl) (r : Rec) (fr a b : Int) (hS : SmallN n) (hla : r.al.length ≤ 1000000) (hld : r.dl.length ≤ 1000000) : FnOK Tryz.prog 13 [.agg n.pv, .agg f.pv, .agg r.pv, iv fr, iv a, iv b] ⟨.tup [.c (.sl 5 ((causesR n f r fr a b).1.map Br.pv)), .c (ip (causesR n f r fr a b).2)], none⟩ := by
 refine fn_ok Tryz.func13 (by kernel_rfl) rfl (by rw [Tryz.ntmps13]; exact of_decide_eq_true rfl) (fun F hF => ?_)
 rw [Tryz.ntmps13] at hF
 rw [Tryz.results13]
 cases hB : basicB n f r with
 | false =>
  repeat (first
   | (with_reducible (first | refine sg0 ?_ | refine hw0 ?_ | refine se0 ?_ | refine ai0 ?_ | refine as0 ?_ | refine at0 ?_ | refine ax0 ?_); simp only [go_sem, simprocAttr, hF])
   | with_reducible (first | refine aq0 fun _ _ => ?_ | refine ar0 [] ?_ | refine ab0 ?_)
   | go_step)
  refine ⟨_, base_ok n f r hS hla hld, ?_⟩
  simp only [go_sem, simprocAttr, hF, hB]
  repeat (first
   | ((refine awp_nil (c := .ret) 12 5 57 (by rw [hF]; decide) (by first | rfl | simp only [Av.look]; rfl) ?_); simp only [go_sem, simprocAttr, hF, hB])
   | (with_reducible (first | refine sg0 ?_ | refine hw0 ?_ | refine se0 ?_ | refine ai0 ?_ | refine as0 ?_ | refine at0 ?_ | refine ax0 ?_); simp only [go_sem, simprocAttr, hF, hB])
   | with_reducible (first | refine aq0 fun _ _ => ?_ | refine ar0 [] ?_ | refine ab0 ?_)
   | go_step)
  rw [show causesR n f r fr a b = ([], 1) from by unfold causesR; rw [if_pos hB]]
  all_goals (try rfl)
 | true =>
  have hB' : ¬ basicB n f r = false := by rw [hB]; decide
  obtain ⟨hc, _⟩ := basicB_inv hB
  by_cases c1 : fr < 0
  case pos =>
   have e1 : decide (fr < 0) = true := by first | exact decide_eq_true (by omega) | simpa using c1
   repeat (first
    | (with_reducible (first | refine sg0 ?_ | refine hw0 ?_ | refine se0 ?_ | refine ai0 ?_ | refine as0 ?_ | refine at0 ?_ | refine ax0 ?_); simp only [go_sem, simprocAttr, hF, hB])
    | with_reducible (first | refine aq0 fun _ _ => ?_ | refine ar0 [] ?_ | refine ab0 ?_)
    | go_step)
   refine ⟨_, base_ok n f r hS hla hld, ?_⟩
   simp only [go_sem, simprocAttr, hF, hB]
   repeat (first
    | ((refine awp_nil (c := .ret) 12 5 57 (by rw [hF]; decide) (by first | rfl | simp only [Av.look]; rfl) ?_); simp only [go_sem, simprocAttr, hF, hB, e1])
    | (with_reducible (first | refine sg0 ?_ | refine hw0 ?_ | refine se0 ?_ | refine ai0 ?_ | refine as0 ?_ | refine at0 ?_ | refine ax0 ?_); simp only [go_sem, simprocAttr, hF, hB, e1])
    | with_reducible (first | refine aq0 fun _ _ => ?_ | refine ar0 [] ?_ | refine ab0 ?_)
    | go_step)
   rw [show causesR n f r fr a b = ([], 2) from by unfold causesR; rw [if_neg hB', if_pos (.inl c1)]]
   all_goals (try rfl)
  have e1 : decide (fr < 0) = false := by first | exact decide_eq_false (by omega) | simpa using c1
  by_cases c2 : 1048576 ≤ fr
  case pos =>
   have e2 : decide (fr ≥ 1048576) = true := by first | exact decide_eq_true (by omega) | simpa using c2
   repeat (first
    | (with_reducible (first | refine sg0 ?_ | refine hw0 ?_ | refine se0 ?_ | refine ai0 ?_ | refine as0 ?_ | refine at0 ?_ | refine ax0 ?_); simp only [go_sem, simprocAttr, hF, hB])
    | with_reducible (first | refine aq0 fun _ _ => ?_ | refine ar0 [] ?_ | refine ab0 ?_)
    | go_step)
   refine ⟨_, base_ok n f r hS hla hld, ?_⟩
   simp only [go_sem, simprocAttr, hF, hB]
   repeat (first
    | ((refine awp_nil (c := .ret) 12 5 57 (by rw [hF]; decide) (by first | rfl | simp only [Av.look]; rfl) ?_); simp only [go_sem, simprocAttr, hF, hB, e1, e2])
    | (with_reducible (first | refine sg0 ?_ | refine hw0 ?_ | refine se0 ?_ | refine ai0 ?_ | refine as0 ?_ | refine at0 ?_ | refine ax0 ?_); simp only [go_sem, simprocAttr, hF, hB, e1, e2])
    | with_reducible (first | refine aq0 fun _ _ => ?_ | refine ar0 [] ?_ | refine ab0 ?_)
    | go_step)
   rw [show causesR n f r fr a b = ([], 2) from by unfold causesR; rw [if_neg hB', if_pos (.inr c2)]]
   all_goals (try rfl)
  have e2 : decide (fr ≥ 1048576) = false := by first | exact decide_eq_false (by omega) | simpa using c2
  by_cases c3 : idxL n a b < 0
  case pos =>
   have e3 : decide (idxL n a b < 0) = true := by first | exact decide_eq_true (by omega) | simpa using c3
   repeat (first
    | (with_reducible (first | refine sg0 ?_ | refine hw0 ?_ | refine se0 ?_ | refine ai0 ?_ | refine as0 ?_ | refine at0 ?_ | refine ax0 ?_); simp only [go_sem, simprocAttr, hF, hB])
    | with_reducible (first | refine aq0 fun _ _ => ?_ | refine ar0 [] ?_ | refine ab0 ?_)
    | go_step)
   refine ⟨_, base_ok n f r hS hla hld, ?_⟩
   simp only [go_sem, simprocAttr, hF, hB]
   repeat (first
    | (with_reducible (first | refine sg0 ?_ | refine hw0 ?_ | refine se0 ?_ | refine ai0 ?_ | refine as0 ?_ | refine at0 ?_ | refine ax0 ?_); simp only [go_sem, simprocAttr, hF, hB, e1, e2])
    | with_reducible (first | refine aq0 fun _ _ => ?_ | refine ar0 [] ?_ | refine ab0 ?_)
    | go_step)
   refine ⟨_, nindex_ok n a b hS hc, ?_⟩
   simp only [go_sem, simprocAttr, hF]
   try simp only [go_sem, simprocAttr, hF, e3]
   repeat (first
    | ((refine awp_nil (c := .ret) 12 5 57 (by rw [hF]; decide) (by first | rfl | simp only [Av.look]; rfl) ?_); simp only [go_sem, simprocAttr, hF, e3])
    | (with_reducible (first | refine sg0 ?_ | refine hw0 ?_ | refine se0 ?_ | refine ai0 ?_ | refine as0 ?_ | refine at0 ?_ | refine ax0 ?_); simp only [go_sem, simprocAttr, hF, e3])
    | with_reducible (first | refine aq0 fun _ _ => ?_ | refine ar0 [] ?_ | refine ab0 ?_)
    | go_step)
   rw [show causesR n f r fr a b = ([], 7) from by unfold causesR; rw [if_neg hB', if_neg (by omega), if_pos c3]]
   all_goals (try rfl)
  have e3 : decide (idxL n a b < 0) = false := by first | exact decide_eq_false (by omega) | simpa using c3
  have hR : causesR n f r fr a b = (causesX n f r fr a b, 0) := by unfold causesR; rw [if_neg hB', if_neg (by omega), if_neg c3]
  repeat (first
   | (with_reducible (first | refine sg0 ?_ | refine hw0 ?_ | refine se0 ?_ | refine ai0 ?_ | refine as0 ?_ | refine at0 ?_ | refine ax0 ?_); simp only [go_sem, simprocAttr, hF, hB])
   | with_reducible (first | refine aq0 fun _ _ => ?_ | refine ar0 [] ?_ | refine ab0 ?_)
   | go_step)
  refine ⟨_, base_ok n f r hS hla hld, ?_⟩
  simp only [go_sem, simprocAttr, hF, hB]
  repeat (first
   | (with_reducible (first | refine sg0 ?_ | refine hw0 ?_ | refine se0 ?_ | refine ai0 ?_ | refine as0 ?_ | refine at0 ?_ | refine ax0 ?_); simp only [go_sem, simprocAttr, hF, hB, e1, e2])
   | with_reducible (first | refine aq0 fun _ _ => ?_ | refine ar0 [] ?_ | refine ab0 ?_)
   | go_step)
  refine ⟨_, nindex_ok n a b hS hc, ?_⟩
  simp only [go_sem, simprocAttr, hF]
  try simp only [go_sem, simprocAttr, hF, e3]
  repeat (first
   | (with_reducible (first | refine sg0 ?_ | refine hw0 ?_ | refine se0 ?_ | refine ai0 ?_ | refine as0 ?_ | refine at0 ?_ | refine ax0 ?_); simp only [go_sem, simprocAttr, hF, e3])
   | with_reducible (first | refine aq0 fun _ _ => ?_ | refine ar0 [] ?_ | refine ab0 ?_)
   | go_step)
  refine ⟨_, causes_ok n f r fr a b hS hB ⟨by omega, by omega⟩ (by omega) hla, ?_⟩
  simp only [go_sem, simprocAttr, hF]
  repeat (first
   | (with_reducible (first | refine sg0 ?_ | refine hw0 ?_ | refine se0 ?_ | refine ai0 ?_ | refine as0 ?_ | refine at0 ?_ | refine ax0 ?_); simp only [go_sem, simprocAttr, hF])
   | with_reducible (first | refine aq0 fun _ _ => ?_ | refine ar0 [] ?_ | refine ab0 ?_)
   | go_step)
  all_goals (try rw [hR])
  all_goals (try rfl)
/- The example holds, by abstract states. -/
attribute [local go_sem] Tryz.sz20 Tryz.zr20 Tryz.by20 Tryz.pl20 Tryz.is20 Tryz.underlying20 Tryz.sz89 Tryz.zr89 Tryz.by89 Tryz.pl89 Tryz.is89 Tryz.underlying89 Tryz.sz132 Tryz.zr132 Tryz.by132 Tryz.pl132 Tryz.is132 Tryz.underlying132 Tryz.sz113 Tryz.zr113 Tryz.by113 Tryz.pl113 Tryz.is113 Tryz.underlying113 Tryz.sz9 Tryz.zr9 Tryz.by9 Tryz.pl9 Tryz.is9 Tryz.underlying9
theorem smallL : SmallN nL := ⟨by decide, by decide, by decide, by decide⟩
theorem awF3 : FnOK Tryz.prog 11 [.agg nL.pv, .agg fL.pv, .sl 1 (psL.map prow_pv), .agg rL.pv, iv 3] ⟨.tup [.g xL.pv, .c (ip 0)], none⟩ := by
 have h := find_okX nL fL psL rL 3 smallL (by decide) (by decide) (by decide) (by decide)
 rw [aw_find3] at h
 exact h
theorem awF2 : FnOK Tryz.prog 11 [.agg nL.pv, .agg fL.pv, .sl 1 (psL.map prow_pv), .agg rL.pv, iv 2] ⟨.tup [.g ex0.pv, .c (ip 7)], none⟩ := by
 have h := find_okX nL fL psL rL 2 smallL (by decide) (by decide) (by decide) (by decide)
 rw [aw_find2] at h
 exact h
theorem awCs : FnOK Tryz.prog 13 [.agg nL.pv, .agg fL.pv, .agg rL.pv, iv 3, iv 2, iv 1] ⟨.tup [.c (.sl 5 ([bL].map Br.pv)), .c (ip 0)], none⟩ := by
 have h := causesR_ok nL fL rL 3 2 1 smallL (by decide) (by decide)
 rw [aw_causes] at h
 exact h
theorem awC1 : FnOK Tryz.prog 20 [.agg nL.pv, .agg fL.pv, .sl 1 (psL.map prow_pv), .agg rL.pv, .agg xL.pv] ⟨iv 0, none⟩ := by
 have h := check_okX nL fL psL rL xL smallL (by decide) (by decide) (by decide) (by decide)
 rw [aw_ck] at h
 exact h
theorem awC2 : FnOK Tryz.prog 20 [.agg nL.pv, .agg fL.pv, .sl 1 (psL.map prow_pv), .agg rL.pv, .agg [ip 6, ip 3, ip (-1), .v (.slice none 0 0)]] ⟨iv 20, none⟩ := by
 have h := check_okX nL fL psL rL yL smallL (by decide) (by decide) (by decide) (by decide)
 rw [aw_ck2] at h
 exact fnOK_le h (.cons (.refl _) (.cons (.refl _) (.cons (.refl _) (.cons (.refl _) (.cons (.agg (.cons (.refl _) (.cons (.refl _) (.cons (.refl _) (.cons (.nil 5) .nil))))) .nil)))))
theorem awFm : FnOK Tryz.prog 18 [.agg xL.pv] ⟨.tup [.c (.v (.string sL)), .c (ip 0)], none⟩ := by
 have h := (format_okC (fun _ => True) (fun _ h => h) xL (by decide) (by decide) (fun i hi h => by
  have hlt : i < 100 := by
   rcases h with rfl | rfl | rfl | ⟨c, hc, h⟩
   · decide
   · decide
   · decide
   · obtain rfl : c = bL := List.mem_singleton.1 hc
     rcases h with rfl | rfl | h
     · decide
     · decide
     · rcases List.mem_cons.1 h with rfl | h
       · decide
       · obtain rfl := List.mem_singleton.1 h
         decide
  have := itoaS_ok i.toNat (by omega)
  rw [Int.toNat_of_nonneg hi.1] at this
  exact this.c)).plain
 rw [aw_fmt] at h
 exact h

set_option maxHeartbeats 20000000 in
theorem awake_ok : FnOK Tryz.prog 9 [] ⟨bv true, none⟩ := by
 have hca : xL.ca = [bL] := rfl
 have hx1 : xL.lt.fl = 6 := rfl
 have hx2 : xL.lt.fr = 3 := rfl
 have hx3 : xL.lt.sl = -1 := rfl
 have hs : (sL.toList == (⟨#[102, 108, 111, 119, 32, 54, 32, 102, 114, 97, 109, 101, 32, 51, 32, 110, 111, 116, 32, 100, 101, 108, 105, 118, 101, 114, 101, 100, 10, 108, 105, 110, 107, 32, 50, 32, 116, 111, 32, 49, 32, 108, 111, 115, 116, 32, 105, 110, 32, 115, 108, 111, 116, 115, 32, 50, 53, 32, 50, 54, 10]⟩ : ByteArray).toList) = true := beq_self_eq_true sL.toList
 have heq : decide (bL.sl = [25, 26]) = true := by decide
 refine fn_ok Tryz.func9 (by kernel_rfl) rfl (by rw [Tryz.ntmps9]; exact of_decide_eq_true rfl) (fun F hF => ?_)
 rw [Tryz.ntmps9] at hF
 rw [Tryz.results9]
 repeat (first
  | (with_reducible (first | refine sg0 ?_ | refine hw0 ?_ | refine se0 ?_ | refine ai0 ?_ | refine as0 ?_ | refine at0 ?_ | refine ax0 ?_); simp only [go_sem, simprocAttr, hF, cz0, cz1, cz2, cz3, cz4, tz0, tz1, tz2, tz3])
  | with_reducible (first | refine aq0 fun _ _ => ?_ | refine ar0 [29] ?_ | refine ab0 ?_)
  | go_step)
 refine ⟨_, lineL_ok, ?_⟩
 simp only [go_sem, simprocAttr, hF]
 repeat (first
  | (with_reducible (first | refine sg0 ?_ | refine hw0 ?_ | refine se0 ?_ | refine ai0 ?_ | refine as0 ?_ | refine at0 ?_ | refine ax0 ?_); simp only [go_sem, simprocAttr, hF, cz0, cz1, cz2, cz3, cz4, tz0, tz1, tz2, tz3])
  | with_reducible (first | refine aq0 fun _ _ => ?_ | refine ar0 [29] ?_ | refine ab0 ?_)
  | go_step)
 refine awp_nilB 4 1 8 66 (cs := _) rfl rfl ?_
 simp only [go_sem, simprocAttr, hF, cz0, cz1, cz2, cz3, cz4, tz0, tz1, tz2, tz3]
 refine awp_nilB 4 2 3 137 (cs := _) rfl rfl ?_
 simp only [go_sem, simprocAttr, hF, cz0, cz1, cz2, cz3, cz4, tz0, tz1, tz2, tz3]
 repeat (first
  | (with_reducible (first | refine sg0 ?_ | refine hw0 ?_ | refine se0 ?_ | refine ai0 ?_ | refine as0 ?_ | refine at0 ?_ | refine ax0 ?_); simp only [go_sem, simprocAttr, hF, cz0, cz1, cz2, cz3, cz4, tz0, tz1, tz2, tz3])
  | with_reducible (first | refine aq0 fun _ _ => ?_ | refine ar0 [29] ?_ | refine ab0 ?_)
  | go_step)
 refine awp_loop_by (ι := {k : Nat // k ≤ 2}) (fun k σ => ⟨(23, iv (k.1 : Int)) :: keepS [0, 1, 2, 3, 4, 21, 22] σ.slot, [(4, [ip 32, .sl 8 ((rL.al.take k.1).map Att.pv), .sl 3 []]), (1, nL.pv), (2, fL.pv)], [(.b 4 1, (66, 8)), (.b 4 2, (137, 3))], σ.ext⟩) (fun k => 2 - k.1) ⟨0, by omega⟩ (sub_mk ?_) (fun R hR k => ?_)
 · simp only [go_sem, simprocAttr, hF]
   repeat' (first | rfl | exact True.intro | refine ⟨?_, ?_⟩)
 obtain ⟨k, hk⟩ := k
 dsimp only
 simp only [go_sem, simprocAttr, hF]
 have hks : k = 0 ∨ k = 1 ∨ k = 2 := by omega
 rcases hks with rfl | rfl | rfl
 · have hd : decide (((0 : Nat) : Int) < 2) = true := rfl
   have hw : IntKind.i64.wrap (((0 : Nat) : Int) + 1) = ((1 : Nat) : Int) := rfl
   have hTk : (rL.al.take 0).length ≤ 99999999 := by decide
   repeat (first
    | (with_reducible (first | refine sg0 ?_ | refine hw0 ?_ | refine se0 ?_ | refine ai0 ?_ | refine as0 ?_ | refine at0 ?_ | refine ax0 ?_); simp only [go_sem, simprocAttr, hF, hd, hTk, Int.toNat_natCast, tz0, tz1, tz2, tz3])
    | with_reducible (first | refine aq0 fun _ _ => ?_ | refine ar0 [29] ?_ | refine ab0 ?_)
    | go_step)
   refine ⟨⟨1, by omega⟩, by dsimp only; omega, hR _ _ (sub_mk ?_)⟩
   simp only [go_sem, simprocAttr, hF, hw]
   repeat' (first | rfl | exact True.intro | refine ⟨?_, ?_⟩)
 · have hd : decide (((1 : Nat) : Int) < 2) = true := rfl
   have hw : IntKind.i64.wrap (((1 : Nat) : Int) + 1) = ((2 : Nat) : Int) := rfl
   have hTk : (rL.al.take 1).length ≤ 99999999 := by decide
   repeat (first
    | (with_reducible (first | refine sg0 ?_ | refine hw0 ?_ | refine se0 ?_ | refine ai0 ?_ | refine as0 ?_ | refine at0 ?_ | refine ax0 ?_); simp only [go_sem, simprocAttr, hF, hd, hTk, Int.toNat_natCast, tz0, tz1, tz2, tz3])
    | with_reducible (first | refine aq0 fun _ _ => ?_ | refine ar0 [29] ?_ | refine ab0 ?_)
    | go_step)
   refine ⟨⟨2, by omega⟩, by dsimp only; omega, hR _ _ (sub_mk ?_)⟩
   simp only [go_sem, simprocAttr, hF, hw]
   repeat' (first | rfl | exact True.intro | refine ⟨?_, ?_⟩)
 · have hd : decide (((2 : Nat) : Int) < 2) = false := rfl
   repeat (first
    | (with_reducible (first | refine sg0 ?_ | refine hw0 ?_ | refine se0 ?_ | refine ai0 ?_ | refine as0 ?_ | refine at0 ?_ | refine ax0 ?_); simp only [go_sem, simprocAttr, hF, hd])
    | with_reducible (first | refine aq0 fun _ _ => ?_ | refine ar0 [29] ?_ | refine ab0 ?_)
    | go_step)
   refine ⟨_, awF3, ?_⟩
   simp only [go_sem, simprocAttr, hF]
   repeat (first
    | (with_reducible (first | refine sg0 ?_ | refine hw0 ?_ | refine se0 ?_ | refine ai0 ?_ | refine as0 ?_ | refine at0 ?_ | refine ax0 ?_); simp only [go_sem, simprocAttr, hF, hx1, hx2, hx3, hca, cz0, cz1, cz2, cz3, cz4, tz0, tz1, tz2, tz3])
    | with_reducible (first | refine aq0 fun _ _ => ?_ | refine ar0 [29] ?_ | refine ab0 ?_)
    | go_step)
   refine ⟨_, awFm, ?_⟩
   simp only [go_sem, simprocAttr, hF, hx1, hx2, hx3, hca, cz0, cz1, cz2, cz3, cz4, tz0, tz1, tz2, tz3]
   repeat (first
    | (with_reducible (first | refine sg0 ?_ | refine hw0 ?_ | refine se0 ?_ | refine ai0 ?_ | refine as0 ?_ | refine at0 ?_ | refine ax0 ?_); simp only [go_sem, simprocAttr, hF, hx1, hx2, hx3, hca, cz0, cz1, cz2, cz3, cz4, tz0, tz1, tz2, tz3])
    | with_reducible (first | refine aq0 fun _ _ => ?_ | refine ar0 [29] ?_ | refine ab0 ?_)
    | go_step)
   refine ⟨_, awF2, ?_⟩
   simp only [go_sem, simprocAttr, hF, hx1, hx2, hx3, hca, cz0, cz1, cz2, cz3, cz4, tz0, tz1, tz2, tz3]
   repeat (first
    | (with_reducible (first | refine sg0 ?_ | refine hw0 ?_ | refine se0 ?_ | refine ai0 ?_ | refine as0 ?_ | refine at0 ?_ | refine ax0 ?_); simp only [go_sem, simprocAttr, hF, hx1, hx2, hx3, hca, cz0, cz1, cz2, cz3, cz4, tz0, tz1, tz2, tz3])
    | with_reducible (first | refine aq0 fun _ _ => ?_ | refine ar0 [29] ?_ | refine ab0 ?_)
    | go_step)
   refine ⟨_, awCs, ?_⟩
   simp only [go_sem, simprocAttr, hF, hx1, hx2, hx3, hca, cz0, cz1, cz2, cz3, cz4, tz0, tz1, tz2, tz3]
   repeat (first
    | (with_reducible (first | refine sg0 ?_ | refine hw0 ?_ | refine se0 ?_ | refine ai0 ?_ | refine as0 ?_ | refine at0 ?_ | refine ax0 ?_); simp only [go_sem, simprocAttr, hF, hx1, hx2, hx3, hca, cz0, cz1, cz2, cz3, cz4, tz0, tz1, tz2, tz3])
    | with_reducible (first | refine aq0 fun _ _ => ?_ | refine ar0 [29] ?_ | refine ab0 ?_)
    | go_step)
   refine ⟨_, eqI_ok bL.sl [25, 26] (by decide), ?_⟩
   simp only [go_sem, simprocAttr, hF, heq]
   repeat (first
    | (with_reducible (first | refine sg0 ?_ | refine hw0 ?_ | refine se0 ?_ | refine ai0 ?_ | refine as0 ?_ | refine at0 ?_ | refine ax0 ?_); simp only [go_sem, simprocAttr, hF, hx1, hx2, hx3, hca, cz0, cz1, cz2, cz3, cz4, tz0, tz1, tz2, tz3, hs, heq])
    | with_reducible (first | refine aq0 fun _ _ => ?_ | refine ar0 [29] ?_ | refine ab0 ?_)
    | go_step)
   refine ⟨_, awC1, ?_⟩
   simp only [go_sem, simprocAttr, hF, hx1, hx2, hx3, hca, cz0, cz1, cz2, cz3, cz4, tz0, tz1, tz2, tz3]
   repeat (first
    | (with_reducible (first | refine sg0 ?_ | refine hw0 ?_ | refine se0 ?_ | refine ai0 ?_ | refine as0 ?_ | refine at0 ?_ | refine ax0 ?_); simp only [go_sem, simprocAttr, hF, hx1, hx2, hx3, hca, cz0, cz1, cz2, cz3, cz4, tz0, tz1, tz2, tz3])
    | with_reducible (first | refine aq0 fun _ _ => ?_ | refine ar0 [29] ?_ | refine ab0 ?_)
    | go_step)
   refine ⟨_, awC2, ?_⟩
   simp only [go_sem, simprocAttr, hF, hx1, hx2, hx3, hca, cz0, cz1, cz2, cz3, cz4, tz0, tz1, tz2, tz3]
   repeat (first
    | (with_reducible (first | refine sg0 ?_ | refine hw0 ?_ | refine se0 ?_ | refine ai0 ?_ | refine as0 ?_ | refine at0 ?_ | refine ax0 ?_); simp only [go_sem, simprocAttr, hF, hx1, hx2, hx3, hca, cz0, cz1, cz2, cz3, cz4, tz0, tz1, tz2, tz3])
    | with_reducible (first | refine aq0 fun _ _ => ?_ | refine ar0 [29] ?_ | refine ab0 ?_)
    | go_step)
   all_goals (try rfl)
end Go.Proofs.YticnppnejafhdaaGreatDoor

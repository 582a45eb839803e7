import Derived.Laws.OwnMore
import Derived.Laws.CopyRow
import Derived.Shelf.Abstract
import Derived.Test.YticnppnejafhdaaGreatDoorZ11
/- explain.base and check, by abstract states. -/
namespace Go.Proofs.YticnppnejafhdaaGreatDoor
open Go.RowKit
open Nd Rc Mo
open Av
set_option maxRecDepth 100000
set_option linter.unusedSimpArgs false
attribute [local go_sem] Av.guardB Av.sop Av.hopx Av.hop Av.hopCall Av.hopF Av.hopB Av.evo Av.evos Av.avCells Av.loadK Av.bound Av.abin Av.aun Av.partsC Av.lfill Av.placesB Av.setAt Av.stl Av.takes Av.src Av.bxOf Av.ownOf Av.St.res Av.St.put Av.St.addBox Av.St.putOwn Av.delL Av.delS Av.look Av.lookL Av.storeSt Av.stealSt Av.St.setBox Av.keepL Av.hitB Av.snap Av.snaps Av.snapCaps Av.AV.lit Av.AV.refs Av.capRefs Av.PV.av Av.CV.av Av.startSt Av.steals Av.athen Av.ablock Av.appK Av.AllS Av.AllO Av.AllR Av.keepS Av.St.avAt Av.RetOK Av.retAll Av.retOne Av.intsOf Av.ptrB TypeDesc.isRow List.range_zero Option.some.injEq exists_eq_left' exists_eq_left exists_eq' exists_and_left exists_and_right exists_const true_and and_true and_self false_and and_false or_false false_or or_true true_or if_true if_false Bool.false_eq_true List.zipIdx_cons List.zipIdx_nil List.map_cons List.map_nil List.filter_cons List.filter_nil List.contains_cons List.contains_nil List.drop_succ_cons List.drop_zero List.take_succ_cons List.take_zero List.take_nil List.drop_nil List.length_cons List.length_nil List.cons_append List.nil_append List.append_nil List.getElem?_cons_zero List.getElem?_cons_succ List.getElem?_nil Option.bind_some Option.bind_none Option.map_some Option.map_none Option.isNone_none Option.isNone_some Option.isSome_some Option.isSome_none Bool.and_true Bool.true_and Bool.and_false Bool.false_and Bool.or_false Bool.false_or Bool.not_true Bool.not_false beq_true beq_false Bool.true_beq Bool.false_beq Loc.s.injEq Loc.b.injEq decide_true decide_false beq_self_eq_true Nat.zero_add Nat.add_zero List.getElem?_toArray List.toList_toArray List.size_toArray Value.oneCell' List.all_cons List.all_nil Value.int.injEq AV.v.injEq AV.sl.injEq AV.agg.injEq AV.ref.injEq AV.ept.injEq AV.tup.injEq Value.bool.injEq PV.v.injEq PV.sl.injEq List.isEmpty_nil List.isEmpty_cons forall_const not_true_eq_false not_false_eq_true true_implies false_implies Value.string.injEq List.length_map List.getElem?_map Int.toNat_natCast Int.natCast_nonneg List.length_append Value.cells implies_true TypeDesc.struct.injEq TypeDesc.slice.injEq TypeDesc.array.injEq List.getElem?_toArray Prod.mk.injEq and_assoc exists_false List.cons.injEq Operand.tmp.injEq ite_self AV.fnv.injEq AV.clo.injEq ne_eq eq_self Tryz.sz3 Tryz.zr3 Tryz.by3 Tryz.pl3 Tryz.is3 Tryz.underlying3 Tryz.sz4 Tryz.zr4 Tryz.by4 Tryz.pl4 Tryz.is4 Tryz.underlying4 Tryz.sz43 Tryz.zr43 Tryz.by43 Tryz.pl43 Tryz.is43 Tryz.underlying43 Tryz.sz35 Tryz.zr35 Tryz.by35 Tryz.pl35 Tryz.is35 Tryz.underlying35 Tryz.sz33 Tryz.zr33 Tryz.by33 Tryz.pl33 Tryz.is33 Tryz.underlying33 Tryz.sz28 Tryz.zr28 Tryz.by28 Tryz.pl28 Tryz.is28 Tryz.underlying28 Tryz.sz39 Tryz.zr39 Tryz.by39 Tryz.pl39 Tryz.is39 Tryz.underlying39 Tryz.sz57 Tryz.zr57 Tryz.by57 Tryz.pl57 Tryz.is57 Tryz.underlying57 Tryz.sz137 Tryz.zr137 Tryz.by137 Tryz.pl137 Tryz.is137 Tryz.underlying137 Tryz.sz66 Tryz.zr66 Tryz.by66 Tryz.pl66 Tryz.is66 Tryz.underlying66 Tryz.sz64 Tryz.zr64 Tryz.by64 Tryz.pl64 Tryz.is64 Tryz.underlying64 Tryz.sz60 Tryz.zr60 Tryz.by60 Tryz.pl60 Tryz.is60 Tryz.underlying60 Tryz.sz100 Tryz.zr100 Tryz.by100 Tryz.pl100 Tryz.is100 Tryz.underlying100 Tryz.sz103 Tryz.zr103 Tryz.by103 Tryz.pl103 Tryz.is103 Tryz.underlying103 Tryz.sz26 Tryz.zr26 Tryz.by26 Tryz.pl26 Tryz.is26 Tryz.underlying26 Tryz.sz120 Tryz.zr120 Tryz.by120 Tryz.pl120 Tryz.is120 Tryz.underlying120 Tryz.sz117 Tryz.zr117 Tryz.by117 Tryz.pl117 Tryz.is117 Tryz.underlying117 Tryz.sz30 Tryz.zr30 Tryz.by30 Tryz.pl30 Tryz.is30 Tryz.underlying30 Tryz.sz31 Tryz.zr31 Tryz.by31 Tryz.pl31 Tryz.is31 Tryz.underlying31 Tryz.sz40 Tryz.zr40 Tryz.by40 Tryz.pl40 Tryz.is40 Tryz.underlying40 Tryz.sz23 Tryz.zr23 Tryz.by23 Tryz.pl23 Tryz.is23 Tryz.underlying23 Tryz.sz24 Tryz.zr24 Tryz.by24 Tryz.pl24 Tryz.is24 Tryz.underlying24 Tryz.sz22 Tryz.zr22 Tryz.by22 Tryz.pl22 Tryz.is22 Tryz.underlying22 Tryz.sz141 Tryz.zr141 Tryz.by141 Tryz.pl141 Tryz.is141 Tryz.underlying141 Tryz.sz42 Tryz.zr42 Tryz.by42 Tryz.pl42 Tryz.is42 Tryz.underlying42 Tryz.sz29 Tryz.zr29 Tryz.by29 Tryz.pl29 Tryz.is29 Tryz.underlying29 Tryz.sz83 Tryz.zr83 Tryz.by83 Tryz.pl83 Tryz.is83 Tryz.underlying83 Tryz.sz67 Tryz.zr67 Tryz.by67 Tryz.pl67 Tryz.is67 Tryz.underlying67 Tryz.it39 Tryz.eg39 Tryz.it137 Tryz.eg137 Tryz.it66 Tryz.eg66 Tryz.it28 Tryz.eg28 Tryz.it60 Tryz.eg60 all_arr loc_ss loc_sb loc_bs loc_bb arr_two arr_one rg1 rg2 rg3 rg4 rg5 rg6 rg7 rg8 ResultVar.tmp.injEq Bool.not_true Bool.not_false undef Rc.Rec.pv Nd.Fl.pv Rc.Dlv.pv Rc.Att.pv Mo.Lt.pv Fn.func.injEq Mo.Net.pv Mo.Lk.pv prow_pv irow_pv Br.pv
set_option maxHeartbeats 20000000 in
theorem base_ok (n : Net) (f : Fl) (r : Rec) (hS : SmallN n) (hla : r.al.length ≤ 1000000) (hld : r.dl.length ≤ 1000000) : FnOK Tryz.prog 40 [.agg n.pv, .agg f.pv, .agg r.pv] ⟨bv (basicB n f r), none⟩ := by
  refine fn_ok Tryz.func40 (by kernel_rfl) rfl (by rw [Tryz.ntmps40]; exact of_decide_eq_true rfl) (fun F hF => ?_)
  rw [Tryz.ntmps40] at hF
  rw [Tryz.results40]
  by_cases h1 : chkN n = 0
  case neg =>
    have e1 : (chkN n != 0) = true := by simpa using h1
    have hB : basicB n f r = false := by unfold basicB; rw [decide_eq_false h1]; rfl
    rw [hB]
    repeat (first
      | ((first | with_reducible refine sops_go ?_ | with_reducible refine headW_end ?_ | with_reducible refine sops_end ?_ | with_reducible refine awp_if ?_ | with_reducible refine awp_skip ?_ | with_reducible refine awp_ret ?_ | with_reducible refine awp_exit ?_); simp only [go_sem, simprocAttr, hF, e1])
      | (with_reducible refine awp_seq_k (fun _ _ => ?_))
      | (with_reducible refine awp_region [] ?_)
      | (with_reducible refine awp_block ?_)
      | go_step)
    refine ⟨_, ncheck_ok n hS.pow hS.rows hS.lk hS.mg, ?_⟩
    simp only [go_sem, simprocAttr, hF, e1]
    repeat (first
      | ((first | with_reducible refine sops_go ?_ | with_reducible refine headW_end ?_ | with_reducible refine sops_end ?_ | with_reducible refine awp_if ?_ | with_reducible refine awp_skip ?_ | with_reducible refine awp_ret ?_ | with_reducible refine awp_exit ?_); simp only [go_sem, simprocAttr, hF, e1])
      | (with_reducible refine awp_seq_k (fun _ _ => ?_))
      | (with_reducible refine awp_region [] ?_)
      | (with_reducible refine awp_block ?_)
      | go_step)
    all_goals (try rfl)
  have e1 : (chkN n != 0) = false := by simpa using h1
  cases hg : good r with
  | false =>
    have hr : checkE r = 1 := by rw [checkE, hg]; rfl
    have e2 : ((checkE r) != 0) = true := by rw [hr]; rfl
    have hB : basicB n f r = false := by unfold basicB; rw [hg, decide_eq_true h1]; rfl
    rw [hB]
    repeat (first
      | ((first | with_reducible refine sops_go ?_ | with_reducible refine headW_end ?_ | with_reducible refine sops_end ?_ | with_reducible refine awp_if ?_ | with_reducible refine awp_skip ?_ | with_reducible refine awp_ret ?_ | with_reducible refine awp_exit ?_); simp only [go_sem, simprocAttr, hF, e1, e2])
      | (with_reducible refine awp_seq_k (fun _ _ => ?_))
      | (with_reducible refine awp_region [] ?_)
      | (with_reducible refine awp_block ?_)
      | go_step)
    refine ⟨_, ncheck_ok n hS.pow hS.rows hS.lk hS.mg, ?_⟩
    simp only [go_sem, simprocAttr, hF, e1]
    repeat (first
      | ((first | with_reducible refine sops_go ?_ | with_reducible refine headW_end ?_ | with_reducible refine sops_end ?_ | with_reducible refine awp_if ?_ | with_reducible refine awp_skip ?_ | with_reducible refine awp_ret ?_ | with_reducible refine awp_exit ?_); simp only [go_sem, simprocAttr, hF, e1, e2])
      | (with_reducible refine awp_seq_k (fun _ _ => ?_))
      | (with_reducible refine awp_region [] ?_)
      | (with_reducible refine awp_block ?_)
      | go_step)
    refine ⟨_, check_ok r hla hld, ?_⟩
    simp only [go_sem, simprocAttr, hF, e2]
    repeat (first
      | ((first | with_reducible refine sops_go ?_ | with_reducible refine headW_end ?_ | with_reducible refine sops_end ?_ | with_reducible refine awp_if ?_ | with_reducible refine awp_skip ?_ | with_reducible refine awp_ret ?_ | with_reducible refine awp_exit ?_); simp only [go_sem, simprocAttr, hF, e1, e2])
      | (with_reducible refine awp_seq_k (fun _ _ => ?_))
      | (with_reducible refine awp_region [] ?_)
      | (with_reducible refine awp_block ?_)
      | go_step)
    all_goals (try rfl)
  | true =>
    have hr : checkE r = 0 := by rw [checkE, hg]; rfl
    have e2 : ((checkE r) != 0) = false := by rw [hr]; rfl
    have hB : basicB n f r = ((chkF1 n.nodes f).2 == 0) := by unfold basicB; rw [hg, decide_eq_true h1, Bool.true_and, Bool.true_and]; exact (Bool.beq_eq_decide_eq _ _).symm
    rw [hB]
    repeat (first
      | ((first | with_reducible refine sops_go ?_ | with_reducible refine headW_end ?_ | with_reducible refine sops_end ?_ | with_reducible refine awp_if ?_ | with_reducible refine awp_skip ?_ | with_reducible refine awp_ret ?_ | with_reducible refine awp_exit ?_); simp only [go_sem, simprocAttr, hF, e1, e2])
      | (with_reducible refine awp_seq_k (fun _ _ => ?_))
      | (with_reducible refine awp_region [] ?_)
      | (with_reducible refine awp_block ?_)
      | go_step)
    refine ⟨_, ncheck_ok n hS.pow hS.rows hS.lk hS.mg, ?_⟩
    simp only [go_sem, simprocAttr, hF, e1]
    repeat (first
      | ((first | with_reducible refine sops_go ?_ | with_reducible refine headW_end ?_ | with_reducible refine sops_end ?_ | with_reducible refine awp_if ?_ | with_reducible refine awp_skip ?_ | with_reducible refine awp_ret ?_ | with_reducible refine awp_exit ?_); simp only [go_sem, simprocAttr, hF, e1, e2])
      | (with_reducible refine awp_seq_k (fun _ _ => ?_))
      | (with_reducible refine awp_region [] ?_)
      | (with_reducible refine awp_block ?_)
      | go_step)
    refine ⟨_, check_ok r hla hld, ?_⟩
    simp only [go_sem, simprocAttr, hF, e2]
    repeat (first
      | ((first | with_reducible refine sops_go ?_ | with_reducible refine headW_end ?_ | with_reducible refine sops_end ?_ | with_reducible refine awp_if ?_ | with_reducible refine awp_skip ?_ | with_reducible refine awp_ret ?_ | with_reducible refine awp_exit ?_); simp only [go_sem, simprocAttr, hF, e1, e2])
      | (with_reducible refine awp_seq_k (fun _ _ => ?_))
      | (with_reducible refine awp_region [] ?_)
      | (with_reducible refine awp_block ?_)
      | go_step)
    refine ⟨_, fCheck_ok n.nodes f, ?_⟩
    simp only [go_sem, simprocAttr, hF]
    repeat (first
      | ((first | with_reducible refine sops_go ?_ | with_reducible refine headW_end ?_ | with_reducible refine sops_end ?_ | with_reducible refine awp_if ?_ | with_reducible refine awp_skip ?_ | with_reducible refine awp_ret ?_ | with_reducible refine awp_exit ?_); simp only [go_sem, simprocAttr, hF])
      | (with_reducible refine awp_seq_k (fun _ _ => ?_))
      | (with_reducible refine awp_region [] ?_)
      | (with_reducible refine awp_block ?_)
      | go_step)
    all_goals (try rfl)

set_option maxHeartbeats 2000000 in
theorem check1_ok (n : Net) (f : Fl) (p : List Int) (hS : SmallN n) (hc : chkN n = 0) (hfr : 0 ≤ f.fr ∧ f.fr < n.nodes) (htn : 0 ≤ f.tn ∧ f.tn < n.nodes) (hne : f.fr ≠ f.tn) (hl : p.length ≤ 1000000) : FnOK Tryz.prog 65 [.sl 1 (p.map irow_pv), .ept n.pv, .ept f.pv] ⟨bv (!(routeE n f.fr f.tn p == 0)), none⟩ := by
  refine fn_ok Tryz.func65 (by kernel_rfl) rfl (by rw [Tryz.ntmps65]; exact of_decide_eq_true rfl) (fun F hF => ?_)
  rw [Tryz.ntmps65] at hF
  rw [Tryz.results65]
  repeat (first
    | ((first | with_reducible refine sops_go ?_ | with_reducible refine headW_end ?_ | with_reducible refine sops_end ?_ | with_reducible refine awp_if ?_ | with_reducible refine awp_skip ?_ | with_reducible refine awp_ret ?_ | with_reducible refine awp_exit ?_); simp only [go_sem, simprocAttr, hF])
    | (with_reducible refine awp_seq_k (fun _ _ => ?_))
    | (with_reducible refine awp_region [] ?_)
    | (with_reducible refine awp_block ?_)
    | go_step)
  refine ⟨_, rcheckP_ok n f.fr f.tn p hS hc hfr htn hne hl, ?_⟩
  simp only [go_sem, simprocAttr, hF]
  repeat (first
    | ((first | with_reducible refine sops_go ?_ | with_reducible refine headW_end ?_ | with_reducible refine sops_end ?_ | with_reducible refine awp_if ?_ | with_reducible refine awp_skip ?_ | with_reducible refine awp_ret ?_ | with_reducible refine awp_exit ?_); simp only [go_sem, simprocAttr, hF])
    | (with_reducible refine awp_seq_k (fun _ _ => ?_))
    | (with_reducible refine awp_region [] ?_)
    | (with_reducible refine awp_block ?_)
    | go_step)
  all_goals (try rfl)

set_option maxHeartbeats 2000000 in
theorem check2_ok (x : Lt) (fr : Int) : FnOK Tryz.prog 69 [.agg x.pv, .ept [ip fr]] ⟨bv (x.fr == fr), none⟩ := by
  refine fn_ok Tryz.func69 (by kernel_rfl) rfl (by rw [Tryz.ntmps69]; exact of_decide_eq_true rfl) (fun F hF => ?_)
  rw [Tryz.ntmps69] at hF
  rw [Tryz.results69]
  repeat (first
    | ((first | with_reducible refine sops_go ?_ | with_reducible refine headW_end ?_ | with_reducible refine sops_end ?_ | with_reducible refine awp_if ?_ | with_reducible refine awp_skip ?_ | with_reducible refine awp_ret ?_ | with_reducible refine awp_exit ?_); simp only [go_sem, simprocAttr, hF])
    | (with_reducible refine awp_seq_k (fun _ _ => ?_))
    | (with_reducible refine awp_region [] ?_)
    | (with_reducible refine awp_block ?_)
    | go_step)
  all_goals (try rfl)

set_option maxHeartbeats 20000000 in
theorem checkL_ok (n : Net) (f : Fl) (ps : List (List Int)) (r : Rec) (fr : Int) (hS : SmallN n) (hla : r.al.length ≤ 1000000) (hld : r.dl.length ≤ 1000000) (hps : ps.length ≤ 1000000) (hpl : ∀ p ∈ ps, p.length ≤ 1000000) : FnOK Tryz.prog 36 [.agg n.pv, .agg f.pv, .sl 1 (ps.map prow_pv), .agg r.pv, iv fr] ⟨.tup [.g (lateX n f ps r fr).1.pv, .c (ip (lateX n f ps r fr).2)], none⟩ := by
  refine fn_ok Tryz.func36 (by kernel_rfl) rfl (by rw [Tryz.ntmps36]; exact of_decide_eq_true rfl) (fun F hF => ?_)
  rw [Tryz.ntmps36] at hF
  rw [Tryz.results36]
  cases hB : basicB n f r with
  | false =>
    repeat (first
      | ((first | with_reducible refine sops_go ?_ | with_reducible refine headW_end ?_ | with_reducible refine sops_end ?_ | with_reducible refine awp_if ?_ | with_reducible refine awp_skip ?_ | with_reducible refine awp_ret ?_ | with_reducible refine awp_exit ?_); simp only [go_sem, simprocAttr, hF, hB])
      | (with_reducible refine awp_seq_k (fun _ _ => ?_))
      | (with_reducible refine awp_region [] ?_)
      | (with_reducible refine awp_block ?_)
      | go_step)
    refine ⟨_, base_ok n f r hS hla hld, ?_⟩
    simp only [go_sem, simprocAttr, hF, hB]
    repeat (first
      | ((first | with_reducible refine sops_go ?_ | with_reducible refine headW_end ?_ | with_reducible refine sops_end ?_ | with_reducible refine awp_if ?_ | with_reducible refine awp_skip ?_ | with_reducible refine awp_ret ?_ | with_reducible refine awp_exit ?_); simp only [go_sem, simprocAttr, hF, hB])
      | (with_reducible refine awp_seq_k (fun _ _ => ?_))
      | (with_reducible refine awp_region [] ?_)
      | (with_reducible refine awp_block ?_)
      | go_step)
    rw [show lateX n f ps r fr = (lt0, 1) from by unfold lateX; rw [if_pos (.inl hB)]]
    all_goals (try rfl)
  | true =>
    obtain ⟨hc, hg, hn, hfN, hf⟩ := basicB_inv hB
    obtain ⟨_, f1, f2, f3, f4, f5⟩ := fault_of_N hn.2 hfN
    by_cases c1 : ps.length < 1
    case pos =>
      have e1 : decide ((ps.length : Int) < 1) = true := decide_eq_true (by omega)
      repeat (first
        | ((first | with_reducible refine sops_go ?_ | with_reducible refine headW_end ?_ | with_reducible refine sops_end ?_ | with_reducible refine awp_if ?_ | with_reducible refine awp_skip ?_ | with_reducible refine awp_ret ?_ | with_reducible refine awp_exit ?_); simp only [go_sem, simprocAttr, hF, hB, e1])
        | (with_reducible refine awp_seq_k (fun _ _ => ?_))
        | (with_reducible refine awp_region [] ?_)
        | (with_reducible refine awp_block ?_)
        | go_step)
      refine ⟨_, base_ok n f r hS hla hld, ?_⟩
      simp only [go_sem, simprocAttr, hF, hB, e1]
      repeat (first
        | ((first | with_reducible refine sops_go ?_ | with_reducible refine headW_end ?_ | with_reducible refine sops_end ?_ | with_reducible refine awp_if ?_ | with_reducible refine awp_skip ?_ | with_reducible refine awp_ret ?_ | with_reducible refine awp_exit ?_); simp only [go_sem, simprocAttr, hF, hB, e1])
        | (with_reducible refine awp_seq_k (fun _ _ => ?_))
        | (with_reducible refine awp_region [] ?_)
        | (with_reducible refine awp_block ?_)
        | go_step)
      rw [show lateX n f ps r fr = (lt0, 1) from by unfold lateX; rw [if_pos (.inr (.inl c1))]]
      all_goals (try rfl)
    have e1 : decide ((ps.length : Int) < 1) = false := decide_eq_false (by omega)
    by_cases c2 : 2 < ps.length
    case pos =>
      have e2 : decide ((2 : Int) < (ps.length : Int)) = true := decide_eq_true (by omega)
      repeat (first
        | ((first | with_reducible refine sops_go ?_ | with_reducible refine headW_end ?_ | with_reducible refine sops_end ?_ | with_reducible refine awp_if ?_ | with_reducible refine awp_skip ?_ | with_reducible refine awp_ret ?_ | with_reducible refine awp_exit ?_); simp only [go_sem, simprocAttr, hF, hB, e1, e2])
        | (with_reducible refine awp_seq_k (fun _ _ => ?_))
        | (with_reducible refine awp_region [] ?_)
        | (with_reducible refine awp_block ?_)
        | go_step)
      refine ⟨_, base_ok n f r hS hla hld, ?_⟩
      simp only [go_sem, simprocAttr, hF, hB, e1, e2]
      repeat (first
        | ((first | with_reducible refine sops_go ?_ | with_reducible refine headW_end ?_ | with_reducible refine sops_end ?_ | with_reducible refine awp_if ?_ | with_reducible refine awp_skip ?_ | with_reducible refine awp_ret ?_ | with_reducible refine awp_exit ?_); simp only [go_sem, simprocAttr, hF, hB, e1, e2])
        | (with_reducible refine awp_seq_k (fun _ _ => ?_))
        | (with_reducible refine awp_region [] ?_)
        | (with_reducible refine awp_block ?_)
        | go_step)
      rw [show lateX n f ps r fr = (lt0, 1) from by unfold lateX; rw [if_pos (.inr (.inr c2))]]
      all_goals (try rfl)
    have e2 : decide ((2 : Int) < (ps.length : Int)) = false := decide_eq_false (by omega)
    have c3 : ¬ (basicB n f r = false ∨ ps.length < 1 ∨ 2 < ps.length) := fun h => by
      rcases h with h | h | h
      · rw [hB] at h; cases h
      · exact c1 h
      · exact c2 h
    cases hr : ps.any (fun p => !(routeE n f.fr f.tn p == 0)) with
    | true =>
      repeat (first
        | ((first | with_reducible refine sops_go ?_ | with_reducible refine headW_end ?_ | with_reducible refine sops_end ?_ | with_reducible refine awp_if ?_ | with_reducible refine awp_skip ?_ | with_reducible refine awp_ret ?_ | with_reducible refine awp_exit ?_); simp only [go_sem, simprocAttr, hF, hB, e1, e2])
        | (with_reducible refine awp_seq_k (fun _ _ => ?_))
        | (with_reducible refine awp_region [] ?_)
        | (with_reducible refine awp_block ?_)
        | go_step)
      refine ⟨_, base_ok n f r hS hla hld, ?_⟩
      simp only [go_sem, simprocAttr, hF, hB, e1, e2]
      repeat (first
        | ((first | with_reducible refine sops_go ?_ | with_reducible refine headW_end ?_ | with_reducible refine sops_end ?_ | with_reducible refine awp_if ?_ | with_reducible refine awp_skip ?_ | with_reducible refine awp_ret ?_ | with_reducible refine awp_exit ?_); simp only [go_sem, simprocAttr, hF, hB, e1, e2])
        | (with_reducible refine awp_seq_k (fun _ _ => ?_))
        | (with_reducible refine awp_region [] ?_)
        | (with_reducible refine awp_block ?_)
        | go_step)
      refine ⟨_, contR_ok _ [n.pv, f.pv] (fun p => !(routeE n f.fr f.tn p == 0)) ps hps (fun y hy => check1_ok n f y hS hc ⟨f1, f2⟩ ⟨f3, f4⟩ f5 (hpl y hy)), ?_⟩
      simp only [go_sem, simprocAttr, hF]
      try simp only [go_sem, simprocAttr, hF, hB, e1, e2, hr]
      repeat (first
        | ((first | with_reducible refine sops_go ?_ | with_reducible refine headW_end ?_ | with_reducible refine sops_end ?_ | with_reducible refine awp_if ?_ | with_reducible refine awp_skip ?_ | with_reducible refine awp_ret ?_ | with_reducible refine awp_exit ?_); simp only [go_sem, simprocAttr, hF, hB, e1, e2, hr])
        | (with_reducible refine awp_seq_k (fun _ _ => ?_))
        | (with_reducible refine awp_region [] ?_)
        | (with_reducible refine awp_block ?_)
        | go_step)
      rw [show lateX n f ps r fr = (lt0, 1) from by unfold lateX; rw [if_neg c3, if_pos hr]]
      all_goals (try rfl)
    | false =>
      have hr' : ¬ ps.any (fun p => !(routeE n f.fr f.tn p == 0)) = true := by rw [hr]; decide
      repeat (first
        | ((first | with_reducible refine sops_go ?_ | with_reducible refine headW_end ?_ | with_reducible refine sops_end ?_ | with_reducible refine awp_if ?_ | with_reducible refine awp_skip ?_ | with_reducible refine awp_ret ?_ | with_reducible refine awp_exit ?_); simp only [go_sem, simprocAttr, hF, hB, e1, e2])
        | (with_reducible refine awp_seq_k (fun _ _ => ?_))
        | (with_reducible refine awp_region [] ?_)
        | (with_reducible refine awp_block ?_)
        | go_step)
      refine ⟨_, base_ok n f r hS hla hld, ?_⟩
      simp only [go_sem, simprocAttr, hF, hB, e1, e2]
      repeat (first
        | ((first | with_reducible refine sops_go ?_ | with_reducible refine headW_end ?_ | with_reducible refine sops_end ?_ | with_reducible refine awp_if ?_ | with_reducible refine awp_skip ?_ | with_reducible refine awp_ret ?_ | with_reducible refine awp_exit ?_); simp only [go_sem, simprocAttr, hF, hB, e1, e2])
        | (with_reducible refine awp_seq_k (fun _ _ => ?_))
        | (with_reducible refine awp_region [] ?_)
        | (with_reducible refine awp_block ?_)
        | go_step)
      refine ⟨_, contR_ok _ [n.pv, f.pv] (fun p => !(routeE n f.fr f.tn p == 0)) ps hps (fun y hy => check1_ok n f y hS hc ⟨f1, f2⟩ ⟨f3, f4⟩ f5 (hpl y hy)), ?_⟩
      simp only [go_sem, simprocAttr, hF]
      try simp only [go_sem, simprocAttr, hF, hB, e1, e2, hr]
      repeat (first
        | ((first | with_reducible refine sops_go ?_ | with_reducible refine headW_end ?_ | with_reducible refine sops_end ?_ | with_reducible refine awp_if ?_ | with_reducible refine awp_skip ?_ | with_reducible refine awp_ret ?_ | with_reducible refine awp_exit ?_); simp only [go_sem, simprocAttr, hF, hB, e1, e2, hr])
        | (with_reducible refine awp_seq_k (fun _ _ => ?_))
        | (with_reducible refine awp_region [] ?_)
        | (with_reducible refine awp_block ?_)
        | go_step)
      refine ⟨_, late_ok [f] r (by simp) hla hld, ?_⟩
      simp only [go_sem, simprocAttr, hF, hr]
      repeat (first
        | ((first | with_reducible refine sops_go ?_ | with_reducible refine headW_end ?_ | with_reducible refine sops_end ?_ | with_reducible refine awp_if ?_ | with_reducible refine awp_skip ?_ | with_reducible refine awp_ret ?_ | with_reducible refine awp_exit ?_); simp only [go_sem, simprocAttr, hF])
        | (with_reducible refine awp_seq_k (fun _ _ => ?_))
        | (with_reducible refine awp_region [] ?_)
        | (with_reducible refine awp_block ?_)
        | go_step)
      refine ⟨_, idxT_ok _ [[ip fr]] (fun x => x.fr == fr) (late [f] r).1 (late_boundX [f] r) (fun y _ => check2_ok y fr), ?_⟩
      simp only [go_sem, simprocAttr, hF]
      rcases find_idx (fun x : Lt => x.fr == fr) (late [f] r).1 0 with ⟨q1, q2⟩ | ⟨i, x, q0, q1, q2, q3⟩
      · have e3 : decide ((-1 : Int) < 0) = true := rfl
        have hL : lateX n f ps r fr = (lt0, 12) := by unfold lateX; rw [if_neg c3, if_neg hr', q1]
        try simp only [go_sem, simprocAttr, hF, q2, e3]
        repeat (first
          | ((first | with_reducible refine sops_go ?_ | with_reducible refine headW_end ?_ | with_reducible refine sops_end ?_ | with_reducible refine awp_if ?_ | with_reducible refine awp_skip ?_ | with_reducible refine awp_ret ?_ | with_reducible refine awp_exit ?_); simp only [go_sem, simprocAttr, hF, q2, e3])
          | (with_reducible refine awp_seq_k (fun _ _ => ?_))
          | (with_reducible refine awp_region [] ?_)
          | (with_reducible refine awp_block ?_)
          | go_step)
        all_goals (try rw [hL])
        all_goals (try rfl)
      · have e3 : decide ((i : Int) < 0) = false := decide_eq_false (by omega)
        rw [Int.zero_add] at q2
        have hL : lateX n f ps r fr = (x, 0) := by unfold lateX; rw [if_neg c3, if_neg hr', q1]
        try simp only [go_sem, simprocAttr, hF, q2, e3, q0]
        repeat (first
          | ((first | with_reducible refine sops_go ?_ | with_reducible refine headW_end ?_ | with_reducible refine sops_end ?_ | with_reducible refine awp_if ?_ | with_reducible refine awp_skip ?_ | with_reducible refine awp_ret ?_ | with_reducible refine awp_exit ?_); simp only [go_sem, simprocAttr, hF, q2, e3, q0])
          | (with_reducible refine awp_seq_k (fun _ _ => ?_))
          | (with_reducible refine awp_region [] ?_)
          | (with_reducible refine awp_block ?_)
          | go_step)
        all_goals (try rw [hL])
        all_goals (try rfl)
end Go.Proofs.YticnppnejafhdaaGreatDoor
/- Walks: DeleteFunc of package slices at attempts, with whatever closure: what is deleted is deleted in place. -/
namespace Go.Proofs.YticnppnejafhdaaGreatDoor
open Go.RowKit
open Nd Rc Mo

/-- clear(s[k:]) of a row of one's own: what lies ahead of k stays. -/
theorem run_clear_ownD {P : Program} (w : World) (t ty e : TypeId) (i : TypeInfo) (z : Value) (size : Nat) (ht : P.underlying t = some (.slice e)) (hi : P.info? e = some i) (hz : i.zero = some z) (hzs : z.cells.size = size) (hsz : 0 < size) (h1 : ∀ u ∈ z.cells.toList, u.oneCell' = true)
    (base g n cap k c : Nat) (xs : List Value) (hown : w.ownsRow base e size (.slice (some ⟨g, 0, none⟩) n cap) n xs) (hk : k < n) :
    ∃ w', (Builtin.clear_ #[t] ty #[.slice (some ⟨g, k * size, none⟩) (n - k) c]).run P w = .ok (.tuple #[]) w' ∧ w'.ownsRow base e size (.slice (some ⟨g, 0, none⟩) k cap) k (xs.take (k * size)) ∧ w.grownBy w' (some g) := by
  rcases hown.2 with ⟨h', _⟩ | ⟨g', cap', cur, h', hb, hg, hnc, hcm, hcs, htake⟩
  · simp at h'
  · simp only [Value.slice.injEq, Option.some.injEq, Addr.mk.injEq, and_true, true_and] at h'
    obtain ⟨rfl, rfl⟩ := h'
    have hzl : (Builtin.zeroCells z.cells (n - k)).toList.length = (n - k) * size := by
      rw [Array.length_toList, size_zeroCells, hzs]
    have hfit : k * size + (n - k) * size ≤ cur.size := by
      rw [hcs, ← Nat.add_mul, show k + (n - k) = n by omega]
      exact Nat.mul_le_mul_right _ hnc
    have hst := run_storeCells_at (P := P) g (k * size) e (Builtin.zeroCells z.cells (n - k)).toList 0 cur w hg (by rw [hzl]; simpa using hfit) (by
      intro v hv
      simp only [Builtin.zeroCells] at hv
      obtain ⟨j, hj, rfl⟩ := List.getElem_of_mem hv
      have hzp : 0 < z.cells.size := by rw [hzs]; exact hsz
      have hlt : j % z.cells.size < z.cells.size := Nat.mod_lt _ hzp
      simp only [Array.getElem_toList, Array.getElem_map, Array.getElem_range] at hv ⊢
      refine h1 _ ?_
      rw [getElem!_pos z.cells _ hlt]
      simp)
    simp only [Nat.add_zero] at hst
    obtain ⟨zc, hzc⟩ : ∃ zc, zc = (Builtin.zeroCells z.cells (n - k)).toList := ⟨_, rfl⟩
    rw [← hzc] at hst hzl
    obtain ⟨row, hrow⟩ : ∃ row, row = (cur.toList.take (k * size) ++ zc ++ cur.toList.drop (k * size + zc.length)).toArray := ⟨_, rfl⟩
    rw [← hrow] at hst
    refine ⟨w.setRow g row, ?_, ⟨?_, .inr ⟨g, cap, row, rfl, hb, setRow_heap w g cur row e _ hg, by omega, hcm, ?_, ?_⟩⟩, ⟨rfl, rfl, rfl, by simp [World.setRow], fun x _ hx => setRow_other w g x row (fun e => hx (by rw [e]))⟩⟩
    · obtain ⟨m, hm⟩ : ∃ m, n - k = m + 1 := ⟨n - k - 1, by omega⟩
      rw [hm] at hzc ⊢
      simp [Builtin.clear_, run_underlying ht, zeroValue, typeInfo, hi, hz, ← hzc, hst]
    · rw [List.length_take, hown.1, Nat.min_eq_left (Nat.mul_le_mul_right _ (by omega))]
    · rw [hrow]
      simp only [List.size_toArray, List.length_append, List.length_take, List.length_drop, Array.length_toList, hzl]
      rw [hcs] at hfit ⊢
      omega
    · rw [hrow, ← htake, List.take_take, Nat.min_eq_left (Nat.mul_le_mul_right _ (by omega))]
      simp only [List.append_assoc]
      rw [List.take_append_of_le_length (by rw [List.length_take, Array.length_toList]; omega), List.take_take, Nat.min_self]

theorem take_snoc_ {α : Type} {l : List α} {k : Nat} {a : α} (h : l[k]? = some a) : l.take (k + 1) = l.take k ++ [a] := by rw [List.take_add_one, h]; rfl
theorem only_of_below {a w : World} (h : Below a.heap.size a w) (row : Option Nat) : a.grownBy w row := ⟨h.os, h.tape, h.output, h.size, fun i hi _ => h.block i hi⟩

def keepP (p : Att → Bool) (l : List Att) : List Att := l.filter fun a => !p a
theorem keepP_snoc (p : Att → Bool) (l : List Att) (a : Att) : keepP p (l ++ [a]) = if p a = true then keepP p l else keepP p l ++ [a] := by
  unfold keepP
  rw [List.filter_append]
  by_cases h : p a = true <;> simp [h]
theorem idxK_spec (p : Att → Bool) : ∀ (l : List Att) (k : Int), (idxP p l k = -1 ∧ keepP p l = l) ∨ ∃ i : Nat, i < l.length ∧ idxP p l k = k + (i : Int) ∧ keepP p (l.take (i + 1)) = l.take i
  | [], k => .inl ⟨rfl, rfl⟩
  | a :: l, k => by
    simp only [idxP]
    by_cases h : p a = true
    · rw [if_pos h]
      exact .inr ⟨0, by simp, by simp, by simp [keepP, h]⟩
    · rw [if_neg h]
      rcases idxK_spec p l (k + 1) with ⟨h1, h2⟩ | ⟨i, h1, h2, h3⟩
      · refine .inl ⟨h1, ?_⟩
        unfold keepP at h2 ⊢
        rw [List.filter_cons, h2]
        simp [h]
      · refine .inr ⟨i + 1, by simp; omega, by rw [h2]; simp; omega, ?_⟩
        unfold keepP at h3 ⊢
        rw [List.take_succ_cons, List.filter_cons, h3]
        simp [h]

set_option maxRecDepth 100000 in
set_option maxHeartbeats 2000000 in
theorem indexHA_any (p : Att → Bool) (g0 : FuncId) (cb : Array Value) (l : List Att) (A : Option Addr) (c : Nat) (w : World) (eg : ∀ args w, (callFunc g0 args).run Tryz.prog w = .ok (.enter g0 args) w) (hA : LiesA w w.heap.size A l) (hl : l.length ≤ 1000000)
    (hp : ∀ W, Below w.heap.size w W → ∀ a : Att, Calls Tryz.prog g0 (#[.agg #[.int .i64 a.s, .int .i64 a.f, .int .i64 a.cs, .int .i64 a.co, .int .i64 a.cf, .int .i64 a.ct, .int .i64 a.cl, .int .i64 a.o]] ++ cb) W fun e w' => e = .returned (.bool (p a)) ∧ Below W.heap.size W w') :
    Calls Tryz.prog 51 #[.slice A l.length c, .func (.func g0) #[] cb] w fun e w' => e = .returned (.int .i64 (idxP p l 0)) ∧ Below w.heap.size w w' := by
  obtain ⟨n, hn⟩ : ∃ n, n = l.length := ⟨_, rfl⟩
  rw [← hn] at hl ⊢
  have HN := Lib.hid hn
  obtain ⟨T, hT⟩ : ∃ T, T = idxP p l 0 := ⟨_, rfl⟩
  rw [← hT]
  have HT := Lib.hid hT
  have HP := Lib.hid hp
  clear hn hT hp
  go_enter Tryz.func51, Tryz.ntmps51
  go_wp2_with fail
  go_loopw [8] (fun i wr => ∃ (k : Nat), k ≤ n ∧ i = .int .i64 k ∧ Below w.heap.size w wr ∧ Hid (T = idxP p (l.drop k) k)) (fun i _ => n - (intOf i).toNat)
  case atStart => exact ⟨0, Nat.zero_le _, rfl, Below.refl _ _, Lib.hid (by rw [HT.out]; rfl)⟩
  case round =>
    obtain ⟨k, hk, rfl, hb, hst⟩ := hrel
    by_cases hlt : k < n
    · obtain ⟨a, ha⟩ := get_of_lt (l := l) (k := k) (by rw [← HN.out]; exact hlt)
      obtain ⟨b, off, rfl, hbB, hcs⟩ := (hA.below hb).at_ ha
      obtain ⟨c0, c1, c2, c3, c4, c5, c6, c7⟩ := hcs k a ha
      have hst' : Hid (T = if p a = true then (k : Int) else idxP p (l.drop (k + 1)) ((k : Int) + 1)) := Lib.hid (by rw [hst.out, drop_of_get ha]; rfl)
      have hcall := HP.out wr hb a
      clear hcs ha hst
      cases hq : p a with
      | true =>
        rw [hq] at hcall
        have hf := Lib.hid (show T = (k : Int) by rw [hst'.out, if_pos hq])
        clear hst' hq
        go_wp2_with (go_at_fn g0; refine hcall.mono ?_; rintro e w2 ⟨rfl, hb2⟩)
        go_ret
        exact ⟨ret_int (by rw [hf.out]), hb.trans (hb2.mono hb.size)⟩
      | false =>
        rw [hq] at hcall
        have hf := Lib.hid (show T = idxP p (l.drop (k + 1)) ((k + 1 : Nat) : Int) by rw [hst'.out, if_neg (by rw [hq]; decide)]; rfl)
        clear hst' hq
        go_wp2_with (go_at_fn g0; refine hcall.mono ?_; rintro e w2 ⟨rfl, hb2⟩)
        go_roundw
        case rel => exact ⟨k + 1, by omega, by go_num, hb.trans (hb2.mono hb.size), hf⟩
        case measure => simp [intOf]; omega
    · have hf : Hid (T = -1) := Lib.hid (by rw [hst.out, List.drop_of_length_le (by rw [← HN.out]; omega)]; rfl)
      go_wp2_with fail
      go_ret
      exact ⟨ret_int (by rw [hf.out]), hb⟩

theorem flatA_set : ∀ (X : List Att) (i : Nat) (a : Att), i < X.length → (((((((((flatA X).set (i * 8) (.int .i64 a.s)).set (i * 8 + 1) (.int .i64 a.f)).set (i * 8 + 2) (.int .i64 a.cs)).set (i * 8 + 3) (.int .i64 a.co)).set (i * 8 + 4) (.int .i64 a.cf)).set (i * 8 + 5) (.int .i64 a.ct)).set (i * 8 + 6) (.int .i64 a.cl)).set (i * 8 + 7) (.int .i64 a.o)) = flatA (X.set i a)
  | [], i, a, h => by simp at h
  | x :: X, 0, a, _ => by simp [flatA, Att.row]
  | x :: X, i + 1, a, h => by
    have ih := flatA_set X i a (by simpa using h)
    have e : flatA (x :: X) = x.row ++ flatA X := by simp [flatA]
    have e2 : flatA ((x :: X).set (i + 1) a) = x.row ++ flatA (X.set i a) := by simp [flatA]
    rw [e, e2, ← ih]
    have hl : x.row.length = 8 := rfl
    have hs : ∀ (l : List Value) (j : Nat) (u : Value), (x.row ++ l).set ((i + 1) * 8 + j) u = x.row ++ l.set (i * 8 + j) u := fun l j u => by
      rw [List.set_append_right _ _ (by rw [hl]; omega), hl]
      congr 2
      omega
    have hs0 : ∀ (l : List Value) (u : Value), (x.row ++ l).set ((i + 1) * 8) u = x.row ++ l.set (i * 8) u := fun l u => by simpa using hs l 0 u
    simp only [hs0, hs]

set_option maxRecDepth 100000 in
set_option maxHeartbeats 8000000 in
theorem deleteA_any (p : Att → Bool) (g0 : FuncId) (cb : Array Value) (l : List Att) (A : Option Addr) (c base : Nat) (w : World) (eg : ∀ args w, (callFunc g0 args).run Tryz.prog w = .ok (.enter g0 args) w) (hown : w.ownsRow base 66 8 (.slice A l.length c) l.length (flatA l)) (hl : l.length ≤ 1000000) (hp : ∀ W, w.grownBy W (Value.slice A l.length c).ownBlock → ∀ a : Att, Calls Tryz.prog g0 (#[.agg #[.int .i64 a.s, .int .i64 a.f, .int .i64 a.cs, .int .i64 a.co, .int .i64 a.cf, .int .i64 a.ct, .int .i64 a.cl, .int .i64 a.o]] ++ cb) W fun e w' => e = .returned (.bool (p a)) ∧ Below W.heap.size W w') :
    Calls Tryz.prog 72 #[.slice A l.length c, .func (.func g0) #[] cb] w fun e w' => w.grownBy w' (Value.slice A l.length c).ownBlock ∧ ∃ A' c', A' = A ∧ e = .returned (.slice A' (keepP p l).length c') ∧ w'.ownsRow base 66 8 (.slice A' (keepP p l).length c') (keepP p l).length (flatA (keepP p l)) := by
  have hidx := indexHA_any p g0 cb l A c w eg (own_A hown) hl (fun W hW a => hp W (only_of_below hW _) a)
  have HX := Lib.hid hidx
  have HSP := Lib.hid (idxK_spec p l 0)
  obtain ⟨KP, hKP⟩ : ∃ KP, KP = keepP p l := ⟨_, rfl⟩
  rw [← hKP]
  obtain ⟨n, hn⟩ : ∃ n, n = l.length := ⟨_, rfl⟩
  obtain ⟨I, hI⟩ : ∃ I, I = idxP p l 0 := ⟨_, rfl⟩
  rw [← hn] at HX hown hl hp ⊢
  have HP := Lib.hid hp
  rw [← hI] at HX HSP
  have HN := Lib.hid hn
  have HKP := Lib.hid hKP
  clear hidx hn hKP hI hp
  go_enter Tryz.func72, Tryz.ntmps72
  go_wp2_with fail
  refine HX.out.mono ?_
  rintro e w1 ⟨rfl, hb1⟩
  have hown1 := own_kept (w' := w1) hown fun g cs hg h => h.below hb1 h.lt
  have hg1 := only_of_below hb1 (Value.slice A n c).ownBlock
  rcases HSP.out with ⟨e1, e2⟩ | ⟨i0, e1, e2, e3⟩
  · subst e1
    have HK2 : Hid (KP = l) := Lib.hid (by rw [HKP.out, e2])
    have HO := Lib.hid hown1
    clear e2 hown1
    go_wp2_with fail
    go_ret
    rw [HK2.out]
    have hln : l.length = n := HN.out.symm
    rw [hln]
    exact ⟨hg1, A, c, rfl, rfl, HO.out⟩
  · rw [← HN.out] at e1
    have e2' : I = (i0 : Int) := by rw [e2]; omega
    subst e2'
    have HE3 := Lib.hid e3
    clear e2 e3
    obtain ⟨g, hAg⟩ : ∃ g, A = some ⟨g, 0, none⟩ := by
      rcases hown1.2 with ⟨_, h0⟩ | ⟨g, cap, cur, hv, _⟩
      · omega
      · injection hv with hv _ _
        exact ⟨g, hv⟩
    subst hAg
    have hcap : n ≤ c ∧ c ≤ maxLen := by
      rcases hown1.2 with ⟨h0, _⟩ | ⟨g', cap, cur, hv, _, _, h1, h2, _⟩
      · cases h0
      · injection hv with _ _ hv
        subst hv
        exact ⟨h1, h2⟩
    obtain ⟨hnc, hcm⟩ := hcap
    unfold maxLen at hcm
    have hgl : g < w1.heap.size := (hown1.lt g rfl).2
    have HP2 : Hid (∀ W, w.grownBy W (some g) → ∀ a : Att, Calls Tryz.prog g0 (#[.agg #[.int .i64 a.s, .int .i64 a.f, .int .i64 a.cs, .int .i64 a.co, .int .i64 a.cf, .int .i64 a.ct, .int .i64 a.cl, .int .i64 a.o]] ++ cb) W fun e w' => e = .returned (.bool (p a)) ∧ Below W.heap.size W w') := Lib.hid HP.out
    clear HP
    simp only [Value.ownBlock] at hg1 ⊢
    obtain ⟨z0, hi, hz0, hz1, hz2⟩ := info_parts Tryz.infoAtt
    have HI := Lib.hid (And.intro hi (And.intro hz0 (And.intro hz1 hz2)))
    clear hi hz0 hz1 hz2
    obtain ⟨Rel, hRel⟩ : ∃ Rel : Nat → Nat → World → Prop, Rel = fun i j W => ∃ X : List Att, X.length = n ∧ X.take i = keepP p (l.take j) ∧ X.drop j = l.drop j ∧ W.ownsRow base 66 8 (.slice (some ⟨g, 0, none⟩) n c) n (flatA X) ∧ w.grownBy W (some g) := ⟨_, rfl⟩
    have HRel := Lib.hid hRel
    have hst0 : Rel i0 (i0 + 1) w1 := by
      rw [hRel]
      exact ⟨l, HN.out.symm, HE3.out.symm, rfl, hown1, hg1⟩
    have HOW := Lib.hid hown1
    clear hRel hown1
    have i0m : ((i0 : Int) == -1) = false := by rw [beq_eq_false_iff_ne]; omega
    go_wp2_with fail
    go_loopw [5, 6] (fun s5 s6 wr => ∃ (i j : Nat), i < j ∧ j ≤ n ∧ s5 = .int .i64 i ∧ s6 = .int .i64 j ∧ Rel i j wr) (fun _ s6 _ => n - (intOf s6).toNat)
    case atStart => exact ⟨i0, i0 + 1, by omega, by omega, rfl, by go_num, hst0⟩
    case round =>
      clear hst0
      obtain ⟨i, j, hij, hj, rfl, rfl, hrel⟩ := hrel
      rw [HRel.out] at hrel
      obtain ⟨X, hXn, hXt, hXd, hownX, hgr⟩ := hrel
      have HXN := Lib.hid hXn
      have HXT := Lib.hid hXt
      have HXD := Lib.hid hXd
      have hgw : g < wr.heap.size := (hownX.lt g rfl).2
      clear hXn hXt hXd
      by_cases hlt : j < n
      · obtain ⟨a, ha⟩ := get_of_lt (l := l) (k := j) (by rw [← HN.out]; exact hlt)
        have hXj : X[j]? = some a := by
          have h1 : (X.drop j)[0]? = (l.drop j)[0]? := by rw [HXD.out]
          simpa [List.getElem?_drop, ha] using h1
        have hlX : LiesA wr wr.heap.size (some ⟨g, 0, none⟩) X := own_A (l := X) (base := base) (n := n) (c := c) (by rw [HXN.out]; exact hownX)
        obtain ⟨b, off, eb, _, hcs⟩ := hlX.at_ hXj
        injection eb with eb
        injection eb with eb1 eb2 _
        subst eb1 eb2
        obtain ⟨c0, c1, c2, c3, c4, c5, c6, c7⟩ := hcs j a hXj
        simp only [Nat.zero_add] at c0 c1 c2 c3 c4 c5 c6 c7
        have htk : Hid (keepP p (l.take (j + 1)) = if p a = true then keepP p (l.take j) else keepP p (l.take j) ++ [a]) := Lib.hid (by rw [take_snoc_ ha]; exact keepP_snoc p _ a)
        have hdr : Hid (X.drop (j + 1) = l.drop (j + 1)) := Lib.hid (by
          have h1 := HXD.out
          rw [drop_of_get hXj, drop_of_get ha] at h1
          injection h1)
        have HOX := Lib.hid hownX
        clear hcs ha hXj hlX hownX
        go_upto_region 8 with fail
        generalize hW2 : wr.alloc _ = W2
        have ba : Blk W2 wr.heap.size 66 [.int .i64 a.s, .int .i64 a.f, .int .i64 a.cs, .int .i64 a.co, .int .i64 a.cf, .int .i64 a.ct, .int .i64 a.cl, .int .i64 a.o] := by rw [← hW2]; exact Blk.new' _ [.int .i64 a.s, .int .i64 a.f, .int .i64 a.cs, .int .i64 a.co, .int .i64 a.cf, .int .i64 a.ct, .int .i64 a.cl, .int .i64 a.o] rfl
        have hown2 : W2.ownsRow base 66 8 (.slice (some ⟨g, 0, none⟩) n c) n (flatA X) := by rw [← hW2]; exact HOX.out.alloc _
        have hw2 : Below wr.heap.size wr W2 := by rw [← hW2]; exact (Below.refl _ _).alloc (Nat.le_refl _) _
        have hcall := HP2.out W2 (hgr.trans (only_of_below hw2 (some g))) a
        have cb0 := ba.row
        unfold Row at cb0
        clear hW2 c0 c1 c2 c3 c4 c5 c6 c7 HOX
        go_wp2_with fail
        go_at_fn g0
        refine hcall.mono ?_
        rintro e w3 ⟨rfl, hb3⟩
        have hown3 := own_kept (w' := w3) hown2 fun x cs hg h => h.below hb3 h.lt
        have hgr3 : w.grownBy w3 (some g) := hgr.trans ((only_of_below hw2 (some g)).trans (only_of_below hb3 (some g)))
        have ba3 := ba.below hb3 ba.lt
        clear hown2 ba cb0 hgr
        by_cases hs : p a = true
        · rw [hs]
          have hnew : Rel i (j + 1) w3 := by
            rw [HRel.out]
            exact ⟨X, HXN.out, by rw [htk.out, if_pos hs]; exact HXT.out, hdr.out, hown3, hgr3⟩
          clear hown3 ba3 hs
          go_wp2_with fail
          go_roundw
          case rel => exact ⟨i, j + 1, by omega, by omega, rfl, by go_num, hnew⟩
          case measure => simp [intOf]; omega
        · rw [show p a = false by simpa using hs]
          have hiX : i < X.length := by rw [HXN.out]; omega
          have hst := flatA_set X i a hiX
          have o1 := hown3.stored (i * 8) (.int .i64 a.s)
          have o2 := o1.1.stored (i * 8 + 1) (.int .i64 a.f)
          have o3 := o2.1.stored (i * 8 + 2) (.int .i64 a.cs)
          have o4 := o3.1.stored (i * 8 + 3) (.int .i64 a.co)
          have o5 := o4.1.stored (i * 8 + 4) (.int .i64 a.cf)
          have o6 := o5.1.stored (i * 8 + 5) (.int .i64 a.ct)
          have o7 := o6.1.stored (i * 8 + 6) (.int .i64 a.cl)
          have o8 := o7.1.stored (i * 8 + 7) (.int .i64 a.o)
          have hnew : Rel (i + 1) (j + 1) ((((((((w3.setCell ⟨g, i * 8, none⟩ (.int .i64 a.s)).setCell ⟨g, i * 8 + 1, none⟩ (.int .i64 a.f)).setCell ⟨g, i * 8 + 2, none⟩ (.int .i64 a.cs)).setCell ⟨g, i * 8 + 3, none⟩ (.int .i64 a.co)).setCell ⟨g, i * 8 + 4, none⟩ (.int .i64 a.cf)).setCell ⟨g, i * 8 + 5, none⟩ (.int .i64 a.ct)).setCell ⟨g, i * 8 + 6, none⟩ (.int .i64 a.cl)).setCell ⟨g, i * 8 + 7, none⟩ (.int .i64 a.o)) := by
            rw [HRel.out]
            refine ⟨X.set i a, by simp [HXN.out], ?_, ?_, by rw [← hst]; exact o8.1, ((((((((hgr3.trans o1.2).trans o2.2).trans o3.2).trans o4.2).trans o5.2).trans o6.2).trans o7.2).trans o8.2)⟩
            · have hget : (X.set i a)[i]? = some a := by simp [hiX]
              rw [take_snoc_ hget, htk.out, if_neg hs, ← HXT.out, List.take_set_of_le (Nat.le_refl _)]
            · rw [List.drop_set_of_lt (by omega)]
              exact hdr.out
          have HNEW := Lib.hid hnew
          have lX3 : LiesA w3 w3.heap.size (some ⟨g, 0, none⟩) X := own_A (l := X) (base := base) (n := n) (c := c) (by rw [HXN.out]; exact hown3)
          obtain ⟨x, hx⟩ := get_of_lt hiX
          obtain ⟨b, off, eb, _, hcs⟩ := lX3.at_ hx
          injection eb with eb
          injection eb with eb1 eb2 _
          subst eb1 eb2
          obtain ⟨c0, c1, c2, c3, c4, c5, c6, c7⟩ := hcs i x hx
          simp only [Nat.zero_add] at c0 c1 c2 c3 c4 c5 c6 c7
          have fz : ∀ k, w3.frozen? ⟨g, k, none⟩ = false := by
            rcases hown3.2 with ⟨h0, _⟩ | ⟨g', cap, cur, hv, _, hh, _⟩
            · cases h0
            · injection hv with hv _ _
              injection hv with hv
              injection hv with hv _ _
              subst hv
              intro k
              simp [World.frozen?, hh]
          have cb3 := ba3.row
          unfold Row at cb3
          have hgne : ¬ wr.heap.size = g := by omega
          have hgne' : ¬ g = wr.heap.size := by omega
          have hic : i < n := by omega
          clear hst o1 o2 o3 o4 o5 o6 o7 o8 hnew hown3 ba3 hs lX3 hx hcs hgr3
          go_wp2_with fail
          go_roundw
          case rel => exact ⟨i + 1, j + 1, by omega, by omega, by go_num, by go_num, HNEW.out⟩
          case measure => simp [intOf]; omega
      · have hje : j = n := by omega
        subst hje
        obtain ⟨w4, hrun, ho4, hg4⟩ := run_clear_ownD (P := Tryz.prog) wr 30 0 66 z0 (.agg #[.int .i64 0, .int .i64 0, .int .i64 0, .int .i64 0, .int .i64 0, .int .i64 0, .int .i64 0, .int .i64 0]) 8 Tryz.underlying30 HI.out.1 HI.out.2.1 rfl (by decide) (by intro u hu; simp [Value.cells] at hu; subst hu; rfl) base g j c i (c - i) (flatA X) hownX hij
        have hci : ¬ c = i := by omega
        have hkl : Hid (KP = X.take i) := Lib.hid (by rw [HKP.out, HXT.out, List.take_of_length_le (by rw [HN.out]; exact Nat.le_refl _)])
        have hlen : Hid (KP.length = i) := Lib.hid (by rw [hkl.out, List.length_take, HXN.out]; omega)
        have hflat : Hid ((flatA X).take (i * 8) = flatA KP) := Lib.hid (by
          have h1 : flatA X = flatA (X.take i) ++ flatA (X.drop i) := by
            unfold flatA
            rw [← List.flatMap_append, List.take_append_drop]
          have h2 : (flatA (X.take i)).length = i * 8 := by
            have h := flat_len (f := Att.row) row_len_A (X.take i)
            rw [List.length_take, HXN.out, Nat.min_eq_left (by omega)] at h
            exact h
          rw [hkl.out, h1, List.take_append_of_le_length (by rw [h2]; exact Nat.le_refl _), List.take_of_length_le (by rw [h2]; exact Nat.le_refl _)])
        have HRUN := Lib.hid hrun
        have HO4 := Lib.hid ho4
        have HG4 := Lib.hid (hgr.trans hg4)
        clear hrun ho4 hg4 hownX
        go_wp2_with fail
        rename_i hK
        rw [HRUN.out]
        simp only [Result.andThen_ok, Oper.upon_value]
        refine hK _ _ ?_
        go_wp2_with fail
        go_ret
        refine ⟨HG4.out, some ⟨g, 0, none⟩, c, rfl, by rw [hlen.out]; rfl, ?_⟩
        rw [hlen.out, ← hflat.out]
        exact HO4.out

end Go.Proofs.YticnppnejafhdaaGreatDoor
/- Abstract states: a list that the frame holds alone, and what DeleteFunc makes of it in place: by hand. -/
namespace Go.Proofs.YticnppnejafhdaaGreatDoor
open Go.RowKit
open Nd Rc Mo
open Av
namespace Av
/-- A row in memory, read. -/
theorem own_repR {R : Reader} {w : World} {base : Nat} {e : TypeId} {sz : Nat} {v : Value} {xs : List (List Value)} (h : w.ownsRow base e sz v xs.length xs.flatten) (hl : ∀ row ∈ xs, row.length = sz) (h1 : ∀ row ∈ xs, ∀ x ∈ row, x.oneCell' = true)
    (hR : ∀ g, v.ownBlock = some g → ∀ (p : Addr) x, p.block = g → w.cell? p = some x → R p = some x) : RepP R (.sl sz (xs.map fun row => row.map PV.v)) v := by
  have hz : ∀ (k : Nat) (row : List PV) (j : Nat) (p : PV), (xs.map fun row => row.map PV.v)[k]? = some row → row[j]? = some p → ∃ x, xs.flatten[k * sz + j]? = some x ∧ RepP R p x := fun k row j p hk hj => by
    rw [List.getElem?_map] at hk
    cases hx : xs[k]? with
    | none => rw [hx] at hk; cases hk
    | some r =>
      rw [hx] at hk
      simp only [Option.map_some, Option.some.injEq] at hk
      subst hk
      rw [List.getElem?_map] at hj
      cases hy : r[j]? with
      | none => rw [hy] at hj; cases hj
      | some y =>
        rw [hy] at hj
        simp only [Option.map_some, Option.some.injEq] at hj
        subst hj
        exact ⟨y, flatten_get hl hx hy, .v y (h1 r (List.mem_of_getElem? hx) y (List.mem_of_getElem? hy))⟩
  have hsz : ∀ (k : Nat) (row : List PV), (xs.map fun row => row.map PV.v)[k]? = some row → row.length = sz := fun k row hk => by
    rw [List.getElem?_map] at hk
    cases hx : xs[k]? with
    | none => rw [hx] at hk; cases hk
    | some r =>
      rw [hx] at hk
      simp only [Option.map_some, Option.some.injEq] at hk
      subst hk
      rw [List.length_map]
      exact hl r (List.mem_of_getElem? hx)
  have hmk : ∀ {A : Option Addr} {cap : Nat}, (xs = [] ∨ ∃ b off, A = some ⟨b, off, none⟩ ∧ ∀ (i : Nat) (x : Value), xs.flatten[i]? = some x → i < xs.length * sz → R ⟨b, off + i, none⟩ = some x) → xs.length ≤ cap → RepP R (.sl sz (xs.map fun row => row.map PV.v)) (.slice A xs.length cap) := fun {A cap} hA hc => by
    have := rep_mk (R := R) (A := A) (cap := cap) (zs := xs.flatten) hsz hz (by
      rcases hA with h2 | ⟨b, off, h2, h3⟩
      · left; rw [h2]; rfl
      · exact .inr ⟨b, off, h2, fun i x hx hi => h3 i x hx (by simpa using hi)⟩) (by simpa using hc)
    simpa using this
  obtain ⟨_, h2⟩ := h
  rcases h2 with ⟨rfl, hn⟩ | ⟨g, cap, cur, rfl, hb, hg, hnc, hcm, hcs, htake⟩
  · have hx : xs = [] := List.eq_nil_of_length_eq_zero hn
    subst hx
    exact hmk (A := none) (cap := 0) (.inl rfl) (Nat.le_refl _)
  · refine hmk (.inr ⟨g, 0, rfl, fun i x hx hi => hR g rfl _ _ rfl ?_⟩) hnc
    rw [Nat.zero_add, cell_of_row w g i cur e (0, 0) hg]
    rw [← htake, List.getElem?_take, if_pos hi] at hx
    rw [← Array.getElem?_toList]
    exact hx
/-- A list that nothing else reads. -/
def ownE (e : TypeId) (sz : Nat) (V : Value) (n : Nat) (xs : List Value) : Ext where
  foot b := V.ownBlock = some b
  froz _ := False
  holds w := w.ownsRow 0 e sz V n xs
  stable h hw := own_kept hw fun g _ hg hb => (h g (.inl hg)).trans hb
theorem own_low {w : World} {base : Nat} {e : TypeId} {sz : Nat} {v : Value} {n : Nat} {xs : List Value} (h : w.ownsRow base e sz v n xs) : w.ownsRow 0 e sz v n xs := by
  obtain ⟨h1, h2⟩ := h
  refine ⟨h1, ?_⟩
  rcases h2 with h2 | ⟨g, cap, cur, e1, _, h2⟩
  · exact .inl h2
  · exact .inr ⟨g, cap, cur, e1, Nat.zero_le _, h2⟩
section
variable {n d : Nat} {σ : St} {o : Oper} {K : St → Prop}
/-- The attempts of a frame, as a list that nothing else reads. -/
theorem hand_attempts {x y z : Operand} {ats : Array TypeId} (r : Rec) (fl fr : Int) (hla : r.al.length ≤ 1000000) (ho : o.op = .call { callee := .value (.func 73), args := #[x, y, z], argTypes := ats }) (hd : o.dst = some d) (hdn : d < n)
    (hx : evo (look σ.slot) x = some (.agg r.pv)) (hy : evo (look σ.slot) y = some (iv fl)) (hz : evo (look σ.slot) z = some (iv fr))
    (h : ∀ V, K (({ σ with ext := σ.ext.and (ownE 66 8 V (ofFrame r.al fl fr).length (flatA (ofFrame r.al fl fr))) } : St).put d (.v V))) : Hand Tryz.prog n σ o K := by
  refine hand_call hd fun F γ a w hF hr => ?_
  obtain ⟨A, D, ca, cd, e1, hA, _⟩ := rec_rep (fun p v hp => hr.cell hp) (evo_ok hr (fun _ _ _ hy => hy) hx).1
  have e2 : a.eval y = .int .i64 fl := (evo_ok hr (fun _ _ _ hy => hy) hy).1
  have e3 : a.eval z = .int .i64 fr := (evo_ok hr (fun _ _ _ hy => hy) hz).1
  refine ⟨73, #[a.eval x, a.eval y, a.eval z], ?_, ?_⟩
  · have henter : Enters Tryz.prog 73 := ⟨Tryz.f73, _, Tryz.func73, by kernel_rfl, rfl⟩
    have hf : a.eval (.func 73) = .func (.func 73) #[] #[] := rfl
    simp [execOp, ho, resolve, hf, Deferred.ofValue, invoke, run_callFunc henter]
  rw [e1, e2, e3]
  refine (attempts2_any r A D ca cd fl fr w hA hla).mono ?_
  rintro e w1 ⟨hb, va, rfl, hown⟩
  have hlow := own_low hown
  refine ⟨va, _, γ, rfl, h va, (hr.turn (Turn.more (fun b hb => (hr.extf b hb).2.1) hr.exth (Turn.below (E := ownE 66 8 va (ofFrame r.al fl fr).length (flatA (ofFrame r.al fl fr))) hb hlow (fun b hb' => .inr ?_) (fun b (hf : False) => hf.elim)))).put (by rw [hF]; exact hdn) rfl (fun k hk => by cases hk)⟩
  rcases hown.2 with ⟨rfl, _⟩ | ⟨g, cap, cur, rfl, hg, hh, _⟩
  · cases hb'
  · simp only [ownE, Value.ownBlock, Option.some.injEq] at hb'
    subst hb'
    exact ⟨hg, (Array.getElem?_eq_some_iff.1 hh).1⟩
/-- DeleteFunc of a list that nothing else reads, with a closure of two numbers. -/
theorem hand_delete {x y : Operand} {ats : Array TypeId} {fid k1 k2 : Nat} {V : Value} {l : List Att} {m1 m2 : Int} (p : Att → Bool) (E0 : Ext) (ho : o.op = .call { callee := .value (.func 72), args := #[x, y], argTypes := ats }) (hd : o.dst = some d) (hdn : d < n)
    (hE : σ.ext = E0.and (ownE 66 8 V l.length (flatA l))) (hx : evo (look σ.slot) x = some (.v V)) (hy : evo (look σ.slot) y = some (.clo fid [(k1, 0), (k2, 0)])) (hb1 : look σ.box k1 = some [ip m1]) (hb2 : look σ.box k2 = some [ip m2]) (hl : l.length ≤ 1000000)
    (hcl : ∀ a : Att, FnOK Tryz.prog fid [.agg a.pv, .ept [ip m1], .ept [ip m2]] ⟨bv (p a), none⟩)
    (h : K (({ σ with ext := E0 } : St).put d (.sl 8 ((keepP p l).map Att.pv)))) : Hand Tryz.prog n σ o K := by
  refine hand_call hd fun F γ a w hF hr => ?_
  have e1 : a.eval x = V := (evo_ok hr (fun _ _ _ hy => hy) hx).1
  have e2 : a.eval y = .func (.func fid) #[] #[.pointer (some ⟨γ.bx k1, 0, none⟩), .pointer (some ⟨γ.bx k2, 0, none⟩)] := (evo_ok hr (fun _ _ _ hy => hy) hy).1
  refine ⟨72, #[a.eval x, a.eval y], ?_, ?_⟩
  · have henter : Enters Tryz.prog 72 := ⟨Tryz.f72, _, Tryz.func72, by kernel_rfl, rfl⟩
    have hf : a.eval (.func 72) = .func (.func 72) #[] #[] := rfl
    simp [execOp, ho, resolve, hf, Deferred.ofValue, invoke, run_callFunc henter]
  have hext := hr.exth
  rw [hE] at hext
  obtain ⟨hh0, hown, hdis⟩ := hext
  have hfoot : ∀ b, V.ownBlock = some b → F.w0.heap.size ≤ b ∧ b < w.heap.size ∧ (∀ k, (look σ.box k).isSome → γ.bx k ≠ b) ∧ (∀ L, (lookL σ.own L).isSome → γ.rw L ≠ some b) := fun b hb => hr.extf b (.inl (by rw [hE]; exact .inr hb))
  obtain ⟨A, c, hV⟩ : ∃ A c, V = .slice A l.length c := by
    rcases hown.2 with ⟨h1, h2⟩ | ⟨g, cap, cur, h1, _⟩
    · exact ⟨none, 0, by rw [h1, h2]⟩
    · exact ⟨_, _, h1⟩
  have hcell : ∀ k m, look σ.box k = some [ip m] → (look σ.box k).isSome ∧ γ.bx k < w.heap.size ∧ w.cell? ⟨γ.bx k, 0, none⟩ = some (.int .i64 m) := fun k m hk => by
    obtain ⟨us, ty, h1, _, h3⟩ := hr.boxes k _ hk
    cases h3 with | cons h3 h4 =>
    cases h4
    cases h3
    refine ⟨by rw [hk]; rfl, (Array.getElem?_eq_some_iff.1 h1).1, ?_⟩
    rw [cell_of_row w _ 0 _ ty (0, 0) h1]
    rfl
  obtain ⟨s1, l1, c1⟩ := hcell k1 m1 hb1
  obtain ⟨s2, l2, c2⟩ := hcell k2 m2 hb2
  rw [e1, e2, hV]
  rw [hV] at hown hfoot hdis
  refine (deleteA_any p fid _ l A c 0 w (fun args w => run_callFunc (hcl ⟨0, 0, 0, 0, 0, 0, 0, 0⟩).1 args w) hown hl (fun W hW x => ?_)).mono ?_
  · have hne : ∀ k, (look σ.box k).isSome → some (γ.bx k) ≠ (Value.slice A l.length c).ownBlock := fun k hk h => (hfoot _ h.symm).2.2.1 k hk rfl
    have hk1 : W.cell? ⟨γ.bx k1, 0, none⟩ = some (.int .i64 m1) := (World.cell?_of_block (hW.block _ l1 (hne k1 s1))).trans c1
    have hk2 : W.cell? ⟨γ.bx k2, 0, none⟩ = some (.int .i64 m2) := (World.cell?_of_block (hW.block _ l2 (hne k2 s2))).trans c2
    have hept : ∀ k m, W.cell? ⟨γ.bx k, 0, none⟩ = some (.int .i64 m) → RepA (fun q => W.cell? q) (fun _ => 0) (.ept [ip m]) (.pointer (some ⟨γ.bx k, 0, none⟩)) := fun k m hk => ⟨_, 0, [.int .i64 m], rfl, .cons (.v _ rfl) .nil, fun i x hx => by
      cases i with
      | zero => simp at hx; subst hx; exact hk
      | succ i => simp at hx⟩
    have := (hcl x).2 W (fun q => W.cell? q) (fun _ _ h => h) [.agg #[.int .i64 x.s, .int .i64 x.f, .int .i64 x.cs, .int .i64 x.co, .int .i64 x.cf, .int .i64 x.ct, .int .i64 x.cl, .int .i64 x.o], .pointer (some ⟨γ.bx k1, 0, none⟩), .pointer (some ⟨γ.bx k2, 0, none⟩)]
      (.cons ⟨_, rfl, rep_of_ints (xs := [.int .i64 x.s, .int .i64 x.f, .int .i64 x.cs, .int .i64 x.co, .int .i64 x.cf, .int .i64 x.ct, .int .i64 x.cl, .int .i64 x.o]) (by intro u hu; simp at hu; rcases hu with rfl | rfl | rfl | rfl | rfl | rfl | rfl | rfl <;> rfl)⟩ rfl (.cons (hept k1 m1 hk1) rfl (.cons (hept k2 m2 hk2) rfl .nil)))
    refine this.mono ?_
    rintro e w' ⟨u, rfl, hb, hres⟩
    exact ⟨by rw [show u = .bool (p x) from hres.2], hb⟩
  · rintro e w1 ⟨hg, A', c', hA', rfl, hown'⟩
    subst hA'
    have hturn : Turn σ.ext w w1 E0 := by
      refine ⟨hg.os, hg.tape, hg.output, hg.size, fun k hk hn => hg.block k hk (fun h => hn (by rw [hE, hV]; exact .inr h.symm)), E0.stable (fun b hb => ?_) hh0, fun b hb => .inl (by rw [hE]; exact .inl hb), fun b hb => .inr (.inl (by rw [hE]; exact .inl hb)), fun w0 h => by rw [hE] at h; exact h.1⟩
      have hlt := (hr.extf b (by rw [hE]; exact hb.elim (fun h => .inl (.inl h)) (fun h => .inr (.inl h)))).2.1
      exact hg.block b hlt (fun h => hdis b hb (.inl h.symm))
    refine ⟨_, _, γ, rfl, h, (hr.turn hturn).put (by rw [hF]; exact hdn) ?_ (fun k hk => by cases hk)⟩
    have hlen : (keepP p l).length = ((keepP p l).map Att.row).length := (List.length_map _).symm
    have hfl : flatA (keepP p l) = ((keepP p l).map Att.row).flatten := by unfold flatA; rw [List.flatMap_def]
    rw [hlen, hfl] at hown'
    rw [hlen, att_pv]
    refine own_repR hown' (fun row hr => by obtain ⟨x, _, rfl⟩ := List.mem_map.1 hr; rfl) (fun row hr x hx => by obtain ⟨y, _, rfl⟩ := List.mem_map.1 hr; simp only [Att.row, List.mem_cons, List.not_mem_nil, or_false] at hx; rcases hx with rfl | rfl | rfl | rfl | rfl | rfl | rfl | rfl <;> rfl) (fun g hgb q x hq hc => ?_)
    have hgb' : (Value.slice A' l.length c).ownBlock = some g := by cases A' with | none => cases hgb | some b => exact hgb
    obtain ⟨f1, f2, f3, f4⟩ := hfoot g hgb'
    unfold rdr
    rw [if_neg (by omega), if_neg]
    · exact hc
    · rintro (⟨k, cs, hk, hpk⟩ | ⟨L, e, sz, rows, q1, q2, q3, q4⟩ | hx)
      · exact f3 k (by rw [show look σ.box k = some cs from hk]; rfl) (by rw [← hpk, hq])
      · exact f4 L (by rw [show lookL σ.own L = some (e, sz) from q1]; rfl) (by rw [q3, hq])
      · exact hdis g (.inl (by rw [← hq]; exact hx)) (.inl hgb')
end
end Av
end Go.Proofs.YticnppnejafhdaaGreatDoor
/- The closures of explain.causes, by abstract states. -/
namespace Go.Proofs.YticnppnejafhdaaGreatDoor
open Go.RowKit
open Nd Rc Mo
open Av
set_option maxRecDepth 100000
set_option linter.unusedSimpArgs false
attribute [local go_sem] Av.guardB Av.sop Av.hopx Av.hop Av.hopCall Av.hopF Av.hopB Av.evo Av.evos Av.avCells Av.loadK Av.bound Av.abin Av.aun Av.partsC Av.lfill Av.placesB Av.setAt Av.stl Av.takes Av.src Av.bxOf Av.ownOf Av.St.res Av.St.put Av.St.addBox Av.St.putOwn Av.delL Av.delS Av.look Av.lookL Av.storeSt Av.stealSt Av.St.setBox Av.keepL Av.hitB Av.snap Av.snaps Av.snapCaps Av.AV.lit Av.AV.refs Av.capRefs Av.PV.av Av.CV.av Av.startSt Av.steals Av.athen Av.ablock Av.appK Av.AllS Av.AllO Av.AllR Av.keepS Av.St.avAt Av.RetOK Av.retAll Av.retOne Av.intsOf Av.ptrB TypeDesc.isRow List.range_zero Option.some.injEq exists_eq_left' exists_eq_left exists_eq' exists_and_left exists_and_right exists_const true_and and_true and_self false_and and_false or_false false_or or_true true_or if_true if_false Bool.false_eq_true List.zipIdx_cons List.zipIdx_nil List.map_cons List.map_nil List.filter_cons List.filter_nil List.contains_cons List.contains_nil List.drop_succ_cons List.drop_zero List.take_succ_cons List.take_zero List.take_nil List.drop_nil List.length_cons List.length_nil List.cons_append List.nil_append List.append_nil List.getElem?_cons_zero List.getElem?_cons_succ List.getElem?_nil Option.bind_some Option.bind_none Option.map_some Option.map_none Option.isNone_none Option.isNone_some Option.isSome_some Option.isSome_none Bool.and_true Bool.true_and Bool.and_false Bool.false_and Bool.or_false Bool.false_or Bool.not_true Bool.not_false beq_true beq_false Bool.true_beq Bool.false_beq Loc.s.injEq Loc.b.injEq decide_true decide_false beq_self_eq_true Nat.zero_add Nat.add_zero List.getElem?_toArray List.toList_toArray List.size_toArray Value.oneCell' List.all_cons List.all_nil Value.int.injEq AV.v.injEq AV.sl.injEq AV.agg.injEq AV.ref.injEq AV.ept.injEq AV.tup.injEq Value.bool.injEq PV.v.injEq PV.sl.injEq List.isEmpty_nil List.isEmpty_cons forall_const not_true_eq_false not_false_eq_true true_implies false_implies Value.string.injEq List.length_map List.getElem?_map Int.toNat_natCast Int.natCast_nonneg List.length_append Value.cells implies_true TypeDesc.struct.injEq TypeDesc.slice.injEq TypeDesc.array.injEq List.getElem?_toArray Prod.mk.injEq and_assoc exists_false List.cons.injEq Operand.tmp.injEq ite_self AV.fnv.injEq AV.clo.injEq ne_eq eq_self Tryz.sz3 Tryz.zr3 Tryz.by3 Tryz.pl3 Tryz.is3 Tryz.underlying3 Tryz.sz4 Tryz.zr4 Tryz.by4 Tryz.pl4 Tryz.is4 Tryz.underlying4 Tryz.sz43 Tryz.zr43 Tryz.by43 Tryz.pl43 Tryz.is43 Tryz.underlying43 Tryz.sz35 Tryz.zr35 Tryz.by35 Tryz.pl35 Tryz.is35 Tryz.underlying35 Tryz.sz33 Tryz.zr33 Tryz.by33 Tryz.pl33 Tryz.is33 Tryz.underlying33 Tryz.sz28 Tryz.zr28 Tryz.by28 Tryz.pl28 Tryz.is28 Tryz.underlying28 Tryz.sz39 Tryz.zr39 Tryz.by39 Tryz.pl39 Tryz.is39 Tryz.underlying39 Tryz.sz57 Tryz.zr57 Tryz.by57 Tryz.pl57 Tryz.is57 Tryz.underlying57 Tryz.sz137 Tryz.zr137 Tryz.by137 Tryz.pl137 Tryz.is137 Tryz.underlying137 Tryz.sz66 Tryz.zr66 Tryz.by66 Tryz.pl66 Tryz.is66 Tryz.underlying66 Tryz.sz64 Tryz.zr64 Tryz.by64 Tryz.pl64 Tryz.is64 Tryz.underlying64 Tryz.sz60 Tryz.zr60 Tryz.by60 Tryz.pl60 Tryz.is60 Tryz.underlying60 Tryz.sz100 Tryz.zr100 Tryz.by100 Tryz.pl100 Tryz.is100 Tryz.underlying100 Tryz.sz103 Tryz.zr103 Tryz.by103 Tryz.pl103 Tryz.is103 Tryz.underlying103 Tryz.sz26 Tryz.zr26 Tryz.by26 Tryz.pl26 Tryz.is26 Tryz.underlying26 Tryz.sz120 Tryz.zr120 Tryz.by120 Tryz.pl120 Tryz.is120 Tryz.underlying120 Tryz.sz117 Tryz.zr117 Tryz.by117 Tryz.pl117 Tryz.is117 Tryz.underlying117 Tryz.sz30 Tryz.zr30 Tryz.by30 Tryz.pl30 Tryz.is30 Tryz.underlying30 Tryz.sz31 Tryz.zr31 Tryz.by31 Tryz.pl31 Tryz.is31 Tryz.underlying31 Tryz.sz40 Tryz.zr40 Tryz.by40 Tryz.pl40 Tryz.is40 Tryz.underlying40 Tryz.sz23 Tryz.zr23 Tryz.by23 Tryz.pl23 Tryz.is23 Tryz.underlying23 Tryz.sz24 Tryz.zr24 Tryz.by24 Tryz.pl24 Tryz.is24 Tryz.underlying24 Tryz.sz22 Tryz.zr22 Tryz.by22 Tryz.pl22 Tryz.is22 Tryz.underlying22 Tryz.sz141 Tryz.zr141 Tryz.by141 Tryz.pl141 Tryz.is141 Tryz.underlying141 Tryz.sz42 Tryz.zr42 Tryz.by42 Tryz.pl42 Tryz.is42 Tryz.underlying42 Tryz.sz29 Tryz.zr29 Tryz.by29 Tryz.pl29 Tryz.is29 Tryz.underlying29 Tryz.sz83 Tryz.zr83 Tryz.by83 Tryz.pl83 Tryz.is83 Tryz.underlying83 Tryz.sz67 Tryz.zr67 Tryz.by67 Tryz.pl67 Tryz.is67 Tryz.underlying67 Tryz.it39 Tryz.eg39 Tryz.it137 Tryz.eg137 Tryz.it66 Tryz.eg66 Tryz.it28 Tryz.eg28 Tryz.it60 Tryz.eg60 all_arr loc_ss loc_sb loc_bs loc_bb arr_two arr_one rg1 rg2 rg3 rg4 rg5 rg6 rg7 rg8 ResultVar.tmp.injEq Bool.not_true Bool.not_false undef Rc.Rec.pv Nd.Fl.pv Rc.Dlv.pv Rc.Att.pv Mo.Lt.pv Fn.func.injEq Mo.Net.pv Mo.Lk.pv prow_pv irow_pv Br.pv
def offB (a b : Int) (x : Att) : Bool := x.cf != a || x.ct != b
theorem keep_off (a b : Int) (l : List Att) : keepP (offB a b) l = l.filter fun x => x.cf == a && x.ct == b := by
  unfold keepP offB
  exact List.filter_congr fun x _ => by cases h1 : (x.cf == a) <;> cases h2 : (x.ct == b) <;> simp [bne, h1, h2]

set_option maxHeartbeats 2000000 in
theorem causes1_ok (x : Att) (a b : Int) : FnOK Tryz.prog 74 [.agg x.pv, .ept [ip a], .ept [ip b]] ⟨bv (offB a b x), none⟩ := by
  refine fn_ok Tryz.func74 (by kernel_rfl) rfl (by rw [Tryz.ntmps74]; exact of_decide_eq_true rfl) (fun F hF => ?_)
  rw [Tryz.ntmps74] at hF
  rw [Tryz.results74]
  unfold offB
  cases h1 : (x.cf != a) <;> cases h2 : (x.ct != b)
  · repeat (first
      | ((first | with_reducible refine sops_go ?_ | with_reducible refine headW_end ?_ | with_reducible refine sops_end ?_ | with_reducible refine awp_if ?_ | with_reducible refine awp_skip ?_ | with_reducible refine awp_ret ?_ | with_reducible refine awp_exit ?_); simp only [go_sem, simprocAttr, hF, h1, h2])
      | (with_reducible refine awp_seq_k (fun _ _ => ?_))
      | (with_reducible refine awp_region [] ?_)
      | (with_reducible refine awp_block ?_)
      | go_step)
    all_goals (try rfl)
  · repeat (first
      | ((first | with_reducible refine sops_go ?_ | with_reducible refine headW_end ?_ | with_reducible refine sops_end ?_ | with_reducible refine awp_if ?_ | with_reducible refine awp_skip ?_ | with_reducible refine awp_ret ?_ | with_reducible refine awp_exit ?_); simp only [go_sem, simprocAttr, hF, h1, h2])
      | (with_reducible refine awp_seq_k (fun _ _ => ?_))
      | (with_reducible refine awp_region [] ?_)
      | (with_reducible refine awp_block ?_)
      | go_step)
    all_goals (try rfl)
  · repeat (first
      | ((first | with_reducible refine sops_go ?_ | with_reducible refine headW_end ?_ | with_reducible refine sops_end ?_ | with_reducible refine awp_if ?_ | with_reducible refine awp_skip ?_ | with_reducible refine awp_ret ?_ | with_reducible refine awp_exit ?_); simp only [go_sem, simprocAttr, hF, h1, h2])
      | (with_reducible refine awp_seq_k (fun _ _ => ?_))
      | (with_reducible refine awp_region [] ?_)
      | (with_reducible refine awp_block ?_)
      | go_step)
    all_goals (try rfl)
  · repeat (first
      | ((first | with_reducible refine sops_go ?_ | with_reducible refine headW_end ?_ | with_reducible refine sops_end ?_ | with_reducible refine awp_if ?_ | with_reducible refine awp_skip ?_ | with_reducible refine awp_ret ?_ | with_reducible refine awp_exit ?_); simp only [go_sem, simprocAttr, hF, h1, h2])
      | (with_reducible refine awp_seq_k (fun _ _ => ?_))
      | (with_reducible refine awp_region [] ?_)
      | (with_reducible refine awp_block ?_)
      | go_step)
    all_goals (try rfl)

set_option maxHeartbeats 2000000 in
theorem causes2_ok (x : Att) (lo hi : Int) : FnOK Tryz.prog 75 [.agg x.pv, .ept [ip lo], .ept [ip hi]] ⟨bv (failB lo hi x), none⟩ := by
  refine fn_ok Tryz.func75 (by kernel_rfl) rfl (by rw [Tryz.ntmps75]; exact of_decide_eq_true rfl) (fun F hF => ?_)
  rw [Tryz.ntmps75] at hF
  rw [Tryz.results75]
  unfold failB
  have h0 : (x.o != 1) = !(x.o == 1) := rfl
  cases h1 : (x.o == 1) <;> cases h2 : decide (lo ≤ x.s) <;> cases h3 : decide (x.s ≤ hi)
  · repeat (first
      | ((first | with_reducible refine sops_go ?_ | with_reducible refine headW_end ?_ | with_reducible refine sops_end ?_ | with_reducible refine awp_if ?_ | with_reducible refine awp_skip ?_ | with_reducible refine awp_ret ?_ | with_reducible refine awp_exit ?_); simp only [go_sem, simprocAttr, hF, h0, h1, h2, h3])
      | (with_reducible refine awp_seq_k (fun _ _ => ?_))
      | (with_reducible refine awp_region [] ?_)
      | (with_reducible refine awp_block ?_)
      | go_step)
    all_goals (try rfl)
  · repeat (first
      | ((first | with_reducible refine sops_go ?_ | with_reducible refine headW_end ?_ | with_reducible refine sops_end ?_ | with_reducible refine awp_if ?_ | with_reducible refine awp_skip ?_ | with_reducible refine awp_ret ?_ | with_reducible refine awp_exit ?_); simp only [go_sem, simprocAttr, hF, h0, h1, h2, h3])
      | (with_reducible refine awp_seq_k (fun _ _ => ?_))
      | (with_reducible refine awp_region [] ?_)
      | (with_reducible refine awp_block ?_)
      | go_step)
    all_goals (try rfl)
  · repeat (first
      | ((first | with_reducible refine sops_go ?_ | with_reducible refine headW_end ?_ | with_reducible refine sops_end ?_ | with_reducible refine awp_if ?_ | with_reducible refine awp_skip ?_ | with_reducible refine awp_ret ?_ | with_reducible refine awp_exit ?_); simp only [go_sem, simprocAttr, hF, h0, h1, h2, h3])
      | (with_reducible refine awp_seq_k (fun _ _ => ?_))
      | (with_reducible refine awp_region [] ?_)
      | (with_reducible refine awp_block ?_)
      | go_step)
    all_goals (try rfl)
  · repeat (first
      | ((first | with_reducible refine sops_go ?_ | with_reducible refine headW_end ?_ | with_reducible refine sops_end ?_ | with_reducible refine awp_if ?_ | with_reducible refine awp_skip ?_ | with_reducible refine awp_ret ?_ | with_reducible refine awp_exit ?_); simp only [go_sem, simprocAttr, hF, h0, h1, h2, h3])
      | (with_reducible refine awp_seq_k (fun _ _ => ?_))
      | (with_reducible refine awp_region [] ?_)
      | (with_reducible refine awp_block ?_)
      | go_step)
    all_goals (try rfl)
  · repeat (first
      | ((first | with_reducible refine sops_go ?_ | with_reducible refine headW_end ?_ | with_reducible refine sops_end ?_ | with_reducible refine awp_if ?_ | with_reducible refine awp_skip ?_ | with_reducible refine awp_ret ?_ | with_reducible refine awp_exit ?_); simp only [go_sem, simprocAttr, hF, h0, h1, h2, h3])
      | (with_reducible refine awp_seq_k (fun _ _ => ?_))
      | (with_reducible refine awp_region [] ?_)
      | (with_reducible refine awp_block ?_)
      | go_step)
    all_goals (try rfl)
  · repeat (first
      | ((first | with_reducible refine sops_go ?_ | with_reducible refine headW_end ?_ | with_reducible refine sops_end ?_ | with_reducible refine awp_if ?_ | with_reducible refine awp_skip ?_ | with_reducible refine awp_ret ?_ | with_reducible refine awp_exit ?_); simp only [go_sem, simprocAttr, hF, h0, h1, h2, h3])
      | (with_reducible refine awp_seq_k (fun _ _ => ?_))
      | (with_reducible refine awp_region [] ?_)
      | (with_reducible refine awp_block ?_)
      | go_step)
    all_goals (try rfl)
  · repeat (first
      | ((first | with_reducible refine sops_go ?_ | with_reducible refine headW_end ?_ | with_reducible refine sops_end ?_ | with_reducible refine awp_if ?_ | with_reducible refine awp_skip ?_ | with_reducible refine awp_ret ?_ | with_reducible refine awp_exit ?_); simp only [go_sem, simprocAttr, hF, h0, h1, h2, h3])
      | (with_reducible refine awp_seq_k (fun _ _ => ?_))
      | (with_reducible refine awp_region [] ?_)
      | (with_reducible refine awp_block ?_)
      | go_step)
    all_goals (try rfl)
  · repeat (first
      | ((first | with_reducible refine sops_go ?_ | with_reducible refine headW_end ?_ | with_reducible refine sops_end ?_ | with_reducible refine awp_if ?_ | with_reducible refine awp_skip ?_ | with_reducible refine awp_ret ?_ | with_reducible refine awp_exit ?_); simp only [go_sem, simprocAttr, hF, h0, h1, h2, h3])
      | (with_reducible refine awp_seq_k (fun _ _ => ?_))
      | (with_reducible refine awp_region [] ?_)
      | (with_reducible refine awp_block ?_)
      | go_step)
    all_goals (try rfl)
end Go.Proofs.YticnppnejafhdaaGreatDoor
/- ContainsFunc at attempts, with a closure that asks a function in a variable: by hand. -/
namespace Go.Proofs.YticnppnejafhdaaGreatDoor
open Go.RowKit
open Nd Rc Mo
open Av
theorem calls_att2 {fid k1 k2 : Nat} {m1 m2 : Int} {v : Bool} {x : Att} {W : World} (h : FnOK Tryz.prog fid [.agg x.pv, .ept [ip m1], .ept [ip m2]] ⟨bv v, none⟩) (h1 : W.cell? ⟨k1, 0, none⟩ = some (.int .i64 m1)) (h2 : W.cell? ⟨k2, 0, none⟩ = some (.int .i64 m2)) :
    Calls Tryz.prog fid #[.agg #[.int .i64 x.s, .int .i64 x.f, .int .i64 x.cs, .int .i64 x.co, .int .i64 x.cf, .int .i64 x.ct, .int .i64 x.cl, .int .i64 x.o], .pointer (some ⟨k1, 0, none⟩), .pointer (some ⟨k2, 0, none⟩)] W fun e w' => e = .returned (.bool v) ∧ Below W.heap.size W w' := by
  have hept : ∀ k m, W.cell? ⟨k, 0, none⟩ = some (.int .i64 m) → RepA (fun q => W.cell? q) (fun _ => 0) (.ept [ip m]) (.pointer (some ⟨k, 0, none⟩)) := fun k m hk => ⟨_, 0, [.int .i64 m], rfl, .cons (.v _ rfl) .nil, fun i x hx => by
    cases i with
    | zero => simp at hx; subst hx; exact hk
    | succ i => simp at hx⟩
  have := h.2 W (fun q => W.cell? q) (fun _ _ h => h) [.agg #[.int .i64 x.s, .int .i64 x.f, .int .i64 x.cs, .int .i64 x.co, .int .i64 x.cf, .int .i64 x.ct, .int .i64 x.cl, .int .i64 x.o], .pointer (some ⟨k1, 0, none⟩), .pointer (some ⟨k2, 0, none⟩)]
    (.cons ⟨_, rfl, rep_of_ints (xs := [.int .i64 x.s, .int .i64 x.f, .int .i64 x.cs, .int .i64 x.co, .int .i64 x.cf, .int .i64 x.ct, .int .i64 x.cl, .int .i64 x.o]) (by intro u hu; simp at hu; rcases hu with rfl | rfl | rfl | rfl | rfl | rfl | rfl | rfl <;> rfl)⟩ rfl (.cons (hept k1 m1 h1) rfl (.cons (hept k2 m2 h2) rfl .nil)))
  refine this.mono ?_
  rintro e w' ⟨u, rfl, hb, hres⟩
  exact ⟨by rw [show u = .bool v from hres.2], hb⟩
set_option maxRecDepth 100000 in
set_option maxHeartbeats 2000000 in
theorem causes3_any (x : Att) (lo hi : Int) (b g1 g2 : Nat) (w : World) (hc : w.cell? ⟨b, 0, none⟩ = some (.func (.func 75) #[] #[.pointer (some ⟨g1, 0, none⟩), .pointer (some ⟨g2, 0, none⟩)])) (h1 : w.cell? ⟨g1, 0, none⟩ = some (.int .i64 lo)) (h2 : w.cell? ⟨g2, 0, none⟩ = some (.int .i64 hi)) :
    Calls Tryz.prog 76 #[.agg #[.int .i64 x.s, .int .i64 x.f, .int .i64 x.cs, .int .i64 x.co, .int .i64 x.cf, .int .i64 x.ct, .int .i64 x.cl, .int .i64 x.o], .pointer (some ⟨b, 0, none⟩)] w fun e w' => e = .returned (.bool (!failB lo hi x)) ∧ Below w.heap.size w w' := by
  have hg : b < w.heap.size := World.block_lt_of_cell? w _ hc
  have HC : Hid (∀ W, Below w.heap.size w W → Calls Tryz.prog 75 #[.agg #[.int .i64 x.s, .int .i64 x.f, .int .i64 x.cs, .int .i64 x.co, .int .i64 x.cf, .int .i64 x.ct, .int .i64 x.cl, .int .i64 x.o], .pointer (some ⟨g1, 0, none⟩), .pointer (some ⟨g2, 0, none⟩)] W fun e w' => e = .returned (.bool (failB lo hi x)) ∧ Below W.heap.size W w') := Lib.hid fun W hW => calls_att2 (causes2_ok x lo hi) ((hW.cell (p := ⟨g1, 0, none⟩) (World.block_lt_of_cell? w _ h1)).trans h1) ((hW.cell (p := ⟨g2, 0, none⟩) (World.block_lt_of_cell? w _ h2)).trans h2)
  clear h1 h2
  go_enter Tryz.func76, Tryz.ntmps76
  go_wp2_with fail
  refine (HC.out _ ((Below.refl _ _).alloc (Nat.le_refl _) _)).mono ?_
  rintro e w2 ⟨rfl, hb2⟩
  go_wp2_with fail
  go_ret
  exact ⟨rfl, ((Below.refl _ _).alloc (Nat.le_refl _) _).trans (hb2.mono (by simp))⟩
set_option maxRecDepth 100000 in
set_option maxHeartbeats 2000000 in
theorem containsHA_any (p : Att → Bool) (g0 : FuncId) (cb : Array Value) (l : List Att) (A : Option Addr) (c : Nat) (w : World) (eg : ∀ args w, (callFunc g0 args).run Tryz.prog w = .ok (.enter g0 args) w) (hA : LiesA w w.heap.size A l) (hl : l.length ≤ 1000000)
    (hp : ∀ W, Below w.heap.size w W → ∀ a : Att, Calls Tryz.prog g0 (#[.agg #[.int .i64 a.s, .int .i64 a.f, .int .i64 a.cs, .int .i64 a.co, .int .i64 a.cf, .int .i64 a.ct, .int .i64 a.cl, .int .i64 a.o]] ++ cb) W fun e w' => e = .returned (.bool (p a)) ∧ Below W.heap.size W w') :
    Calls Tryz.prog 24 #[.slice A l.length c, .func (.func g0) #[] cb] w fun e w' => e = .returned (.bool (l.any p)) ∧ Below w.heap.size w w' := by
  have h0 := Lib.hid (idx_any p l)
  have HX := Lib.hid (indexHA_any p g0 cb l A c w eg hA hl hp)
  clear hp
  go_enter Tryz.func24, Tryz.ntmps24
  go_wp2_with fail
  refine HX.out.mono ?_
  rintro e w1 ⟨rfl, hb⟩
  go_wp2_with fail
  go_ret
  exact ⟨ret_bool h0.out, hb⟩
namespace Av
section
variable {n d : Nat} {σ : St} {o : Oper} {K : St → Prop}
/-- ContainsFunc of some attempts, one of which does not fail. -/
theorem hand_contains {x y : Operand} {ats : Array TypeId} {k0 g1 g2 : Nat} {l : List Att} {lo hi : Int} (ho : o.op = .call { callee := .value (.func 24), args := #[x, y], argTypes := ats }) (hd : o.dst = some d) (hdn : d < n)
    (hx : evo (look σ.slot) x = some (.sl 8 (l.map Att.pv))) (hy : evo (look σ.slot) y = some (.clo 76 [(k0, 0)])) (hb0 : look σ.box k0 = some [.v (.func (.func 75) #[] #[.pointer (some ⟨g1, 0, none⟩), .pointer (some ⟨g2, 0, none⟩)])])
    (hb1 : look σ.box (g1 + 1000000) = some [ip lo]) (hb2 : look σ.box (g2 + 1000000) = some [ip hi]) (hl : l.length ≤ 1000000) (h : K (σ.put d (bv (l.any fun a => !failB lo hi a)))) : Hand Tryz.prog n σ o K := by
  refine hand_call hd fun F γ a w hF hr => ?_
  obtain ⟨A, c, e1, hA⟩ := lies_of_rep (fun p v hp => hr.cell hp) (by decide) (show RepP _ (.sl 8 ((l.map Att.row).map fun row => row.map PV.v)) (a.eval x) from att_pv l ▸ (evo_ok hr (fun _ _ _ hy => hy) hx).1)
  rw [List.length_map] at e1
  have e2 : a.eval y = .func (.func 76) #[] #[.pointer (some ⟨γ.bx k0, 0, none⟩)] := (evo_ok hr (fun _ _ _ hy => hy) hy).1
  have hcell : ∀ k v, look σ.box k = some [.v v] → w.cell? ⟨γ.bx k, 0, none⟩ = some v := fun k v hk => by
    obtain ⟨us, ty, h1, _, h3⟩ := hr.boxes k _ hk
    cases h3 with | cons h3 h4 =>
    cases h4
    cases h3
    rw [cell_of_row w _ 0 _ ty (0, 0) h1]
    rfl
  have c0 := hcell _ _ hb0
  have c1 : w.cell? ⟨g1, 0, none⟩ = some (.int .i64 lo) := by
    have := hcell _ _ hb1
    rwa [hr.dyn _ (by rw [hb1]; rfl) (by omega), Nat.add_sub_cancel] at this
  have c2 : w.cell? ⟨g2, 0, none⟩ = some (.int .i64 hi) := by
    have := hcell _ _ hb2
    rwa [hr.dyn _ (by rw [hb2]; rfl) (by omega), Nat.add_sub_cancel] at this
  refine ⟨24, #[a.eval x, a.eval y], ?_, ?_⟩
  · have henter : Enters Tryz.prog 24 := ⟨Tryz.f24, _, Tryz.func24, by kernel_rfl, rfl⟩
    have hf : a.eval (.func 24) = .func (.func 24) #[] #[] := rfl
    simp [execOp, ho, resolve, hf, Deferred.ofValue, invoke, run_callFunc henter]
  have h3 : Enters Tryz.prog 76 := ⟨Tryz.f76, _, Tryz.func76, by kernel_rfl, rfl⟩
  rw [e1, e2]
  refine (containsHA_any (fun a => !failB lo hi a) 76 #[.pointer (some ⟨γ.bx k0, 0, none⟩)] l A c w (fun args w => run_callFunc h3 args w) hA hl (fun W hW x => ?_)).mono ?_
  · exact causes3_any x lo hi (γ.bx k0) g1 g2 W ((hW.cell (p := ⟨γ.bx k0, 0, none⟩) (World.block_lt_of_cell? w _ c0)).trans c0) ((hW.cell (p := ⟨g1, 0, none⟩) (World.block_lt_of_cell? w _ c1)).trans c1) ((hW.cell (p := ⟨g2, 0, none⟩) (World.block_lt_of_cell? w _ c2)).trans c2)
  · rintro e w1 ⟨rfl, hb⟩
    exact ⟨_, _, γ, rfl, h, (hr.grow hb).put (by rw [hF]; exact hdn) rfl (fun k hk => by cases hk)⟩
/-- A function value whose captured variables have their blocks' numbers as names. -/
theorem hand_makeFunc2 {fid g1 g2 : Nat} {x1 x2 : Operand} {cs1 cs2 : List PV} (ho : o.op = .makeFunc (.func fid) #[] #[x1, x2]) (hd : o.dst = some d) (hdn : d < n) (hx1 : evo (look σ.slot) x1 = some (.ref (g1 + 1000000) 0)) (hx2 : evo (look σ.slot) x2 = some (.ref (g2 + 1000000) 0))
    (hb1 : look σ.box (g1 + 1000000) = some cs1) (hb2 : look σ.box (g2 + 1000000) = some cs2) (h : K (σ.put d (.v (.func (.func fid) #[] #[.pointer (some ⟨g1, 0, none⟩), .pointer (some ⟨g2, 0, none⟩)])))) : Hand Tryz.prog n σ o K := by
  refine hand_value hd hdn fun F γ a w hF hr => ⟨.v (.func (.func fid) #[] #[.pointer (some ⟨g1, 0, none⟩), .pointer (some ⟨g2, 0, none⟩)]), _, w, σ.ext, ?_, Turn.same hr.exth (fun _ h => h) (fun _ h => .inr h), rfl, fun k hk => (by cases hk), h⟩
  have e1 : a.eval x1 = .pointer (some ⟨γ.bx (g1 + 1000000), 0, none⟩) := (evo_ok hr (fun _ _ _ hy => hy) hx1).1
  have e2 : a.eval x2 = .pointer (some ⟨γ.bx (g2 + 1000000), 0, none⟩) := (evo_ok hr (fun _ _ _ hy => hy) hx2).1
  rw [hr.dyn _ (by rw [hb1]; rfl) (by omega), Nat.add_sub_cancel] at e1
  rw [hr.dyn _ (by rw [hb2]; rfl) (by omega), Nat.add_sub_cancel] at e2
  simp [execOp, ho, e1, e2, Instr.makeFunc]
end
end Av
end Go.Proofs.YticnppnejafhdaaGreatDoor

import Derived.Test.YticnppnejafhdaaGreatDoorZ8
set_option linter.unusedVariables false
set_option linter.unusedSimpArgs false
/- explain.Causes, by abstract states. -/
namespace Go.Proofs.YticnppnejafhdaaGreatDoor
open Go.RowKit
open Nd Rc Mo
open Av
set_option maxRecDepth 100000
set_option linter.unusedSimpArgs false
attribute [local go_sem] Av.guardB Av.sop Av.hopx Av.hop Av.hopCall Av.hopF Av.hopB Av.evo Av.evos Av.avCells Av.loadK Av.bound Av.abin Av.aun Av.partsC Av.lfill Av.placesB Av.setAt Av.stl Av.takes Av.src Av.bxOf Av.ownOf Av.St.res Av.St.put Av.St.addBox Av.St.putOwn Av.delL Av.delS Av.look Av.lookL Av.storeSt Av.stealSt Av.St.setBox Av.keepL Av.hitB Av.snap Av.snaps Av.snapCaps Av.AV.lit Av.AV.refs Av.capRefs Av.PV.av Av.CV.av Av.startSt Av.steals Av.athen Av.ablock Av.appK Av.AllS Av.AllO Av.AllR Av.keepS Av.St.avAt Av.RetOK Av.retAll Av.retOne Av.intsOf Av.ptrB TypeDesc.isRow List.range_zero Option.some.injEq exists_eq_left' exists_eq_left exists_eq' exists_and_left exists_and_right exists_const true_and and_true and_self false_and and_false or_false false_or or_true true_or if_true if_false Bool.false_eq_true List.zipIdx_cons List.zipIdx_nil List.map_cons List.map_nil List.filter_cons List.filter_nil List.contains_cons List.contains_nil List.drop_succ_cons List.drop_zero List.take_succ_cons List.take_zero List.take_nil List.drop_nil List.length_cons List.length_nil List.cons_append List.nil_append List.append_nil List.getElem?_cons_zero List.getElem?_cons_succ List.getElem?_nil Option.bind_some Option.bind_none Option.map_some Option.map_none Option.isNone_none Option.isNone_some Option.isSome_some Option.isSome_none Bool.and_true Bool.true_and Bool.and_false Bool.false_and Bool.or_false Bool.false_or Bool.not_true Bool.not_false beq_true beq_false Bool.true_beq Bool.false_beq Loc.s.injEq Loc.b.injEq decide_true decide_false beq_self_eq_true Nat.zero_add Nat.add_zero List.getElem?_toArray List.toList_toArray List.size_toArray Value.oneCell' List.all_cons List.all_nil Value.int.injEq AV.v.injEq AV.sl.injEq AV.agg.injEq AV.ref.injEq AV.ept.injEq AV.tup.injEq Value.bool.injEq PV.v.injEq PV.sl.injEq List.isEmpty_nil List.isEmpty_cons forall_const not_true_eq_false not_false_eq_true true_implies false_implies Value.string.injEq List.length_map List.getElem?_map Int.toNat_natCast Int.natCast_nonneg List.length_append Value.cells implies_true TypeDesc.struct.injEq TypeDesc.slice.injEq TypeDesc.array.injEq List.getElem?_toArray Prod.mk.injEq and_assoc exists_false List.cons.injEq Operand.tmp.injEq ite_self AV.fnv.injEq AV.clo.injEq ne_eq eq_self Tryz.sz3 Tryz.zr3 Tryz.by3 Tryz.pl3 Tryz.is3 Tryz.underlying3 Tryz.sz4 Tryz.zr4 Tryz.by4 Tryz.pl4 Tryz.is4 Tryz.underlying4 Tryz.sz43 Tryz.zr43 Tryz.by43 Tryz.pl43 Tryz.is43 Tryz.underlying43 Tryz.sz35 Tryz.zr35 Tryz.by35 Tryz.pl35 Tryz.is35 Tryz.underlying35 Tryz.sz33 Tryz.zr33 Tryz.by33 Tryz.pl33 Tryz.is33 Tryz.underlying33 Tryz.sz28 Tryz.zr28 Tryz.by28 Tryz.pl28 Tryz.is28 Tryz.underlying28 Tryz.sz39 Tryz.zr39 Tryz.by39 Tryz.pl39 Tryz.is39 Tryz.underlying39 Tryz.sz57 Tryz.zr57 Tryz.by57 Tryz.pl57 Tryz.is57 Tryz.underlying57 Tryz.sz137 Tryz.zr137 Tryz.by137 Tryz.pl137 Tryz.is137 Tryz.underlying137 Tryz.sz66 Tryz.zr66 Tryz.by66 Tryz.pl66 Tryz.is66 Tryz.underlying66 Tryz.sz64 Tryz.zr64 Tryz.by64 Tryz.pl64 Tryz.is64 Tryz.underlying64 Tryz.sz60 Tryz.zr60 Tryz.by60 Tryz.pl60 Tryz.is60 Tryz.underlying60 Tryz.sz100 Tryz.zr100 Tryz.by100 Tryz.pl100 Tryz.is100 Tryz.underlying100 Tryz.sz103 Tryz.zr103 Tryz.by103 Tryz.pl103 Tryz.is103 Tryz.underlying103 Tryz.sz26 Tryz.zr26 Tryz.by26 Tryz.pl26 Tryz.is26 Tryz.underlying26 Tryz.sz120 Tryz.zr120 Tryz.by120 Tryz.pl120 Tryz.is120 Tryz.underlying120 Tryz.sz117 Tryz.zr117 Tryz.by117 Tryz.pl117 Tryz.is117 Tryz.underlying117 Tryz.sz30 Tryz.zr30 Tryz.by30 Tryz.pl30 Tryz.is30 Tryz.underlying30 Tryz.sz31 Tryz.zr31 Tryz.by31 Tryz.pl31 Tryz.is31 Tryz.underlying31 Tryz.sz40 Tryz.zr40 Tryz.by40 Tryz.pl40 Tryz.is40 Tryz.underlying40 Tryz.sz23 Tryz.zr23 Tryz.by23 Tryz.pl23 Tryz.is23 Tryz.underlying23 Tryz.sz24 Tryz.zr24 Tryz.by24 Tryz.pl24 Tryz.is24 Tryz.underlying24 Tryz.sz22 Tryz.zr22 Tryz.by22 Tryz.pl22 Tryz.is22 Tryz.underlying22 Tryz.sz141 Tryz.zr141 Tryz.by141 Tryz.pl141 Tryz.is141 Tryz.underlying141 Tryz.sz42 Tryz.zr42 Tryz.by42 Tryz.pl42 Tryz.is42 Tryz.underlying42 Tryz.sz29 Tryz.zr29 Tryz.by29 Tryz.pl29 Tryz.is29 Tryz.underlying29 Tryz.sz83 Tryz.zr83 Tryz.by83 Tryz.pl83 Tryz.is83 Tryz.underlying83 Tryz.sz67 Tryz.zr67 Tryz.by67 Tryz.pl67 Tryz.is67 Tryz.underlying67 Tryz.it39 Tryz.eg39 Tryz.it137 Tryz.eg137 Tryz.it66 Tryz.eg66 Tryz.it28 Tryz.eg28 Tryz.it60 Tryz.eg60 all_arr loc_ss loc_sb loc_bs loc_bb arr_two arr_one rg1 rg2 rg3 rg4 rg5 rg6 rg7 rg8 ResultVar.tmp.injEq Bool.not_true Bool.not_false undef Rc.Rec.pv Nd.Fl.pv Rc.Dlv.pv Rc.Att.pv Mo.Lt.pv Fn.func.injEq Mo.Net.pv Mo.Lk.pv prow_pv irow_pv Br.pv
set_option maxHeartbeats 20000000 in
theorem causesR_ok (n : Net) (f : Fl) (r : Rec) (fr a b : Int) (hS : SmallN n) (hla : r.al.length ≤ 1000000) (hld : r.dl.length ≤ 1000000) : FnOK Tryz.prog 13 [.agg n.pv, .agg f.pv, .agg r.pv, iv fr, iv a, iv b] ⟨.tup [.c (.sl 5 ((causesR n f r fr a b).1.map Br.pv)), .c (ip (causesR n f r fr a b).2)], none⟩ := by
  refine fn_ok Tryz.func13 (by kernel_rfl) rfl (by rw [Tryz.ntmps13]; exact of_decide_eq_true rfl) (fun F hF => ?_)
  rw [Tryz.ntmps13] at hF
  rw [Tryz.results13]
  cases hB : basicB n f r with
  | false =>
    repeat (first
      | (with_reducible (first | refine sops_go ?_ | refine headW_end ?_ | refine sops_end ?_ | refine awp_if ?_ | refine awp_skip ?_ | refine awp_ret ?_ | refine awp_exit ?_); simp only [go_sem, simprocAttr, hF])
      | with_reducible (first | refine awp_seq_k fun _ _ => ?_ | refine awp_region [] ?_ | refine awp_block ?_)
      | go_step)
    refine ⟨_, base_ok n f r hS hla hld, ?_⟩
    simp only [go_sem, simprocAttr, hF, hB]
    repeat (first
      | ((refine awp_nil (c := .ret) 12 5 57 (by rw [hF]; decide) (by first | rfl | simp only [Av.look]; rfl) ?_); simp only [go_sem, simprocAttr, hF, hB])
      | (with_reducible (first | refine sops_go ?_ | refine headW_end ?_ | refine sops_end ?_ | refine awp_if ?_ | refine awp_skip ?_ | refine awp_ret ?_ | refine awp_exit ?_); simp only [go_sem, simprocAttr, hF, hB])
      | with_reducible (first | refine awp_seq_k fun _ _ => ?_ | refine awp_region [] ?_ | refine awp_block ?_)
      | go_step)
    rw [show causesR n f r fr a b = ([], 1) from by unfold causesR; rw [if_pos hB]]
    all_goals (try rfl)
  | true =>
    have hB' : ¬ basicB n f r = false := by rw [hB]; decide
    obtain ⟨hc, _⟩ := basicB_inv hB
    by_cases c1 : fr < 0
    case pos =>
      have e1 : decide (fr < 0) = true := by first | exact decide_eq_true (by omega) | simpa using c1
      repeat (first
        | (with_reducible (first | refine sops_go ?_ | refine headW_end ?_ | refine sops_end ?_ | refine awp_if ?_ | refine awp_skip ?_ | refine awp_ret ?_ | refine awp_exit ?_); simp only [go_sem, simprocAttr, hF, hB])
        | with_reducible (first | refine awp_seq_k fun _ _ => ?_ | refine awp_region [] ?_ | refine awp_block ?_)
        | go_step)
      refine ⟨_, base_ok n f r hS hla hld, ?_⟩
      simp only [go_sem, simprocAttr, hF, hB]
      repeat (first
        | ((refine awp_nil (c := .ret) 12 5 57 (by rw [hF]; decide) (by first | rfl | simp only [Av.look]; rfl) ?_); simp only [go_sem, simprocAttr, hF, hB, e1])
        | (with_reducible (first | refine sops_go ?_ | refine headW_end ?_ | refine sops_end ?_ | refine awp_if ?_ | refine awp_skip ?_ | refine awp_ret ?_ | refine awp_exit ?_); simp only [go_sem, simprocAttr, hF, hB, e1])
        | with_reducible (first | refine awp_seq_k fun _ _ => ?_ | refine awp_region [] ?_ | refine awp_block ?_)
        | go_step)
      rw [show causesR n f r fr a b = ([], 2) from by unfold causesR; rw [if_neg hB', if_pos (.inl c1)]]
      all_goals (try rfl)
    have e1 : decide (fr < 0) = false := by first | exact decide_eq_false (by omega) | simpa using c1
    by_cases c2 : 1048576 ≤ fr
    case pos =>
      have e2 : decide (fr ≥ 1048576) = true := by first | exact decide_eq_true (by omega) | simpa using c2
      repeat (first
        | (with_reducible (first | refine sops_go ?_ | refine headW_end ?_ | refine sops_end ?_ | refine awp_if ?_ | refine awp_skip ?_ | refine awp_ret ?_ | refine awp_exit ?_); simp only [go_sem, simprocAttr, hF, hB])
        | with_reducible (first | refine awp_seq_k fun _ _ => ?_ | refine awp_region [] ?_ | refine awp_block ?_)
        | go_step)
      refine ⟨_, base_ok n f r hS hla hld, ?_⟩
      simp only [go_sem, simprocAttr, hF, hB]
      repeat (first
        | ((refine awp_nil (c := .ret) 12 5 57 (by rw [hF]; decide) (by first | rfl | simp only [Av.look]; rfl) ?_); simp only [go_sem, simprocAttr, hF, hB, e1, e2])
        | (with_reducible (first | refine sops_go ?_ | refine headW_end ?_ | refine sops_end ?_ | refine awp_if ?_ | refine awp_skip ?_ | refine awp_ret ?_ | refine awp_exit ?_); simp only [go_sem, simprocAttr, hF, hB, e1, e2])
        | with_reducible (first | refine awp_seq_k fun _ _ => ?_ | refine awp_region [] ?_ | refine awp_block ?_)
        | go_step)
      rw [show causesR n f r fr a b = ([], 2) from by unfold causesR; rw [if_neg hB', if_pos (.inr c2)]]
      all_goals (try rfl)
    have e2 : decide (fr ≥ 1048576) = false := by first | exact decide_eq_false (by omega) | simpa using c2
    by_cases c3 : idxL n a b < 0
    case pos =>
      have e3 : decide (idxL n a b < 0) = true := by first | exact decide_eq_true (by omega) | simpa using c3
      repeat (first
        | (with_reducible (first | refine sops_go ?_ | refine headW_end ?_ | refine sops_end ?_ | refine awp_if ?_ | refine awp_skip ?_ | refine awp_ret ?_ | refine awp_exit ?_); simp only [go_sem, simprocAttr, hF, hB])
        | with_reducible (first | refine awp_seq_k fun _ _ => ?_ | refine awp_region [] ?_ | refine awp_block ?_)
        | go_step)
      refine ⟨_, base_ok n f r hS hla hld, ?_⟩
      simp only [go_sem, simprocAttr, hF, hB]
      repeat (first
        | (with_reducible (first | refine sops_go ?_ | refine headW_end ?_ | refine sops_end ?_ | refine awp_if ?_ | refine awp_skip ?_ | refine awp_ret ?_ | refine awp_exit ?_); simp only [go_sem, simprocAttr, hF, hB, e1, e2])
        | with_reducible (first | refine awp_seq_k fun _ _ => ?_ | refine awp_region [] ?_ | refine awp_block ?_)
        | go_step)
      refine ⟨_, nindex_ok n a b hS hc, ?_⟩
      simp only [go_sem, simprocAttr, hF]
      try simp only [go_sem, simprocAttr, hF, e3]
      repeat (first
        | ((refine awp_nil (c := .ret) 12 5 57 (by rw [hF]; decide) (by first | rfl | simp only [Av.look]; rfl) ?_); simp only [go_sem, simprocAttr, hF, e3])
        | (with_reducible (first | refine sops_go ?_ | refine headW_end ?_ | refine sops_end ?_ | refine awp_if ?_ | refine awp_skip ?_ | refine awp_ret ?_ | refine awp_exit ?_); simp only [go_sem, simprocAttr, hF, e3])
        | with_reducible (first | refine awp_seq_k fun _ _ => ?_ | refine awp_region [] ?_ | refine awp_block ?_)
        | go_step)
      rw [show causesR n f r fr a b = ([], 7) from by unfold causesR; rw [if_neg hB', if_neg (by omega), if_pos c3]]
      all_goals (try rfl)
    have e3 : decide (idxL n a b < 0) = false := by first | exact decide_eq_false (by omega) | simpa using c3
    have hR : causesR n f r fr a b = (causesX n f r fr a b, 0) := by unfold causesR; rw [if_neg hB', if_neg (by omega), if_neg c3]
    repeat (first
      | (with_reducible (first | refine sops_go ?_ | refine headW_end ?_ | refine sops_end ?_ | refine awp_if ?_ | refine awp_skip ?_ | refine awp_ret ?_ | refine awp_exit ?_); simp only [go_sem, simprocAttr, hF, hB])
      | with_reducible (first | refine awp_seq_k fun _ _ => ?_ | refine awp_region [] ?_ | refine awp_block ?_)
      | go_step)
    refine ⟨_, base_ok n f r hS hla hld, ?_⟩
    simp only [go_sem, simprocAttr, hF, hB]
    repeat (first
      | (with_reducible (first | refine sops_go ?_ | refine headW_end ?_ | refine sops_end ?_ | refine awp_if ?_ | refine awp_skip ?_ | refine awp_ret ?_ | refine awp_exit ?_); simp only [go_sem, simprocAttr, hF, hB, e1, e2])
      | with_reducible (first | refine awp_seq_k fun _ _ => ?_ | refine awp_region [] ?_ | refine awp_block ?_)
      | go_step)
    refine ⟨_, nindex_ok n a b hS hc, ?_⟩
    simp only [go_sem, simprocAttr, hF]
    try simp only [go_sem, simprocAttr, hF, e3]
    repeat (first
      | (with_reducible (first | refine sops_go ?_ | refine headW_end ?_ | refine sops_end ?_ | refine awp_if ?_ | refine awp_skip ?_ | refine awp_ret ?_ | refine awp_exit ?_); simp only [go_sem, simprocAttr, hF, e3])
      | with_reducible (first | refine awp_seq_k fun _ _ => ?_ | refine awp_region [] ?_ | refine awp_block ?_)
      | go_step)
    refine ⟨_, causes_ok n f r fr a b hS hB ⟨by omega, by omega⟩ (by omega) hla, ?_⟩
    simp only [go_sem, simprocAttr, hF]
    repeat (first
      | (with_reducible (first | refine sops_go ?_ | refine headW_end ?_ | refine sops_end ?_ | refine awp_if ?_ | refine awp_skip ?_ | refine awp_ret ?_ | refine awp_exit ?_); simp only [go_sem, simprocAttr, hF])
      | with_reducible (first | refine awp_seq_k fun _ _ => ?_ | refine awp_region [] ?_ | refine awp_block ?_)
      | go_step)
    all_goals (try rw [hR])
    all_goals (try rfl)
/- The example holds, by abstract states. -/
attribute [local go_sem] Tryz.sz20 Tryz.zr20 Tryz.by20 Tryz.pl20 Tryz.is20 Tryz.underlying20 Tryz.sz89 Tryz.zr89 Tryz.by89 Tryz.pl89 Tryz.is89 Tryz.underlying89 Tryz.sz132 Tryz.zr132 Tryz.by132 Tryz.pl132 Tryz.is132 Tryz.underlying132 Tryz.sz113 Tryz.zr113 Tryz.by113 Tryz.pl113 Tryz.is113 Tryz.underlying113 Tryz.sz9 Tryz.zr9 Tryz.by9 Tryz.pl9 Tryz.is9 Tryz.underlying9 Ex.pv
theorem smallL : SmallN nL := ⟨by decide, by decide, by decide, by decide⟩
theorem awF3 : FnOK Tryz.prog 11 [.agg nL.pv, .agg fL.pv, .sl 1 (psL.map prow_pv), .agg rL.pv, iv 3] ⟨.tup [.g xL.pv, .c (ip 0)], none⟩ := by
  have h := find_okX nL fL psL rL 3 smallL (by decide) (by decide) (by decide) (by decide)
  rw [aw_find3] at h
  exact h
theorem awF2 : FnOK Tryz.prog 11 [.agg nL.pv, .agg fL.pv, .sl 1 (psL.map prow_pv), .agg rL.pv, iv 2] ⟨.tup [.g ex0.pv, .c (ip 7)], none⟩ := by
  have h := find_okX nL fL psL rL 2 smallL (by decide) (by decide) (by decide) (by decide)
  rw [aw_find2] at h
  exact h
theorem awCs : FnOK Tryz.prog 13 [.agg nL.pv, .agg fL.pv, .agg rL.pv, iv 3, iv 2, iv 1] ⟨.tup [.c (.sl 5 ([bL].map Br.pv)), .c (ip 0)], none⟩ := by
  have h := causesR_ok nL fL rL 3 2 1 smallL (by decide) (by decide)
  rw [aw_causes] at h
  exact h
theorem awC1 : FnOK Tryz.prog 20 [.agg nL.pv, .agg fL.pv, .sl 1 (psL.map prow_pv), .agg rL.pv, .agg xL.pv] ⟨iv 0, none⟩ := by
  have h := check_okX nL fL psL rL xL smallL (by decide) (by decide) (by decide) (by decide)
  rw [aw_ck] at h
  exact h
theorem awC2 : FnOK Tryz.prog 20 [.agg nL.pv, .agg fL.pv, .sl 1 (psL.map prow_pv), .agg rL.pv, .agg [ip 6, ip 3, ip (-1), .v (.slice none 0 0)]] ⟨iv 20, none⟩ := by
  have h := check_okX nL fL psL rL yL smallL (by decide) (by decide) (by decide) (by decide)
  rw [aw_ck2] at h
  exact fnOK_le h (.cons (.refl _) (.cons (.refl _) (.cons (.refl _) (.cons (.refl _) (.cons (.agg (.cons (.refl _) (.cons (.refl _) (.cons (.refl _) (.cons (.nil 5) .nil))))) .nil)))))
theorem awFm : FnOK Tryz.prog 18 [.agg xL.pv] ⟨.tup [.c (.v (.string sL)), .c (ip 0)], none⟩ := by
  have h := (format_okC (fun _ => True) (fun _ h => h) xL (by decide) (by decide) (fun i hi h => by
    have hlt : i < 100 := by
      rcases h with rfl | rfl | rfl | ⟨c, hc, h⟩
      · decide
      · decide
      · decide
      · obtain rfl : c = bL := List.mem_singleton.1 hc
        rcases h with rfl | rfl | h
        · decide
        · decide
        · rcases List.mem_cons.1 h with rfl | h
          · decide
          · obtain rfl := List.mem_singleton.1 h
            decide
    have := itoaS_ok i.toNat (by omega)
    rw [Int.toNat_of_nonneg hi.1] at this
    exact this.c)).plain
  rw [aw_fmt] at h
  exact h

set_option maxHeartbeats 20000000 in
theorem awake_ok : FnOK Tryz.prog 9 [] ⟨bv true, none⟩ := by
  have hca : xL.ca = [bL] := rfl
  have hx1 : xL.lt.fl = 6 := rfl
  have hx2 : xL.lt.fr = 3 := rfl
  have hx3 : xL.lt.sl = -1 := rfl
  have hs : (sL.toList == (⟨#[102, 108, 111, 119, 32, 54, 32, 102, 114, 97, 109, 101, 32, 51, 32, 110, 111, 116, 32, 100, 101, 108, 105, 118, 101, 114, 101, 100, 10, 108, 105, 110, 107, 32, 50, 32, 116, 111, 32, 49, 32, 108, 111, 115, 116, 32, 105, 110, 32, 115, 108, 111, 116, 115, 32, 50, 53, 32, 50, 54, 10]⟩ : ByteArray).toList) = true := beq_self_eq_true sL.toList
  have heq : decide (bL.sl = [25, 26]) = true := by decide
  refine fn_ok Tryz.func9 (by kernel_rfl) rfl (by rw [Tryz.ntmps9]; exact of_decide_eq_true rfl) (fun F hF => ?_)
  rw [Tryz.ntmps9] at hF
  rw [Tryz.results9]
  repeat (first
    | (with_reducible (first | refine sops_go ?_ | refine headW_end ?_ | refine sops_end ?_ | refine awp_if ?_ | refine awp_skip ?_ | refine awp_ret ?_ | refine awp_exit ?_); simp only [go_sem, simprocAttr, hF, cz0, cz1, cz2, cz3, cz4, tz0, tz1, tz2, tz3])
    | with_reducible (first | refine awp_seq_k fun _ _ => ?_ | refine awp_region [29] ?_ | refine awp_block ?_)
    | go_step)
  refine ⟨_, lineL_ok, ?_⟩
  simp only [go_sem, simprocAttr, hF]
  repeat (first
    | (with_reducible (first | refine sops_go ?_ | refine headW_end ?_ | refine sops_end ?_ | refine awp_if ?_ | refine awp_skip ?_ | refine awp_ret ?_ | refine awp_exit ?_); simp only [go_sem, simprocAttr, hF, cz0, cz1, cz2, cz3, cz4, tz0, tz1, tz2, tz3])
    | with_reducible (first | refine awp_seq_k fun _ _ => ?_ | refine awp_region [29] ?_ | refine awp_block ?_)
    | go_step)
  refine awp_nilB 4 1 8 66 (cs := _) rfl rfl ?_
  simp only [go_sem, simprocAttr, hF, cz0, cz1, cz2, cz3, cz4, tz0, tz1, tz2, tz3]
  refine awp_nilB 4 2 3 137 (cs := _) rfl rfl ?_
  simp only [go_sem, simprocAttr, hF, cz0, cz1, cz2, cz3, cz4, tz0, tz1, tz2, tz3]
  repeat (first
    | (with_reducible (first | refine sops_go ?_ | refine headW_end ?_ | refine sops_end ?_ | refine awp_if ?_ | refine awp_skip ?_ | refine awp_ret ?_ | refine awp_exit ?_); simp only [go_sem, simprocAttr, hF, cz0, cz1, cz2, cz3, cz4, tz0, tz1, tz2, tz3])
    | with_reducible (first | refine awp_seq_k fun _ _ => ?_ | refine awp_region [29] ?_ | refine awp_block ?_)
    | go_step)
  refine awp_loop_by (ι := {k : Nat // k ≤ 2}) (fun k σ => ⟨(23, iv (k.1 : Int)) :: keepS [0, 1, 2, 3, 4, 21, 22] σ.slot, [(4, [ip 32, .sl 8 ((rL.al.take k.1).map Att.pv), .sl 3 []]), (1, nL.pv), (2, fL.pv)], [(.b 4 1, (66, 8)), (.b 4 2, (137, 3))], σ.ext⟩) (fun k => 2 - k.1) ⟨0, by omega⟩ (sub_mk ?_) (fun R hR k => ?_)
  · simp only [go_sem, simprocAttr, hF]
    repeat' (first | rfl | exact True.intro | refine ⟨?_, ?_⟩)
  obtain ⟨k, hk⟩ := k
  dsimp only
  simp only [go_sem, simprocAttr, hF]
  have hks : k = 0 ∨ k = 1 ∨ k = 2 := by omega
  rcases hks with rfl | rfl | rfl
  · have hd : decide (((0 : Nat) : Int) < 2) = true := rfl
    have hw : IntKind.i64.wrap (((0 : Nat) : Int) + 1) = ((1 : Nat) : Int) := rfl
    have hTk : (rL.al.take 0).length ≤ 99999999 := by decide
    repeat (first
      | (with_reducible (first | refine sops_go ?_ | refine headW_end ?_ | refine sops_end ?_ | refine awp_if ?_ | refine awp_skip ?_ | refine awp_ret ?_ | refine awp_exit ?_); simp only [go_sem, simprocAttr, hF, hd, hTk, Int.toNat_natCast, tz0, tz1, tz2, tz3])
      | with_reducible (first | refine awp_seq_k fun _ _ => ?_ | refine awp_region [29] ?_ | refine awp_block ?_)
      | go_step)
    refine ⟨⟨1, by omega⟩, by dsimp only; omega, hR _ _ (sub_mk ?_)⟩
    simp only [go_sem, simprocAttr, hF, hw]
    repeat' (first | rfl | exact True.intro | refine ⟨?_, ?_⟩)
  · have hd : decide (((1 : Nat) : Int) < 2) = true := rfl
    have hw : IntKind.i64.wrap (((1 : Nat) : Int) + 1) = ((2 : Nat) : Int) := rfl
    have hTk : (rL.al.take 1).length ≤ 99999999 := by decide
    repeat (first
      | (with_reducible (first | refine sops_go ?_ | refine headW_end ?_ | refine sops_end ?_ | refine awp_if ?_ | refine awp_skip ?_ | refine awp_ret ?_ | refine awp_exit ?_); simp only [go_sem, simprocAttr, hF, hd, hTk, Int.toNat_natCast, tz0, tz1, tz2, tz3])
      | with_reducible (first | refine awp_seq_k fun _ _ => ?_ | refine awp_region [29] ?_ | refine awp_block ?_)
      | go_step)
    refine ⟨⟨2, by omega⟩, by dsimp only; omega, hR _ _ (sub_mk ?_)⟩
    simp only [go_sem, simprocAttr, hF, hw]
    repeat' (first | rfl | exact True.intro | refine ⟨?_, ?_⟩)
  · have hd : decide (((2 : Nat) : Int) < 2) = false := rfl
    repeat (first
      | (with_reducible (first | refine sops_go ?_ | refine headW_end ?_ | refine sops_end ?_ | refine awp_if ?_ | refine awp_skip ?_ | refine awp_ret ?_ | refine awp_exit ?_); simp only [go_sem, simprocAttr, hF, hd])
      | with_reducible (first | refine awp_seq_k fun _ _ => ?_ | refine awp_region [29] ?_ | refine awp_block ?_)
      | go_step)
    refine ⟨_, awF3, ?_⟩
    simp only [go_sem, simprocAttr, hF]
    repeat (first
      | (with_reducible (first | refine sops_go ?_ | refine headW_end ?_ | refine sops_end ?_ | refine awp_if ?_ | refine awp_skip ?_ | refine awp_ret ?_ | refine awp_exit ?_); simp only [go_sem, simprocAttr, hF, hx1, hx2, hx3, hca, cz0, cz1, cz2, cz3, cz4, tz0, tz1, tz2, tz3])
      | with_reducible (first | refine awp_seq_k fun _ _ => ?_ | refine awp_region [29] ?_ | refine awp_block ?_)
      | go_step)
    refine ⟨_, awFm, ?_⟩
    simp only [go_sem, simprocAttr, hF, hx1, hx2, hx3, hca, cz0, cz1, cz2, cz3, cz4, tz0, tz1, tz2, tz3]
    repeat (first
      | (with_reducible (first | refine sops_go ?_ | refine headW_end ?_ | refine sops_end ?_ | refine awp_if ?_ | refine awp_skip ?_ | refine awp_ret ?_ | refine awp_exit ?_); simp only [go_sem, simprocAttr, hF, hx1, hx2, hx3, hca, cz0, cz1, cz2, cz3, cz4, tz0, tz1, tz2, tz3])
      | with_reducible (first | refine awp_seq_k fun _ _ => ?_ | refine awp_region [29] ?_ | refine awp_block ?_)
      | go_step)
    refine ⟨_, awF2, ?_⟩
    simp only [go_sem, simprocAttr, hF, hx1, hx2, hx3, hca, cz0, cz1, cz2, cz3, cz4, tz0, tz1, tz2, tz3]
    repeat (first
      | (with_reducible (first | refine sops_go ?_ | refine headW_end ?_ | refine sops_end ?_ | refine awp_if ?_ | refine awp_skip ?_ | refine awp_ret ?_ | refine awp_exit ?_); simp only [go_sem, simprocAttr, hF, hx1, hx2, hx3, hca, cz0, cz1, cz2, cz3, cz4, tz0, tz1, tz2, tz3])
      | with_reducible (first | refine awp_seq_k fun _ _ => ?_ | refine awp_region [29] ?_ | refine awp_block ?_)
      | go_step)
    refine ⟨_, awCs, ?_⟩
    simp only [go_sem, simprocAttr, hF, hx1, hx2, hx3, hca, cz0, cz1, cz2, cz3, cz4, tz0, tz1, tz2, tz3]
    repeat (first
      | (with_reducible (first | refine sops_go ?_ | refine headW_end ?_ | refine sops_end ?_ | refine awp_if ?_ | refine awp_skip ?_ | refine awp_ret ?_ | refine awp_exit ?_); simp only [go_sem, simprocAttr, hF, hx1, hx2, hx3, hca, cz0, cz1, cz2, cz3, cz4, tz0, tz1, tz2, tz3])
      | with_reducible (first | refine awp_seq_k fun _ _ => ?_ | refine awp_region [29] ?_ | refine awp_block ?_)
      | go_step)
    refine ⟨_, eqI_ok bL.sl [25, 26] (by decide), ?_⟩
    simp only [go_sem, simprocAttr, hF, heq]
    repeat (first
      | (with_reducible (first | refine sops_go ?_ | refine headW_end ?_ | refine sops_end ?_ | refine awp_if ?_ | refine awp_skip ?_ | refine awp_ret ?_ | refine awp_exit ?_); simp only [go_sem, simprocAttr, hF, hx1, hx2, hx3, hca, cz0, cz1, cz2, cz3, cz4, tz0, tz1, tz2, tz3, hs, heq])
      | with_reducible (first | refine awp_seq_k fun _ _ => ?_ | refine awp_region [29] ?_ | refine awp_block ?_)
      | go_step)
    refine ⟨_, awC1, ?_⟩
    simp only [go_sem, simprocAttr, hF, hx1, hx2, hx3, hca, cz0, cz1, cz2, cz3, cz4, tz0, tz1, tz2, tz3]
    repeat (first
      | (with_reducible (first | refine sops_go ?_ | refine headW_end ?_ | refine sops_end ?_ | refine awp_if ?_ | refine awp_skip ?_ | refine awp_ret ?_ | refine awp_exit ?_); simp only [go_sem, simprocAttr, hF, hx1, hx2, hx3, hca, cz0, cz1, cz2, cz3, cz4, tz0, tz1, tz2, tz3])
      | with_reducible (first | refine awp_seq_k fun _ _ => ?_ | refine awp_region [29] ?_ | refine awp_block ?_)
      | go_step)
    refine ⟨_, awC2, ?_⟩
    simp only [go_sem, simprocAttr, hF, hx1, hx2, hx3, hca, cz0, cz1, cz2, cz3, cz4, tz0, tz1, tz2, tz3]
    repeat (first
      | (with_reducible (first | refine sops_go ?_ | refine headW_end ?_ | refine sops_end ?_ | refine awp_if ?_ | refine awp_skip ?_ | refine awp_ret ?_ | refine awp_exit ?_); simp only [go_sem, simprocAttr, hF, hx1, hx2, hx3, hca, cz0, cz1, cz2, cz3, cz4, tz0, tz1, tz2, tz3])
      | with_reducible (first | refine awp_seq_k fun _ _ => ?_ | refine awp_region [29] ?_ | refine awp_block ?_)
      | go_step)
    all_goals (try rfl)
/- What is small, by abstract states. -/
def nfewB (n : Net) : Bool := n.pow.all (fun l => decide (l.length ≤ 40)) && (decide ((n.pow.length : Int) ≤ 8) && (decide ((n.lk.length : Int) ≤ 60) && decide ((n.mg.length : Int) ≤ 60)))

def rfewB (r : Rec) : Bool := decide ((r.al.length : Int) ≤ 150) && decide ((r.dl.length : Int) ≤ 100)

def fewRB (ps : List (List Int)) : Bool := ps.all (fun p => decide (p.length ≤ 20)) && decide ((ps.length : Int) ≤ 4)
def few57B (n : Net) (ps : List (List Int)) (r : Rec) : Bool := nfewB n && (fewRB ps && rfewB r)
theorem few57_inv {n : Net} {ps : List (List Int)} {r : Rec} (h : few57B n ps r = true) : SmallN n ∧ ps.length ≤ 4 ∧ (∀ p ∈ ps, p.length ≤ 20) ∧ r.al.length ≤ 150 ∧ r.dl.length ≤ 100 := by
  unfold few57B nfewB fewRB rfewB at h
  simp only [Bool.and_eq_true, decide_eq_true_eq, List.all_eq_true] at h
  obtain ⟨⟨h1, h2, h3, h4⟩, ⟨h5, h6⟩, h7, h8⟩ := h
  exact ⟨⟨by omega, fun l hl => Nat.le_trans (h1 l hl) (by decide), by omega, by omega⟩, by omega, h5, by omega, by omega⟩
set_option maxHeartbeats 2000000 in
theorem nfew_ok (n : Net) (hp : n.pow.length ≤ 9223372036854775807) : FnOK Tryz.prog 33 [.agg n.pv] ⟨bv (nfewB n), none⟩ := by
  refine fn_ok Tryz.func33 (by kernel_rfl) rfl (by rw [Tryz.ntmps33]; exact of_decide_eq_true rfl) (fun F hF => ?_)
  rw [Tryz.ntmps33] at hF
  rw [Tryz.results33]
  repeat (first
    | (with_reducible (first | refine sops_go ?_ | refine headW_end ?_ | refine sops_end ?_ | refine awp_if ?_ | refine awp_skip ?_ | refine awp_ret ?_ | refine awp_exit ?_); simp only [go_sem, simprocAttr, hF])
    | with_reducible (first | refine awp_seq_k fun _ _ => ?_ | refine awp_region [] ?_ | refine awp_block ?_)
    | go_step)
  refine awp_loop_by (ι := {k : Nat // k ≤ n.pow.length ∧ ∀ l ∈ n.pow.take k, l.length ≤ 40}) (fun k σ => ⟨(3, iv (k.1 : Int)) :: keepS [1, 2] σ.slot, σ.box, [], σ.ext⟩) (fun k => n.pow.length - k.1) ⟨0, by omega, by simp⟩ (sub_mk ?_) (fun R hR k => ?_)
  · simp only [go_sem, simprocAttr, hF]
    repeat' (first | rfl | refine ⟨?_, ?_⟩)
  obtain ⟨k, hk, hT⟩ := k
  dsimp only
  simp only [go_sem, simprocAttr, hF]
  by_cases hlt : k < n.pow.length
  case neg =>
    have hd : decide ((k : Int) < (n.pow.length : Int)) = false := decide_eq_false (by omega)
    rw [List.take_of_length_le (by omega)] at hT
    have hall : n.pow.all (fun l => decide (l.length ≤ 40)) = true := List.all_eq_true.2 fun l hl => decide_eq_true (hT l hl)
    cases h1 : decide ((n.pow.length : Int) ≤ 8) <;> cases h2 : decide ((n.lk.length : Int) ≤ 60) <;> cases h3 : decide ((n.mg.length : Int) ≤ 60)
    · repeat (first
        | (with_reducible (first | refine sops_go ?_ | refine headW_end ?_ | refine sops_end ?_ | refine awp_if ?_ | refine awp_skip ?_ | refine awp_ret ?_ | refine awp_exit ?_); simp only [go_sem, simprocAttr, hF, hd, h1, h2, h3])
        | with_reducible (first | refine awp_seq_k fun _ _ => ?_ | refine awp_region [] ?_ | refine awp_block ?_)
        | go_step)
      rw [nfewB, hall, h1, h2, h3]
      try rfl
    · repeat (first
        | (with_reducible (first | refine sops_go ?_ | refine headW_end ?_ | refine sops_end ?_ | refine awp_if ?_ | refine awp_skip ?_ | refine awp_ret ?_ | refine awp_exit ?_); simp only [go_sem, simprocAttr, hF, hd, h1, h2, h3])
        | with_reducible (first | refine awp_seq_k fun _ _ => ?_ | refine awp_region [] ?_ | refine awp_block ?_)
        | go_step)
      rw [nfewB, hall, h1, h2, h3]
      try rfl
    · repeat (first
        | (with_reducible (first | refine sops_go ?_ | refine headW_end ?_ | refine sops_end ?_ | refine awp_if ?_ | refine awp_skip ?_ | refine awp_ret ?_ | refine awp_exit ?_); simp only [go_sem, simprocAttr, hF, hd, h1, h2, h3])
        | with_reducible (first | refine awp_seq_k fun _ _ => ?_ | refine awp_region [] ?_ | refine awp_block ?_)
        | go_step)
      rw [nfewB, hall, h1, h2, h3]
      try rfl
    · repeat (first
        | (with_reducible (first | refine sops_go ?_ | refine headW_end ?_ | refine sops_end ?_ | refine awp_if ?_ | refine awp_skip ?_ | refine awp_ret ?_ | refine awp_exit ?_); simp only [go_sem, simprocAttr, hF, hd, h1, h2, h3])
        | with_reducible (first | refine awp_seq_k fun _ _ => ?_ | refine awp_region [] ?_ | refine awp_block ?_)
        | go_step)
      rw [nfewB, hall, h1, h2, h3]
      try rfl
    · repeat (first
        | (with_reducible (first | refine sops_go ?_ | refine headW_end ?_ | refine sops_end ?_ | refine awp_if ?_ | refine awp_skip ?_ | refine awp_ret ?_ | refine awp_exit ?_); simp only [go_sem, simprocAttr, hF, hd, h1, h2, h3])
        | with_reducible (first | refine awp_seq_k fun _ _ => ?_ | refine awp_region [] ?_ | refine awp_block ?_)
        | go_step)
      rw [nfewB, hall, h1, h2, h3]
      try rfl
    · repeat (first
        | (with_reducible (first | refine sops_go ?_ | refine headW_end ?_ | refine sops_end ?_ | refine awp_if ?_ | refine awp_skip ?_ | refine awp_ret ?_ | refine awp_exit ?_); simp only [go_sem, simprocAttr, hF, hd, h1, h2, h3])
        | with_reducible (first | refine awp_seq_k fun _ _ => ?_ | refine awp_region [] ?_ | refine awp_block ?_)
        | go_step)
      rw [nfewB, hall, h1, h2, h3]
      try rfl
    · repeat (first
        | (with_reducible (first | refine sops_go ?_ | refine headW_end ?_ | refine sops_end ?_ | refine awp_if ?_ | refine awp_skip ?_ | refine awp_ret ?_ | refine awp_exit ?_); simp only [go_sem, simprocAttr, hF, hd, h1, h2, h3])
        | with_reducible (first | refine awp_seq_k fun _ _ => ?_ | refine awp_region [] ?_ | refine awp_block ?_)
        | go_step)
      rw [nfewB, hall, h1, h2, h3]
      try rfl
    · repeat (first
        | (with_reducible (first | refine sops_go ?_ | refine headW_end ?_ | refine sops_end ?_ | refine awp_if ?_ | refine awp_skip ?_ | refine awp_ret ?_ | refine awp_exit ?_); simp only [go_sem, simprocAttr, hF, hd, h1, h2, h3])
        | with_reducible (first | refine awp_seq_k fun _ _ => ?_ | refine awp_region [] ?_ | refine awp_block ?_)
        | go_step)
      rw [nfewB, hall, h1, h2, h3]
      try rfl
  obtain ⟨d, hdk⟩ := get_of_lt hlt
  have hd : decide ((k : Int) < (n.pow.length : Int)) = true := decide_eq_true (by omega)
  have hw : IntKind.i64.wrap ((k : Int) + 1) = ((k + 1 : Nat) : Int) := by rw [IntKind.wrap_i64]; omega
  by_cases h40 : d.length ≤ 40
  case neg =>
    have he : decide ((40 : Int) < (d.length : Int)) = true := decide_eq_true (by omega)
    have hall : n.pow.all (fun l => decide (l.length ≤ 40)) = false := by
      refine Bool.eq_false_iff.2 fun h => h40 ?_
      exact of_decide_eq_true (List.all_eq_true.1 h d (List.mem_of_getElem? hdk))
    repeat (first
      | (with_reducible (first | refine sops_go ?_ | refine headW_end ?_ | refine sops_end ?_ | refine awp_if ?_ | refine awp_skip ?_ | refine awp_ret ?_ | refine awp_exit ?_); simp only [go_sem, simprocAttr, hF, hd, hdk, he])
      | with_reducible (first | refine awp_seq_k fun _ _ => ?_ | refine awp_region [] ?_ | refine awp_block ?_)
      | go_step)
    rw [nfewB, hall]
    rfl
  have he : decide ((40 : Int) < (d.length : Int)) = false := decide_eq_false (by omega)
  repeat (first
    | (with_reducible (first | refine sops_go ?_ | refine headW_end ?_ | refine sops_end ?_ | refine awp_if ?_ | refine awp_skip ?_ | refine awp_ret ?_ | refine awp_exit ?_); simp only [go_sem, simprocAttr, hF, hd, hdk, he])
    | with_reducible (first | refine awp_seq_k fun _ _ => ?_ | refine awp_region [] ?_ | refine awp_block ?_)
    | go_step)
  refine ⟨⟨k + 1, by omega, fun l hl => by
      rw [List.take_add_one, hdk] at hl
      rcases List.mem_append.1 hl with hl | hl
      · exact hT l hl
      · simp at hl; subst hl; exact h40⟩, by dsimp only; omega, hR _ _ (sub_mk ?_)⟩
  simp only [go_sem, simprocAttr, hF, hw]

set_option maxHeartbeats 2000000 in
theorem rfew_ok (r : Rec) : FnOK Tryz.prog 35 [.agg r.pv] ⟨bv (rfewB r), none⟩ := by
  refine fn_ok Tryz.func35 (by kernel_rfl) rfl (by rw [Tryz.ntmps35]; exact of_decide_eq_true rfl) (fun F hF => ?_)
  rw [Tryz.ntmps35] at hF
  rw [Tryz.results35]
  unfold rfewB
  cases h1 : decide ((r.al.length : Int) ≤ 150) <;> cases h2 : decide ((r.dl.length : Int) ≤ 100)
  · repeat (first
      | (with_reducible (first | refine sops_go ?_ | refine headW_end ?_ | refine sops_end ?_ | refine awp_if ?_ | refine awp_skip ?_ | refine awp_ret ?_ | refine awp_exit ?_); simp only [go_sem, simprocAttr, hF, h1, h2])
      | with_reducible (first | refine awp_seq_k fun _ _ => ?_ | refine awp_region [] ?_ | refine awp_block ?_)
      | go_step)
    all_goals (try rfl)
  · repeat (first
      | (with_reducible (first | refine sops_go ?_ | refine headW_end ?_ | refine sops_end ?_ | refine awp_if ?_ | refine awp_skip ?_ | refine awp_ret ?_ | refine awp_exit ?_); simp only [go_sem, simprocAttr, hF, h1, h2])
      | with_reducible (first | refine awp_seq_k fun _ _ => ?_ | refine awp_region [] ?_ | refine awp_block ?_)
      | go_step)
    all_goals (try rfl)
  · repeat (first
      | (with_reducible (first | refine sops_go ?_ | refine headW_end ?_ | refine sops_end ?_ | refine awp_if ?_ | refine awp_skip ?_ | refine awp_ret ?_ | refine awp_exit ?_); simp only [go_sem, simprocAttr, hF, h1, h2])
      | with_reducible (first | refine awp_seq_k fun _ _ => ?_ | refine awp_region [] ?_ | refine awp_block ?_)
      | go_step)
    all_goals (try rfl)
  · repeat (first
      | (with_reducible (first | refine sops_go ?_ | refine headW_end ?_ | refine sops_end ?_ | refine awp_if ?_ | refine awp_skip ?_ | refine awp_ret ?_ | refine awp_exit ?_); simp only [go_sem, simprocAttr, hF, h1, h2])
      | with_reducible (first | refine awp_seq_k fun _ _ => ?_ | refine awp_region [] ?_ | refine awp_block ?_)
      | go_step)
    all_goals (try rfl)

set_option maxHeartbeats 2000000 in
theorem fewR_ok (ps : List (List Int)) (hps : ps.length ≤ 9223372036854775807) : FnOK Tryz.prog 34 [.sl 1 (ps.map prow_pv)] ⟨bv (fewRB ps), none⟩ := by
  refine fn_ok Tryz.func34 (by kernel_rfl) rfl (by rw [Tryz.ntmps34]; exact of_decide_eq_true rfl) (fun F hF => ?_)
  rw [Tryz.ntmps34] at hF
  rw [Tryz.results34]
  repeat (first
    | (with_reducible (first | refine sops_go ?_ | refine headW_end ?_ | refine sops_end ?_ | refine awp_if ?_ | refine awp_skip ?_ | refine awp_ret ?_ | refine awp_exit ?_); simp only [go_sem, simprocAttr, hF])
    | with_reducible (first | refine awp_seq_k fun _ _ => ?_ | refine awp_region [] ?_ | refine awp_block ?_)
    | go_step)
  refine awp_loop_by (ι := {k : Nat // k ≤ ps.length ∧ ∀ y ∈ ps.take k, y.length ≤ 20}) (fun k σ => ⟨(3, iv (k.1 : Int)) :: keepS [0] σ.slot, σ.box, [], σ.ext⟩) (fun k => ps.length - k.1) ⟨0, by omega, by simp⟩ (sub_mk ?_) (fun R hR k => ?_)
  · simp only [go_sem, simprocAttr, hF]
    repeat' (first | rfl | refine ⟨?_, ?_⟩)
  obtain ⟨k, hk, hT⟩ := k
  dsimp only
  simp only [go_sem, simprocAttr, hF]
  by_cases hlt : k < ps.length
  case neg =>
    have hd : decide ((k : Int) < (ps.length : Int)) = false := decide_eq_false (by omega)
    rw [List.take_of_length_le (by omega)] at hT
    have hall : ps.all (fun y => decide (y.length ≤ 20)) = true := List.all_eq_true.2 fun l hl => decide_eq_true (hT l hl)
    cases h1 : decide ((ps.length : Int) ≤ 4)
    · repeat (first
        | (with_reducible (first | refine sops_go ?_ | refine headW_end ?_ | refine sops_end ?_ | refine awp_if ?_ | refine awp_skip ?_ | refine awp_ret ?_ | refine awp_exit ?_); simp only [go_sem, simprocAttr, hF, hd, h1])
        | with_reducible (first | refine awp_seq_k fun _ _ => ?_ | refine awp_region [] ?_ | refine awp_block ?_)
        | go_step)
      rw [fewRB, hall, h1]
      try rfl
    · repeat (first
        | (with_reducible (first | refine sops_go ?_ | refine headW_end ?_ | refine sops_end ?_ | refine awp_if ?_ | refine awp_skip ?_ | refine awp_ret ?_ | refine awp_exit ?_); simp only [go_sem, simprocAttr, hF, hd, h1])
        | with_reducible (first | refine awp_seq_k fun _ _ => ?_ | refine awp_region [] ?_ | refine awp_block ?_)
        | go_step)
      rw [fewRB, hall, h1]
      try rfl
  obtain ⟨d, hdk⟩ := get_of_lt hlt
  have hd : decide ((k : Int) < (ps.length : Int)) = true := decide_eq_true (by omega)
  have hw : IntKind.i64.wrap ((k : Int) + 1) = ((k + 1 : Nat) : Int) := by rw [IntKind.wrap_i64]; omega
  by_cases h40 : d.length ≤ 20
  case neg =>
    have he : decide ((20 : Int) < (d.length : Int)) = true := decide_eq_true (by omega)
    have hall : ps.all (fun y => decide (y.length ≤ 20)) = false := by
      refine Bool.eq_false_iff.2 fun h => h40 ?_
      exact of_decide_eq_true (List.all_eq_true.1 h d (List.mem_of_getElem? hdk))
    repeat (first
      | (with_reducible (first | refine sops_go ?_ | refine headW_end ?_ | refine sops_end ?_ | refine awp_if ?_ | refine awp_skip ?_ | refine awp_ret ?_ | refine awp_exit ?_); simp only [go_sem, simprocAttr, hF, hd, hdk, he])
      | with_reducible (first | refine awp_seq_k fun _ _ => ?_ | refine awp_region [] ?_ | refine awp_block ?_)
      | go_step)
    rw [fewRB, hall]
    rfl
  have he : decide ((20 : Int) < (d.length : Int)) = false := decide_eq_false (by omega)
  repeat (first
    | (with_reducible (first | refine sops_go ?_ | refine headW_end ?_ | refine sops_end ?_ | refine awp_if ?_ | refine awp_skip ?_ | refine awp_ret ?_ | refine awp_exit ?_); simp only [go_sem, simprocAttr, hF, hd, hdk, he])
    | with_reducible (first | refine awp_seq_k fun _ _ => ?_ | refine awp_region [] ?_ | refine awp_block ?_)
    | go_step)
  refine ⟨⟨k + 1, by omega, fun l hl => by
      rw [List.take_add_one, hdk] at hl
      rcases List.mem_append.1 hl with hl | hl
      · exact hT l hl
      · simp at hl; subst hl; exact h40⟩, by dsimp only; omega, hR _ _ (sub_mk ?_)⟩
  simp only [go_sem, simprocAttr, hF, hw]

set_option maxHeartbeats 2000000 in
theorem few57_ok (n : Net) (ps : List (List Int)) (r : Rec) (hp : n.pow.length ≤ 9223372036854775807) (hps : ps.length ≤ 9223372036854775807) : FnOK Tryz.prog 10 [.agg n.pv, .sl 1 (ps.map prow_pv), .agg r.pv] ⟨bv (few57B n ps r), none⟩ := by
  refine fn_ok Tryz.func10 (by kernel_rfl) rfl (by rw [Tryz.ntmps10]; exact of_decide_eq_true rfl) (fun F hF => ?_)
  rw [Tryz.ntmps10] at hF
  rw [Tryz.results10]
  unfold few57B
  cases h1 : nfewB n <;> cases h2 : fewRB ps <;> cases h3 : rfewB r
  · repeat (first
      | (with_reducible (first | refine sops_go ?_ | refine headW_end ?_ | refine sops_end ?_ | refine awp_if ?_ | refine awp_skip ?_ | refine awp_ret ?_ | refine awp_exit ?_); simp only [go_sem, simprocAttr, hF, h1, h2, h3])
      | with_reducible (first | refine awp_seq_k fun _ _ => ?_ | refine awp_region [] ?_ | refine awp_block ?_)
      | go_step)
    refine ⟨_, nfew_ok n hp, ?_⟩
    simp only [go_sem, simprocAttr, hF, h1, h2, h3]
    repeat (first
      | (with_reducible (first | refine sops_go ?_ | refine headW_end ?_ | refine sops_end ?_ | refine awp_if ?_ | refine awp_skip ?_ | refine awp_ret ?_ | refine awp_exit ?_); simp only [go_sem, simprocAttr, hF, h1, h2, h3])
      | with_reducible (first | refine awp_seq_k fun _ _ => ?_ | refine awp_region [] ?_ | refine awp_block ?_)
      | go_step)
    all_goals (try rfl)
  · repeat (first
      | (with_reducible (first | refine sops_go ?_ | refine headW_end ?_ | refine sops_end ?_ | refine awp_if ?_ | refine awp_skip ?_ | refine awp_ret ?_ | refine awp_exit ?_); simp only [go_sem, simprocAttr, hF, h1, h2, h3])
      | with_reducible (first | refine awp_seq_k fun _ _ => ?_ | refine awp_region [] ?_ | refine awp_block ?_)
      | go_step)
    refine ⟨_, nfew_ok n hp, ?_⟩
    simp only [go_sem, simprocAttr, hF, h1, h2, h3]
    repeat (first
      | (with_reducible (first | refine sops_go ?_ | refine headW_end ?_ | refine sops_end ?_ | refine awp_if ?_ | refine awp_skip ?_ | refine awp_ret ?_ | refine awp_exit ?_); simp only [go_sem, simprocAttr, hF, h1, h2, h3])
      | with_reducible (first | refine awp_seq_k fun _ _ => ?_ | refine awp_region [] ?_ | refine awp_block ?_)
      | go_step)
    all_goals (try rfl)
  · repeat (first
      | (with_reducible (first | refine sops_go ?_ | refine headW_end ?_ | refine sops_end ?_ | refine awp_if ?_ | refine awp_skip ?_ | refine awp_ret ?_ | refine awp_exit ?_); simp only [go_sem, simprocAttr, hF, h1, h2, h3])
      | with_reducible (first | refine awp_seq_k fun _ _ => ?_ | refine awp_region [] ?_ | refine awp_block ?_)
      | go_step)
    refine ⟨_, nfew_ok n hp, ?_⟩
    simp only [go_sem, simprocAttr, hF, h1, h2, h3]
    repeat (first
      | (with_reducible (first | refine sops_go ?_ | refine headW_end ?_ | refine sops_end ?_ | refine awp_if ?_ | refine awp_skip ?_ | refine awp_ret ?_ | refine awp_exit ?_); simp only [go_sem, simprocAttr, hF, h1, h2, h3])
      | with_reducible (first | refine awp_seq_k fun _ _ => ?_ | refine awp_region [] ?_ | refine awp_block ?_)
      | go_step)
    all_goals (try rfl)
  · repeat (first
      | (with_reducible (first | refine sops_go ?_ | refine headW_end ?_ | refine sops_end ?_ | refine awp_if ?_ | refine awp_skip ?_ | refine awp_ret ?_ | refine awp_exit ?_); simp only [go_sem, simprocAttr, hF, h1, h2, h3])
      | with_reducible (first | refine awp_seq_k fun _ _ => ?_ | refine awp_region [] ?_ | refine awp_block ?_)
      | go_step)
    refine ⟨_, nfew_ok n hp, ?_⟩
    simp only [go_sem, simprocAttr, hF, h1, h2, h3]
    repeat (first
      | (with_reducible (first | refine sops_go ?_ | refine headW_end ?_ | refine sops_end ?_ | refine awp_if ?_ | refine awp_skip ?_ | refine awp_ret ?_ | refine awp_exit ?_); simp only [go_sem, simprocAttr, hF, h1, h2, h3])
      | with_reducible (first | refine awp_seq_k fun _ _ => ?_ | refine awp_region [] ?_ | refine awp_block ?_)
      | go_step)
    all_goals (try rfl)
  · repeat (first
      | (with_reducible (first | refine sops_go ?_ | refine headW_end ?_ | refine sops_end ?_ | refine awp_if ?_ | refine awp_skip ?_ | refine awp_ret ?_ | refine awp_exit ?_); simp only [go_sem, simprocAttr, hF, h1, h2, h3])
      | with_reducible (first | refine awp_seq_k fun _ _ => ?_ | refine awp_region [] ?_ | refine awp_block ?_)
      | go_step)
    refine ⟨_, nfew_ok n hp, ?_⟩
    simp only [go_sem, simprocAttr, hF, h1, h2, h3]
    repeat (first
      | (with_reducible (first | refine sops_go ?_ | refine headW_end ?_ | refine sops_end ?_ | refine awp_if ?_ | refine awp_skip ?_ | refine awp_ret ?_ | refine awp_exit ?_); simp only [go_sem, simprocAttr, hF, h1, h2, h3])
      | with_reducible (first | refine awp_seq_k fun _ _ => ?_ | refine awp_region [] ?_ | refine awp_block ?_)
      | go_step)
    refine ⟨_, fewR_ok ps hps, ?_⟩
    simp only [go_sem, simprocAttr, hF, h1, h2, h3]
    repeat (first
      | (with_reducible (first | refine sops_go ?_ | refine headW_end ?_ | refine sops_end ?_ | refine awp_if ?_ | refine awp_skip ?_ | refine awp_ret ?_ | refine awp_exit ?_); simp only [go_sem, simprocAttr, hF, h1, h2, h3])
      | with_reducible (first | refine awp_seq_k fun _ _ => ?_ | refine awp_region [] ?_ | refine awp_block ?_)
      | go_step)
    all_goals (try rfl)
  · repeat (first
      | (with_reducible (first | refine sops_go ?_ | refine headW_end ?_ | refine sops_end ?_ | refine awp_if ?_ | refine awp_skip ?_ | refine awp_ret ?_ | refine awp_exit ?_); simp only [go_sem, simprocAttr, hF, h1, h2, h3])
      | with_reducible (first | refine awp_seq_k fun _ _ => ?_ | refine awp_region [] ?_ | refine awp_block ?_)
      | go_step)
    refine ⟨_, nfew_ok n hp, ?_⟩
    simp only [go_sem, simprocAttr, hF, h1, h2, h3]
    repeat (first
      | (with_reducible (first | refine sops_go ?_ | refine headW_end ?_ | refine sops_end ?_ | refine awp_if ?_ | refine awp_skip ?_ | refine awp_ret ?_ | refine awp_exit ?_); simp only [go_sem, simprocAttr, hF, h1, h2, h3])
      | with_reducible (first | refine awp_seq_k fun _ _ => ?_ | refine awp_region [] ?_ | refine awp_block ?_)
      | go_step)
    refine ⟨_, fewR_ok ps hps, ?_⟩
    simp only [go_sem, simprocAttr, hF, h1, h2, h3]
    repeat (first
      | (with_reducible (first | refine sops_go ?_ | refine headW_end ?_ | refine sops_end ?_ | refine awp_if ?_ | refine awp_skip ?_ | refine awp_ret ?_ | refine awp_exit ?_); simp only [go_sem, simprocAttr, hF, h1, h2, h3])
      | with_reducible (first | refine awp_seq_k fun _ _ => ?_ | refine awp_region [] ?_ | refine awp_block ?_)
      | go_step)
    all_goals (try rfl)
  · repeat (first
      | (with_reducible (first | refine sops_go ?_ | refine headW_end ?_ | refine sops_end ?_ | refine awp_if ?_ | refine awp_skip ?_ | refine awp_ret ?_ | refine awp_exit ?_); simp only [go_sem, simprocAttr, hF, h1, h2, h3])
      | with_reducible (first | refine awp_seq_k fun _ _ => ?_ | refine awp_region [] ?_ | refine awp_block ?_)
      | go_step)
    refine ⟨_, nfew_ok n hp, ?_⟩
    simp only [go_sem, simprocAttr, hF, h1, h2, h3]
    repeat (first
      | (with_reducible (first | refine sops_go ?_ | refine headW_end ?_ | refine sops_end ?_ | refine awp_if ?_ | refine awp_skip ?_ | refine awp_ret ?_ | refine awp_exit ?_); simp only [go_sem, simprocAttr, hF, h1, h2, h3])
      | with_reducible (first | refine awp_seq_k fun _ _ => ?_ | refine awp_region [] ?_ | refine awp_block ?_)
      | go_step)
    refine ⟨_, fewR_ok ps hps, ?_⟩
    simp only [go_sem, simprocAttr, hF, h1, h2, h3]
    repeat (first
      | (with_reducible (first | refine sops_go ?_ | refine headW_end ?_ | refine sops_end ?_ | refine awp_if ?_ | refine awp_skip ?_ | refine awp_ret ?_ | refine awp_exit ?_); simp only [go_sem, simprocAttr, hF, h1, h2, h3])
      | with_reducible (first | refine awp_seq_k fun _ _ => ?_ | refine awp_region [] ?_ | refine awp_block ?_)
      | go_step)
    refine ⟨_, rfew_ok r, ?_⟩
    simp only [go_sem, simprocAttr, hF, h1, h2, h3]
    repeat (first
      | (with_reducible (first | refine sops_go ?_ | refine headW_end ?_ | refine sops_end ?_ | refine awp_if ?_ | refine awp_skip ?_ | refine awp_ret ?_ | refine awp_exit ?_); simp only [go_sem, simprocAttr, hF, h1, h2, h3])
      | with_reducible (first | refine awp_seq_k fun _ _ => ?_ | refine awp_region [] ?_ | refine awp_block ?_)
      | go_step)
    all_goals (try rfl)
  · repeat (first
      | (with_reducible (first | refine sops_go ?_ | refine headW_end ?_ | refine sops_end ?_ | refine awp_if ?_ | refine awp_skip ?_ | refine awp_ret ?_ | refine awp_exit ?_); simp only [go_sem, simprocAttr, hF, h1, h2, h3])
      | with_reducible (first | refine awp_seq_k fun _ _ => ?_ | refine awp_region [] ?_ | refine awp_block ?_)
      | go_step)
    refine ⟨_, nfew_ok n hp, ?_⟩
    simp only [go_sem, simprocAttr, hF, h1, h2, h3]
    repeat (first
      | (with_reducible (first | refine sops_go ?_ | refine headW_end ?_ | refine sops_end ?_ | refine awp_if ?_ | refine awp_skip ?_ | refine awp_ret ?_ | refine awp_exit ?_); simp only [go_sem, simprocAttr, hF, h1, h2, h3])
      | with_reducible (first | refine awp_seq_k fun _ _ => ?_ | refine awp_region [] ?_ | refine awp_block ?_)
      | go_step)
    refine ⟨_, fewR_ok ps hps, ?_⟩
    simp only [go_sem, simprocAttr, hF, h1, h2, h3]
    repeat (first
      | (with_reducible (first | refine sops_go ?_ | refine headW_end ?_ | refine sops_end ?_ | refine awp_if ?_ | refine awp_skip ?_ | refine awp_ret ?_ | refine awp_exit ?_); simp only [go_sem, simprocAttr, hF, h1, h2, h3])
      | with_reducible (first | refine awp_seq_k fun _ _ => ?_ | refine awp_region [] ?_ | refine awp_block ?_)
      | go_step)
    refine ⟨_, rfew_ok r, ?_⟩
    simp only [go_sem, simprocAttr, hF, h1, h2, h3]
    repeat (first
      | (with_reducible (first | refine sops_go ?_ | refine headW_end ?_ | refine sops_end ?_ | refine awp_if ?_ | refine awp_skip ?_ | refine awp_ret ?_ | refine awp_exit ?_); simp only [go_sem, simprocAttr, hF, h1, h2, h3])
      | with_reducible (first | refine awp_seq_k fun _ _ => ?_ | refine awp_region [] ?_ | refine awp_block ?_)
      | go_step)
    all_goals (try rfl)
/- By abstract states: equal lists of breaches. -/
set_option maxHeartbeats 20000000 in
theorem samebr_ok (a b : List Br) (ha : a.length ≤ 1000000) (hs : ∀ x ∈ a, x.sl.length ≤ 1000000) : FnOK Tryz.prog 16 [.sl 5 (a.map Br.pv), .sl 5 (b.map Br.pv)] ⟨bv (decide (a = b)), none⟩ := by
  refine fn_ok Tryz.func16 (by kernel_rfl) rfl (by rw [Tryz.ntmps16]; exact of_decide_eq_true rfl) (fun F hF => ?_)
  rw [Tryz.ntmps16] at hF
  rw [Tryz.results16]
  have hal : ((a.length : Int) != (b.length : Int)) = !decide (a.length = b.length) := by rw [Bool.eq_iff_iff]; simp; omega
  by_cases hl : a.length = b.length
  case neg =>
    have hn : decide (a.length = b.length) = false := decide_eq_false hl
    repeat (first
      | (with_reducible (first | refine sops_go ?_ | refine headW_end ?_ | refine sops_end ?_ | refine awp_if ?_ | refine awp_skip ?_ | refine awp_ret ?_ | refine awp_exit ?_); simp only [go_sem, simprocAttr, hF, hal, hn])
      | ((with_reducible refine headW_go ?_); simp only [go_sem, simprocAttr, hF, hal, hn, hbx])
      | with_reducible refine awp_seq_k fun _ _ => ?_
      | (refine awp_draw' (id := 11) [] 17 (by kernel_rfl) (by kernel_rfl) rfl rfl (fun bx0 hbx => ?_); try dsimp only [List.take, List.drop])
      | (refine awp_draw' (id := 6) [] 65 (by kernel_rfl) (by kernel_rfl) rfl rfl (fun bx0 hbx => ?_); try dsimp only [List.take, List.drop])
      | with_reducible (first | refine awp_region [] ?_ | refine awp_block ?_)
      | go_step)
    rw [decide_eq_false (fun h => hl (by rw [h]))]
  have hn : decide (a.length = b.length) = true := decide_eq_true hl
  repeat (first
    | (with_reducible (first | refine sops_go ?_ | refine headW_end ?_ | refine sops_end ?_ | refine awp_if ?_ | refine awp_skip ?_ | refine awp_ret ?_ | refine awp_exit ?_); simp only [go_sem, simprocAttr, hF, hal, hn])
    | ((with_reducible refine headW_go ?_); simp only [go_sem, simprocAttr, hF, hal, hn, hbx])
    | with_reducible refine awp_seq_k fun _ _ => ?_
    | (refine awp_draw' (id := 11) [] 17 (by kernel_rfl) (by kernel_rfl) rfl rfl (fun bx0 hbx => ?_); try dsimp only [List.take, List.drop])
    | (refine awp_draw' (id := 6) [] 65 (by kernel_rfl) (by kernel_rfl) rfl rfl (fun bx0 hbx => ?_); try dsimp only [List.take, List.drop])
    | with_reducible (first | refine awp_region [] ?_ | refine awp_block ?_)
    | go_step)
  refine awp_loop_by (ι := {k : Nat // k ≤ a.length ∧ decide (a = b) = decide (a.drop k = b.drop k)}) (fun k σ => ⟨(5, iv (k.1 : Int)) :: keepS [0, 1, 4] σ.slot, σ.box, [], σ.ext⟩) (fun k => a.length - k.1) ⟨0, by omega, rfl⟩ (sub_mk ?_) (fun R hR k => ?_)
  · simp only [go_sem, simprocAttr, hF]
    repeat' (first | rfl | refine ⟨?_, ?_⟩)
  obtain ⟨k, hk, hT⟩ := k
  dsimp only
  simp only [go_sem, simprocAttr, hF]
  by_cases hlt : k < a.length
  case neg =>
    have hd : decide ((k : Int) < (a.length : Int)) = false := decide_eq_false (by omega)
    repeat (first
      | (with_reducible (first | refine sops_go ?_ | refine headW_end ?_ | refine sops_end ?_ | refine awp_if ?_ | refine awp_skip ?_ | refine awp_ret ?_ | refine awp_exit ?_); simp only [go_sem, simprocAttr, hF, hd])
      | ((with_reducible refine headW_go ?_); simp only [go_sem, simprocAttr, hF, hd, hbx])
      | with_reducible refine awp_seq_k fun _ _ => ?_
      | (refine awp_draw' (id := 11) [] 17 (by kernel_rfl) (by kernel_rfl) rfl rfl (fun bx0 hbx => ?_); try dsimp only [List.take, List.drop])
      | (refine awp_draw' (id := 6) [] 65 (by kernel_rfl) (by kernel_rfl) rfl rfl (fun bx0 hbx => ?_); try dsimp only [List.take, List.drop])
      | with_reducible (first | refine awp_region [] ?_ | refine awp_block ?_)
      | go_step)
    rw [hT, List.drop_of_length_le (by omega), List.drop_of_length_le (by omega)]
    rfl
  obtain ⟨x, hxk⟩ := get_of_lt hlt
  obtain ⟨y, hyk⟩ := get_of_lt (l := b) (k := k) (by omega)
  have hd : decide ((k : Int) < (a.length : Int)) = true := decide_eq_true (by omega)
  have hw : IntKind.i64.wrap ((k : Int) + 1) = ((k + 1 : Nat) : Int) := by rw [IntKind.wrap_i64]; omega
  have hxs := hs x (List.mem_of_getElem? hxk)
  have hT' : decide (a = b) = (decide (x = y) && decide (a.drop (k + 1) = b.drop (k + 1))) := by
    rw [hT, drop_of_get hxk, drop_of_get hyk, Bool.eq_iff_iff]
    simp
  have bad : decide (x = y) = false → decide (a = b) = false := fun h => by rw [hT', h]; rfl
  by_cases h0 : x.fl = y.fl
  case neg =>
    have g0 : (x.fl != y.fl) = true := by simpa using h0
    repeat (first
      | (with_reducible (first | refine sops_go ?_ | refine headW_end ?_ | refine sops_end ?_ | refine awp_if ?_ | refine awp_skip ?_ | refine awp_ret ?_ | refine awp_exit ?_); simp only [go_sem, simprocAttr, hF, hd, hxk, hyk, g0])
      | ((with_reducible refine headW_go ?_); simp only [go_sem, simprocAttr, hF, hd, hxk, hyk, g0, hbx])
      | with_reducible refine awp_seq_k fun _ _ => ?_
      | (refine awp_draw' (id := 11) [] 17 (by kernel_rfl) (by kernel_rfl) rfl rfl (fun bx0 hbx => ?_); try dsimp only [List.take, List.drop])
      | (with_reducible refine awp_region (id := 0) [] ?_)
      | (with_reducible refine awp_region (id := 1) [] ?_)
      | (with_reducible refine awp_region (id := 2) [] ?_)
      | (with_reducible refine awp_region (id := 3) [] ?_)
      | (with_reducible refine awp_region (id := 4) [] ?_)
      | (with_reducible refine awp_region (id := 7) [] ?_)
      | (with_reducible refine awp_region (id := 8) [] ?_)
      | (with_reducible refine awp_region (id := 9) [] ?_)
      | (with_reducible refine awp_region (id := 12) [] ?_)
      | (with_reducible refine awp_region (id := 10) [] ?_)
      | (with_reducible refine awp_region (id := 5) [] ?_)
      | (with_reducible refine awp_region (id := 13) [] ?_)
      | (with_reducible refine awp_block ?_)
      | go_step)
    try simp only [List.append_eq, List.cons_append, List.nil_append]
    repeat (first
      | (with_reducible (first | refine sops_go ?_ | refine headW_end ?_ | refine sops_end ?_ | refine awp_if ?_ | refine awp_skip ?_ | refine awp_ret ?_ | refine awp_exit ?_); simp only [go_sem, simprocAttr, hF, hd, hxk, hyk, g0])
      | ((with_reducible refine headW_go ?_); simp only [go_sem, simprocAttr, hF, hd, hxk, hyk, g0, hbx])
      | with_reducible refine awp_seq_k fun _ _ => ?_
      | (refine awp_draw' (id := 11) [] 17 (by kernel_rfl) (by kernel_rfl) rfl rfl (fun bx0 hbx => ?_); try dsimp only [List.take, List.drop])
      | (refine awp_draw' (id := 6) [] 65 (by kernel_rfl) (by kernel_rfl) rfl rfl (fun bx0 hbx => ?_); try dsimp only [List.take, List.drop])
      | with_reducible (first | refine awp_region [] ?_ | refine awp_block ?_)
      | go_step)
    rw [bad (decide_eq_false fun h => h0 (by rw [h]))]
  have g0 : (x.fl != y.fl) = false := by simpa using h0
  by_cases h1 : x.fr = y.fr
  case neg =>
    have g1 : (x.fr != y.fr) = true := by simpa using h1
    repeat (first
      | (with_reducible (first | refine sops_go ?_ | refine headW_end ?_ | refine sops_end ?_ | refine awp_if ?_ | refine awp_skip ?_ | refine awp_ret ?_ | refine awp_exit ?_); simp only [go_sem, simprocAttr, hF, hd, hxk, hyk, g0, g1])
      | ((with_reducible refine headW_go ?_); simp only [go_sem, simprocAttr, hF, hd, hxk, hyk, g0, g1, hbx])
      | with_reducible refine awp_seq_k fun _ _ => ?_
      | (refine awp_draw' (id := 11) [] 17 (by kernel_rfl) (by kernel_rfl) rfl rfl (fun bx0 hbx => ?_); try dsimp only [List.take, List.drop])
      | (with_reducible refine awp_region (id := 0) [] ?_)
      | (with_reducible refine awp_region (id := 1) [] ?_)
      | (with_reducible refine awp_region (id := 2) [] ?_)
      | (with_reducible refine awp_region (id := 3) [] ?_)
      | (with_reducible refine awp_region (id := 4) [] ?_)
      | (with_reducible refine awp_region (id := 7) [] ?_)
      | (with_reducible refine awp_region (id := 8) [] ?_)
      | (with_reducible refine awp_region (id := 9) [] ?_)
      | (with_reducible refine awp_region (id := 12) [] ?_)
      | (with_reducible refine awp_region (id := 10) [] ?_)
      | (with_reducible refine awp_region (id := 5) [] ?_)
      | (with_reducible refine awp_region (id := 13) [] ?_)
      | (with_reducible refine awp_block ?_)
      | go_step)
    try simp only [List.append_eq, List.cons_append, List.nil_append]
    repeat (first
      | (with_reducible (first | refine sops_go ?_ | refine headW_end ?_ | refine sops_end ?_ | refine awp_if ?_ | refine awp_skip ?_ | refine awp_ret ?_ | refine awp_exit ?_); simp only [go_sem, simprocAttr, hF, hd, hxk, hyk, g0, g1])
      | ((with_reducible refine headW_go ?_); simp only [go_sem, simprocAttr, hF, hd, hxk, hyk, g0, g1, hbx])
      | with_reducible refine awp_seq_k fun _ _ => ?_
      | (refine awp_draw' (id := 11) [] 17 (by kernel_rfl) (by kernel_rfl) rfl rfl (fun bx0 hbx => ?_); try dsimp only [List.take, List.drop])
      | (refine awp_draw' (id := 6) [] 65 (by kernel_rfl) (by kernel_rfl) rfl rfl (fun bx0 hbx => ?_); try dsimp only [List.take, List.drop])
      | with_reducible (first | refine awp_region [] ?_ | refine awp_block ?_)
      | go_step)
    rw [bad (decide_eq_false fun h => h1 (by rw [h]))]
  have g1 : (x.fr != y.fr) = false := by simpa using h1
  by_cases h2 : x.fm = y.fm
  case neg =>
    have g2 : (x.fm != y.fm) = true := by simpa using h2
    repeat (first
      | (with_reducible (first | refine sops_go ?_ | refine headW_end ?_ | refine sops_end ?_ | refine awp_if ?_ | refine awp_skip ?_ | refine awp_ret ?_ | refine awp_exit ?_); simp only [go_sem, simprocAttr, hF, hd, hxk, hyk, g0, g1, g2])
      | ((with_reducible refine headW_go ?_); simp only [go_sem, simprocAttr, hF, hd, hxk, hyk, g0, g1, g2, hbx])
      | with_reducible refine awp_seq_k fun _ _ => ?_
      | (refine awp_draw' (id := 11) [] 17 (by kernel_rfl) (by kernel_rfl) rfl rfl (fun bx0 hbx => ?_); try dsimp only [List.take, List.drop])
      | (with_reducible refine awp_region (id := 0) [] ?_)
      | (with_reducible refine awp_region (id := 1) [] ?_)
      | (with_reducible refine awp_region (id := 2) [] ?_)
      | (with_reducible refine awp_region (id := 3) [] ?_)
      | (with_reducible refine awp_region (id := 4) [] ?_)
      | (with_reducible refine awp_region (id := 7) [] ?_)
      | (with_reducible refine awp_region (id := 8) [] ?_)
      | (with_reducible refine awp_region (id := 9) [] ?_)
      | (with_reducible refine awp_region (id := 12) [] ?_)
      | (with_reducible refine awp_region (id := 10) [] ?_)
      | (with_reducible refine awp_region (id := 5) [] ?_)
      | (with_reducible refine awp_region (id := 13) [] ?_)
      | (with_reducible refine awp_block ?_)
      | go_step)
    try simp only [List.append_eq, List.cons_append, List.nil_append]
    repeat (first
      | (with_reducible (first | refine sops_go ?_ | refine headW_end ?_ | refine sops_end ?_ | refine awp_if ?_ | refine awp_skip ?_ | refine awp_ret ?_ | refine awp_exit ?_); simp only [go_sem, simprocAttr, hF, hd, hxk, hyk, g0, g1, g2])
      | ((with_reducible refine headW_go ?_); simp only [go_sem, simprocAttr, hF, hd, hxk, hyk, g0, g1, g2, hbx])
      | with_reducible refine awp_seq_k fun _ _ => ?_
      | (refine awp_draw' (id := 11) [] 17 (by kernel_rfl) (by kernel_rfl) rfl rfl (fun bx0 hbx => ?_); try dsimp only [List.take, List.drop])
      | (refine awp_draw' (id := 6) [] 65 (by kernel_rfl) (by kernel_rfl) rfl rfl (fun bx0 hbx => ?_); try dsimp only [List.take, List.drop])
      | with_reducible (first | refine awp_region [] ?_ | refine awp_block ?_)
      | go_step)
    rw [bad (decide_eq_false fun h => h2 (by rw [h]))]
  have g2 : (x.fm != y.fm) = false := by simpa using h2
  by_cases h3 : x.tt = y.tt
  case neg =>
    have g3 : (x.tt != y.tt) = true := by simpa using h3
    repeat (first
      | (with_reducible (first | refine sops_go ?_ | refine headW_end ?_ | refine sops_end ?_ | refine awp_if ?_ | refine awp_skip ?_ | refine awp_ret ?_ | refine awp_exit ?_); simp only [go_sem, simprocAttr, hF, hd, hxk, hyk, g0, g1, g2, g3])
      | ((with_reducible refine headW_go ?_); simp only [go_sem, simprocAttr, hF, hd, hxk, hyk, g0, g1, g2, g3, hbx])
      | with_reducible refine awp_seq_k fun _ _ => ?_
      | (refine awp_draw' (id := 11) [] 17 (by kernel_rfl) (by kernel_rfl) rfl rfl (fun bx0 hbx => ?_); try dsimp only [List.take, List.drop])
      | (with_reducible refine awp_region (id := 0) [] ?_)
      | (with_reducible refine awp_region (id := 1) [] ?_)
      | (with_reducible refine awp_region (id := 2) [] ?_)
      | (with_reducible refine awp_region (id := 3) [] ?_)
      | (with_reducible refine awp_region (id := 4) [] ?_)
      | (with_reducible refine awp_region (id := 7) [] ?_)
      | (with_reducible refine awp_region (id := 8) [] ?_)
      | (with_reducible refine awp_region (id := 9) [] ?_)
      | (with_reducible refine awp_region (id := 12) [] ?_)
      | (with_reducible refine awp_region (id := 10) [] ?_)
      | (with_reducible refine awp_region (id := 5) [] ?_)
      | (with_reducible refine awp_region (id := 13) [] ?_)
      | (with_reducible refine awp_block ?_)
      | go_step)
    try simp only [List.append_eq, List.cons_append, List.nil_append]
    repeat (first
      | (with_reducible (first | refine sops_go ?_ | refine headW_end ?_ | refine sops_end ?_ | refine awp_if ?_ | refine awp_skip ?_ | refine awp_ret ?_ | refine awp_exit ?_); simp only [go_sem, simprocAttr, hF, hd, hxk, hyk, g0, g1, g2, g3])
      | ((with_reducible refine headW_go ?_); simp only [go_sem, simprocAttr, hF, hd, hxk, hyk, g0, g1, g2, g3, hbx])
      | with_reducible refine awp_seq_k fun _ _ => ?_
      | (refine awp_draw' (id := 11) [] 17 (by kernel_rfl) (by kernel_rfl) rfl rfl (fun bx0 hbx => ?_); try dsimp only [List.take, List.drop])
      | (refine awp_draw' (id := 6) [] 65 (by kernel_rfl) (by kernel_rfl) rfl rfl (fun bx0 hbx => ?_); try dsimp only [List.take, List.drop])
      | with_reducible (first | refine awp_region [] ?_ | refine awp_block ?_)
      | go_step)
    rw [bad (decide_eq_false fun h => h3 (by rw [h]))]
  have g3 : (x.tt != y.tt) = false := by simpa using h3
  have hal5 : ((x.sl.length : Int) != (y.sl.length : Int)) = !decide (x.sl.length = y.sl.length) := by rw [Bool.eq_iff_iff]; simp; omega
  by_cases h5 : x.sl.length = y.sl.length
  case neg =>
    have g5 : ((x.sl.length : Int) != (y.sl.length : Int)) = true := by rw [hal5]; simp [h5]
    repeat (first
      | (with_reducible (first | refine sops_go ?_ | refine headW_end ?_ | refine sops_end ?_ | refine awp_if ?_ | refine awp_skip ?_ | refine awp_ret ?_ | refine awp_exit ?_); simp only [go_sem, simprocAttr, hF, hd, hxk, hyk, g0, g1, g2, g3, g5])
      | ((with_reducible refine headW_go ?_); simp only [go_sem, simprocAttr, hF, hd, hxk, hyk, g0, g1, g2, g3, g5, hbx])
      | with_reducible refine awp_seq_k fun _ _ => ?_
      | (refine awp_draw' (id := 11) [] 17 (by kernel_rfl) (by kernel_rfl) rfl rfl (fun bx0 hbx => ?_); try dsimp only [List.take, List.drop])
      | (with_reducible refine awp_region (id := 0) [] ?_)
      | (with_reducible refine awp_region (id := 1) [] ?_)
      | (with_reducible refine awp_region (id := 2) [] ?_)
      | (with_reducible refine awp_region (id := 3) [] ?_)
      | (with_reducible refine awp_region (id := 4) [] ?_)
      | (with_reducible refine awp_region (id := 7) [] ?_)
      | (with_reducible refine awp_region (id := 8) [] ?_)
      | (with_reducible refine awp_region (id := 9) [] ?_)
      | (with_reducible refine awp_region (id := 12) [] ?_)
      | (with_reducible refine awp_region (id := 10) [] ?_)
      | (with_reducible refine awp_region (id := 5) [] ?_)
      | (with_reducible refine awp_region (id := 13) [] ?_)
      | (with_reducible refine awp_block ?_)
      | go_step)
    try simp only [List.append_eq, List.cons_append, List.nil_append]
    repeat (first
      | (with_reducible (first | refine sops_go ?_ | refine headW_end ?_ | refine sops_end ?_ | refine awp_if ?_ | refine awp_skip ?_ | refine awp_ret ?_ | refine awp_exit ?_); simp only [go_sem, simprocAttr, hF, hd, hxk, hyk, g0, g1, g2, g3, g5])
      | ((with_reducible refine headW_go ?_); simp only [go_sem, simprocAttr, hF, hd, hxk, hyk, g0, g1, g2, g3, g5, hbx])
      | with_reducible refine awp_seq_k fun _ _ => ?_
      | (refine awp_draw' (id := 11) [] 17 (by kernel_rfl) (by kernel_rfl) rfl rfl (fun bx0 hbx => ?_); try dsimp only [List.take, List.drop])
      | (refine awp_draw' (id := 6) [] 65 (by kernel_rfl) (by kernel_rfl) rfl rfl (fun bx0 hbx => ?_); try dsimp only [List.take, List.drop])
      | with_reducible (first | refine awp_region [] ?_ | refine awp_block ?_)
      | go_step)
    rw [bad (decide_eq_false fun h => h5 (by rw [h]))]
  have g5 : ((x.sl.length : Int) != (y.sl.length : Int)) = false := by rw [hal5]; simp [h5]
  repeat (first
    | (with_reducible (first | refine sops_go ?_ | refine headW_end ?_ | refine sops_end ?_ | refine awp_if ?_ | refine awp_skip ?_ | refine awp_ret ?_ | refine awp_exit ?_); simp only [go_sem, simprocAttr, hF, hd, hxk, hyk, g0, g1, g2, g3, g5])
    | ((with_reducible refine headW_go ?_); simp only [go_sem, simprocAttr, hF, hd, hxk, hyk, g0, g1, g2, g3, g5, hbx])
    | with_reducible refine awp_seq_k fun _ _ => ?_
    | (refine awp_draw' (id := 11) [] 17 (by kernel_rfl) (by kernel_rfl) rfl rfl (fun bx0 hbx => ?_); try dsimp only [List.take, List.drop])
    | (with_reducible refine awp_region (id := 0) [] ?_)
    | (with_reducible refine awp_region (id := 1) [] ?_)
    | (with_reducible refine awp_region (id := 2) [] ?_)
    | (with_reducible refine awp_region (id := 3) [] ?_)
    | (with_reducible refine awp_region (id := 4) [] ?_)
    | (with_reducible refine awp_region (id := 7) [] ?_)
    | (with_reducible refine awp_region (id := 8) [] ?_)
    | (with_reducible refine awp_region (id := 9) [] ?_)
    | (with_reducible refine awp_region (id := 12) [] ?_)
    | (with_reducible refine awp_region (id := 10) [] ?_)
    | (with_reducible refine awp_region (id := 5) [] ?_)
    | (with_reducible refine awp_region (id := 13) [] ?_)
    | (with_reducible refine awp_block ?_)
    | go_step)
  try simp only [List.append_eq, List.cons_append, List.nil_append]
  repeat (first
    | (with_reducible (first | refine sops_go ?_ | refine headW_end ?_ | refine sops_end ?_ | refine awp_if ?_ | refine awp_skip ?_ | refine awp_ret ?_ | refine awp_exit ?_); simp only [go_sem, simprocAttr, hF, hd, hxk, hyk, g0, g1, g2, g3, g5])
    | ((with_reducible refine headW_go ?_); simp only [go_sem, simprocAttr, hF, hd, hxk, hyk, g0, g1, g2, g3, g5, hbx])
    | with_reducible refine awp_seq_k fun _ _ => ?_
    | (refine awp_draw' (id := 11) [] 17 (by kernel_rfl) (by kernel_rfl) rfl rfl (fun bx0 hbx => ?_); try dsimp only [List.take, List.drop])
    | (refine awp_draw' (id := 6) [] 65 (by kernel_rfl) (by kernel_rfl) rfl rfl (fun bx0 hbx => ?_); try dsimp only [List.take, List.drop])
    | with_reducible (first | refine awp_region [] ?_ | refine awp_block ?_)
    | go_step)
  refine awp_loop_by (ι := {j : Nat // j ≤ x.sl.length ∧ decide (x.sl = y.sl) = decide (x.sl.drop j = y.sl.drop j)}) (fun j σ => ⟨(6, iv (j.1 : Int)) :: keepS [0, 1, 4, 5] σ.slot, σ.box, [], σ.ext⟩) (fun j => x.sl.length - j.1) ⟨0, by omega, rfl⟩ (sub_mk ?_) (fun R2 hR2 j => ?_)
  · simp only [go_sem, simprocAttr, hF]
    repeat' (first | rfl | refine ⟨?_, ?_⟩)
  obtain ⟨j, hj, hU⟩ := j
  dsimp only
  simp only [go_sem, simprocAttr, hF]
  by_cases hjt : j < x.sl.length
  case neg =>
    have hdj : decide ((j : Int) < (x.sl.length : Int)) = false := decide_eq_false (by omega)
    have hxy : decide (x = y) = true := by
      rw [List.drop_of_length_le (by omega), List.drop_of_length_le (by omega)] at hU
      have hsl : x.sl = y.sl := of_decide_eq_true hU
      refine decide_eq_true ?_
      obtain ⟨x1, x2, x3, x4, x5⟩ := x
      obtain ⟨y1, y2, y3, y4, y5⟩ := y
      simp only [Br.mk.injEq]
      exact ⟨h0, h1, h2, h3, hsl⟩
    repeat (first
      | (with_reducible (first | refine sops_go ?_ | refine headW_end ?_ | refine sops_end ?_ | refine awp_if ?_ | refine awp_skip ?_ | refine awp_ret ?_ | refine awp_exit ?_); simp only [go_sem, simprocAttr, hF, hxk, hyk, hdj])
      | ((with_reducible refine headW_go ?_); simp only [go_sem, simprocAttr, hF, hxk, hyk, hdj, hbx])
      | with_reducible refine awp_seq_k fun _ _ => ?_
      | (refine awp_draw' (id := 11) [] 17 (by kernel_rfl) (by kernel_rfl) rfl rfl (fun bx0 hbx => ?_); try dsimp only [List.take, List.drop])
      | (refine awp_draw' (id := 6) [] 65 (by kernel_rfl) (by kernel_rfl) rfl rfl (fun bx0 hbx => ?_); try dsimp only [List.take, List.drop])
      | with_reducible (first | refine awp_region [] ?_ | refine awp_block ?_)
      | go_step)
    refine ⟨⟨k + 1, by omega, by rw [hT', hxy, Bool.true_and]⟩, by dsimp only; omega, hR _ _ (sub_mk ?_)⟩
    simp only [go_sem, simprocAttr, hF, hw]
  obtain ⟨s, hsj⟩ := get_of_lt hjt
  obtain ⟨t, htj⟩ := get_of_lt (l := y.sl) (k := j) (by omega)
  have hdj : decide ((j : Int) < (x.sl.length : Int)) = true := decide_eq_true (by omega)
  have hwj : IntKind.i64.wrap ((j : Int) + 1) = ((j + 1 : Nat) : Int) := by rw [IntKind.wrap_i64]; omega
  have hU' : decide (x.sl = y.sl) = ((s == t) && decide (x.sl.drop (j + 1) = y.sl.drop (j + 1))) := by
    rw [hU, drop_of_get hsj, drop_of_get htj, Bool.eq_iff_iff]
    simp
  cases e1 : (s == t) with
  | false =>
    have e2 : (s != t) = true := by rw [bne, e1]; rfl
    repeat (first
      | (with_reducible (first | refine sops_go ?_ | refine headW_end ?_ | refine sops_end ?_ | refine awp_if ?_ | refine awp_skip ?_ | refine awp_ret ?_ | refine awp_exit ?_); simp only [go_sem, simprocAttr, hF, hxk, hyk, hdj, hsj, htj, e2])
      | ((with_reducible refine headW_go ?_); simp only [go_sem, simprocAttr, hF, hxk, hyk, hdj, hsj, htj, e2, hbx])
      | with_reducible refine awp_seq_k fun _ _ => ?_
      | (refine awp_draw' (id := 11) [] 17 (by kernel_rfl) (by kernel_rfl) rfl rfl (fun bx0 hbx => ?_); try dsimp only [List.take, List.drop])
      | (refine awp_draw' (id := 6) [] 65 (by kernel_rfl) (by kernel_rfl) rfl rfl (fun bx0 hbx => ?_); try dsimp only [List.take, List.drop])
      | with_reducible (first | refine awp_region [] ?_ | refine awp_block ?_)
      | go_step)
    rw [bad (decide_eq_false fun h => by rw [h, e1] at hU'; simp at hU')]
  | true =>
    have e2 : (s != t) = false := by rw [bne, e1]; rfl
    repeat (first
      | (with_reducible (first | refine sops_go ?_ | refine headW_end ?_ | refine sops_end ?_ | refine awp_if ?_ | refine awp_skip ?_ | refine awp_ret ?_ | refine awp_exit ?_); simp only [go_sem, simprocAttr, hF, hxk, hyk, hdj, hsj, htj, e2])
      | ((with_reducible refine headW_go ?_); simp only [go_sem, simprocAttr, hF, hxk, hyk, hdj, hsj, htj, e2, hbx])
      | with_reducible refine awp_seq_k fun _ _ => ?_
      | (refine awp_draw' (id := 11) [] 17 (by kernel_rfl) (by kernel_rfl) rfl rfl (fun bx0 hbx => ?_); try dsimp only [List.take, List.drop])
      | (refine awp_draw' (id := 6) [] 65 (by kernel_rfl) (by kernel_rfl) rfl rfl (fun bx0 hbx => ?_); try dsimp only [List.take, List.drop])
      | with_reducible (first | refine awp_region [] ?_ | refine awp_block ?_)
      | go_step)
    refine ⟨⟨j + 1, by omega, by rw [hU', e1, Bool.true_and]⟩, by dsimp only; omega, hR2 _ _ (sub_mk ?_)⟩
    simp only [go_sem, simprocAttr, hF, hwj]
/- The reference of Same, by abstract states. -/
set_option maxHeartbeats 2000000 in
theorem same57_ok (x y : Ex) (hca : x.ca.length ≤ 1000000) (hsl : ∀ c ∈ x.ca, c.sl.length ≤ 1000000) : FnOK Tryz.prog 15 [.agg x.pv, .agg y.pv] ⟨bv (decide (x = y)), none⟩ := by
  have hT : decide (x = y) = (([x.lt.fl, x.lt.fr, x.lt.sl] == [y.lt.fl, y.lt.fr, y.lt.sl]) && decide (x.ca = y.ca)) := by
    obtain ⟨⟨x1, x2, x3⟩, xc⟩ := x
    obtain ⟨⟨y1, y2, y3⟩, yc⟩ := y
    rw [Bool.eq_iff_iff]
    simp
  rw [hT]
  refine fn_ok Tryz.func15 (by kernel_rfl) rfl (by rw [Tryz.ntmps15]; exact of_decide_eq_true rfl) (fun F hF => ?_)
  rw [Tryz.ntmps15] at hF
  rw [Tryz.results15]
  cases e1 : ([x.lt.fl, x.lt.fr, x.lt.sl] == [y.lt.fl, y.lt.fr, y.lt.sl]) with
  | false =>
    repeat (first
      | (with_reducible (first | refine sops_go ?_ | refine headW_end ?_ | refine sops_end ?_ | refine awp_if ?_ | refine awp_skip ?_ | refine awp_ret ?_ | refine awp_exit ?_); simp only [go_sem, simprocAttr, hF, e1])
      | with_reducible (first | refine awp_seq_k fun _ _ => ?_ | refine awp_region [] ?_ | refine awp_block ?_)
      | go_step)
    all_goals (try rfl)
  | true =>
    repeat (first
      | (with_reducible (first | refine sops_go ?_ | refine headW_end ?_ | refine sops_end ?_ | refine awp_if ?_ | refine awp_skip ?_ | refine awp_ret ?_ | refine awp_exit ?_); simp only [go_sem, simprocAttr, hF, e1])
      | with_reducible (first | refine awp_seq_k fun _ _ => ?_ | refine awp_region [] ?_ | refine awp_block ?_)
      | go_step)
    refine ⟨_, samebr_ok x.ca y.ca hca hsl, ?_⟩
    simp only [go_sem, simprocAttr, hF, e1]
    repeat (first
      | (with_reducible (first | refine sops_go ?_ | refine headW_end ?_ | refine sops_end ?_ | refine awp_if ?_ | refine awp_skip ?_ | refine awp_ret ?_ | refine awp_exit ?_); simp only [go_sem, simprocAttr, hF, e1])
      | with_reducible (first | refine awp_seq_k fun _ _ => ?_ | refine awp_region [] ?_ | refine awp_block ?_)
      | go_step)
    all_goals (try rfl)
/- The law ExplainRight, by abstract states. -/
attribute [local go_sem] Av.startStC
theorem count_ok (s : ByteArray) : FnOK Tryz.prog 27 [.v (.string s), .v (.string ⟨#[10]⟩)] ⟨iv (s.data.toList.count 10 : Nat), none⟩ := fn_of ⟨Tryz.f27, _, Tryz.func27, by kernel_rfl, rfl⟩ fun w R hR us hus => by
  cases hus with | cons h0 _ hus =>
  cases hus with | cons h1 _ hus =>
  cases hus
  rw [h0, h1]
  refine (Any.strings_Count_one Tryz.lays138 s 10 w).mono ?_
  rintro e w' ⟨rfl, rfl⟩
  exact ⟨_, rfl, Below.refl _ _, rfl, rfl⟩

set_option maxHeartbeats 20000000 in
theorem lawRight_ok (n : Net) (f : Fl) (ps : List (List Int)) (r : Rec) (fr : Int) (hp : n.pow.length ≤ 9223372036854775807) (hps : ps.length ≤ 9223372036854775807)  : FnOKC Tryz.prog TabC 7 [.agg n.pv, .agg f.pv, .sl 1 (ps.map prow_pv), .agg r.pv, iv fr] ⟨bv true, none⟩ := by
  refine fn_okC (C := TabC) Tryz.func7 (by kernel_rfl) rfl (by rw [Tryz.ntmps7]; exact of_decide_eq_true rfl) (fun F hF => ?_)
  rw [Tryz.ntmps7] at hF
  rw [Tryz.results7]
  repeat (first
    | (with_reducible (first | refine sops_go ?_ | refine headW_end ?_ | refine sops_end ?_ | refine awp_if ?_ | refine awp_skip ?_ | refine awp_ret ?_ | refine awp_exit ?_); simp only [go_sem, simprocAttr, hF])
    | with_reducible (first | refine awp_seq_k fun _ _ => ?_ | refine awp_region [1000041] ?_ | refine awp_block ?_)
    | go_step)
  refine ⟨_, awake_ok, ?_⟩
  simp only [go_sem, simprocAttr, hF]
  repeat (first
    | (with_reducible (first | refine sops_go ?_ | refine headW_end ?_ | refine sops_end ?_ | refine awp_if ?_ | refine awp_skip ?_ | refine awp_ret ?_ | refine awp_exit ?_); simp only [go_sem, simprocAttr, hF])
    | with_reducible (first | refine awp_seq_k fun _ _ => ?_ | refine awp_region [1000041] ?_ | refine awp_block ?_)
    | go_step)
  refine ⟨_, few57_ok n ps r hp hps, ?_⟩
  simp only [go_sem, simprocAttr, hF]
  cases h1 : few57B n ps r with
  | false =>
    try simp only [go_sem, simprocAttr, hF, h1]
    repeat (first
      | (with_reducible (first | refine sops_go ?_ | refine headW_end ?_ | refine sops_end ?_ | refine awp_if ?_ | refine awp_skip ?_ | refine awp_ret ?_ | refine awp_exit ?_); simp only [go_sem, simprocAttr, hF, h1])
      | with_reducible (first | refine awp_seq_k fun _ _ => ?_ | refine awp_region [1000041] ?_ | refine awp_block ?_)
      | go_step)
    refine ⟨_, awake_ok, ?_⟩
    simp only [go_sem, simprocAttr, hF]
    repeat (first
      | (with_reducible (first | refine sops_go ?_ | refine headW_end ?_ | refine sops_end ?_ | refine awp_if ?_ | refine awp_skip ?_ | refine awp_ret ?_ | refine awp_exit ?_); simp only [go_sem, simprocAttr, hF])
      | with_reducible (first | refine awp_seq_k fun _ _ => ?_ | refine awp_region [1000041] ?_ | refine awp_block ?_)
      | go_step)
    all_goals (try rfl)
  | true =>
    obtain ⟨hS, hps4, hpl, hla, hld⟩ := few57_inv h1
    have hpl' : ∀ p ∈ ps, p.length ≤ 1000000 := fun p hp => Nat.le_trans (hpl p hp) (by decide)
    obtain ⟨s1, s2⟩ := findX_small n f ps r fr (by omega) (by omega)
    have k1 := find_okX n f ps r fr hS (by omega) (by omega) (by omega) hpl'
    have hr := @findX_right n f ps r fr
    have h0 : (findX n f ps r fr).2 ≠ 0 → (findX n f ps r fr).1 = ex0 := fun h => by
      unfold findX at h ⊢
      split at h
      · rename_i g; rw [if_pos g]
      · rename_i g
        rw [if_neg g]
        split at h
        · rename_i g2; rw [if_pos g2]
        · exact absurd rfl h
    obtain ⟨X, hX⟩ : ∃ X, X = findX n f ps r fr := ⟨_, rfl⟩
    rw [← hX] at k1 s1 s2 hr h0
    clear hX
    try simp only [go_sem, simprocAttr, hF, h1]
    repeat (first
      | (with_reducible (first | refine sops_go ?_ | refine headW_end ?_ | refine sops_end ?_ | refine awp_if ?_ | refine awp_skip ?_ | refine awp_ret ?_ | refine awp_exit ?_); simp only [go_sem, simprocAttr, hF, h1])
      | with_reducible (first | refine awp_seq_k fun _ _ => ?_ | refine awp_region [1000041] ?_ | refine awp_block ?_)
      | go_step)
    refine ⟨_, k1, ?_⟩
    simp only [go_sem, simprocAttr, hF]
    by_cases h2 : X.2 = 0
    case neg =>
      have e2 : (X.2 != 0) = true := by simpa using h2
      have hx0 := h0 h2
      have kk : FnOK Tryz.prog 15 [.agg X.1.pv, .agg [ip 0, ip 0, ip 0, .v (.slice none 0 0)]] ⟨bv true, none⟩ := by
        have := same57_ok X.1 ex0 s1 s2
        rw [decide_eq_true hx0] at this
        exact fnOK_le this (.cons (.refl _) (.cons (.agg (.cons (.refl _) (.cons (.refl _) (.cons (.refl _) (.cons (.nil 5) .nil))))) .nil))
      try simp only [go_sem, simprocAttr, hF, e2]
      repeat (first
        | (with_reducible (first | refine sops_go ?_ | refine headW_end ?_ | refine sops_end ?_ | refine awp_if ?_ | refine awp_skip ?_ | refine awp_ret ?_ | refine awp_exit ?_); simp only [go_sem, simprocAttr, hF, e2])
        | with_reducible (first | refine awp_seq_k fun _ _ => ?_ | refine awp_region [1000041] ?_ | refine awp_block ?_)
        | go_step)
      refine ⟨_, kk, ?_⟩
      simp only [go_sem, simprocAttr, hF]
      repeat (first
        | (with_reducible (first | refine sops_go ?_ | refine headW_end ?_ | refine sops_end ?_ | refine awp_if ?_ | refine awp_skip ?_ | refine awp_ret ?_ | refine awp_exit ?_); simp only [go_sem, simprocAttr, hF])
        | with_reducible (first | refine awp_seq_k fun _ _ => ?_ | refine awp_region [1000041] ?_ | refine awp_block ?_)
        | go_step)
      all_goals (try rfl)
    have e2 : (X.2 != 0) = false := by rw [h2]; rfl
    have RX := hr h2
    obtain ⟨y1, y2⟩ := fmtX_right RX (by omega)
    obtain ⟨Y, hY⟩ : ∃ Y, Y = fmtX X.1 := ⟨_, rfl⟩
    have k2 := format_okC TabC TabC.below X.1 s1 s2 (fun i hi _ => itoa_okC i (by omega) (by omega))
    have k3 := check_okX n f ps r X.1 hS (by omega) (by omega) (by omega) hpl'
    rw [RX.ck] at k3
    rw [← hY] at k2 y1 y2
    clear hY
    have k4 := count_ok Y.1
    rw [y2] at k4
    have w1 : IntKind.i64.wrap ((ps.length : Int) + 1) = ((ps.length + 1 : Nat) : Int) := by rw [IntKind.wrap_i64]; omega
    have q1 : (((ps.length + 1 : Nat) : Int) == ((ps.length + 1 : Nat) : Int)) = true := beq_self_eq_true _
    have q2 : (X.1.lt.fr == fr) = true := by rw [RX.fr]; exact beq_self_eq_true _
    have q3 : (X.1.lt.fl == f.id) = true := by rw [RX.fl]; exact beq_self_eq_true _
    have q4 : (Y.2 == 0) = true := by rw [y1]; rfl
    try simp only [go_sem, simprocAttr, hF, e2]
    repeat (first
      | (with_reducible (first | refine sops_go ?_ | refine headW_end ?_ | refine sops_end ?_ | refine awp_if ?_ | refine awp_skip ?_ | refine awp_ret ?_ | refine awp_exit ?_); simp only [go_sem, simprocAttr, hF, e2])
      | with_reducible (first | refine awp_seq_k fun _ _ => ?_ | refine awp_region [1000041] ?_ | refine awp_block ?_)
      | go_step)
    refine hand_fnC (d := 41) (C := TabC) TabC.below rfl rfl (by decide) rfl rfl rfl k2 rfl ?_
    simp only [go_sem, simprocAttr, hF]
    repeat (first
      | (with_reducible (first | refine sops_go ?_ | refine headW_end ?_ | refine sops_end ?_ | refine awp_if ?_ | refine awp_skip ?_ | refine awp_ret ?_ | refine awp_exit ?_); simp only [go_sem, simprocAttr, hF])
      | with_reducible (first | refine awp_seq_k fun _ _ => ?_ | refine awp_region [1000041] ?_ | refine awp_block ?_)
      | go_step)
    refine ⟨_, k3, ?_⟩
    simp only [go_sem, simprocAttr, hF, q4]
    repeat (first
      | (with_reducible (first | refine sops_go ?_ | refine headW_end ?_ | refine sops_end ?_ | refine awp_if ?_ | refine awp_skip ?_ | refine awp_ret ?_ | refine awp_exit ?_); simp only [go_sem, simprocAttr, hF, q4])
      | with_reducible (first | refine awp_seq_k fun _ _ => ?_ | refine awp_region [1000041] ?_ | refine awp_block ?_)
      | go_step)
    refine ⟨_, k4, ?_⟩
    simp only [go_sem, simprocAttr, hF, w1, q1, q2, q3]
    repeat (first
      | (with_reducible (first | refine sops_go ?_ | refine headW_end ?_ | refine sops_end ?_ | refine awp_if ?_ | refine awp_skip ?_ | refine awp_ret ?_ | refine awp_exit ?_); simp only [go_sem, simprocAttr, hF, w1, q1, q2, q3])
      | with_reducible (first | refine awp_seq_k fun _ _ => ?_ | refine awp_region [1000041] ?_ | refine awp_block ?_)
      | go_step)
    all_goals (try rfl)
end Go.Proofs.YticnppnejafhdaaGreatDoor

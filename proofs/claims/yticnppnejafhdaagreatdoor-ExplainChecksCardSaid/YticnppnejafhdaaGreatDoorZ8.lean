import Derived.Test.YticnppnejafhdaaGreatDoorZ7
set_option linter.unusedVariables false
set_option linter.unusedSimpArgs false
/- The law ExplainChecks, by abstract states. -/
namespace Go.Proofs.YticnppnejafhdaaGreatDoor
open Go.RowKit
open Nd Rc Mo
open Av
set_option maxRecDepth 100000
set_option linter.unusedSimpArgs false
attribute [local go_sem] Av.guardB Av.sop Av.hopx Av.hop Av.hopCall Av.hopF Av.hopB Av.evo Av.evos Av.avCells Av.loadK Av.bound Av.abin Av.aun Av.partsC Av.lfill Av.placesB Av.setAt Av.stl Av.takes Av.src Av.bxOf Av.ownOf Av.St.res Av.St.put Av.St.addBox Av.St.putOwn Av.delL Av.delS Av.look Av.lookL Av.storeSt Av.stealSt Av.St.setBox Av.keepL Av.hitB Av.snap Av.snaps Av.snapCaps Av.AV.lit Av.AV.refs Av.capRefs Av.PV.av Av.CV.av Av.startSt Av.steals Av.athen Av.ablock Av.appK Av.AllS Av.AllO Av.AllR Av.keepS Av.St.avAt Av.RetOK Av.retAll Av.retOne Av.intsOf Av.ptrB TypeDesc.isRow List.range_zero Option.some.injEq exists_eq_left' exists_eq_left exists_eq' exists_and_left exists_and_right exists_const true_and and_true and_self false_and and_false or_false false_or or_true true_or if_true if_false Bool.false_eq_true List.zipIdx_cons List.zipIdx_nil List.map_cons List.map_nil List.filter_cons List.filter_nil List.contains_cons List.contains_nil List.drop_succ_cons List.drop_zero List.take_succ_cons List.take_zero List.take_nil List.drop_nil List.length_cons List.length_nil List.cons_append List.nil_append List.append_nil List.getElem?_cons_zero List.getElem?_cons_succ List.getElem?_nil Option.bind_some Option.bind_none Option.map_some Option.map_none Option.isNone_none Option.isNone_some Option.isSome_some Option.isSome_none Bool.and_true Bool.true_and Bool.and_false Bool.false_and Bool.or_false Bool.false_or Bool.not_true Bool.not_false beq_true beq_false Bool.true_beq Bool.false_beq Loc.s.injEq Loc.b.injEq decide_true decide_false beq_self_eq_true Nat.zero_add Nat.add_zero List.getElem?_toArray List.toList_toArray List.size_toArray Value.oneCell' List.all_cons List.all_nil Value.int.injEq AV.v.injEq AV.sl.injEq AV.agg.injEq AV.ref.injEq AV.ept.injEq AV.tup.injEq Value.bool.injEq PV.v.injEq PV.sl.injEq List.isEmpty_nil List.isEmpty_cons forall_const not_true_eq_false not_false_eq_true true_implies false_implies Value.string.injEq List.length_map List.getElem?_map Int.toNat_natCast Int.natCast_nonneg List.length_append Value.cells implies_true TypeDesc.struct.injEq TypeDesc.slice.injEq TypeDesc.array.injEq List.getElem?_toArray Prod.mk.injEq and_assoc exists_false List.cons.injEq Operand.tmp.injEq ite_self AV.fnv.injEq AV.clo.injEq ne_eq eq_self Tryz.sz3 Tryz.zr3 Tryz.by3 Tryz.pl3 Tryz.is3 Tryz.underlying3 Tryz.sz4 Tryz.zr4 Tryz.by4 Tryz.pl4 Tryz.is4 Tryz.underlying4 Tryz.sz43 Tryz.zr43 Tryz.by43 Tryz.pl43 Tryz.is43 Tryz.underlying43 Tryz.sz35 Tryz.zr35 Tryz.by35 Tryz.pl35 Tryz.is35 Tryz.underlying35 Tryz.sz33 Tryz.zr33 Tryz.by33 Tryz.pl33 Tryz.is33 Tryz.underlying33 Tryz.sz28 Tryz.zr28 Tryz.by28 Tryz.pl28 Tryz.is28 Tryz.underlying28 Tryz.sz39 Tryz.zr39 Tryz.by39 Tryz.pl39 Tryz.is39 Tryz.underlying39 Tryz.sz57 Tryz.zr57 Tryz.by57 Tryz.pl57 Tryz.is57 Tryz.underlying57 Tryz.sz137 Tryz.zr137 Tryz.by137 Tryz.pl137 Tryz.is137 Tryz.underlying137 Tryz.sz66 Tryz.zr66 Tryz.by66 Tryz.pl66 Tryz.is66 Tryz.underlying66 Tryz.sz64 Tryz.zr64 Tryz.by64 Tryz.pl64 Tryz.is64 Tryz.underlying64 Tryz.sz60 Tryz.zr60 Tryz.by60 Tryz.pl60 Tryz.is60 Tryz.underlying60 Tryz.sz100 Tryz.zr100 Tryz.by100 Tryz.pl100 Tryz.is100 Tryz.underlying100 Tryz.sz103 Tryz.zr103 Tryz.by103 Tryz.pl103 Tryz.is103 Tryz.underlying103 Tryz.sz26 Tryz.zr26 Tryz.by26 Tryz.pl26 Tryz.is26 Tryz.underlying26 Tryz.sz120 Tryz.zr120 Tryz.by120 Tryz.pl120 Tryz.is120 Tryz.underlying120 Tryz.sz117 Tryz.zr117 Tryz.by117 Tryz.pl117 Tryz.is117 Tryz.underlying117 Tryz.sz30 Tryz.zr30 Tryz.by30 Tryz.pl30 Tryz.is30 Tryz.underlying30 Tryz.sz31 Tryz.zr31 Tryz.by31 Tryz.pl31 Tryz.is31 Tryz.underlying31 Tryz.sz40 Tryz.zr40 Tryz.by40 Tryz.pl40 Tryz.is40 Tryz.underlying40 Tryz.sz23 Tryz.zr23 Tryz.by23 Tryz.pl23 Tryz.is23 Tryz.underlying23 Tryz.sz24 Tryz.zr24 Tryz.by24 Tryz.pl24 Tryz.is24 Tryz.underlying24 Tryz.sz22 Tryz.zr22 Tryz.by22 Tryz.pl22 Tryz.is22 Tryz.underlying22 Tryz.sz141 Tryz.zr141 Tryz.by141 Tryz.pl141 Tryz.is141 Tryz.underlying141 Tryz.sz42 Tryz.zr42 Tryz.by42 Tryz.pl42 Tryz.is42 Tryz.underlying42 Tryz.sz29 Tryz.zr29 Tryz.by29 Tryz.pl29 Tryz.is29 Tryz.underlying29 Tryz.sz83 Tryz.zr83 Tryz.by83 Tryz.pl83 Tryz.is83 Tryz.underlying83 Tryz.sz67 Tryz.zr67 Tryz.by67 Tryz.pl67 Tryz.is67 Tryz.underlying67 Tryz.sz20 Tryz.zr20 Tryz.by20 Tryz.pl20 Tryz.is20 Tryz.underlying20 Tryz.sz89 Tryz.zr89 Tryz.by89 Tryz.pl89 Tryz.is89 Tryz.underlying89 Tryz.sz132 Tryz.zr132 Tryz.by132 Tryz.pl132 Tryz.is132 Tryz.underlying132 Tryz.sz113 Tryz.zr113 Tryz.by113 Tryz.pl113 Tryz.is113 Tryz.underlying113 Tryz.sz9 Tryz.zr9 Tryz.by9 Tryz.pl9 Tryz.is9 Tryz.underlying9 Tryz.it39 Tryz.eg39 Tryz.it137 Tryz.eg137 Tryz.it66 Tryz.eg66 Tryz.it28 Tryz.eg28 Tryz.it60 Tryz.eg60 all_arr loc_ss loc_sb loc_bs loc_bb arr_two arr_one rg1 rg2 rg3 rg4 rg5 rg6 rg7 rg8 ResultVar.tmp.injEq Bool.not_true Bool.not_false undef Rc.Rec.pv Nd.Fl.pv Rc.Dlv.pv Rc.Att.pv Mo.Lt.pv Fn.func.injEq Mo.Net.pv Mo.Lk.pv prow_pv irow_pv Br.pv Ex.pv Av.startStC
set_option maxHeartbeats 20000000 in
theorem lawChecks_ok (n : Net) (f : Fl) (ps : List (List Int)) (r : Rec) (x : Ex) (hp : n.pow.length ≤ 9223372036854775807) (hps : ps.length ≤ 9223372036854775807) (hca : x.ca.length ≤ 9223372036854775807) : FnOKC Tryz.prog TabC 4 [.agg n.pv, .agg f.pv, .sl 1 (ps.map prow_pv), .agg r.pv, .agg x.pv] ⟨bv true, none⟩ := by
 refine fn_okC (C := TabC) Tryz.func4 (by kernel_rfl) rfl (by rw [Tryz.ntmps4]; exact of_decide_eq_true rfl) (fun F hF => ?_)
 rw [Tryz.ntmps4] at hF
 rw [Tryz.results4]
 repeat (first
  | (with_reducible (first | refine sg0 ?_ | refine hw0 ?_ | refine se0 ?_ | refine ai0 ?_ | refine as0 ?_ | refine at0 ?_ | refine ax0 ?_); simp only [go_sem, simprocAttr, hF])
  | ((with_reducible refine hg0 ?_); simp only [go_sem, simprocAttr, hF, hbx])
  | with_reducible refine aq0 fun _ _ => ?_
  | (refine awp_draw' (id := 5) [1000032] 23 (by kernel_rfl) (by kernel_rfl) rfl rfl (fun bx0 hbx => ?_); try dsimp only [List.take, List.drop])
  | with_reducible (first | refine ar0 [1000032] ?_ | refine ab0 ?_)
  | go_step)
 refine ⟨_, awake_ok, ?_⟩
 simp only [go_sem, simprocAttr, hF]
 repeat (first
  | (with_reducible (first | refine sg0 ?_ | refine hw0 ?_ | refine se0 ?_ | refine ai0 ?_ | refine as0 ?_ | refine at0 ?_ | refine ax0 ?_); simp only [go_sem, simprocAttr, hF])
  | ((with_reducible refine hg0 ?_); simp only [go_sem, simprocAttr, hF, hbx])
  | with_reducible refine aq0 fun _ _ => ?_
  | (refine awp_draw' (id := 5) [1000032] 23 (by kernel_rfl) (by kernel_rfl) rfl rfl (fun bx0 hbx => ?_); try dsimp only [List.take, List.drop])
  | with_reducible (first | refine ar0 [1000032] ?_ | refine ab0 ?_)
  | go_step)
 refine ⟨_, few57_ok n ps r hp hps, ?_⟩
 simp only [go_sem, simprocAttr, hF]
 cases h1 : few57B n ps r with
 | false =>
  try simp only [go_sem, simprocAttr, hF, h1]
  repeat (first
   | (with_reducible (first | refine sg0 ?_ | refine hw0 ?_ | refine se0 ?_ | refine ai0 ?_ | refine as0 ?_ | refine at0 ?_ | refine ax0 ?_); simp only [go_sem, simprocAttr, hF, h1])
   | ((with_reducible refine hg0 ?_); simp only [go_sem, simprocAttr, hF, h1, hbx])
   | with_reducible refine aq0 fun _ _ => ?_
   | (refine awp_draw' (id := 5) [1000032] 23 (by kernel_rfl) (by kernel_rfl) rfl rfl (fun bx0 hbx => ?_); try dsimp only [List.take, List.drop])
   | with_reducible (first | refine ar0 [1000032] ?_ | refine ab0 ?_)
   | go_step)
  refine ⟨_, awake_ok, ?_⟩
  simp only [go_sem, simprocAttr, hF]
  repeat (first
   | (with_reducible (first | refine sg0 ?_ | refine hw0 ?_ | refine se0 ?_ | refine ai0 ?_ | refine as0 ?_ | refine at0 ?_ | refine ax0 ?_); simp only [go_sem, simprocAttr, hF])
   | ((with_reducible refine hg0 ?_); simp only [go_sem, simprocAttr, hF, hbx])
   | with_reducible refine aq0 fun _ _ => ?_
   | (refine awp_draw' (id := 5) [1000032] 23 (by kernel_rfl) (by kernel_rfl) rfl rfl (fun bx0 hbx => ?_); try dsimp only [List.take, List.drop])
   | with_reducible (first | refine ar0 [1000032] ?_ | refine ab0 ?_)
   | go_step)
  all_goals (try rfl)
 | true =>
  obtain ⟨hS, hps4, hpl, hla, hld⟩ := few57_inv h1
  have hpl' : ∀ p ∈ ps, p.length ≤ 1000000 := fun p hp => Nat.le_trans (hpl p hp) (by decide)
  try simp only [go_sem, simprocAttr, hF, h1]
  repeat (first
   | (with_reducible (first | refine sg0 ?_ | refine hw0 ?_ | refine se0 ?_ | refine ai0 ?_ | refine as0 ?_ | refine at0 ?_ | refine ax0 ?_); simp only [go_sem, simprocAttr, hF, h1])
   | ((with_reducible refine hg0 ?_); simp only [go_sem, simprocAttr, hF, h1, hbx])
   | with_reducible refine aq0 fun _ _ => ?_
   | (refine awp_draw' (id := 5) [1000032] 23 (by kernel_rfl) (by kernel_rfl) rfl rfl (fun bx0 hbx => ?_); try dsimp only [List.take, List.drop])
   | with_reducible (first | refine ar0 [1000032] ?_ | refine ab0 ?_)
   | go_step)
  refine ⟨_, fewX_ok x hca, ?_⟩
  simp only [go_sem, simprocAttr, hF]
  cases h2 : fewXB x with
  | false =>
   try simp only [go_sem, simprocAttr, hF, h2]
   repeat (first
    | (with_reducible (first | refine sg0 ?_ | refine hw0 ?_ | refine se0 ?_ | refine ai0 ?_ | refine as0 ?_ | refine at0 ?_ | refine ax0 ?_); simp only [go_sem, simprocAttr, hF, h2])
    | ((with_reducible refine hg0 ?_); simp only [go_sem, simprocAttr, hF, h2, hbx])
    | with_reducible refine aq0 fun _ _ => ?_
    | (refine awp_draw' (id := 5) [1000032] 23 (by kernel_rfl) (by kernel_rfl) rfl rfl (fun bx0 hbx => ?_); try dsimp only [List.take, List.drop])
    | with_reducible (first | refine ar0 [1000032] ?_ | refine ab0 ?_)
    | go_step)
   refine ⟨_, awake_ok, ?_⟩
   simp only [go_sem, simprocAttr, hF]
   repeat (first
    | (with_reducible (first | refine sg0 ?_ | refine hw0 ?_ | refine se0 ?_ | refine ai0 ?_ | refine as0 ?_ | refine at0 ?_ | refine ax0 ?_); simp only [go_sem, simprocAttr, hF])
    | ((with_reducible refine hg0 ?_); simp only [go_sem, simprocAttr, hF, hbx])
    | with_reducible refine aq0 fun _ _ => ?_
    | (refine awp_draw' (id := 5) [1000032] 23 (by kernel_rfl) (by kernel_rfl) rfl rfl (fun bx0 hbx => ?_); try dsimp only [List.take, List.drop])
    | with_reducible (first | refine ar0 [1000032] ?_ | refine ab0 ?_)
    | go_step)
   all_goals (try rfl)
  | true =>
   obtain ⟨hsl, hcl⟩ := fewX_inv h2
   have hsl' : ∀ c ∈ x.ca, c.sl.length ≤ 1000000 := fun c hc => Nat.le_trans (hsl c hc) (by decide)
   obtain ⟨Y, hY⟩ : ∃ Y, Y = fmtX x := ⟨_, rfl⟩
   have k1 := format_okC TabC TabC.below x (by omega) hsl' (fun i hi _ => itoa_okC i (by omega) (by omega))
   have k2 := rformat_ok x (by omega) hsl'
   rw [← hY] at k1 k2
   clear hY
   have d1 : (Y.1.toList == Y.1.toList) = true := beq_self_eq_true _
   try simp only [go_sem, simprocAttr, hF, h2]
   repeat (first
    | (with_reducible (first | refine sg0 ?_ | refine hw0 ?_ | refine se0 ?_ | refine ai0 ?_ | refine as0 ?_ | refine at0 ?_ | refine ax0 ?_); simp only [go_sem, simprocAttr, hF, h2])
    | ((with_reducible refine hg0 ?_); simp only [go_sem, simprocAttr, hF, h2, hbx])
    | with_reducible refine aq0 fun _ _ => ?_
    | (refine awp_draw' (id := 5) [1000032] 23 (by kernel_rfl) (by kernel_rfl) rfl rfl (fun bx0 hbx => ?_); try dsimp only [List.take, List.drop])
    | with_reducible (first | refine ar0 [1000032] ?_ | refine ab0 ?_)
    | go_step)
   refine hand_fnC (d := 32) (C := TabC) TabC.below rfl rfl (by decide) rfl rfl rfl k1 rfl ?_
   simp only [go_sem, simprocAttr, hF]
   repeat (first
    | (with_reducible (first | refine sg0 ?_ | refine hw0 ?_ | refine se0 ?_ | refine ai0 ?_ | refine as0 ?_ | refine at0 ?_ | refine ax0 ?_); simp only [go_sem, simprocAttr, hF])
    | ((with_reducible refine hg0 ?_); simp only [go_sem, simprocAttr, hF, hbx])
    | with_reducible refine aq0 fun _ _ => ?_
    | (refine awp_draw' (id := 5) [1000032] 23 (by kernel_rfl) (by kernel_rfl) rfl rfl (fun bx0 hbx => ?_); try dsimp only [List.take, List.drop])
    | with_reducible (first | refine ar0 [1000032] ?_ | refine ab0 ?_)
    | go_step)
   refine ⟨_, k2, ?_⟩
   simp only [go_sem, simprocAttr, hF]
   repeat (first
    | (with_reducible (first | refine sg0 ?_ | refine hw0 ?_ | refine se0 ?_ | refine ai0 ?_ | refine as0 ?_ | refine at0 ?_ | refine ax0 ?_); simp only [go_sem, simprocAttr, hF])
    | ((with_reducible refine hg0 ?_); simp only [go_sem, simprocAttr, hF, hbx])
    | with_reducible refine aq0 fun _ _ => ?_
    | (refine awp_draw' (id := 5) [1000032] 23 (by kernel_rfl) (by kernel_rfl) rfl rfl (fun bx0 hbx => ?_); try dsimp only [List.take, List.drop])
    | with_reducible (first | refine ar0 [1000032] ?_ | refine ab0 ?_)
    | go_step)
   refine ⟨_, check_okX n f ps r x hS (by omega) (by omega) (by omega) hpl', ?_⟩
   simp only [go_sem, simprocAttr, hF, d1]
   repeat (first
    | (with_reducible (first | refine sg0 ?_ | refine hw0 ?_ | refine se0 ?_ | refine ai0 ?_ | refine as0 ?_ | refine at0 ?_ | refine ax0 ?_); simp only [go_sem, simprocAttr, hF, d1])
    | ((with_reducible refine hg0 ?_); simp only [go_sem, simprocAttr, hF, d1, hbx])
    | with_reducible refine aq0 fun _ _ => ?_
    | (refine awp_draw' (id := 5) [1000032] 23 (by kernel_rfl) (by kernel_rfl) rfl rfl (fun bx0 hbx => ?_); try dsimp only [List.take, List.drop])
    | with_reducible (first | refine ar0 [1000032] ?_ | refine ab0 ?_)
    | go_step)
   refine ⟨_, rcheck_okX n f ps r x hS (by omega) (by omega) (by omega) hpl', ?_⟩
   simp only [go_sem, simprocAttr, hF, d1]
   repeat (first
    | (with_reducible (first | refine sg0 ?_ | refine hw0 ?_ | refine se0 ?_ | refine ai0 ?_ | refine as0 ?_ | refine at0 ?_ | refine ax0 ?_); simp only [go_sem, simprocAttr, hF, d1])
    | ((with_reducible refine hg0 ?_); simp only [go_sem, simprocAttr, hF, d1, hbx])
    | with_reducible refine aq0 fun _ _ => ?_
    | (refine awp_draw' (id := 5) [1000032] 23 (by kernel_rfl) (by kernel_rfl) rfl rfl (fun bx0 hbx => ?_); try dsimp only [List.take, List.drop])
    | with_reducible (first | refine ar0 [1000032] ?_ | refine ab0 ?_)
    | go_step)
   all_goals (try rfl)
end Go.Proofs.YticnppnejafhdaaGreatDoor

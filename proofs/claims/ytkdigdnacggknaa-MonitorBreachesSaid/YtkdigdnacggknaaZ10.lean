import Derived.Test.YtkdigdnacggknaaZ9
set_option linter.unusedVariables false
set_option linter.unusedSimpArgs false
/- By abstract states: slices.Equal. -/
namespace Go.Proofs.Ytkdigdnacggknaa
open Go.RowKit
open Nd Rc Mo
open Av
set_option maxRecDepth 100000
set_option linter.unusedSimpArgs false
attribute [local go_sem] Av.guardB Av.sop Av.hopx Av.hop Av.hopCall Av.hopF Av.hopB Av.evo Av.evos Av.avCells Av.loadK Av.bound Av.abin Av.aun Av.partsC Av.lfill Av.placesB Av.setAt Av.stl Av.takes Av.src Av.bxOf Av.ownOf Av.St.res Av.St.put Av.St.addBox Av.St.putOwn Av.delL Av.delS Av.look Av.lookL Av.storeSt Av.stealSt Av.St.setBox Av.keepL Av.hitB Av.snap Av.snaps Av.snapCaps Av.AV.lit Av.AV.refs Av.capRefs Av.PV.av Av.CV.av Av.startSt Av.steals Av.athen Av.ablock Av.appK Av.AllS Av.AllO Av.AllR Av.keepS Av.St.avAt Av.RetOK Av.retAll Av.retOne Av.intsOf Av.ptrB Av.appB Av.appSt TypeDesc.isRow List.range_zero Option.some.injEq exists_eq_left' exists_eq_left exists_eq' exists_and_left exists_and_right exists_const true_and and_true and_self false_and and_false or_false false_or or_true true_or if_true if_false Bool.false_eq_true List.zipIdx_cons List.zipIdx_nil List.map_cons List.map_nil List.filter_cons List.filter_nil List.contains_cons List.contains_nil List.drop_succ_cons List.drop_zero List.take_succ_cons List.take_zero List.take_nil List.drop_nil List.length_cons List.length_nil List.cons_append List.nil_append List.append_nil List.getElem?_cons_zero List.getElem?_cons_succ List.getElem?_nil Option.bind_some Option.bind_none Option.map_some Option.map_none Option.isNone_none Option.isNone_some Option.isSome_some Option.isSome_none Bool.and_true Bool.true_and Bool.and_false Bool.false_and Bool.or_false Bool.false_or Bool.not_true Bool.not_false beq_true beq_false Bool.true_beq Bool.false_beq Loc.s.injEq Loc.b.injEq decide_true decide_false beq_self_eq_true Nat.zero_add Nat.add_zero List.getElem?_toArray List.toList_toArray List.size_toArray Value.oneCell' List.all_cons List.all_nil Value.int.injEq AV.v.injEq AV.sl.injEq AV.agg.injEq AV.ref.injEq AV.ept.injEq AV.tup.injEq Value.bool.injEq PV.v.injEq PV.sl.injEq List.isEmpty_nil List.isEmpty_cons forall_const not_true_eq_false not_false_eq_true true_implies false_implies Value.string.injEq List.length_map List.getElem?_map Int.toNat_natCast Int.natCast_nonneg List.length_append Value.cells implies_true TypeDesc.struct.injEq TypeDesc.slice.injEq TypeDesc.array.injEq List.getElem?_toArray Prod.mk.injEq and_assoc exists_false List.cons.injEq Operand.tmp.injEq ite_self AV.fnv.injEq AV.clo.injEq Try.sz3 Try.zr3 Try.by3 Try.pl3 Try.is3 Try.underlying3 Try.sz4 Try.zr4 Try.by4 Try.pl4 Try.is4 Try.underlying4 Try.sz32 Try.zr32 Try.by32 Try.pl32 Try.is32 Try.underlying32 Try.sz28 Try.zr28 Try.by28 Try.pl28 Try.is28 Try.underlying28 Try.sz26 Try.zr26 Try.by26 Try.pl26 Try.is26 Try.underlying26 Try.sz37 Try.zr37 Try.by37 Try.pl37 Try.is37 Try.underlying37 Try.sz68 Try.zr68 Try.by68 Try.pl68 Try.is68 Try.underlying68 Try.sz57 Try.zr57 Try.by57 Try.pl57 Try.is57 Try.underlying57 Try.sz70 Try.zr70 Try.by70 Try.pl70 Try.is70 Try.underlying70 Try.sz54 Try.zr54 Try.by54 Try.pl54 Try.is54 Try.underlying54 Try.sz66 Try.zr66 Try.by66 Try.pl66 Try.is66 Try.underlying66 Try.sz64 Try.zr64 Try.by64 Try.pl64 Try.is64 Try.underlying64 Try.sz73 Try.zr73 Try.by73 Try.pl73 Try.is73 Try.underlying73 Try.sz102 Try.zr102 Try.by102 Try.pl102 Try.is102 Try.underlying102 Try.sz105 Try.zr105 Try.by105 Try.pl105 Try.is105 Try.underlying105 Try.sz44 Try.zr44 Try.by44 Try.pl44 Try.is44 Try.underlying44 Try.sz22 Try.zr22 Try.by22 Try.pl22 Try.is22 Try.underlying22 Try.sz31 Try.zr31 Try.by31 Try.pl31 Try.is31 Try.underlying31 Try.sz23 Try.zr23 Try.by23 Try.pl23 Try.is23 Try.underlying23 Try.sz24 Try.zr24 Try.by24 Try.pl24 Try.is24 Try.underlying24 Try.sz46 Try.zr46 Try.by46 Try.pl46 Try.is46 Try.underlying46 Try.sz41 Try.zr41 Try.by41 Try.pl41 Try.is41 Try.underlying41 Try.sz42 Try.zr42 Try.by42 Try.pl42 Try.is42 Try.underlying42 Try.sz40 Try.zr40 Try.by40 Try.pl40 Try.is40 Try.underlying40 Try.it68 Try.eg68 Try.it54 Try.eg54 Try.it66 Try.eg66 Try.it57 Try.eg57 Try.it37 Try.eg37 Try.it73 Try.eg73 all_arr loc_ss loc_sb loc_bs loc_bb arr_two arr_one rg1 rg2 rg3 rg4 rg5 rg6 rg7 rg8 ResultVar.tmp.injEq Bool.not_true Bool.not_false undef Rc.Rec.pv Nd.Fl.pv Rc.Dlv.pv Rc.Att.pv Mo.Lt.pv Mo.Sv.pv
set_option maxHeartbeats 2000000 in
theorem eqI_ok (a b : List Int) (ha : a.length ≤ 1000000) : FnOK Try.prog 38 [.sl 1 (a.map (fun x => [ip x])), .sl 1 (b.map (fun x => [ip x]))] ⟨bv (decide (a = b)), none⟩ := by
  refine fn_ok Try.func38 (by kernel_rfl) rfl (by rw [Try.ntmps38]; exact of_decide_eq_true rfl) (fun F hF => ?_)
  rw [Try.ntmps38] at hF
  rw [Try.results38]
  have hal : ((a.length : Int) != (b.length : Int)) = !decide (a.length = b.length) := by rw [Bool.eq_iff_iff]; simp; omega
  by_cases hl : a.length = b.length
  case neg =>
    have hn : decide (a.length = b.length) = false := decide_eq_false hl
    repeat (first
      | (with_reducible (first | refine sops_go ?_ | refine headW_end ?_ | refine sops_end ?_ | refine awp_if ?_ | refine awp_skip ?_ | refine awp_ret ?_ | refine awp_exit ?_); simp only [go_sem, ↓reduceIte, Nat.reduceEqDiff, Nat.reduceLT, Nat.reduceLeDiff, Nat.reduceAdd, Nat.reduceMul, Nat.reduceSub, Nat.reduceBEq, reduceCtorEq, Int.reduceBNe, Int.reduceBEq, Int.reduceLT, Int.reduceLE, Int.reduceGT, Int.reduceGE, ne_eq, eq_self, hF, hal, hn])
      | ((with_reducible refine headW_go ?_); simp only [go_sem, ↓reduceIte, Nat.reduceEqDiff, Nat.reduceLT, Nat.reduceLeDiff, Nat.reduceAdd, Nat.reduceMul, Nat.reduceSub, Nat.reduceBEq, reduceCtorEq, Int.reduceBNe, Int.reduceBEq, Int.reduceLT, Int.reduceLE, Int.reduceGT, Int.reduceGE, ne_eq, eq_self, hF, hal, hn, hbx])
      | with_reducible refine awp_seq_k fun _ _ => ?_
      | (refine awp_draw' (id := 6) [] 9 (by kernel_rfl) (by kernel_rfl) rfl rfl (fun bx0 hbx => ?_); try dsimp only [List.take, List.drop])
      | with_reducible (first | refine awp_region [] ?_ | refine awp_block ?_)
      | go_step)
    rw [decide_eq_false (fun h => hl (by rw [h]))]
  have hn : decide (a.length = b.length) = true := decide_eq_true hl
  repeat (first
    | (with_reducible (first | refine sops_go ?_ | refine headW_end ?_ | refine sops_end ?_ | refine awp_if ?_ | refine awp_skip ?_ | refine awp_ret ?_ | refine awp_exit ?_); simp only [go_sem, ↓reduceIte, Nat.reduceEqDiff, Nat.reduceLT, Nat.reduceLeDiff, Nat.reduceAdd, Nat.reduceMul, Nat.reduceSub, Nat.reduceBEq, reduceCtorEq, Int.reduceBNe, Int.reduceBEq, Int.reduceLT, Int.reduceLE, Int.reduceGT, Int.reduceGE, ne_eq, eq_self, hF, hal, hn])
    | ((with_reducible refine headW_go ?_); simp only [go_sem, ↓reduceIte, Nat.reduceEqDiff, Nat.reduceLT, Nat.reduceLeDiff, Nat.reduceAdd, Nat.reduceMul, Nat.reduceSub, Nat.reduceBEq, reduceCtorEq, Int.reduceBNe, Int.reduceBEq, Int.reduceLT, Int.reduceLE, Int.reduceGT, Int.reduceGE, ne_eq, eq_self, hF, hal, hn, hbx])
    | with_reducible refine awp_seq_k fun _ _ => ?_
    | (refine awp_draw' (id := 6) [] 9 (by kernel_rfl) (by kernel_rfl) rfl rfl (fun bx0 hbx => ?_); try dsimp only [List.take, List.drop])
    | with_reducible (first | refine awp_region [] ?_ | refine awp_block ?_)
    | go_step)
  refine awp_loop_by (ι := {k : Nat // k ≤ a.length ∧ decide (a = b) = decide (a.drop k = b.drop k)}) (fun k σ => ⟨(13, iv (k.1 : Int)) :: keepS [0, 1, 4, 12] σ.slot, σ.box, [], σ.ext⟩) (fun k => a.length - k.1) ⟨0, by omega, rfl⟩ (sub_mk ?_) (fun R hR k => ?_)
  · simp only [go_sem, ↓reduceIte, Nat.reduceEqDiff, Nat.reduceLT, Nat.reduceLeDiff, Nat.reduceAdd, Nat.reduceMul, Nat.reduceSub, Nat.reduceBEq, reduceCtorEq, Int.reduceBNe, Int.reduceBEq, Int.reduceLT, Int.reduceLE, Int.reduceGT, Int.reduceGE, ne_eq, eq_self, hF]
    repeat' (first | rfl | refine ⟨?_, ?_⟩)
  obtain ⟨k, hk, hT⟩ := k
  dsimp only
  simp only [go_sem, ↓reduceIte, Nat.reduceEqDiff, Nat.reduceLT, Nat.reduceLeDiff, Nat.reduceAdd, Nat.reduceMul, Nat.reduceSub, Nat.reduceBEq, reduceCtorEq, Int.reduceBNe, Int.reduceBEq, Int.reduceLT, Int.reduceLE, Int.reduceGT, Int.reduceGE, ne_eq, eq_self, hF]
  by_cases hlt : k < a.length
  case neg =>
    have hd : decide ((k : Int) < (a.length : Int)) = false := decide_eq_false (by omega)
    repeat (first
      | (with_reducible (first | refine sops_go ?_ | refine headW_end ?_ | refine sops_end ?_ | refine awp_if ?_ | refine awp_skip ?_ | refine awp_ret ?_ | refine awp_exit ?_); simp only [go_sem, ↓reduceIte, Nat.reduceEqDiff, Nat.reduceLT, Nat.reduceLeDiff, Nat.reduceAdd, Nat.reduceMul, Nat.reduceSub, Nat.reduceBEq, reduceCtorEq, Int.reduceBNe, Int.reduceBEq, Int.reduceLT, Int.reduceLE, Int.reduceGT, Int.reduceGE, ne_eq, eq_self, hF, hd])
      | ((with_reducible refine headW_go ?_); simp only [go_sem, ↓reduceIte, Nat.reduceEqDiff, Nat.reduceLT, Nat.reduceLeDiff, Nat.reduceAdd, Nat.reduceMul, Nat.reduceSub, Nat.reduceBEq, reduceCtorEq, Int.reduceBNe, Int.reduceBEq, Int.reduceLT, Int.reduceLE, Int.reduceGT, Int.reduceGE, ne_eq, eq_self, hF, hd, hbx])
      | with_reducible refine awp_seq_k fun _ _ => ?_
      | (refine awp_draw' (id := 6) [] 9 (by kernel_rfl) (by kernel_rfl) rfl rfl (fun bx0 hbx => ?_); try dsimp only [List.take, List.drop])
      | with_reducible (first | refine awp_region [] ?_ | refine awp_block ?_)
      | go_step)
    rw [hT, List.drop_of_length_le (by omega), List.drop_of_length_le (by omega)]
    rfl
  obtain ⟨x, hxk⟩ := get_of_lt hlt
  obtain ⟨y, hyk⟩ := get_of_lt (l := b) (k := k) (by omega)
  have hd : decide ((k : Int) < (a.length : Int)) = true := decide_eq_true (by omega)
  have hw : IntKind.i64.wrap ((k : Int) + 1) = ((k + 1 : Nat) : Int) := by rw [IntKind.wrap_i64]; omega
  have hT' : decide (a = b) = ((x == y) && decide (a.drop (k + 1) = b.drop (k + 1))) := by
    rw [hT, drop_of_get hxk, drop_of_get hyk, Bool.eq_iff_iff]
    simp
  cases he : (x == y) with
  | false =>
    have hne : (x != y) = true := by rw [bne, he]; rfl
    repeat (first
      | (with_reducible (first | refine sops_go ?_ | refine headW_end ?_ | refine sops_end ?_ | refine awp_if ?_ | refine awp_skip ?_ | refine awp_ret ?_ | refine awp_exit ?_); simp only [go_sem, ↓reduceIte, Nat.reduceEqDiff, Nat.reduceLT, Nat.reduceLeDiff, Nat.reduceAdd, Nat.reduceMul, Nat.reduceSub, Nat.reduceBEq, reduceCtorEq, Int.reduceBNe, Int.reduceBEq, Int.reduceLT, Int.reduceLE, Int.reduceGT, Int.reduceGE, ne_eq, eq_self, hF, hd, hxk, hyk, he, hne])
      | ((with_reducible refine headW_go ?_); simp only [go_sem, ↓reduceIte, Nat.reduceEqDiff, Nat.reduceLT, Nat.reduceLeDiff, Nat.reduceAdd, Nat.reduceMul, Nat.reduceSub, Nat.reduceBEq, reduceCtorEq, Int.reduceBNe, Int.reduceBEq, Int.reduceLT, Int.reduceLE, Int.reduceGT, Int.reduceGE, ne_eq, eq_self, hF, hd, hxk, hyk, he, hne, hbx])
      | with_reducible refine awp_seq_k fun _ _ => ?_
      | (refine awp_draw' (id := 6) [] 9 (by kernel_rfl) (by kernel_rfl) rfl rfl (fun bx0 hbx => ?_); try dsimp only [List.take, List.drop])
      | with_reducible (first | refine awp_region [] ?_ | refine awp_block ?_)
      | go_step)
    rw [hT', he]
    rfl
  | true =>
    have hne : (x != y) = false := by rw [bne, he]; rfl
    repeat (first
      | (with_reducible (first | refine sops_go ?_ | refine headW_end ?_ | refine sops_end ?_ | refine awp_if ?_ | refine awp_skip ?_ | refine awp_ret ?_ | refine awp_exit ?_); simp only [go_sem, ↓reduceIte, Nat.reduceEqDiff, Nat.reduceLT, Nat.reduceLeDiff, Nat.reduceAdd, Nat.reduceMul, Nat.reduceSub, Nat.reduceBEq, reduceCtorEq, Int.reduceBNe, Int.reduceBEq, Int.reduceLT, Int.reduceLE, Int.reduceGT, Int.reduceGE, ne_eq, eq_self, hF, hd, hxk, hyk, he, hne])
      | ((with_reducible refine headW_go ?_); simp only [go_sem, ↓reduceIte, Nat.reduceEqDiff, Nat.reduceLT, Nat.reduceLeDiff, Nat.reduceAdd, Nat.reduceMul, Nat.reduceSub, Nat.reduceBEq, reduceCtorEq, Int.reduceBNe, Int.reduceBEq, Int.reduceLT, Int.reduceLE, Int.reduceGT, Int.reduceGE, ne_eq, eq_self, hF, hd, hxk, hyk, he, hne, hbx])
      | with_reducible refine awp_seq_k fun _ _ => ?_
      | (refine awp_draw' (id := 6) [] 9 (by kernel_rfl) (by kernel_rfl) rfl rfl (fun bx0 hbx => ?_); try dsimp only [List.take, List.drop])
      | with_reducible (first | refine awp_region [] ?_ | refine awp_block ?_)
      | go_step)
    refine ⟨⟨k + 1, by omega, by rw [hT', he, Bool.true_and]⟩, by dsimp only; omega, hR _ _ (sub_mk ?_)⟩
    simp only [go_sem, ↓reduceIte, Nat.reduceEqDiff, Nat.reduceLT, Nat.reduceLeDiff, Nat.reduceAdd, Nat.reduceMul, Nat.reduceSub, Nat.reduceBEq, reduceCtorEq, Int.reduceBNe, Int.reduceBEq, Int.reduceLT, Int.reduceLE, Int.reduceGT, Int.reduceGE, ne_eq, eq_self, hF, hw]

set_option maxHeartbeats 2000000 in
theorem eqD_ok (a b : List Dlv) (ha : a.length ≤ 1000000) : FnOK Try.prog 22 [.sl 3 (a.map Dlv.pv), .sl 3 (b.map Dlv.pv)] ⟨bv (decide (a = b)), none⟩ := by
  refine fn_ok Try.func22 (by kernel_rfl) rfl (by rw [Try.ntmps22]; exact of_decide_eq_true rfl) (fun F hF => ?_)
  rw [Try.ntmps22] at hF
  rw [Try.results22]
  have hal : ((a.length : Int) != (b.length : Int)) = !decide (a.length = b.length) := by rw [Bool.eq_iff_iff]; simp; omega
  by_cases hl : a.length = b.length
  case neg =>
    have hn : decide (a.length = b.length) = false := decide_eq_false hl
    repeat (first
      | (with_reducible (first | refine sops_go ?_ | refine headW_end ?_ | refine sops_end ?_ | refine awp_if ?_ | refine awp_skip ?_ | refine awp_ret ?_ | refine awp_exit ?_); simp only [go_sem, ↓reduceIte, Nat.reduceEqDiff, Nat.reduceLT, Nat.reduceLeDiff, Nat.reduceAdd, Nat.reduceMul, Nat.reduceSub, Nat.reduceBEq, reduceCtorEq, Int.reduceBNe, Int.reduceBEq, Int.reduceLT, Int.reduceLE, Int.reduceGT, Int.reduceGE, ne_eq, eq_self, hF, hal, hn])
      | ((with_reducible refine headW_go ?_); simp only [go_sem, ↓reduceIte, Nat.reduceEqDiff, Nat.reduceLT, Nat.reduceLeDiff, Nat.reduceAdd, Nat.reduceMul, Nat.reduceSub, Nat.reduceBEq, reduceCtorEq, Int.reduceBNe, Int.reduceBEq, Int.reduceLT, Int.reduceLE, Int.reduceGT, Int.reduceGE, ne_eq, eq_self, hF, hal, hn, hbx])
      | with_reducible refine awp_seq_k fun _ _ => ?_
      | (refine awp_draw' (id := 6) [] 9 (by kernel_rfl) (by kernel_rfl) rfl rfl (fun bx0 hbx => ?_); try dsimp only [List.take, List.drop])
      | with_reducible (first | refine awp_region [] ?_ | refine awp_block ?_)
      | go_step)
    rw [decide_eq_false (fun h => hl (by rw [h]))]
  have hn : decide (a.length = b.length) = true := decide_eq_true hl
  repeat (first
    | (with_reducible (first | refine sops_go ?_ | refine headW_end ?_ | refine sops_end ?_ | refine awp_if ?_ | refine awp_skip ?_ | refine awp_ret ?_ | refine awp_exit ?_); simp only [go_sem, ↓reduceIte, Nat.reduceEqDiff, Nat.reduceLT, Nat.reduceLeDiff, Nat.reduceAdd, Nat.reduceMul, Nat.reduceSub, Nat.reduceBEq, reduceCtorEq, Int.reduceBNe, Int.reduceBEq, Int.reduceLT, Int.reduceLE, Int.reduceGT, Int.reduceGE, ne_eq, eq_self, hF, hal, hn])
    | ((with_reducible refine headW_go ?_); simp only [go_sem, ↓reduceIte, Nat.reduceEqDiff, Nat.reduceLT, Nat.reduceLeDiff, Nat.reduceAdd, Nat.reduceMul, Nat.reduceSub, Nat.reduceBEq, reduceCtorEq, Int.reduceBNe, Int.reduceBEq, Int.reduceLT, Int.reduceLE, Int.reduceGT, Int.reduceGE, ne_eq, eq_self, hF, hal, hn, hbx])
    | with_reducible refine awp_seq_k fun _ _ => ?_
    | (refine awp_draw' (id := 6) [] 9 (by kernel_rfl) (by kernel_rfl) rfl rfl (fun bx0 hbx => ?_); try dsimp only [List.take, List.drop])
    | with_reducible (first | refine awp_region [] ?_ | refine awp_block ?_)
    | go_step)
  refine awp_loop_by (ι := {k : Nat // k ≤ a.length ∧ decide (a = b) = decide (a.drop k = b.drop k)}) (fun k σ => ⟨(13, iv (k.1 : Int)) :: keepS [0, 1, 4, 12] σ.slot, σ.box, [], σ.ext⟩) (fun k => a.length - k.1) ⟨0, by omega, rfl⟩ (sub_mk ?_) (fun R hR k => ?_)
  · simp only [go_sem, ↓reduceIte, Nat.reduceEqDiff, Nat.reduceLT, Nat.reduceLeDiff, Nat.reduceAdd, Nat.reduceMul, Nat.reduceSub, Nat.reduceBEq, reduceCtorEq, Int.reduceBNe, Int.reduceBEq, Int.reduceLT, Int.reduceLE, Int.reduceGT, Int.reduceGE, ne_eq, eq_self, hF]
    repeat' (first | rfl | refine ⟨?_, ?_⟩)
  obtain ⟨k, hk, hT⟩ := k
  dsimp only
  simp only [go_sem, ↓reduceIte, Nat.reduceEqDiff, Nat.reduceLT, Nat.reduceLeDiff, Nat.reduceAdd, Nat.reduceMul, Nat.reduceSub, Nat.reduceBEq, reduceCtorEq, Int.reduceBNe, Int.reduceBEq, Int.reduceLT, Int.reduceLE, Int.reduceGT, Int.reduceGE, ne_eq, eq_self, hF]
  by_cases hlt : k < a.length
  case neg =>
    have hd : decide ((k : Int) < (a.length : Int)) = false := decide_eq_false (by omega)
    repeat (first
      | (with_reducible (first | refine sops_go ?_ | refine headW_end ?_ | refine sops_end ?_ | refine awp_if ?_ | refine awp_skip ?_ | refine awp_ret ?_ | refine awp_exit ?_); simp only [go_sem, ↓reduceIte, Nat.reduceEqDiff, Nat.reduceLT, Nat.reduceLeDiff, Nat.reduceAdd, Nat.reduceMul, Nat.reduceSub, Nat.reduceBEq, reduceCtorEq, Int.reduceBNe, Int.reduceBEq, Int.reduceLT, Int.reduceLE, Int.reduceGT, Int.reduceGE, ne_eq, eq_self, hF, hd])
      | ((with_reducible refine headW_go ?_); simp only [go_sem, ↓reduceIte, Nat.reduceEqDiff, Nat.reduceLT, Nat.reduceLeDiff, Nat.reduceAdd, Nat.reduceMul, Nat.reduceSub, Nat.reduceBEq, reduceCtorEq, Int.reduceBNe, Int.reduceBEq, Int.reduceLT, Int.reduceLE, Int.reduceGT, Int.reduceGE, ne_eq, eq_self, hF, hd, hbx])
      | with_reducible refine awp_seq_k fun _ _ => ?_
      | (refine awp_draw' (id := 6) [] 9 (by kernel_rfl) (by kernel_rfl) rfl rfl (fun bx0 hbx => ?_); try dsimp only [List.take, List.drop])
      | with_reducible (first | refine awp_region [] ?_ | refine awp_block ?_)
      | go_step)
    rw [hT, List.drop_of_length_le (by omega), List.drop_of_length_le (by omega)]
    rfl
  obtain ⟨x, hxk⟩ := get_of_lt hlt
  obtain ⟨y, hyk⟩ := get_of_lt (l := b) (k := k) (by omega)
  have hd : decide ((k : Int) < (a.length : Int)) = true := decide_eq_true (by omega)
  have hw : IntKind.i64.wrap ((k : Int) + 1) = ((k + 1 : Nat) : Int) := by rw [IntKind.wrap_i64]; omega
  have hT' : decide (a = b) = (([x.fl, x.fr, x.sl] == [y.fl, y.fr, y.sl]) && decide (a.drop (k + 1) = b.drop (k + 1))) := by
    rw [hT, drop_of_get hxk, drop_of_get hyk, Bool.eq_iff_iff]
    obtain ⟨x0, x1, x2⟩ := x
    obtain ⟨y0, y1, y2⟩ := y
    simp
  cases he : ([x.fl, x.fr, x.sl] == [y.fl, y.fr, y.sl]) with
  | false =>
    have hne : ([x.fl, x.fr, x.sl] != [y.fl, y.fr, y.sl]) = true := by rw [bne, he]; rfl
    repeat (first
      | (with_reducible (first | refine sops_go ?_ | refine headW_end ?_ | refine sops_end ?_ | refine awp_if ?_ | refine awp_skip ?_ | refine awp_ret ?_ | refine awp_exit ?_); simp only [go_sem, ↓reduceIte, Nat.reduceEqDiff, Nat.reduceLT, Nat.reduceLeDiff, Nat.reduceAdd, Nat.reduceMul, Nat.reduceSub, Nat.reduceBEq, reduceCtorEq, Int.reduceBNe, Int.reduceBEq, Int.reduceLT, Int.reduceLE, Int.reduceGT, Int.reduceGE, ne_eq, eq_self, hF, hd, hxk, hyk, he, hne])
      | ((with_reducible refine headW_go ?_); simp only [go_sem, ↓reduceIte, Nat.reduceEqDiff, Nat.reduceLT, Nat.reduceLeDiff, Nat.reduceAdd, Nat.reduceMul, Nat.reduceSub, Nat.reduceBEq, reduceCtorEq, Int.reduceBNe, Int.reduceBEq, Int.reduceLT, Int.reduceLE, Int.reduceGT, Int.reduceGE, ne_eq, eq_self, hF, hd, hxk, hyk, he, hne, hbx])
      | with_reducible refine awp_seq_k fun _ _ => ?_
      | (refine awp_draw' (id := 6) [] 9 (by kernel_rfl) (by kernel_rfl) rfl rfl (fun bx0 hbx => ?_); try dsimp only [List.take, List.drop])
      | with_reducible (first | refine awp_region [] ?_ | refine awp_block ?_)
      | go_step)
    rw [hT', he]
    rfl
  | true =>
    have hne : ([x.fl, x.fr, x.sl] != [y.fl, y.fr, y.sl]) = false := by rw [bne, he]; rfl
    repeat (first
      | (with_reducible (first | refine sops_go ?_ | refine headW_end ?_ | refine sops_end ?_ | refine awp_if ?_ | refine awp_skip ?_ | refine awp_ret ?_ | refine awp_exit ?_); simp only [go_sem, ↓reduceIte, Nat.reduceEqDiff, Nat.reduceLT, Nat.reduceLeDiff, Nat.reduceAdd, Nat.reduceMul, Nat.reduceSub, Nat.reduceBEq, reduceCtorEq, Int.reduceBNe, Int.reduceBEq, Int.reduceLT, Int.reduceLE, Int.reduceGT, Int.reduceGE, ne_eq, eq_self, hF, hd, hxk, hyk, he, hne])
      | ((with_reducible refine headW_go ?_); simp only [go_sem, ↓reduceIte, Nat.reduceEqDiff, Nat.reduceLT, Nat.reduceLeDiff, Nat.reduceAdd, Nat.reduceMul, Nat.reduceSub, Nat.reduceBEq, reduceCtorEq, Int.reduceBNe, Int.reduceBEq, Int.reduceLT, Int.reduceLE, Int.reduceGT, Int.reduceGE, ne_eq, eq_self, hF, hd, hxk, hyk, he, hne, hbx])
      | with_reducible refine awp_seq_k fun _ _ => ?_
      | (refine awp_draw' (id := 6) [] 9 (by kernel_rfl) (by kernel_rfl) rfl rfl (fun bx0 hbx => ?_); try dsimp only [List.take, List.drop])
      | with_reducible (first | refine awp_region [] ?_ | refine awp_block ?_)
      | go_step)
    refine ⟨⟨k + 1, by omega, by rw [hT', he, Bool.true_and]⟩, by dsimp only; omega, hR _ _ (sub_mk ?_)⟩
    simp only [go_sem, ↓reduceIte, Nat.reduceEqDiff, Nat.reduceLT, Nat.reduceLeDiff, Nat.reduceAdd, Nat.reduceMul, Nat.reduceSub, Nat.reduceBEq, reduceCtorEq, Int.reduceBNe, Int.reduceBEq, Int.reduceLT, Int.reduceLE, Int.reduceGT, Int.reduceGE, ne_eq, eq_self, hF, hw]

/- By abstract states: few, cp. -/
def rfewB (r : Rec) : Bool := decide ((r.al.length : Int) ≤ 150) && decide ((r.dl.length : Int) ≤ 100)
def fewB (fs : List Fl) (r : Rec) : Bool := decide ((fs.length : Int) ≤ 20) && rfewB r

set_option maxHeartbeats 2000000 in
theorem rfew_ok (r : Rec) : FnOK Try.prog 39 [.agg r.pv] ⟨bv (rfewB r), none⟩ := by
  refine fn_ok Try.func39 (by kernel_rfl) rfl (by rw [Try.ntmps39]; exact of_decide_eq_true rfl) (fun F hF => ?_)
  rw [Try.ntmps39] at hF
  rw [Try.results39]
  unfold rfewB
  cases h1 : decide ((r.al.length : Int) ≤ 150) <;> cases h2 : decide ((r.dl.length : Int) ≤ 100)
  · repeat (first
      | (with_reducible (first | refine sops_go ?_ | refine headW_end ?_ | refine sops_end ?_ | refine awp_if ?_ | refine awp_skip ?_ | refine awp_ret ?_ | refine awp_exit ?_); simp only [go_sem, ↓reduceIte, Nat.reduceEqDiff, Nat.reduceLT, Nat.reduceLeDiff, Nat.reduceAdd, Nat.reduceMul, Nat.reduceSub, Nat.reduceBEq, reduceCtorEq, Int.reduceBNe, Int.reduceBEq, Int.reduceLT, Int.reduceLE, Int.reduceGT, Int.reduceGE, ne_eq, eq_self, hF, h1, h2])
      | with_reducible (first | refine awp_seq_k fun _ _ => ?_ | refine awp_region [] ?_ | refine awp_block ?_)
      | go_step)
    all_goals (try rfl)
  · repeat (first
      | (with_reducible (first | refine sops_go ?_ | refine headW_end ?_ | refine sops_end ?_ | refine awp_if ?_ | refine awp_skip ?_ | refine awp_ret ?_ | refine awp_exit ?_); simp only [go_sem, ↓reduceIte, Nat.reduceEqDiff, Nat.reduceLT, Nat.reduceLeDiff, Nat.reduceAdd, Nat.reduceMul, Nat.reduceSub, Nat.reduceBEq, reduceCtorEq, Int.reduceBNe, Int.reduceBEq, Int.reduceLT, Int.reduceLE, Int.reduceGT, Int.reduceGE, ne_eq, eq_self, hF, h1, h2])
      | with_reducible (first | refine awp_seq_k fun _ _ => ?_ | refine awp_region [] ?_ | refine awp_block ?_)
      | go_step)
    all_goals (try rfl)
  · repeat (first
      | (with_reducible (first | refine sops_go ?_ | refine headW_end ?_ | refine sops_end ?_ | refine awp_if ?_ | refine awp_skip ?_ | refine awp_ret ?_ | refine awp_exit ?_); simp only [go_sem, ↓reduceIte, Nat.reduceEqDiff, Nat.reduceLT, Nat.reduceLeDiff, Nat.reduceAdd, Nat.reduceMul, Nat.reduceSub, Nat.reduceBEq, reduceCtorEq, Int.reduceBNe, Int.reduceBEq, Int.reduceLT, Int.reduceLE, Int.reduceGT, Int.reduceGE, ne_eq, eq_self, hF, h1, h2])
      | with_reducible (first | refine awp_seq_k fun _ _ => ?_ | refine awp_region [] ?_ | refine awp_block ?_)
      | go_step)
    all_goals (try rfl)
  · repeat (first
      | (with_reducible (first | refine sops_go ?_ | refine headW_end ?_ | refine sops_end ?_ | refine awp_if ?_ | refine awp_skip ?_ | refine awp_ret ?_ | refine awp_exit ?_); simp only [go_sem, ↓reduceIte, Nat.reduceEqDiff, Nat.reduceLT, Nat.reduceLeDiff, Nat.reduceAdd, Nat.reduceMul, Nat.reduceSub, Nat.reduceBEq, reduceCtorEq, Int.reduceBNe, Int.reduceBEq, Int.reduceLT, Int.reduceLE, Int.reduceGT, Int.reduceGE, ne_eq, eq_self, hF, h1, h2])
      | with_reducible (first | refine awp_seq_k fun _ _ => ?_ | refine awp_region [] ?_ | refine awp_block ?_)
      | go_step)
    all_goals (try rfl)

set_option maxHeartbeats 2000000 in
theorem few_ok (fs : List Fl) (r : Rec) : FnOK Try.prog 10 [.sl 6 (fs.map Fl.pv), .agg r.pv] ⟨bv (fewB fs r), none⟩ := by
  refine fn_ok Try.func10 (by kernel_rfl) rfl (by rw [Try.ntmps10]; exact of_decide_eq_true rfl) (fun F hF => ?_)
  rw [Try.ntmps10] at hF
  rw [Try.results10]
  unfold fewB
  cases h1 : decide ((fs.length : Int) ≤ 20) <;> cases h2 : rfewB r
  · repeat (first
      | (with_reducible (first | refine sops_go ?_ | refine headW_end ?_ | refine sops_end ?_ | refine awp_if ?_ | refine awp_skip ?_ | refine awp_ret ?_ | refine awp_exit ?_); simp only [go_sem, ↓reduceIte, Nat.reduceEqDiff, Nat.reduceLT, Nat.reduceLeDiff, Nat.reduceAdd, Nat.reduceMul, Nat.reduceSub, Nat.reduceBEq, reduceCtorEq, Int.reduceBNe, Int.reduceBEq, Int.reduceLT, Int.reduceLE, Int.reduceGT, Int.reduceGE, ne_eq, eq_self, hF, h1, h2])
      | with_reducible (first | refine awp_seq_k fun _ _ => ?_ | refine awp_region [] ?_ | refine awp_block ?_)
      | go_step)
    all_goals (try rfl)
  · repeat (first
      | (with_reducible (first | refine sops_go ?_ | refine headW_end ?_ | refine sops_end ?_ | refine awp_if ?_ | refine awp_skip ?_ | refine awp_ret ?_ | refine awp_exit ?_); simp only [go_sem, ↓reduceIte, Nat.reduceEqDiff, Nat.reduceLT, Nat.reduceLeDiff, Nat.reduceAdd, Nat.reduceMul, Nat.reduceSub, Nat.reduceBEq, reduceCtorEq, Int.reduceBNe, Int.reduceBEq, Int.reduceLT, Int.reduceLE, Int.reduceGT, Int.reduceGE, ne_eq, eq_self, hF, h1, h2])
      | with_reducible (first | refine awp_seq_k fun _ _ => ?_ | refine awp_region [] ?_ | refine awp_block ?_)
      | go_step)
    all_goals (try rfl)
  · repeat (first
      | (with_reducible (first | refine sops_go ?_ | refine headW_end ?_ | refine sops_end ?_ | refine awp_if ?_ | refine awp_skip ?_ | refine awp_ret ?_ | refine awp_exit ?_); simp only [go_sem, ↓reduceIte, Nat.reduceEqDiff, Nat.reduceLT, Nat.reduceLeDiff, Nat.reduceAdd, Nat.reduceMul, Nat.reduceSub, Nat.reduceBEq, reduceCtorEq, Int.reduceBNe, Int.reduceBEq, Int.reduceLT, Int.reduceLE, Int.reduceGT, Int.reduceGE, ne_eq, eq_self, hF, h1, h2])
      | with_reducible (first | refine awp_seq_k fun _ _ => ?_ | refine awp_region [] ?_ | refine awp_block ?_)
      | go_step)
    refine ⟨_, rfew_ok r, ?_⟩
    simp only [go_sem, ↓reduceIte, Nat.reduceEqDiff, Nat.reduceLT, Nat.reduceLeDiff, Nat.reduceAdd, Nat.reduceMul, Nat.reduceSub, Nat.reduceBEq, reduceCtorEq, Int.reduceBNe, Int.reduceBEq, Int.reduceLT, Int.reduceLE, Int.reduceGT, Int.reduceGE, ne_eq, eq_self, hF, h2]
    repeat (first
      | (with_reducible (first | refine sops_go ?_ | refine headW_end ?_ | refine sops_end ?_ | refine awp_if ?_ | refine awp_skip ?_ | refine awp_ret ?_ | refine awp_exit ?_); simp only [go_sem, ↓reduceIte, Nat.reduceEqDiff, Nat.reduceLT, Nat.reduceLeDiff, Nat.reduceAdd, Nat.reduceMul, Nat.reduceSub, Nat.reduceBEq, reduceCtorEq, Int.reduceBNe, Int.reduceBEq, Int.reduceLT, Int.reduceLE, Int.reduceGT, Int.reduceGE, ne_eq, eq_self, hF, h1, h2])
      | with_reducible (first | refine awp_seq_k fun _ _ => ?_ | refine awp_region [] ?_ | refine awp_block ?_)
      | go_step)
    all_goals (try rfl)
  · repeat (first
      | (with_reducible (first | refine sops_go ?_ | refine headW_end ?_ | refine sops_end ?_ | refine awp_if ?_ | refine awp_skip ?_ | refine awp_ret ?_ | refine awp_exit ?_); simp only [go_sem, ↓reduceIte, Nat.reduceEqDiff, Nat.reduceLT, Nat.reduceLeDiff, Nat.reduceAdd, Nat.reduceMul, Nat.reduceSub, Nat.reduceBEq, reduceCtorEq, Int.reduceBNe, Int.reduceBEq, Int.reduceLT, Int.reduceLE, Int.reduceGT, Int.reduceGE, ne_eq, eq_self, hF, h1, h2])
      | with_reducible (first | refine awp_seq_k fun _ _ => ?_ | refine awp_region [] ?_ | refine awp_block ?_)
      | go_step)
    refine ⟨_, rfew_ok r, ?_⟩
    simp only [go_sem, ↓reduceIte, Nat.reduceEqDiff, Nat.reduceLT, Nat.reduceLeDiff, Nat.reduceAdd, Nat.reduceMul, Nat.reduceSub, Nat.reduceBEq, reduceCtorEq, Int.reduceBNe, Int.reduceBEq, Int.reduceLT, Int.reduceLE, Int.reduceGT, Int.reduceGE, ne_eq, eq_self, hF, h2]
    repeat (first
      | (with_reducible (first | refine sops_go ?_ | refine headW_end ?_ | refine sops_end ?_ | refine awp_if ?_ | refine awp_skip ?_ | refine awp_ret ?_ | refine awp_exit ?_); simp only [go_sem, ↓reduceIte, Nat.reduceEqDiff, Nat.reduceLT, Nat.reduceLeDiff, Nat.reduceAdd, Nat.reduceMul, Nat.reduceSub, Nat.reduceBEq, reduceCtorEq, Int.reduceBNe, Int.reduceBEq, Int.reduceLT, Int.reduceLE, Int.reduceGT, Int.reduceGE, ne_eq, eq_self, hF, h1, h2])
      | with_reducible (first | refine awp_seq_k fun _ _ => ?_ | refine awp_region [] ?_ | refine awp_block ?_)
      | go_step)
    all_goals (try rfl)

set_option maxHeartbeats 2000000 in
theorem cp_ok (r : Rec) (hla : r.al.length ≤ 1000000) (hld : r.dl.length ≤ 1000000) : FnOK Try.prog 13 [.agg r.pv] ⟨.agg r.pv, none⟩ := by
  refine fn_ok Try.func13 (by kernel_rfl) rfl (by rw [Try.ntmps13]; exact of_decide_eq_true rfl) (fun F hF => ?_)
  rw [Try.ntmps13] at hF
  rw [Try.results13]
  repeat (first
    | (with_reducible (first | refine sops_go ?_ | refine headW_end ?_ | refine sops_end ?_ | refine awp_if ?_ | refine awp_skip ?_ | refine awp_ret ?_ | refine awp_exit ?_); simp only [go_sem, ↓reduceIte, Nat.reduceEqDiff, Nat.reduceLT, Nat.reduceLeDiff, Nat.reduceAdd, Nat.reduceMul, Nat.reduceSub, Nat.reduceBEq, reduceCtorEq, Int.reduceBNe, Int.reduceBEq, Int.reduceLT, Int.reduceLE, Int.reduceGT, Int.reduceGE, ne_eq, eq_self, hF])
    | ((with_reducible refine headW_go ?_); simp only [go_sem, ↓reduceIte, Nat.reduceEqDiff, Nat.reduceLT, Nat.reduceLeDiff, Nat.reduceAdd, Nat.reduceMul, Nat.reduceSub, Nat.reduceBEq, reduceCtorEq, Int.reduceBNe, Int.reduceBEq, Int.reduceLT, Int.reduceLE, Int.reduceGT, Int.reduceGE, ne_eq, eq_self, hF, hbx])
    | with_reducible refine awp_seq_k fun _ _ => ?_
    | (refine awp_draw' (id := 1) [] 10 (by kernel_rfl) (by kernel_rfl) rfl rfl (fun bx0 hbx => ?_); try dsimp only [List.take, List.drop])
    | with_reducible (first | refine awp_region [] ?_ | refine awp_block ?_)
    | go_step)
  refine ⟨_, cloneAt_ok _ (by rw [List.length_map]; omega), ?_⟩
  simp only [go_sem, ↓reduceIte, Nat.reduceEqDiff, Nat.reduceLT, Nat.reduceLeDiff, Nat.reduceAdd, Nat.reduceMul, Nat.reduceSub, Nat.reduceBEq, reduceCtorEq, Int.reduceBNe, Int.reduceBEq, Int.reduceLT, Int.reduceLE, Int.reduceGT, Int.reduceGE, ne_eq, eq_self, hF]
  repeat (first
    | (with_reducible (first | refine sops_go ?_ | refine headW_end ?_ | refine sops_end ?_ | refine awp_if ?_ | refine awp_skip ?_ | refine awp_ret ?_ | refine awp_exit ?_); simp only [go_sem, ↓reduceIte, Nat.reduceEqDiff, Nat.reduceLT, Nat.reduceLeDiff, Nat.reduceAdd, Nat.reduceMul, Nat.reduceSub, Nat.reduceBEq, reduceCtorEq, Int.reduceBNe, Int.reduceBEq, Int.reduceLT, Int.reduceLE, Int.reduceGT, Int.reduceGE, ne_eq, eq_self, hF])
    | ((with_reducible refine headW_go ?_); simp only [go_sem, ↓reduceIte, Nat.reduceEqDiff, Nat.reduceLT, Nat.reduceLeDiff, Nat.reduceAdd, Nat.reduceMul, Nat.reduceSub, Nat.reduceBEq, reduceCtorEq, Int.reduceBNe, Int.reduceBEq, Int.reduceLT, Int.reduceLE, Int.reduceGT, Int.reduceGE, ne_eq, eq_self, hF, hbx])
    | with_reducible refine awp_seq_k fun _ _ => ?_
    | (refine awp_draw' (id := 1) [] 10 (by kernel_rfl) (by kernel_rfl) rfl rfl (fun bx0 hbx => ?_); try dsimp only [List.take, List.drop])
    | with_reducible (first | refine awp_region [] ?_ | refine awp_block ?_)
    | go_step)
  refine ⟨_, cloneDl_ok _ (by rw [List.length_map]; omega), ?_⟩
  simp only [go_sem, ↓reduceIte, Nat.reduceEqDiff, Nat.reduceLT, Nat.reduceLeDiff, Nat.reduceAdd, Nat.reduceMul, Nat.reduceSub, Nat.reduceBEq, reduceCtorEq, Int.reduceBNe, Int.reduceBEq, Int.reduceLT, Int.reduceLE, Int.reduceGT, Int.reduceGE, ne_eq, eq_self, hF]
  repeat (first
    | (with_reducible (first | refine sops_go ?_ | refine headW_end ?_ | refine sops_end ?_ | refine awp_if ?_ | refine awp_skip ?_ | refine awp_ret ?_ | refine awp_exit ?_); simp only [go_sem, ↓reduceIte, Nat.reduceEqDiff, Nat.reduceLT, Nat.reduceLeDiff, Nat.reduceAdd, Nat.reduceMul, Nat.reduceSub, Nat.reduceBEq, reduceCtorEq, Int.reduceBNe, Int.reduceBEq, Int.reduceLT, Int.reduceLE, Int.reduceGT, Int.reduceGE, ne_eq, eq_self, hF])
    | ((with_reducible refine headW_go ?_); simp only [go_sem, ↓reduceIte, Nat.reduceEqDiff, Nat.reduceLT, Nat.reduceLeDiff, Nat.reduceAdd, Nat.reduceMul, Nat.reduceSub, Nat.reduceBEq, reduceCtorEq, Int.reduceBNe, Int.reduceBEq, Int.reduceLT, Int.reduceLE, Int.reduceGT, Int.reduceGE, ne_eq, eq_self, hF, hbx])
    | with_reducible refine awp_seq_k fun _ _ => ?_
    | (refine awp_draw' (id := 1) [] 10 (by kernel_rfl) (by kernel_rfl) rfl rfl (fun bx0 hbx => ?_); try dsimp only [List.take, List.drop])
    | with_reducible (first | refine awp_region [] ?_ | refine awp_block ?_)
    | go_step)
/- By abstract states: the example that every law of the monitor checks. -/
attribute [local go_sem] Br.pv
open Go.Maps

/-- What stands for a list may be nil where the list is empty. -/
inductive PVLe : PV → PV → Prop
  | refl (p : PV) : PVLe p p
  | nil (sz : Nat) : PVLe (.v (.slice none 0 0)) (.sl sz [])
inductive PVsLe : List PV → List PV → Prop
  | nil : PVsLe [] []
  | cons {x y : PV} {xs ys : List PV} (h : PVLe x y) (t : PVsLe xs ys) : PVsLe (x :: xs) (y :: ys)
inductive AVLe : AV → AV → Prop
  | refl (x : AV) : AVLe x x
  | nil (sz : Nat) : AVLe (.v (.slice none 0 0)) (.sl sz [])
  | agg {xs ys : List PV} (h : PVsLe xs ys) : AVLe (.agg xs) (.agg ys)
inductive AVsLe : List AV → List AV → Prop
  | nil : AVsLe [] []
  | cons {x y : AV} {xs ys : List AV} (h : AVLe x y) (t : AVsLe xs ys) : AVsLe (x :: xs) (y :: ys)
theorem rep_nilS {R : Reader} {sz : Nat} : RepP R (.sl sz []) (.slice none 0 0) := .sl sz [] none 0 (fun _ _ => undef) (fun k row hk => by cases hk) (.inl rfl) (fun k row j p hk => by cases hk) (Nat.le_refl _)
theorem PVLe.rep {R : Reader} {x y : PV} {u : Value} (h : PVLe x y) (hr : RepP R x u) : RepP R y u := by
  cases h with
  | refl => exact hr
  | nil sz => cases hr; exact rep_nilS
theorem PVsLe.rep {R : Reader} {xs ys : List PV} (h : PVsLe xs ys) : ∀ {us : List Value}, RepL R xs us → RepL R ys us := by
  induction h with
  | nil => exact fun h => h
  | cons h t ih =>
    intro us hr
    cases hr with | cons g0 g1 => exact .cons (h.rep g0) (ih g1)
theorem AVLe.rep {R : Reader} {bx : Nat → Nat} {x y : AV} {u : Value} (h : AVLe x y) (hr : RepA R bx x u) : RepA R bx y u := by
  cases h with
  | refl => exact hr
  | nil sz => cases hr; exact rep_nilS
  | agg h =>
    obtain ⟨vs, e, hv⟩ := hr
    exact ⟨vs, e, h.rep hv⟩
theorem AVLe.refs {x y : AV} (h : AVLe x y) (hr : x.refs = []) : y.refs = [] := by
  cases h with
  | refl => exact hr
  | nil sz => rfl
  | agg h => rfl
theorem fnOK_le {P : Program} {f : FuncId} {args args' : List AV} {res : FRes} (h : FnOK P f args' res) (hl : AVsLe args args') : FnOK P f args res :=
  ⟨h.1, fun w R hR us hus => h.2 w R hR us (by
    clear h hR
    induction hl generalizing us with
    | nil => exact hus
    | cons h t ih =>
      cases hus with
      | cons g0 g1 g2 => exact .cons (h.rep g0) (h.refs g1) (ih _ g2))⟩
theorem cast1 : ((1 : Nat) : Int) = 1 := rfl
theorem tn0 : Int.toNat 0 = 0 := rfl
theorem eq3 : (([6, 0, 5] : List Int) == [6, 0, 5]) = true := rfl
theorem eq6 : (([1, 0, 5, 5, 0, 0] : List Int) == [1, 0, 5, 5, 0, 0]) = true := rfl
theorem eq2 : decide (([1, 2] : List Int) = [1, 2]) = true := rfl
theorem cast3 : ((3 : Nat) : Int) = 3 := rfl
def n0 : Net := ⟨2, 1, 1000, [[0, 9], [9, 0]], [⟨1, 0, 1⟩], [5]⟩
def f0 : Fl := ⟨6, 1, 0, 8, 0, 5⟩
def at1 (j : Nat) : Att := ⟨((j + 1 : Nat) : Int), 0, ((j + 1 : Nat) : Int), 0, 1, 0, 6, 3⟩
def r0 : Rec := ⟨5, (List.range 3).map at1, []⟩
def rl0 : Rec := ⟨6, [], [⟨6, 0, 5⟩]⟩
def rs0 : Rec := ⟨5, [], [⟨6, 0, 4⟩]⟩
def rt0 : Rec := ⟨9, [], [⟨1, 0, 0⟩, ⟨1, 0, 8⟩]⟩
theorem aw_late : late [f0] rl0 = ([⟨6, 0, 5⟩], 0) := by decide
theorem aw_serve : Mo.serve [f0] rs0 6 = (⟨1, 0, 0, 0, 5, 5⟩, 0) := by decide
theorem aw_twice : (twice rt0).1.length = 1 ∧ (twice rt0).2 = 0 := by decide
theorem aw_stray : (stray [] r0).1.length = 3 ∧ (stray [] r0).2 = 0 := by decide
theorem aw_breaches : breachesP n0 r0 = ([⟨6, 0, 1, 0, [1, 2]⟩], 0) := by decide
theorem aw_one : (brAll n0.lk r0.al).length ≤ 1 := by decide

set_option maxHeartbeats 2000000 in
theorem awake_ok  : FnOK Try.prog 9 [] ⟨bv true, none⟩ := by
  refine fn_ok Try.func9 (by kernel_rfl) rfl (by rw [Try.ntmps9]; exact of_decide_eq_true rfl) (fun F hF => ?_)
  rw [Try.ntmps9] at hF
  rw [Try.results9]
  repeat (first
    | (with_reducible (first | refine sops_go ?_ | refine headW_end ?_ | refine sops_end ?_ | refine awp_if ?_ | refine awp_skip ?_ | refine awp_ret ?_ | refine awp_exit ?_); simp only [go_sem, ↓reduceIte, Nat.reduceEqDiff, Nat.reduceLT, Nat.reduceLeDiff, Nat.reduceAdd, Nat.reduceMul, Nat.reduceSub, Nat.reduceBEq, reduceCtorEq, Int.reduceBNe, Int.reduceBEq, Int.reduceLT, Int.reduceLE, Int.reduceGT, Int.reduceGE, ne_eq, eq_self, hF])
    | with_reducible (first | refine awp_seq_k fun _ _ => ?_ | refine awp_region [49] ?_ | refine awp_block ?_)
    | go_step)
  refine ⟨_, fnOK_le (late_ok [f0] rl0 (by decide) (by decide) (by decide)) (.cons (.refl _) (.cons (.agg (.cons (.refl _) (.cons (.nil 8) (.cons (.refl _) .nil)))) .nil)), ?_⟩
  simp only [go_sem, ↓reduceIte, Nat.reduceEqDiff, Nat.reduceLT, Nat.reduceLeDiff, Nat.reduceAdd, Nat.reduceMul, Nat.reduceSub, Nat.reduceBEq, reduceCtorEq, Int.reduceBNe, Int.reduceBEq, Int.reduceLT, Int.reduceLE, Int.reduceGT, Int.reduceGE, ne_eq, eq_self, hF, aw_late]
  repeat (first
    | (with_reducible (first | refine sops_go ?_ | refine headW_end ?_ | refine sops_end ?_ | refine awp_if ?_ | refine awp_skip ?_ | refine awp_ret ?_ | refine awp_exit ?_); simp only [go_sem, ↓reduceIte, Nat.reduceEqDiff, Nat.reduceLT, Nat.reduceLeDiff, Nat.reduceAdd, Nat.reduceMul, Nat.reduceSub, Nat.reduceBEq, reduceCtorEq, Int.reduceBNe, Int.reduceBEq, Int.reduceLT, Int.reduceLE, Int.reduceGT, Int.reduceGE, ne_eq, eq_self, hF])
    | with_reducible (first | refine awp_seq_k fun _ _ => ?_ | refine awp_region [49] ?_ | refine awp_block ?_)
    | go_step)
  refine ⟨_, fnOK_le (serve_ok [f0] rs0 6 (by decide) (by decide) (by decide)) (.cons (.refl _) (.cons (.agg (.cons (.refl _) (.cons (.nil 8) (.cons (.refl _) .nil)))) (.cons (.refl _) .nil))), ?_⟩
  simp only [go_sem, ↓reduceIte, Nat.reduceEqDiff, Nat.reduceLT, Nat.reduceLeDiff, Nat.reduceAdd, Nat.reduceMul, Nat.reduceSub, Nat.reduceBEq, reduceCtorEq, Int.reduceBNe, Int.reduceBEq, Int.reduceLT, Int.reduceLE, Int.reduceGT, Int.reduceGE, ne_eq, eq_self, hF, aw_serve]
  repeat (first
    | (with_reducible (first | refine sops_go ?_ | refine headW_end ?_ | refine sops_end ?_ | refine awp_if ?_ | refine awp_skip ?_ | refine awp_ret ?_ | refine awp_exit ?_); simp only [go_sem, ↓reduceIte, Nat.reduceEqDiff, Nat.reduceLT, Nat.reduceLeDiff, Nat.reduceAdd, Nat.reduceMul, Nat.reduceSub, Nat.reduceBEq, reduceCtorEq, Int.reduceBNe, Int.reduceBEq, Int.reduceLT, Int.reduceLE, Int.reduceGT, Int.reduceGE, ne_eq, eq_self, hF])
    | with_reducible (first | refine awp_seq_k fun _ _ => ?_ | refine awp_region [49] ?_ | refine awp_block ?_)
    | go_step)
  refine awp_nilB 7 1 8 66 rfl rfl ?_
  simp only [go_sem, ↓reduceIte, Nat.reduceEqDiff, Nat.reduceLT, Nat.reduceLeDiff, Nat.reduceAdd, Nat.reduceMul, Nat.reduceSub, Nat.reduceBEq, reduceCtorEq, Int.reduceBNe, Int.reduceBEq, Int.reduceLT, Int.reduceLE, Int.reduceGT, Int.reduceGE, ne_eq, eq_self, hF]
  repeat (first
    | (with_reducible (first | refine sops_go ?_ | refine headW_end ?_ | refine sops_end ?_ | refine awp_if ?_ | refine awp_skip ?_ | refine awp_ret ?_ | refine awp_exit ?_); simp only [go_sem, ↓reduceIte, Nat.reduceEqDiff, Nat.reduceLT, Nat.reduceLeDiff, Nat.reduceAdd, Nat.reduceMul, Nat.reduceSub, Nat.reduceBEq, reduceCtorEq, Int.reduceBNe, Int.reduceBEq, Int.reduceLT, Int.reduceLE, Int.reduceGT, Int.reduceGE, ne_eq, eq_self, hF])
    | with_reducible (first | refine awp_seq_k fun _ _ => ?_ | refine awp_region [49] ?_ | refine awp_block ?_)
    | go_step)
  refine awp_loop_by (ι := {j : Nat // j ≤ 3}) (fun j σ => ⟨(8, iv ((j.1 + 1 : Nat) : Int)) :: keepS [0, 1, 2, 3, 4, 5, 6, 7] σ.slot, (7, [ip 5, .sl 8 (((List.range j.1).map at1).map Att.pv), .v (.slice none 0 0)]) :: [(2, [ip 2, .sl 1 [[.sl 1 [[ip 0], [ip 9]]], [.sl 1 [[ip 9], [ip 0]]]], ip 1, ip 1000, .sl 3 [[ip 1, ip 0, ip 1]], .sl 1 [[ip 5]]]), (5, [ip 1, ip 0, ip 5, ip 5, ip 0, ip 0])], [(.b 7 1, (66, 8))], σ.ext⟩) (fun j => 3 - j.1) ⟨0, by omega⟩ (sub_mk ?_) (fun R hR j => ?_)
  · simp only [go_sem, ↓reduceIte, Nat.reduceEqDiff, Nat.reduceLT, Nat.reduceLeDiff, Nat.reduceAdd, Nat.reduceMul, Nat.reduceSub, Nat.reduceBEq, reduceCtorEq, Int.reduceBNe, Int.reduceBEq, Int.reduceLT, Int.reduceLE, Int.reduceGT, Int.reduceGE, ne_eq, eq_self, hF]
    repeat' (first | rfl | refine ⟨?_, ?_⟩)
  obtain ⟨j, hj⟩ := j
  dsimp only
  simp only [go_sem, ↓reduceIte, Nat.reduceEqDiff, Nat.reduceLT, Nat.reduceLeDiff, Nat.reduceAdd, Nat.reduceMul, Nat.reduceSub, Nat.reduceBEq, reduceCtorEq, Int.reduceBNe, Int.reduceBEq, Int.reduceLT, Int.reduceLE, Int.reduceGT, Int.reduceGE, ne_eq, eq_self, hF]
  by_cases hlt : j < 3
  case neg =>
    have hd : decide (((j + 1 : Nat) : Int) < (4 : Int)) = false := decide_eq_false (by omega)
    obtain rfl : j = 3 := by omega
    repeat (first
      | (with_reducible (first | refine sops_go ?_ | refine headW_end ?_ | refine sops_end ?_ | refine awp_if ?_ | refine awp_skip ?_ | refine awp_ret ?_ | refine awp_exit ?_); simp only [go_sem, ↓reduceIte, Nat.reduceEqDiff, Nat.reduceLT, Nat.reduceLeDiff, Nat.reduceAdd, Nat.reduceMul, Nat.reduceSub, Nat.reduceBEq, reduceCtorEq, Int.reduceBNe, Int.reduceBEq, Int.reduceLT, Int.reduceLE, Int.reduceGT, Int.reduceGE, ne_eq, eq_self, hF, hd])
      | with_reducible (first | refine awp_seq_k fun _ _ => ?_ | refine awp_region [49] ?_ | refine awp_block ?_)
      | go_step)
    refine ⟨_, fnOK_le (breaches1_ok n0 r0 (by decide) (by decide) (by decide) (by decide) (by decide) (by decide) aw_one) (.cons (.refl _) (.cons (.agg (.cons (.refl _) (.cons (.refl _) (.cons (.nil 3) .nil)))) .nil)), ?_⟩
    simp only [go_sem, ↓reduceIte, Nat.reduceEqDiff, Nat.reduceLT, Nat.reduceLeDiff, Nat.reduceAdd, Nat.reduceMul, Nat.reduceSub, Nat.reduceBEq, reduceCtorEq, Int.reduceBNe, Int.reduceBEq, Int.reduceLT, Int.reduceLE, Int.reduceGT, Int.reduceGE, ne_eq, eq_self, hF, aw_breaches]
    repeat (first
      | (with_reducible (first | refine sops_go ?_ | refine headW_end ?_ | refine sops_end ?_ | refine awp_if ?_ | refine awp_skip ?_ | refine awp_ret ?_ | refine awp_exit ?_); simp only [go_sem, ↓reduceIte, Nat.reduceEqDiff, Nat.reduceLT, Nat.reduceLeDiff, Nat.reduceAdd, Nat.reduceMul, Nat.reduceSub, Nat.reduceBEq, reduceCtorEq, Int.reduceBNe, Int.reduceBEq, Int.reduceLT, Int.reduceLE, Int.reduceGT, Int.reduceGE, ne_eq, eq_self, hF])
      | with_reducible (first | refine awp_seq_k fun _ _ => ?_ | refine awp_region [49] ?_ | refine awp_block ?_)
      | go_step)
    refine ⟨_, fnOK_le (twice_ok rt0 (by decide) (by decide)) (.cons (.agg (.cons (.refl _) (.cons (.nil 8) (.cons (.refl _) .nil)))) .nil), ?_⟩
    simp only [go_sem, ↓reduceIte, Nat.reduceEqDiff, Nat.reduceLT, Nat.reduceLeDiff, Nat.reduceAdd, Nat.reduceMul, Nat.reduceSub, Nat.reduceBEq, reduceCtorEq, Int.reduceBNe, Int.reduceBEq, Int.reduceLT, Int.reduceLE, Int.reduceGT, Int.reduceGE, ne_eq, eq_self, hF]
    repeat (first
      | (with_reducible (first | refine sops_go ?_ | refine headW_end ?_ | refine sops_end ?_ | refine awp_if ?_ | refine awp_skip ?_ | refine awp_ret ?_ | refine awp_exit ?_); simp only [go_sem, ↓reduceIte, Nat.reduceEqDiff, Nat.reduceLT, Nat.reduceLeDiff, Nat.reduceAdd, Nat.reduceMul, Nat.reduceSub, Nat.reduceBEq, reduceCtorEq, Int.reduceBNe, Int.reduceBEq, Int.reduceLT, Int.reduceLE, Int.reduceGT, Int.reduceGE, ne_eq, eq_self, hF])
      | with_reducible (first | refine awp_seq_k fun _ _ => ?_ | refine awp_region [49] ?_ | refine awp_block ?_)
      | go_step)
    refine ⟨_, fnOK_le (stray_ok [] r0 (by decide) (by decide) (by decide)) (.cons (.nil 6) (.cons (.agg (.cons (.refl _) (.cons (.refl _) (.cons (.nil 3) .nil)))) .nil)), ?_⟩
    simp only [go_sem, ↓reduceIte, Nat.reduceEqDiff, Nat.reduceLT, Nat.reduceLeDiff, Nat.reduceAdd, Nat.reduceMul, Nat.reduceSub, Nat.reduceBEq, reduceCtorEq, Int.reduceBNe, Int.reduceBEq, Int.reduceLT, Int.reduceLE, Int.reduceGT, Int.reduceGE, ne_eq, eq_self, hF]
    have ht1 := aw_twice.1
    have ht2 := aw_twice.2
    have ht3 := aw_stray.1
    have ht4 := aw_stray.2
    try simp only [go_sem, ↓reduceIte, Nat.reduceEqDiff, Nat.reduceLT, Nat.reduceLeDiff, Nat.reduceAdd, Nat.reduceMul, Nat.reduceSub, Nat.reduceBEq, reduceCtorEq, Int.reduceBNe, Int.reduceBEq, Int.reduceLT, Int.reduceLE, Int.reduceGT, Int.reduceGE, ne_eq, eq_self, hF, ht1, ht2, ht3, ht4, cast1, cast3, tn0, eq3, eq6, eq2]
    repeat (first
      | (with_reducible (first | refine sops_go ?_ | refine headW_end ?_ | refine sops_end ?_ | refine awp_if ?_ | refine awp_skip ?_ | refine awp_ret ?_ | refine awp_exit ?_); simp only [go_sem, ↓reduceIte, Nat.reduceEqDiff, Nat.reduceLT, Nat.reduceLeDiff, Nat.reduceAdd, Nat.reduceMul, Nat.reduceSub, Nat.reduceBEq, reduceCtorEq, Int.reduceBNe, Int.reduceBEq, Int.reduceLT, Int.reduceLE, Int.reduceGT, Int.reduceGE, ne_eq, eq_self, hF, ht1, ht2, ht3, ht4, cast1, cast3, tn0, eq3, eq6, eq2])
      | with_reducible (first | refine awp_seq_k fun _ _ => ?_ | refine awp_region [49] ?_ | refine awp_block ?_)
      | go_step)
    refine ⟨_, eqI_ok [1, 2] [1, 2] (by decide), ?_⟩
    simp only [go_sem, ↓reduceIte, Nat.reduceEqDiff, Nat.reduceLT, Nat.reduceLeDiff, Nat.reduceAdd, Nat.reduceMul, Nat.reduceSub, Nat.reduceBEq, reduceCtorEq, Int.reduceBNe, Int.reduceBEq, Int.reduceLT, Int.reduceLE, Int.reduceGT, Int.reduceGE, ne_eq, eq_self, hF, ht1, ht2, ht3, ht4, cast1, cast3, tn0, eq3, eq6, eq2]
    repeat (first
      | (with_reducible (first | refine sops_go ?_ | refine headW_end ?_ | refine sops_end ?_ | refine awp_if ?_ | refine awp_skip ?_ | refine awp_ret ?_ | refine awp_exit ?_); simp only [go_sem, ↓reduceIte, Nat.reduceEqDiff, Nat.reduceLT, Nat.reduceLeDiff, Nat.reduceAdd, Nat.reduceMul, Nat.reduceSub, Nat.reduceBEq, reduceCtorEq, Int.reduceBNe, Int.reduceBEq, Int.reduceLT, Int.reduceLE, Int.reduceGT, Int.reduceGE, ne_eq, eq_self, hF, ht1, ht2, ht3, ht4, cast1, cast3, tn0, eq3, eq6, eq2])
      | with_reducible (first | refine awp_seq_k fun _ _ => ?_ | refine awp_region [49] ?_ | refine awp_block ?_)
      | go_step)
  have hd : decide (((j + 1 : Nat) : Int) < (4 : Int)) = true := decide_eq_true (by omega)
  have hw : IntKind.i64.wrap (((j + 1 : Nat) : Int) + 1) = ((j + 1 + 1 : Nat) : Int) := by rw [IntKind.wrap_i64]; omega
  have hrl : (List.range j).length ≤ 99999999 := by rw [List.length_range]; omega
  repeat (first
    | (with_reducible (first | refine sops_go ?_ | refine headW_end ?_ | refine sops_end ?_ | refine awp_if ?_ | refine awp_skip ?_ | refine awp_ret ?_ | refine awp_exit ?_); simp only [go_sem, ↓reduceIte, Nat.reduceEqDiff, Nat.reduceLT, Nat.reduceLeDiff, Nat.reduceAdd, Nat.reduceMul, Nat.reduceSub, Nat.reduceBEq, reduceCtorEq, Int.reduceBNe, Int.reduceBEq, Int.reduceLT, Int.reduceLE, Int.reduceGT, Int.reduceGE, ne_eq, eq_self, hF, hd, hrl])
    | with_reducible (first | refine awp_seq_k fun _ _ => ?_ | refine awp_region [49] ?_ | refine awp_block ?_)
    | go_step)
  refine ⟨⟨j + 1, by omega⟩, by dsimp only; omega, hR _ _ (sub_mk ?_)⟩
  simp only [go_sem, ↓reduceIte, Nat.reduceEqDiff, Nat.reduceLT, Nat.reduceLeDiff, Nat.reduceAdd, Nat.reduceMul, Nat.reduceSub, Nat.reduceBEq, reduceCtorEq, Int.reduceBNe, Int.reduceBEq, Int.reduceLT, Int.reduceLE, Int.reduceGT, Int.reduceGE, ne_eq, eq_self, hF, hw, List.range_succ, List.map_append, at1]
end Go.Proofs.Ytkdigdnacggknaa
/- What the laws of the monitor share. -/
namespace Go.Proofs.Ytkdigdnacggknaa
open Go.RowKit
open Nd Rc Mo
open Av
set_option maxRecDepth 100000
set_option linter.unusedSimpArgs false

theorem fewB_of {fs : List Fl} {r : Rec} (h : fewB fs r = true) : fs.length ≤ 20 ∧ r.al.length ≤ 150 ∧ r.dl.length ≤ 100 := by
  simp only [fewB, rfewB, Bool.and_eq_true, decide_eq_true_eq] at h
  omega
end Go.Proofs.Ytkdigdnacggknaa
/- How the reference compares breaches, by abstract states. -/
namespace Go.Proofs.Ytkdigdnacggknaa
open Go.RowKit
open Nd Rc Mo
open Av
set_option maxRecDepth 100000
set_option linter.unusedSimpArgs false
attribute [local go_sem] Av.guardB Av.sop Av.hopx Av.hop Av.hopCall Av.hopF Av.hopB Av.evo Av.evos Av.avCells Av.loadK Av.bound Av.abin Av.aun Av.partsC Av.lfill Av.placesB Av.setAt Av.stl Av.takes Av.src Av.bxOf Av.ownOf Av.St.res Av.St.put Av.St.addBox Av.St.putOwn Av.delL Av.delS Av.look Av.lookL Av.storeSt Av.stealSt Av.St.setBox Av.keepL Av.hitB Av.snap Av.snaps Av.snapCaps Av.AV.lit Av.AV.refs Av.capRefs Av.PV.av Av.CV.av Av.startSt Av.steals Av.athen Av.ablock Av.appK Av.AllS Av.AllO Av.AllR Av.keepS Av.St.avAt Av.RetOK Av.retAll Av.retOne Av.intsOf Av.ptrB Av.appB Av.appSt TypeDesc.isRow List.range_zero Option.some.injEq exists_eq_left' exists_eq_left exists_eq' exists_and_left exists_and_right exists_const true_and and_true and_self false_and and_false or_false false_or or_true true_or if_true if_false Bool.false_eq_true List.zipIdx_cons List.zipIdx_nil List.map_cons List.map_nil List.filter_cons List.filter_nil List.contains_cons List.contains_nil List.drop_succ_cons List.drop_zero List.take_succ_cons List.take_zero List.take_nil List.drop_nil List.length_cons List.length_nil List.cons_append List.nil_append List.append_nil List.getElem?_cons_zero List.getElem?_cons_succ List.getElem?_nil Option.bind_some Option.bind_none Option.map_some Option.map_none Option.isNone_none Option.isNone_some Option.isSome_some Option.isSome_none Bool.and_true Bool.true_and Bool.and_false Bool.false_and Bool.or_false Bool.false_or Bool.not_true Bool.not_false beq_true beq_false Bool.true_beq Bool.false_beq Loc.s.injEq Loc.b.injEq decide_true decide_false beq_self_eq_true Nat.zero_add Nat.add_zero List.getElem?_toArray List.toList_toArray List.size_toArray Value.oneCell' List.all_cons List.all_nil Value.int.injEq AV.v.injEq AV.sl.injEq AV.agg.injEq AV.ref.injEq AV.ept.injEq AV.tup.injEq Value.bool.injEq PV.v.injEq PV.sl.injEq List.isEmpty_nil List.isEmpty_cons forall_const not_true_eq_false not_false_eq_true true_implies false_implies Value.string.injEq List.length_map List.getElem?_map Int.toNat_natCast Int.natCast_nonneg List.length_append Value.cells implies_true TypeDesc.struct.injEq TypeDesc.slice.injEq TypeDesc.array.injEq List.getElem?_toArray Prod.mk.injEq and_assoc exists_false List.cons.injEq Operand.tmp.injEq ite_self AV.fnv.injEq AV.clo.injEq ne_eq eq_self Try.sz3 Try.zr3 Try.by3 Try.pl3 Try.is3 Try.underlying3 Try.sz4 Try.zr4 Try.by4 Try.pl4 Try.is4 Try.underlying4 Try.sz32 Try.zr32 Try.by32 Try.pl32 Try.is32 Try.underlying32 Try.sz28 Try.zr28 Try.by28 Try.pl28 Try.is28 Try.underlying28 Try.sz26 Try.zr26 Try.by26 Try.pl26 Try.is26 Try.underlying26 Try.sz37 Try.zr37 Try.by37 Try.pl37 Try.is37 Try.underlying37 Try.sz68 Try.zr68 Try.by68 Try.pl68 Try.is68 Try.underlying68 Try.sz57 Try.zr57 Try.by57 Try.pl57 Try.is57 Try.underlying57 Try.sz70 Try.zr70 Try.by70 Try.pl70 Try.is70 Try.underlying70 Try.sz54 Try.zr54 Try.by54 Try.pl54 Try.is54 Try.underlying54 Try.sz66 Try.zr66 Try.by66 Try.pl66 Try.is66 Try.underlying66 Try.sz64 Try.zr64 Try.by64 Try.pl64 Try.is64 Try.underlying64 Try.sz73 Try.zr73 Try.by73 Try.pl73 Try.is73 Try.underlying73 Try.sz102 Try.zr102 Try.by102 Try.pl102 Try.is102 Try.underlying102 Try.sz105 Try.zr105 Try.by105 Try.pl105 Try.is105 Try.underlying105 Try.sz44 Try.zr44 Try.by44 Try.pl44 Try.is44 Try.underlying44 Try.sz22 Try.zr22 Try.by22 Try.pl22 Try.is22 Try.underlying22 Try.sz31 Try.zr31 Try.by31 Try.pl31 Try.is31 Try.underlying31 Try.sz23 Try.zr23 Try.by23 Try.pl23 Try.is23 Try.underlying23 Try.sz24 Try.zr24 Try.by24 Try.pl24 Try.is24 Try.underlying24 Try.sz46 Try.zr46 Try.by46 Try.pl46 Try.is46 Try.underlying46 Try.sz41 Try.zr41 Try.by41 Try.pl41 Try.is41 Try.underlying41 Try.sz42 Try.zr42 Try.by42 Try.pl42 Try.is42 Try.underlying42 Try.sz40 Try.zr40 Try.by40 Try.pl40 Try.is40 Try.underlying40 Try.it68 Try.eg68 Try.it54 Try.eg54 Try.it66 Try.eg66 Try.it57 Try.eg57 Try.it37 Try.eg37 Try.it73 Try.eg73 all_arr loc_ss loc_sb loc_bs loc_bb arr_two arr_one rg1 rg2 rg3 rg4 rg5 rg6 rg7 rg8 ResultVar.tmp.injEq Bool.not_true Bool.not_false undef Rc.Rec.pv Nd.Fl.pv Rc.Dlv.pv Rc.Att.pv Mo.Lt.pv Mo.Sv.pv Av.stored Br.pv
theorem Try.sz154 : (Try.prog.info? 154).map (·.size) = some 5 := by kernel_rfl
theorem Try.zr154 : (Try.prog.info? 154).map (·.zero) = some (some (.agg #[.int .i64 0, .int .i64 0, .int .i64 0, .int .i64 0, .int .i64 0])) := by kernel_rfl
theorem Try.is154 : (Try.prog.info? 154).isSome = true := by kernel_rfl
theorem Try.by154 : (Try.prog.info? 154).map (fun j => decide (j.bytes ≤ 1000000)) = some true := by kernel_rfl

set_option maxHeartbeats 20000000 in
theorem less_ok (a b : Br) (ha : a.sl ≠ []) (hb : b.sl ≠ []) : FnOK Try.prog 87 [.agg a.pv, .agg b.pv] ⟨bv (a.lt b), none⟩ := by
  obtain ⟨a1, a2, a3, a4, al⟩ := a
  obtain ⟨b1, b2, b3, b4, bl⟩ := b
  cases al with
  | nil => exact absurd rfl ha
  | cons s sl =>
    cases bl with
    | nil => exact absurd rfl hb
    | cons t tl =>
      have z0 : Int.toNat 0 = 0 := rfl
      have hlt : ∀ {x y : Int} {l m : List Int}, lexB (x :: l) (y :: m) = if x = y then lexB l m else decide (x < y) := rfl
      have hkey : Br.lt ⟨a1, a2, a3, a4, s :: sl⟩ ⟨b1, b2, b3, b4, t :: tl⟩ = lexB [a1, a2, a3, a4, s] [b1, b2, b3, b4, t] := rfl
      refine fn_ok Try.func87 (by kernel_rfl) rfl (by rw [Try.ntmps87]; exact of_decide_eq_true rfl) (fun F hF => ?_)
      rw [Try.ntmps87] at hF
      rw [Try.results87]
      repeat (first
        | (with_reducible (first | refine sops_go ?_ | refine headW_end ?_ | refine sops_end ?_ | refine awp_if ?_ | refine awp_skip ?_ | refine awp_ret ?_ | refine awp_exit ?_); simp only [go_sem, simprocAttr, hF, z0, Try.sz154, Try.zr154, Try.is154, Try.by154, Try.underlying154])
        | ((with_reducible refine headW_go ?_); simp only [go_sem, simprocAttr, hF, z0, Try.sz154, Try.zr154, Try.is154, Try.by154, Try.underlying154, hbx])
        | with_reducible refine awp_seq_k fun _ _ => ?_
        | (refine awp_draw' (id := 5) [] 7 (by kernel_rfl) (by kernel_rfl) rfl rfl (fun bx0 hbx => ?_); try dsimp only [List.take, List.drop])
        | (refine awp_draw' (id := 6) [] 7 (by kernel_rfl) (by kernel_rfl) rfl rfl (fun bx0 hbx => ?_); try dsimp only [List.take, List.drop])
        | (with_reducible refine awp_region (id := 0) [] ?_)
        | (with_reducible refine awp_region (id := 2) [] ?_)
        | (with_reducible refine awp_region (id := 3) [] ?_)
        | (with_reducible refine awp_region (id := 4) [] ?_)
        | (with_reducible refine awp_region (id := 7) [] ?_)
        | (with_reducible refine awp_block ?_)
        | go_step)
      refine awp_drawM (id := 1) 28 [13, 14, 15, 16, 17, 18, 19, 20, 21, 22, 23, 24, 25] 5 20 154 (by kernel_rfl) (by kernel_rfl) rfl rfl rfl rfl rfl (fun bx0 hbx => ?_)
      dsimp only [List.take_succ_cons, List.take_zero, List.take_nil, List.drop_succ_cons, List.drop_zero, List.drop_nil]
      repeat (first
        | (with_reducible (first | refine sops_go ?_ | refine headW_end ?_ | refine sops_end ?_ | refine awp_if ?_ | refine awp_skip ?_ | refine awp_ret ?_ | refine awp_exit ?_); simp only [go_sem, simprocAttr, hF, z0, Try.sz154, Try.zr154, Try.is154, Try.by154, Try.underlying154])
        | ((with_reducible refine headW_go ?_); simp only [go_sem, simprocAttr, hF, z0, Try.sz154, Try.zr154, Try.is154, Try.by154, Try.underlying154, hbx])
        | with_reducible refine awp_seq_k fun _ _ => ?_
        | (refine awp_draw' (id := 1) [] 28 (by kernel_rfl) (by kernel_rfl) rfl rfl (fun bx0 hbx => ?_); try dsimp only [List.take, List.drop])
        | (refine awp_draw' (id := 5) [] 7 (by kernel_rfl) (by kernel_rfl) rfl rfl (fun bx0 hbx => ?_); try dsimp only [List.take, List.drop])
        | (refine awp_draw' (id := 6) [] 7 (by kernel_rfl) (by kernel_rfl) rfl rfl (fun bx0 hbx => ?_); try dsimp only [List.take, List.drop])
        | with_reducible (first | refine awp_region [] ?_ | refine awp_block ?_)
        | go_step)
      refine awp_loop_by (ι := {k : Nat // k ≤ 5 ∧ lexB [a1, a2, a3, a4, s] [b1, b2, b3, b4, t] = lexB ([a1, a2, a3, a4, s].drop k) ([b1, b2, b3, b4, t].drop k)}) (fun k σ => ⟨(7, iv (k.1 : Int)) :: keepS [4, 5, 6] σ.slot, [(5, [ip a1, ip a2, ip a3, ip a4, ip s]), (6, [ip b1, ip b2, ip b3, ip b4, ip t])], [], σ.ext⟩) (fun k => 5 - k.1) ⟨0, by omega, rfl⟩ (sub_mk ?_) (fun R hR k => ?_)
      · simp only [go_sem, simprocAttr, hF]
        repeat' (first | rfl | refine ⟨?_, ?_⟩)
      obtain ⟨k, hk, hT⟩ := k
      dsimp only
      simp only [go_sem, simprocAttr, hF]
      by_cases hlt5 : k < 5
      case neg =>
        have hd : decide ((k : Int) < (5 : Int)) = false := decide_eq_false (by omega)
        obtain rfl : k = 5 := by omega
        repeat (first
          | (with_reducible (first | refine sops_go ?_ | refine headW_end ?_ | refine sops_end ?_ | refine awp_if ?_ | refine awp_skip ?_ | refine awp_ret ?_ | refine awp_exit ?_); simp only [go_sem, simprocAttr, hF, hd])
          | ((with_reducible refine headW_go ?_); simp only [go_sem, simprocAttr, hF, hd, hbx])
          | with_reducible refine awp_seq_k fun _ _ => ?_
          | (refine awp_draw' (id := 1) [] 28 (by kernel_rfl) (by kernel_rfl) rfl rfl (fun bx0 hbx => ?_); try dsimp only [List.take, List.drop])
          | (refine awp_draw' (id := 5) [] 7 (by kernel_rfl) (by kernel_rfl) rfl rfl (fun bx0 hbx => ?_); try dsimp only [List.take, List.drop])
          | (refine awp_draw' (id := 6) [] 7 (by kernel_rfl) (by kernel_rfl) rfl rfl (fun bx0 hbx => ?_); try dsimp only [List.take, List.drop])
          | with_reducible (first | refine awp_region [] ?_ | refine awp_block ?_)
          | go_step)
        rw [hkey, hT]
        rfl
      have hd : decide ((k : Int) < (5 : Int)) = true := decide_eq_true (by omega)
      have hw : IntKind.i64.wrap ((k : Int) + 1) = ((k + 1 : Nat) : Int) := by rw [IntKind.wrap_i64]; omega
      have h5 : (k : Int) < ((5 : Nat) : Int) := by omega
      rcases (show k = 0 ∨ k = 1 ∨ k = 2 ∨ k = 3 ∨ k = 4 by omega) with rfl | rfl | rfl | rfl | rfl
      · by_cases e0 : a1 = b1
        case neg =>
          have e1 : (a1 != b1) = true := by simpa using e0
          repeat (first
            | (with_reducible (first | refine sops_go ?_ | refine headW_end ?_ | refine sops_end ?_ | refine awp_if ?_ | refine awp_skip ?_ | refine awp_ret ?_ | refine awp_exit ?_); simp only [go_sem, simprocAttr, hF, hd, h5, e1, Try.sz154, Try.zr154, Try.is154, Try.by154, Try.underlying154])
            | ((with_reducible refine headW_go ?_); simp only [go_sem, simprocAttr, hF, hd, h5, e1, Try.sz154, Try.zr154, Try.is154, Try.by154, Try.underlying154, hbx])
            | with_reducible refine awp_seq_k fun _ _ => ?_
            | (refine awp_draw' (id := 1) [] 28 (by kernel_rfl) (by kernel_rfl) rfl rfl (fun bx0 hbx => ?_); try dsimp only [List.take, List.drop])
            | (refine awp_draw' (id := 5) [] 7 (by kernel_rfl) (by kernel_rfl) rfl rfl (fun bx0 hbx => ?_); try dsimp only [List.take, List.drop])
            | (refine awp_draw' (id := 6) [] 7 (by kernel_rfl) (by kernel_rfl) rfl rfl (fun bx0 hbx => ?_); try dsimp only [List.take, List.drop])
            | with_reducible (first | refine awp_region [] ?_ | refine awp_block ?_)
            | go_step)
          rw [hkey, hT]
          show (⟨bv (lexB (a1 :: _) (b1 :: _)), none⟩ : FRes) = _
          rw [hlt, if_neg e0]
        have e1 : (a1 != b1) = false := by simpa using e0
        repeat (first
          | (with_reducible (first | refine sops_go ?_ | refine headW_end ?_ | refine sops_end ?_ | refine awp_if ?_ | refine awp_skip ?_ | refine awp_ret ?_ | refine awp_exit ?_); simp only [go_sem, simprocAttr, hF, hd, h5, e1, Try.sz154, Try.zr154, Try.is154, Try.by154, Try.underlying154])
          | ((with_reducible refine headW_go ?_); simp only [go_sem, simprocAttr, hF, hd, h5, e1, Try.sz154, Try.zr154, Try.is154, Try.by154, Try.underlying154, hbx])
          | with_reducible refine awp_seq_k fun _ _ => ?_
          | (refine awp_draw' (id := 1) [] 28 (by kernel_rfl) (by kernel_rfl) rfl rfl (fun bx0 hbx => ?_); try dsimp only [List.take, List.drop])
          | (refine awp_draw' (id := 5) [] 7 (by kernel_rfl) (by kernel_rfl) rfl rfl (fun bx0 hbx => ?_); try dsimp only [List.take, List.drop])
          | (refine awp_draw' (id := 6) [] 7 (by kernel_rfl) (by kernel_rfl) rfl rfl (fun bx0 hbx => ?_); try dsimp only [List.take, List.drop])
          | with_reducible (first | refine awp_region [] ?_ | refine awp_block ?_)
          | go_step)
        refine ⟨⟨0 + 1, by omega, by
            rw [hT]
            show lexB (a1 :: _) (b1 :: _) = _
            rw [hlt, if_pos e0]
            rfl⟩, by dsimp only; omega, hR _ _ (sub_mk ?_)⟩
        simp only [go_sem, simprocAttr, hF, hw]
        all_goals rfl
      · by_cases e0 : a2 = b2
        case neg =>
          have e1 : (a2 != b2) = true := by simpa using e0
          repeat (first
            | (with_reducible (first | refine sops_go ?_ | refine headW_end ?_ | refine sops_end ?_ | refine awp_if ?_ | refine awp_skip ?_ | refine awp_ret ?_ | refine awp_exit ?_); simp only [go_sem, simprocAttr, hF, hd, h5, e1, Try.sz154, Try.zr154, Try.is154, Try.by154, Try.underlying154])
            | ((with_reducible refine headW_go ?_); simp only [go_sem, simprocAttr, hF, hd, h5, e1, Try.sz154, Try.zr154, Try.is154, Try.by154, Try.underlying154, hbx])
            | with_reducible refine awp_seq_k fun _ _ => ?_
            | (refine awp_draw' (id := 1) [] 28 (by kernel_rfl) (by kernel_rfl) rfl rfl (fun bx0 hbx => ?_); try dsimp only [List.take, List.drop])
            | (refine awp_draw' (id := 5) [] 7 (by kernel_rfl) (by kernel_rfl) rfl rfl (fun bx0 hbx => ?_); try dsimp only [List.take, List.drop])
            | (refine awp_draw' (id := 6) [] 7 (by kernel_rfl) (by kernel_rfl) rfl rfl (fun bx0 hbx => ?_); try dsimp only [List.take, List.drop])
            | with_reducible (first | refine awp_region [] ?_ | refine awp_block ?_)
            | go_step)
          rw [hkey, hT]
          show (⟨bv (lexB (a2 :: _) (b2 :: _)), none⟩ : FRes) = _
          rw [hlt, if_neg e0]
        have e1 : (a2 != b2) = false := by simpa using e0
        repeat (first
          | (with_reducible (first | refine sops_go ?_ | refine headW_end ?_ | refine sops_end ?_ | refine awp_if ?_ | refine awp_skip ?_ | refine awp_ret ?_ | refine awp_exit ?_); simp only [go_sem, simprocAttr, hF, hd, h5, e1, Try.sz154, Try.zr154, Try.is154, Try.by154, Try.underlying154])
          | ((with_reducible refine headW_go ?_); simp only [go_sem, simprocAttr, hF, hd, h5, e1, Try.sz154, Try.zr154, Try.is154, Try.by154, Try.underlying154, hbx])
          | with_reducible refine awp_seq_k fun _ _ => ?_
          | (refine awp_draw' (id := 1) [] 28 (by kernel_rfl) (by kernel_rfl) rfl rfl (fun bx0 hbx => ?_); try dsimp only [List.take, List.drop])
          | (refine awp_draw' (id := 5) [] 7 (by kernel_rfl) (by kernel_rfl) rfl rfl (fun bx0 hbx => ?_); try dsimp only [List.take, List.drop])
          | (refine awp_draw' (id := 6) [] 7 (by kernel_rfl) (by kernel_rfl) rfl rfl (fun bx0 hbx => ?_); try dsimp only [List.take, List.drop])
          | with_reducible (first | refine awp_region [] ?_ | refine awp_block ?_)
          | go_step)
        refine ⟨⟨1 + 1, by omega, by
            rw [hT]
            show lexB (a2 :: _) (b2 :: _) = _
            rw [hlt, if_pos e0]
            rfl⟩, by dsimp only; omega, hR _ _ (sub_mk ?_)⟩
        simp only [go_sem, simprocAttr, hF, hw]
        all_goals rfl
      · by_cases e0 : a3 = b3
        case neg =>
          have e1 : (a3 != b3) = true := by simpa using e0
          repeat (first
            | (with_reducible (first | refine sops_go ?_ | refine headW_end ?_ | refine sops_end ?_ | refine awp_if ?_ | refine awp_skip ?_ | refine awp_ret ?_ | refine awp_exit ?_); simp only [go_sem, simprocAttr, hF, hd, h5, e1, Try.sz154, Try.zr154, Try.is154, Try.by154, Try.underlying154])
            | ((with_reducible refine headW_go ?_); simp only [go_sem, simprocAttr, hF, hd, h5, e1, Try.sz154, Try.zr154, Try.is154, Try.by154, Try.underlying154, hbx])
            | with_reducible refine awp_seq_k fun _ _ => ?_
            | (refine awp_draw' (id := 1) [] 28 (by kernel_rfl) (by kernel_rfl) rfl rfl (fun bx0 hbx => ?_); try dsimp only [List.take, List.drop])
            | (refine awp_draw' (id := 5) [] 7 (by kernel_rfl) (by kernel_rfl) rfl rfl (fun bx0 hbx => ?_); try dsimp only [List.take, List.drop])
            | (refine awp_draw' (id := 6) [] 7 (by kernel_rfl) (by kernel_rfl) rfl rfl (fun bx0 hbx => ?_); try dsimp only [List.take, List.drop])
            | with_reducible (first | refine awp_region [] ?_ | refine awp_block ?_)
            | go_step)
          rw [hkey, hT]
          show (⟨bv (lexB (a3 :: _) (b3 :: _)), none⟩ : FRes) = _
          rw [hlt, if_neg e0]
        have e1 : (a3 != b3) = false := by simpa using e0
        repeat (first
          | (with_reducible (first | refine sops_go ?_ | refine headW_end ?_ | refine sops_end ?_ | refine awp_if ?_ | refine awp_skip ?_ | refine awp_ret ?_ | refine awp_exit ?_); simp only [go_sem, simprocAttr, hF, hd, h5, e1, Try.sz154, Try.zr154, Try.is154, Try.by154, Try.underlying154])
          | ((with_reducible refine headW_go ?_); simp only [go_sem, simprocAttr, hF, hd, h5, e1, Try.sz154, Try.zr154, Try.is154, Try.by154, Try.underlying154, hbx])
          | with_reducible refine awp_seq_k fun _ _ => ?_
          | (refine awp_draw' (id := 1) [] 28 (by kernel_rfl) (by kernel_rfl) rfl rfl (fun bx0 hbx => ?_); try dsimp only [List.take, List.drop])
          | (refine awp_draw' (id := 5) [] 7 (by kernel_rfl) (by kernel_rfl) rfl rfl (fun bx0 hbx => ?_); try dsimp only [List.take, List.drop])
          | (refine awp_draw' (id := 6) [] 7 (by kernel_rfl) (by kernel_rfl) rfl rfl (fun bx0 hbx => ?_); try dsimp only [List.take, List.drop])
          | with_reducible (first | refine awp_region [] ?_ | refine awp_block ?_)
          | go_step)
        refine ⟨⟨2 + 1, by omega, by
            rw [hT]
            show lexB (a3 :: _) (b3 :: _) = _
            rw [hlt, if_pos e0]
            rfl⟩, by dsimp only; omega, hR _ _ (sub_mk ?_)⟩
        simp only [go_sem, simprocAttr, hF, hw]
        all_goals rfl
      · by_cases e0 : a4 = b4
        case neg =>
          have e1 : (a4 != b4) = true := by simpa using e0
          repeat (first
            | (with_reducible (first | refine sops_go ?_ | refine headW_end ?_ | refine sops_end ?_ | refine awp_if ?_ | refine awp_skip ?_ | refine awp_ret ?_ | refine awp_exit ?_); simp only [go_sem, simprocAttr, hF, hd, h5, e1, Try.sz154, Try.zr154, Try.is154, Try.by154, Try.underlying154])
            | ((with_reducible refine headW_go ?_); simp only [go_sem, simprocAttr, hF, hd, h5, e1, Try.sz154, Try.zr154, Try.is154, Try.by154, Try.underlying154, hbx])
            | with_reducible refine awp_seq_k fun _ _ => ?_
            | (refine awp_draw' (id := 1) [] 28 (by kernel_rfl) (by kernel_rfl) rfl rfl (fun bx0 hbx => ?_); try dsimp only [List.take, List.drop])
            | (refine awp_draw' (id := 5) [] 7 (by kernel_rfl) (by kernel_rfl) rfl rfl (fun bx0 hbx => ?_); try dsimp only [List.take, List.drop])
            | (refine awp_draw' (id := 6) [] 7 (by kernel_rfl) (by kernel_rfl) rfl rfl (fun bx0 hbx => ?_); try dsimp only [List.take, List.drop])
            | with_reducible (first | refine awp_region [] ?_ | refine awp_block ?_)
            | go_step)
          rw [hkey, hT]
          show (⟨bv (lexB (a4 :: _) (b4 :: _)), none⟩ : FRes) = _
          rw [hlt, if_neg e0]
        have e1 : (a4 != b4) = false := by simpa using e0
        repeat (first
          | (with_reducible (first | refine sops_go ?_ | refine headW_end ?_ | refine sops_end ?_ | refine awp_if ?_ | refine awp_skip ?_ | refine awp_ret ?_ | refine awp_exit ?_); simp only [go_sem, simprocAttr, hF, hd, h5, e1, Try.sz154, Try.zr154, Try.is154, Try.by154, Try.underlying154])
          | ((with_reducible refine headW_go ?_); simp only [go_sem, simprocAttr, hF, hd, h5, e1, Try.sz154, Try.zr154, Try.is154, Try.by154, Try.underlying154, hbx])
          | with_reducible refine awp_seq_k fun _ _ => ?_
          | (refine awp_draw' (id := 1) [] 28 (by kernel_rfl) (by kernel_rfl) rfl rfl (fun bx0 hbx => ?_); try dsimp only [List.take, List.drop])
          | (refine awp_draw' (id := 5) [] 7 (by kernel_rfl) (by kernel_rfl) rfl rfl (fun bx0 hbx => ?_); try dsimp only [List.take, List.drop])
          | (refine awp_draw' (id := 6) [] 7 (by kernel_rfl) (by kernel_rfl) rfl rfl (fun bx0 hbx => ?_); try dsimp only [List.take, List.drop])
          | with_reducible (first | refine awp_region [] ?_ | refine awp_block ?_)
          | go_step)
        refine ⟨⟨3 + 1, by omega, by
            rw [hT]
            show lexB (a4 :: _) (b4 :: _) = _
            rw [hlt, if_pos e0]
            rfl⟩, by dsimp only; omega, hR _ _ (sub_mk ?_)⟩
        simp only [go_sem, simprocAttr, hF, hw]
        all_goals rfl
      · by_cases e0 : s = t
        case neg =>
          have e1 : (s != t) = true := by simpa using e0
          repeat (first
            | (with_reducible (first | refine sops_go ?_ | refine headW_end ?_ | refine sops_end ?_ | refine awp_if ?_ | refine awp_skip ?_ | refine awp_ret ?_ | refine awp_exit ?_); simp only [go_sem, simprocAttr, hF, hd, h5, e1, Try.sz154, Try.zr154, Try.is154, Try.by154, Try.underlying154])
            | ((with_reducible refine headW_go ?_); simp only [go_sem, simprocAttr, hF, hd, h5, e1, Try.sz154, Try.zr154, Try.is154, Try.by154, Try.underlying154, hbx])
            | with_reducible refine awp_seq_k fun _ _ => ?_
            | (refine awp_draw' (id := 1) [] 28 (by kernel_rfl) (by kernel_rfl) rfl rfl (fun bx0 hbx => ?_); try dsimp only [List.take, List.drop])
            | (refine awp_draw' (id := 5) [] 7 (by kernel_rfl) (by kernel_rfl) rfl rfl (fun bx0 hbx => ?_); try dsimp only [List.take, List.drop])
            | (refine awp_draw' (id := 6) [] 7 (by kernel_rfl) (by kernel_rfl) rfl rfl (fun bx0 hbx => ?_); try dsimp only [List.take, List.drop])
            | with_reducible (first | refine awp_region [] ?_ | refine awp_block ?_)
            | go_step)
          rw [hkey, hT]
          show (⟨bv (lexB (s :: _) (t :: _)), none⟩ : FRes) = _
          rw [hlt, if_neg e0]
        have e1 : (s != t) = false := by simpa using e0
        repeat (first
          | (with_reducible (first | refine sops_go ?_ | refine headW_end ?_ | refine sops_end ?_ | refine awp_if ?_ | refine awp_skip ?_ | refine awp_ret ?_ | refine awp_exit ?_); simp only [go_sem, simprocAttr, hF, hd, h5, e1, Try.sz154, Try.zr154, Try.is154, Try.by154, Try.underlying154])
          | ((with_reducible refine headW_go ?_); simp only [go_sem, simprocAttr, hF, hd, h5, e1, Try.sz154, Try.zr154, Try.is154, Try.by154, Try.underlying154, hbx])
          | with_reducible refine awp_seq_k fun _ _ => ?_
          | (refine awp_draw' (id := 1) [] 28 (by kernel_rfl) (by kernel_rfl) rfl rfl (fun bx0 hbx => ?_); try dsimp only [List.take, List.drop])
          | (refine awp_draw' (id := 5) [] 7 (by kernel_rfl) (by kernel_rfl) rfl rfl (fun bx0 hbx => ?_); try dsimp only [List.take, List.drop])
          | (refine awp_draw' (id := 6) [] 7 (by kernel_rfl) (by kernel_rfl) rfl rfl (fun bx0 hbx => ?_); try dsimp only [List.take, List.drop])
          | with_reducible (first | refine awp_region [] ?_ | refine awp_block ?_)
          | go_step)
        refine ⟨⟨4 + 1, by omega, by
            rw [hT]
            show lexB (s :: _) (t :: _) = _
            rw [hlt, if_pos e0]
            rfl⟩, by dsimp only; omega, hR _ _ (sub_mk ?_)⟩
        simp only [go_sem, simprocAttr, hF, hw]
        all_goals rfl
/- By abstract states: the insert of the reference. -/
attribute [local go_sem] Option.getD_none Av.sopX Av.bxf Av.xof Av.takesS
theorem ins_at {l : List Br} {b : Br} {k : Nat} (h : ∀ x ∈ l.take k, x.lt b = true) (hx : ∀ x, l[k]? = some x → x.lt b = false) : insB l b = l.take k ++ b :: l.drop k := by
  unfold insB
  have h1 : l.takeWhile (·.lt b) = l.take k ∧ l.dropWhile (·.lt b) = l.drop k := by
    have hd : (l.drop k).takeWhile (·.lt b) = [] ∧ (l.drop k).dropWhile (·.lt b) = l.drop k := by
      cases hq : l.drop k with
      | nil => exact ⟨rfl, rfl⟩
      | cons x m =>
        have : l[k]? = some x := by
          have := congrArg (·[0]?) hq
          simpa using this
        have := hx x this
        exact ⟨List.takeWhile_cons_of_neg (by rw [this]; decide), List.dropWhile_cons_of_neg (by rw [this]; decide)⟩
    have hl : l = l.take k ++ l.drop k := (List.take_append_drop k l).symm
    constructor
    · rw [hl, List.takeWhile_append_of_pos h, hd.1, List.append_nil, ← hl]
    · rw [hl, List.dropWhile_append_of_pos h, hd.2, ← hl]
  rw [h1.1, h1.2]

set_option maxHeartbeats 2000000 in
theorem insert_ok (l : List Br) (b : Br) (hl : l.length ≤ 1000000) (hs : ∀ x ∈ l, x.sl ≠ []) (hb : b.sl ≠ []) : FnOK Try.prog 62 [.sl 5 (l.map Br.pv), .agg b.pv] ⟨.sl 5 ((insB l b).map Br.pv), none⟩ := by
  refine fn_ok Try.func62 (by kernel_rfl) rfl (by rw [Try.ntmps62]; exact of_decide_eq_true rfl) (fun F hF => ?_)
  rw [Try.ntmps62] at hF
  rw [Try.results62]
  repeat (first
    | ((with_reducible refine sopsX_go ?_); simp only [go_sem, simprocAttr, hF])
    | ((with_reducible refine sopsX_end ?_); refine And.intro (by kernel_rfl) ?_; (try simp only [go_sem, simprocAttr, hF]))
    | (with_reducible (first | refine sops_go ?_ | refine headW_end ?_ | refine sops_end ?_ | refine awp_if ?_ | refine awp_skip ?_ | refine awp_ret ?_ | refine awp_exit ?_); simp only [go_sem, simprocAttr, hF])
    | ((with_reducible refine headW_go ?_); simp only [go_sem, simprocAttr, hF, hbx])
    | with_reducible refine awp_seq_k fun _ _ => ?_
    | (refine awp_any (id := 4) [] [] [] (by kernel_rfl) (by kernel_rfl) ?_)
    | (refine awp_draw' (id := 2) [] 12 (by kernel_rfl) (by kernel_rfl) rfl rfl (fun bx0 hbx => ?_); try dsimp only [List.take, List.drop])
    | with_reducible (first | refine awp_region [] ?_ | refine awp_block ?_)
    | go_step)
  refine awp_loop_by (ι := {k : Nat // k ≤ l.length ∧ ∀ x ∈ l.take k, x.lt b = true}) (fun k σ => ⟨(5, iv (k.1 : Int)) :: keepS [0, 3, 4] σ.slot, [(3, b.pv)], [], σ.ext⟩) (fun k => l.length - k.1) ⟨0, Nat.zero_le _, by simp⟩ (sub_mk ?_) (fun R hR k => ?_)
  · simp only [go_sem, simprocAttr, hF]
    repeat' (first | rfl | refine ⟨?_, ?_⟩)
  obtain ⟨k, hk, hT⟩ := k
  dsimp only
  simp only [go_sem, simprocAttr, hF]
  have f1 : (List.take k (List.map Br.pv l)).length = k := by rw [List.length_take, List.length_map]; omega
  have f2 : (List.drop k (List.map Br.pv l)).length = l.length - k := by rw [List.length_drop, List.length_map]
  have f3 : List.take l.length (List.map Br.pv l) = List.map Br.pv l := List.take_of_length_le (by rw [List.length_map]; omega)
  have f4 : k ≤ 100000000 := by omega
  have f5 : k ≤ 99999999 := by omega
  have f6 : k + 1 + (l.length - k) ≤ 100000000 := by omega
  have f7 : l.length ≤ l.length := Nat.le_refl _
  by_cases hlt : k < l.length
  case neg =>
    have hd : decide ((k : Int) < (l.length : Int)) = false := decide_eq_false (by omega)
    have hI : insB l b = l.take k ++ b :: l.drop k := ins_at hT fun x hx => by rw [List.getElem?_eq_none (by omega)] at hx; cases hx
    repeat (first
      | ((with_reducible refine sopsX_go ?_); simp only [go_sem, simprocAttr, hF, hd, f1, f2, f3, f4, f5, f6, f7, hk, List.nil_append, Nat.zero_le])
      | ((with_reducible refine sopsX_end ?_); refine And.intro (by kernel_rfl) ?_; (try simp only [go_sem, simprocAttr, hF, hd, f1, f2, f3, f4, f5, f6, f7, hk, List.nil_append, Nat.zero_le]))
      | (with_reducible (first | refine sops_go ?_ | refine headW_end ?_ | refine sops_end ?_ | refine awp_if ?_ | refine awp_skip ?_ | refine awp_ret ?_ | refine awp_exit ?_); simp only [go_sem, simprocAttr, hF, hd, f1, f2, f3, f4, f5, f6, f7, hk, List.nil_append, Nat.zero_le])
      | ((with_reducible refine headW_go ?_); simp only [go_sem, simprocAttr, hF, hd, f1, f2, f3, f4, f5, f6, f7, hk, List.nil_append, Nat.zero_le, hbx])
      | with_reducible refine awp_seq_k fun _ _ => ?_
      | (refine awp_any (id := 4) [] [] [] (by kernel_rfl) (by kernel_rfl) ?_)
      | (refine awp_draw' (id := 2) [] 12 (by kernel_rfl) (by kernel_rfl) rfl rfl (fun bx0 hbx => ?_); try dsimp only [List.take, List.drop])
      | with_reducible (first | refine awp_region [] ?_ | refine awp_block ?_)
      | go_step)
    rw [hI, List.map_append, List.map_cons, List.map_take, List.map_drop, List.append_assoc]
    first | rfl | exact .inl rfl | exact .inr rfl
  obtain ⟨x, hxk⟩ := get_of_lt hlt
  have hd : decide ((k : Int) < (l.length : Int)) = true := decide_eq_true (by omega)
  have hw : IntKind.i64.wrap ((k : Int) + 1) = ((k + 1 : Nat) : Int) := by rw [IntKind.wrap_i64]; omega
  repeat (first
    | ((with_reducible refine sopsX_go ?_); simp only [go_sem, simprocAttr, hF, hd, hxk])
    | ((with_reducible refine sopsX_end ?_); refine And.intro (by kernel_rfl) ?_; (try simp only [go_sem, simprocAttr, hF, hd, hxk]))
    | (with_reducible (first | refine sops_go ?_ | refine headW_end ?_ | refine sops_end ?_ | refine awp_if ?_ | refine awp_skip ?_ | refine awp_ret ?_ | refine awp_exit ?_); simp only [go_sem, simprocAttr, hF, hd, hxk])
    | ((with_reducible refine headW_go ?_); simp only [go_sem, simprocAttr, hF, hd, hxk, hbx])
    | with_reducible refine awp_seq_k fun _ _ => ?_
    | (refine awp_any (id := 4) [] [] [] (by kernel_rfl) (by kernel_rfl) ?_)
    | (refine awp_draw' (id := 2) [] 12 (by kernel_rfl) (by kernel_rfl) rfl rfl (fun bx0 hbx => ?_); try dsimp only [List.take, List.drop])
    | with_reducible (first | refine awp_region [] ?_ | refine awp_block ?_)
    | go_step)
  refine ⟨_, less_ok x b (hs x (List.mem_of_getElem? hxk)) hb, ?_⟩
  simp only [go_sem, simprocAttr, hF]
  cases he : x.lt b with
  | false =>
    have hI : insB l b = l.take k ++ b :: l.drop k := ins_at hT fun y hy => by rw [hxk] at hy; cases hy; exact he
    try simp only [go_sem, simprocAttr, hF, he]
    repeat (first
      | ((with_reducible refine sopsX_go ?_); simp only [go_sem, simprocAttr, hF, he, f1, f2, f3, f4, f5, f6, f7, hk, List.nil_append, Nat.zero_le])
      | ((with_reducible refine sopsX_end ?_); refine And.intro (by kernel_rfl) ?_; (try simp only [go_sem, simprocAttr, hF, he, f1, f2, f3, f4, f5, f6, f7, hk, List.nil_append, Nat.zero_le]))
      | (with_reducible (first | refine sops_go ?_ | refine headW_end ?_ | refine sops_end ?_ | refine awp_if ?_ | refine awp_skip ?_ | refine awp_ret ?_ | refine awp_exit ?_); simp only [go_sem, simprocAttr, hF, he, f1, f2, f3, f4, f5, f6, f7, hk, List.nil_append, Nat.zero_le])
      | ((with_reducible refine headW_go ?_); simp only [go_sem, simprocAttr, hF, he, f1, f2, f3, f4, f5, f6, f7, hk, List.nil_append, Nat.zero_le, hbx])
      | with_reducible refine awp_seq_k fun _ _ => ?_
      | (refine awp_any (id := 4) [] [] [] (by kernel_rfl) (by kernel_rfl) ?_)
      | (refine awp_draw' (id := 2) [] 12 (by kernel_rfl) (by kernel_rfl) rfl rfl (fun bx0 hbx => ?_); try dsimp only [List.take, List.drop])
      | with_reducible (first | refine awp_region [] ?_ | refine awp_block ?_)
      | go_step)
    rw [hI, List.map_append, List.map_cons, List.map_take, List.map_drop, List.append_assoc]
    first | rfl | exact .inl rfl | exact .inr rfl
  | true =>
    try simp only [go_sem, simprocAttr, hF, he]
    repeat (first
      | ((with_reducible refine sopsX_go ?_); simp only [go_sem, simprocAttr, hF, he])
      | ((with_reducible refine sopsX_end ?_); refine And.intro (by kernel_rfl) ?_; (try simp only [go_sem, simprocAttr, hF, he]))
      | (with_reducible (first | refine sops_go ?_ | refine headW_end ?_ | refine sops_end ?_ | refine awp_if ?_ | refine awp_skip ?_ | refine awp_ret ?_ | refine awp_exit ?_); simp only [go_sem, simprocAttr, hF, he])
      | ((with_reducible refine headW_go ?_); simp only [go_sem, simprocAttr, hF, he, hbx])
      | with_reducible refine awp_seq_k fun _ _ => ?_
      | (refine awp_any (id := 4) [] [] [] (by kernel_rfl) (by kernel_rfl) ?_)
      | (refine awp_draw' (id := 2) [] 12 (by kernel_rfl) (by kernel_rfl) rfl rfl (fun bx0 hbx => ?_); try dsimp only [List.take, List.drop])
      | with_reducible (first | refine awp_region [] ?_ | refine awp_block ?_)
      | go_step)
    refine ⟨⟨k + 1, by omega, fun y hy => by
        rw [List.take_add_one, hxk] at hy
        rcases List.mem_append.1 hy with hy | hy
        · exact hT y hy
        · simp at hy; subst hy; exact he⟩, by dsimp only; omega, hR _ _ (sub_mk ?_)⟩
    simp only [go_sem, simprocAttr, hF, hw]
/- The first attempt of a use, by abstract states. -/
def firstB (l : List Att) (i : Nat) (b : Att) : Bool := !(l.take i).any (fun a => a.cl == b.cl && a.f == b.f && a.cf == b.cf && a.ct == b.ct)

set_option maxHeartbeats 20000000 in
theorem first_ok (l : List Att) (i : Nat) (b : Att) (hb : l[i]? = some b) (hl : l.length ≤ 1000000) : FnOK Try.prog 60 [.sl 8 (l.map Att.pv), iv (i : Int)] ⟨bv (firstB l i b), none⟩ := by
  refine fn_ok Try.func60 (by kernel_rfl) rfl (by rw [Try.ntmps60]; exact of_decide_eq_true rfl) (fun F hF => ?_)
  rw [Try.ntmps60] at hF
  rw [Try.results60]
  repeat (first
    | (with_reducible (first | refine sops_go ?_ | refine headW_end ?_ | refine sops_end ?_ | refine awp_if ?_ | refine awp_skip ?_ | refine awp_ret ?_ | refine awp_exit ?_); simp only [go_sem, simprocAttr, hF])
    | ((with_reducible refine headW_go ?_); simp only [go_sem, simprocAttr, hF, hbx])
    | with_reducible refine awp_seq_k fun _ _ => ?_
    | (refine awp_draw' (id := 4) [] 10 (by kernel_rfl) (by kernel_rfl) rfl rfl (fun bx0 hbx => ?_); try dsimp only [List.take, List.drop])
    | with_reducible (first | refine awp_region [] ?_ | refine awp_block ?_)
    | go_step)
  refine awp_loop_by (ι := {k : Nat // k ≤ i ∧ (l.take k).any (fun a => a.cl == b.cl && a.f == b.f && a.cf == b.cf && a.ct == b.ct) = false}) (fun k σ => ⟨(5, iv (k.1 : Int)) :: keepS [0, 1, 4] σ.slot, [], [], σ.ext⟩) (fun k => i - k.1) ⟨0, by omega, rfl⟩ (sub_mk ?_) (fun R hR k => ?_)
  · simp only [go_sem, simprocAttr, hF]
    repeat' (first | rfl | refine ⟨?_, ?_⟩)
  obtain ⟨k, hk, hno⟩ := k
  dsimp only
  simp only [go_sem, simprocAttr, hF]
  have hil : i < l.length := (List.getElem?_eq_some_iff.1 hb).1
  by_cases hlt : k < i
  case neg =>
    have hd : decide ((k : Int) < (i : Int)) = false := decide_eq_false (by omega)
    obtain rfl : k = i := by omega
    repeat (first
      | (with_reducible (first | refine sops_go ?_ | refine headW_end ?_ | refine sops_end ?_ | refine awp_if ?_ | refine awp_skip ?_ | refine awp_ret ?_ | refine awp_exit ?_); simp only [go_sem, simprocAttr, hF, hd])
      | ((with_reducible refine headW_go ?_); simp only [go_sem, simprocAttr, hF, hd, hbx])
      | with_reducible refine awp_seq_k fun _ _ => ?_
      | (refine awp_draw' (id := 4) [] 10 (by kernel_rfl) (by kernel_rfl) rfl rfl (fun bx0 hbx => ?_); try dsimp only [List.take, List.drop])
      | with_reducible (first | refine awp_region [] ?_ | refine awp_block ?_)
      | go_step)
    rw [firstB, hno]
    try rfl
  obtain ⟨d, hdk⟩ := get_of_lt (l := l) (k := k) (by omega)
  have hd : decide ((k : Int) < (i : Int)) = true := decide_eq_true (by omega)
  have hw : IntKind.i64.wrap ((k : Int) + 1) = ((k + 1 : Nat) : Int) := by rw [IntKind.wrap_i64]; omega
  have hT : (l.take (k + 1)).any (fun a => a.cl == b.cl && a.f == b.f && a.cf == b.cf && a.ct == b.ct) = (d.cl == b.cl && d.f == b.f && d.cf == b.cf && d.ct == b.ct) := by rw [List.take_add_one, hdk, List.any_append, hno, Bool.false_or]; simp
  repeat (first
    | (with_reducible (first | refine sops_go ?_ | refine headW_end ?_ | refine sops_end ?_ | refine awp_if ?_ | refine awp_skip ?_ | refine awp_ret ?_ | refine awp_exit ?_); simp only [go_sem, simprocAttr, hF, hd, hdk, hb])
    | ((with_reducible refine headW_go ?_); simp only [go_sem, simprocAttr, hF, hd, hdk, hb, hbx])
    | with_reducible refine awp_seq_k fun _ _ => ?_
    | (with_reducible refine awp_region (id := 0) [] ?_)
    | (with_reducible refine awp_region (id := 1) [] ?_)
    | (with_reducible refine awp_region (id := 2) [] ?_)
    | (with_reducible refine awp_region (id := 5) [] ?_)
    | (with_reducible refine awp_region (id := 6) [] ?_)
    | (with_reducible refine awp_region (id := 3) [] ?_)
    | (with_reducible refine awp_region (id := 7) [] ?_)
    | (with_reducible refine awp_block ?_)
    | go_step)
  refine awp_drawM (id := 4) 10 [4, 5, 6, 7] 6 16 66 (by kernel_rfl) (by kernel_rfl) rfl rfl rfl rfl rfl (fun bx0 hbx => ?_)
  dsimp only [List.take_succ_cons, List.take_zero, List.take_nil, List.drop_succ_cons, List.drop_zero, List.drop_nil]
  repeat (first
    | (with_reducible (first | refine sops_go ?_ | refine headW_end ?_ | refine sops_end ?_ | refine awp_if ?_ | refine awp_skip ?_ | refine awp_ret ?_ | refine awp_exit ?_); simp only [go_sem, simprocAttr, hF, hd, hdk, hb])
    | ((with_reducible refine headW_go ?_); simp only [go_sem, simprocAttr, hF, hd, hdk, hb, hbx])
    | with_reducible refine awp_seq_k fun _ _ => ?_
    | (refine awp_draw' (id := 4) [] 10 (by kernel_rfl) (by kernel_rfl) rfl rfl (fun bx0 hbx => ?_); try dsimp only [List.take, List.drop])
    | with_reducible (first | refine awp_region [] ?_ | refine awp_block ?_)
    | go_step)
  cases e1 : (d.cl == b.cl) with
  | false =>
    try simp only [go_sem, simprocAttr, hF, hd, hdk, hb, e1]
    repeat (first
      | (with_reducible (first | refine sops_go ?_ | refine headW_end ?_ | refine sops_end ?_ | refine awp_if ?_ | refine awp_skip ?_ | refine awp_ret ?_ | refine awp_exit ?_); simp only [go_sem, simprocAttr, hF, hd, hdk, hb, e1])
      | ((with_reducible refine headW_go ?_); simp only [go_sem, simprocAttr, hF, hd, hdk, hb, e1, hbx])
      | with_reducible refine awp_seq_k fun _ _ => ?_
      | (refine awp_draw' (id := 4) [] 10 (by kernel_rfl) (by kernel_rfl) rfl rfl (fun bx0 hbx => ?_); try dsimp only [List.take, List.drop])
      | with_reducible (first | refine awp_region [] ?_ | refine awp_block ?_)
      | go_step)
    refine ⟨⟨k + 1, by omega, by rw [hT, e1]; rfl⟩, by dsimp only; omega, hR _ _ (sub_mk ?_)⟩
    simp only [go_sem, simprocAttr, hF, hw]
  | true =>
    cases e2 : (d.f == b.f) with
    | false =>
      try simp only [go_sem, simprocAttr, hF, hd, hdk, hb, e1, e2]
      repeat (first
        | (with_reducible (first | refine sops_go ?_ | refine headW_end ?_ | refine sops_end ?_ | refine awp_if ?_ | refine awp_skip ?_ | refine awp_ret ?_ | refine awp_exit ?_); simp only [go_sem, simprocAttr, hF, hd, hdk, hb, e1, e2])
        | ((with_reducible refine headW_go ?_); simp only [go_sem, simprocAttr, hF, hd, hdk, hb, e1, e2, hbx])
        | with_reducible refine awp_seq_k fun _ _ => ?_
        | (refine awp_draw' (id := 4) [] 10 (by kernel_rfl) (by kernel_rfl) rfl rfl (fun bx0 hbx => ?_); try dsimp only [List.take, List.drop])
        | with_reducible (first | refine awp_region [] ?_ | refine awp_block ?_)
        | go_step)
      refine ⟨⟨k + 1, by omega, by rw [hT, e1, e2]; rfl⟩, by dsimp only; omega, hR _ _ (sub_mk ?_)⟩
      simp only [go_sem, simprocAttr, hF, hw]
    | true =>
      cases e3 : (d.cf == b.cf) with
      | false =>
        try simp only [go_sem, simprocAttr, hF, hd, hdk, hb, e1, e2, e3]
        repeat (first
          | (with_reducible (first | refine sops_go ?_ | refine headW_end ?_ | refine sops_end ?_ | refine awp_if ?_ | refine awp_skip ?_ | refine awp_ret ?_ | refine awp_exit ?_); simp only [go_sem, simprocAttr, hF, hd, hdk, hb, e1, e2, e3])
          | ((with_reducible refine headW_go ?_); simp only [go_sem, simprocAttr, hF, hd, hdk, hb, e1, e2, e3, hbx])
          | with_reducible refine awp_seq_k fun _ _ => ?_
          | (refine awp_draw' (id := 4) [] 10 (by kernel_rfl) (by kernel_rfl) rfl rfl (fun bx0 hbx => ?_); try dsimp only [List.take, List.drop])
          | with_reducible (first | refine awp_region [] ?_ | refine awp_block ?_)
          | go_step)
        refine ⟨⟨k + 1, by omega, by rw [hT, e1, e2, e3]; rfl⟩, by dsimp only; omega, hR _ _ (sub_mk ?_)⟩
        simp only [go_sem, simprocAttr, hF, hw]
      | true =>
        cases e4 : (d.ct == b.ct) with
        | false =>
          try simp only [go_sem, simprocAttr, hF, hd, hdk, hb, e1, e2, e3, e4]
          repeat (first
            | (with_reducible (first | refine sops_go ?_ | refine headW_end ?_ | refine sops_end ?_ | refine awp_if ?_ | refine awp_skip ?_ | refine awp_ret ?_ | refine awp_exit ?_); simp only [go_sem, simprocAttr, hF, hd, hdk, hb, e1, e2, e3, e4])
            | ((with_reducible refine headW_go ?_); simp only [go_sem, simprocAttr, hF, hd, hdk, hb, e1, e2, e3, e4, hbx])
            | with_reducible refine awp_seq_k fun _ _ => ?_
            | (refine awp_draw' (id := 4) [] 10 (by kernel_rfl) (by kernel_rfl) rfl rfl (fun bx0 hbx => ?_); try dsimp only [List.take, List.drop])
            | with_reducible (first | refine awp_region [] ?_ | refine awp_block ?_)
            | go_step)
          refine ⟨⟨k + 1, by omega, by rw [hT, e1, e2, e3, e4]; rfl⟩, by dsimp only; omega, hR _ _ (sub_mk ?_)⟩
          simp only [go_sem, simprocAttr, hF, hw]
        | true =>
          have hFb : firstB l i b = false := by
            rw [firstB, Bool.not_eq_false']
            refine List.any_eq_true.2 ⟨d, List.mem_take_iff_getElem.2 ⟨k, by omega, (List.getElem?_eq_some_iff.1 hdk).2⟩, ?_⟩
            rw [e1, e2, e3, e4]; rfl
          try simp only [go_sem, simprocAttr, hF, hd, hdk, hb, e1, e2, e3, e4]
          repeat (first
            | (with_reducible (first | refine sops_go ?_ | refine headW_end ?_ | refine sops_end ?_ | refine awp_if ?_ | refine awp_skip ?_ | refine awp_ret ?_ | refine awp_exit ?_); simp only [go_sem, simprocAttr, hF, hd, hdk, hb, e1, e2, e3, e4])
            | ((with_reducible refine headW_go ?_); simp only [go_sem, simprocAttr, hF, hd, hdk, hb, e1, e2, e3, e4, hbx])
            | with_reducible refine awp_seq_k fun _ _ => ?_
            | (refine awp_draw' (id := 4) [] 10 (by kernel_rfl) (by kernel_rfl) rfl rfl (fun bx0 hbx => ?_); try dsimp only [List.take, List.drop])
            | with_reducible (first | refine awp_region [] ?_ | refine awp_block ?_)
            | go_step)
          rw [hFb]
          try rfl
end Go.Proofs.Ytkdigdnacggknaa
/- The reference of Breaches: plain. -/
namespace Go.Proofs.Ytkdigdnacggknaa
open Go.RowKit
open Nd Rc Mo
open Av
set_option maxRecDepth 100000
theorem find_none {n : Net} {a b : Int} (h : lossAt n.lk a b = none) : idxP (fun l : Lk => l.fr == a && l.tt == b) n.lk 0 = -1 := by
  rcases idxP_spec (fun l : Lk => l.fr == a && l.tt == b) n.lk 0 with ⟨h1, _⟩ | ⟨i, y, h1, h2, _, _⟩
  · exact h1
  · exfalso
    unfold lossAt at h
    rw [Option.map_eq_none_iff, List.find?_eq_none] at h
    exact h y (List.mem_reverse.2 (List.mem_of_getElem? h1)) h2
theorem find_some {n : Net} (hn : chkN n = 0) {a b x : Int} (h : lossAt n.lk a b = some x) : ∃ (i : Nat) (y : Lk), n.lk[i]? = some y ∧ y.ls = x ∧ idxP (fun l : Lk => l.fr == a && l.tt == b) n.lk 0 = (i : Int) := by
  obtain ⟨y, hy, e1, e2, e3⟩ := lossAt_at h
  rcases idxP_spec (fun l : Lk => l.fr == a && l.tt == b) n.lk 0 with ⟨_, h2⟩ | ⟨i, z, h1, h2, h3, _⟩
  · rw [List.all_eq_true] at h2
    have := h2 y hy
    simp [e2, e3] at this
  · simp only [Bool.and_eq_true, beq_iff_eq] at h2
    have : z = y := lk_uniq (chkN_pw hn) (List.mem_of_getElem? h1) hy (h2.1.trans e2.symm) (h2.2.trans e3.symm)
    subst this
    exact ⟨i, z, h1, e1, by rw [h3]; omega⟩
theorem eraseDups_snoc {α : Type} [BEq α] [LawfulBEq α] (a : α) : ∀ (n : Nat) (l : List α), l.length ≤ n → (l ++ [a]).eraseDups = if l.contains a then l.eraseDups else l.eraseDups ++ [a]
  | _, [], _ => by simp [List.eraseDups_cons, List.eraseDups_nil]
  | 0, _ :: _, h => by cases h
  | n + 1, x :: l, h => by
    have h' : (l.filter fun b => !b == x).length ≤ n := Nat.le_trans (List.length_filter_le _ _) (Nat.le_of_succ_le_succ h)
    rw [List.cons_append, List.eraseDups_cons, List.eraseDups_cons, List.filter_append]
    by_cases hax : a = x
    · subst hax
      rw [List.filter_cons_of_neg (by simp), List.filter_nil, List.append_nil, if_pos (by simp)]
    · rw [List.filter_cons_of_pos (by simpa using hax), List.filter_nil, eraseDups_snoc a n _ h']
      have e : (l.filter fun b => !b == x).contains a = l.contains a := by
        rw [Bool.eq_iff_iff]
        simp only [List.contains_iff_mem, List.mem_filter]
        simp [hax]
      have e2 : (x :: l).contains a = l.contains a := by
        rw [List.contains_cons]
        simp [hax]
      rw [e, e2]
      split <;> rfl
theorem firstK_snoc (al : List Att) (a : Att) : firstK (al ++ [a]) = if (al.map attK).contains (attK a) then firstK al else firstK al ++ [attK a] := by
  unfold firstK
  rw [List.map_append]
  exact eraseDups_snoc (attK a) _ _ (Nat.le_refl _)
theorem firstB_k {l : List Att} {i : Nat} {b : Att} : firstB l i b = !((l.take i).map attK).contains (attK b) := by
  unfold firstB
  congr 1
  rw [Bool.eq_iff_iff, List.any_eq_true, List.contains_iff_mem, List.mem_map]
  constructor
  · rintro ⟨a, ha, h⟩
    simp only [Bool.and_eq_true, beq_iff_eq] at h
    obtain ⟨⟨⟨h1, h2⟩, h3⟩, h4⟩ := h
    exact ⟨a, ha, by simp [attK, h1, h2, h3, h4]⟩
  · rintro ⟨a, ha, h⟩
    simp only [attK, UK.mk.injEq] at h
    exact ⟨a, ha, by simp [h.1, h.2.1, h.2.2.1, h.2.2.2]⟩
theorem sortB_snoc (l : List Br) (b : Br) : sortB (l ++ [b]) = insB (sortB l) b := by
  unfold sortB
  rw [List.foldl_append]; rfl
/-- What the inner loop has. -/
def brO (lk : List Lk) (al : List Att) (V : List UK) (K : UK) (j : Nat) : List Br := brs lk al V ++ overs (lossOf lk K.fm K.tt) K ((lossP al K.fl K.fr K.fm K.tt).take j)
theorem brO_mem {lk : List Lk} {al : List Att} {V : List UK} {K : UK} {j : Nat} {b : Br} (h : b ∈ brO lk al V K j) : b ∈ brs lk al (V ++ [K]) := by
  rw [brs_snoc]
  unfold brO at h
  rcases List.mem_append.1 h with h | h
  · exact List.mem_append_left _ h
  · refine List.mem_append_right _ ?_
    unfold brK
    unfold overs at h ⊢
    obtain ⟨x, hx, rfl⟩ := List.mem_map.1 h
    obtain ⟨h1, h2⟩ := List.mem_filter.1 hx
    exact List.mem_map.2 ⟨x, List.mem_filter.2 ⟨List.mem_of_mem_take h1, h2⟩, rfl⟩
theorem brO_ne {n : Net} (hn : chkN n = 0) {al : List Att} {V : List UK} {K : UK} {j : Nat} : ∀ b ∈ sortB (brO n.lk al V K j), b.sl ≠ [] := fun b hb =>
  brs_ne (fun l hl => ((chkN_links hn).2 l hl).2.2.2.2.1) b (brO_mem ((sortB_perm _).mem_iff.1 hb))
theorem brO_len {lk : List Lk} {al : List Att} {V : List UK} {K : UK} {j : Nat} (hV : V.Nodup) (hK : K ∉ V) : (sortB (brO lk al V K j)).length ≤ al.length := by
  rw [(sortB_perm _).length_eq]
  exact overs_len_al hV hK
theorem brO_zero (lk : List Lk) (al : List Att) (V : List UK) (K : UK) : brO lk al V K 0 = brs lk al V := by simp [brO, overs]
theorem brO_all (lk : List Lk) (al : List Att) (V : List UK) (K : UK) {j : Nat} (h : (lossP al K.fl K.fr K.fm K.tt).length ≤ j) : brO lk al V K j = brs lk al (V ++ [K]) := by
  rw [brs_snoc, brO, List.take_of_length_le h]; rfl
theorem brO_step {lk : List Lk} {al : List Att} {V : List UK} {K : UK} {j : Nat} {x : List Int} (hx : (lossP al K.fl K.fr K.fm K.tt)[j]? = some x) : brO lk al V K (j + 1) = if lossOf lk K.fm K.tt < (x.length : Int) then brO lk al V K j ++ [⟨K.fl, K.fr, K.fm, K.tt, x.take (lossOf lk K.fm K.tt + 1).toNat⟩] else brO lk al V K j := by
  unfold brO
  rw [overs_snoc hx]
  split
  · rw [List.append_assoc]
  · rfl
end Go.Proofs.Ytkdigdnacggknaa

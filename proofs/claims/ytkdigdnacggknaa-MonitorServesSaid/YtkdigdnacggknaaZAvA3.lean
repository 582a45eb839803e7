import Derived.Test.YtkdigdnacggknaaZAvA1
import Derived.Test.YtkdigdnacggknaaZAvJ
/- By abstract states: strays. -/
namespace Go.Proofs.Ytkdigdnacggknaa
open Go.RowKit
open Nd Rc Mo
open Av
set_option maxRecDepth 100000
set_option linter.unusedSimpArgs false
attribute [local go_sem] Av.guardB Av.sop Av.hopx Av.hop Av.hopCall Av.hopF Av.hopB Av.evo Av.evos Av.avCells Av.loadK Av.bound Av.abin Av.aun Av.partsC Av.lfill Av.placesB Av.setAt Av.stl Av.takes Av.src Av.bxOf Av.ownOf Av.St.res Av.St.put Av.St.addBox Av.St.putOwn Av.delL Av.delS Av.look Av.lookL Av.storeSt Av.stealSt Av.St.setBox Av.keepL Av.hitB Av.snap Av.snaps Av.snapCaps Av.AV.lit Av.AV.refs Av.capRefs Av.PV.av Av.CV.av Av.startSt Av.steals Av.athen Av.ablock Av.appK Av.AllS Av.AllO Av.AllR Av.keepS Av.St.avAt Av.RetOK Av.retAll Av.retOne Av.intsOf Av.ptrB Av.appB Av.appSt TypeDesc.isRow List.range_zero Option.some.injEq exists_eq_left' exists_eq_left exists_eq' exists_and_left exists_and_right exists_const true_and and_true and_self false_and and_false or_false false_or or_true true_or if_true if_false Bool.false_eq_true List.zipIdx_cons List.zipIdx_nil List.map_cons List.map_nil List.filter_cons List.filter_nil List.contains_cons List.contains_nil List.drop_succ_cons List.drop_zero List.take_succ_cons List.take_zero List.take_nil List.drop_nil List.length_cons List.length_nil List.cons_append List.nil_append List.append_nil List.getElem?_cons_zero List.getElem?_cons_succ List.getElem?_nil Option.bind_some Option.bind_none Option.map_some Option.map_none Option.isNone_none Option.isNone_some Option.isSome_some Option.isSome_none Bool.and_true Bool.true_and Bool.and_false Bool.false_and Bool.or_false Bool.false_or Bool.not_true Bool.not_false beq_true beq_false Bool.true_beq Bool.false_beq Loc.s.injEq Loc.b.injEq decide_true decide_false beq_self_eq_true Nat.zero_add Nat.add_zero List.getElem?_toArray List.toList_toArray List.size_toArray Value.oneCell' List.all_cons List.all_nil Value.int.injEq AV.v.injEq AV.sl.injEq AV.agg.injEq AV.ref.injEq AV.ept.injEq AV.tup.injEq Value.bool.injEq PV.v.injEq PV.sl.injEq List.isEmpty_nil List.isEmpty_cons forall_const not_true_eq_false not_false_eq_true true_implies false_implies Value.string.injEq List.length_map List.getElem?_map Int.toNat_natCast Int.natCast_nonneg List.length_append Value.cells implies_true TypeDesc.struct.injEq TypeDesc.slice.injEq TypeDesc.array.injEq List.getElem?_toArray Prod.mk.injEq and_assoc exists_false List.cons.injEq Operand.tmp.injEq ite_self AV.fnv.injEq AV.clo.injEq Try.sz3 Try.zr3 Try.by3 Try.pl3 Try.is3 Try.underlying3 Try.sz4 Try.zr4 Try.by4 Try.pl4 Try.is4 Try.underlying4 Try.sz32 Try.zr32 Try.by32 Try.pl32 Try.is32 Try.underlying32 Try.sz28 Try.zr28 Try.by28 Try.pl28 Try.is28 Try.underlying28 Try.sz26 Try.zr26 Try.by26 Try.pl26 Try.is26 Try.underlying26 Try.sz37 Try.zr37 Try.by37 Try.pl37 Try.is37 Try.underlying37 Try.sz68 Try.zr68 Try.by68 Try.pl68 Try.is68 Try.underlying68 Try.sz57 Try.zr57 Try.by57 Try.pl57 Try.is57 Try.underlying57 Try.sz70 Try.zr70 Try.by70 Try.pl70 Try.is70 Try.underlying70 Try.sz54 Try.zr54 Try.by54 Try.pl54 Try.is54 Try.underlying54 Try.sz66 Try.zr66 Try.by66 Try.pl66 Try.is66 Try.underlying66 Try.sz64 Try.zr64 Try.by64 Try.pl64 Try.is64 Try.underlying64 Try.sz73 Try.zr73 Try.by73 Try.pl73 Try.is73 Try.underlying73 Try.sz102 Try.zr102 Try.by102 Try.pl102 Try.is102 Try.underlying102 Try.sz105 Try.zr105 Try.by105 Try.pl105 Try.is105 Try.underlying105 Try.sz44 Try.zr44 Try.by44 Try.pl44 Try.is44 Try.underlying44 Try.sz22 Try.zr22 Try.by22 Try.pl22 Try.is22 Try.underlying22 Try.sz31 Try.zr31 Try.by31 Try.pl31 Try.is31 Try.underlying31 Try.sz23 Try.zr23 Try.by23 Try.pl23 Try.is23 Try.underlying23 Try.sz24 Try.zr24 Try.by24 Try.pl24 Try.is24 Try.underlying24 Try.sz46 Try.zr46 Try.by46 Try.pl46 Try.is46 Try.underlying46 Try.sz41 Try.zr41 Try.by41 Try.pl41 Try.is41 Try.underlying41 Try.sz42 Try.zr42 Try.by42 Try.pl42 Try.is42 Try.underlying42 Try.sz40 Try.zr40 Try.by40 Try.pl40 Try.is40 Try.underlying40 Try.it68 Try.eg68 Try.it54 Try.eg54 Try.it66 Try.eg66 Try.it57 Try.eg57 Try.it37 Try.eg37 Try.it73 Try.eg73 all_arr loc_ss loc_sb loc_bs loc_bb arr_two arr_one rg1 rg2 rg3 rg4 rg5 rg6 rg7 rg8 ResultVar.tmp.injEq Bool.not_true Bool.not_false undef Rc.Rec.pv Nd.Fl.pv Rc.Dlv.pv Rc.Att.pv Mo.Lt.pv Mo.Sv.pv

set_option maxHeartbeats 2000000 in
theorem rstray_ok (fs : List Fl) (r : Rec) (hf : fs.length ≤ 1000000) (hla : r.al.length ≤ 1000000) (hld : r.dl.length ≤ 1000000) : FnOK Try.prog 26 [.sl 6 (fs.map Fl.pv), .agg r.pv] ⟨.tup [.c (.sl 8 ((stray fs r).1.map Att.pv)), .c (ip (stray fs r).2)], none⟩ := by
  refine fn_ok Try.func26 (by kernel_rfl) rfl (by rw [Try.ntmps26]; exact of_decide_eq_true rfl) (fun F hF => ?_)
  rw [Try.ntmps26] at hF
  rw [Try.results26]
  repeat (first
    | ((first | with_reducible refine sops_go ?_ | with_reducible refine headW_end ?_ | with_reducible refine sops_end ?_ | with_reducible refine awp_if ?_ | with_reducible refine awp_skip ?_ | with_reducible refine awp_ret ?_ | with_reducible refine awp_exit ?_); simp only [go_sem, ↓reduceIte, Nat.reduceEqDiff, Nat.reduceLT, Nat.reduceLeDiff, Nat.reduceAdd, Nat.reduceMul, Nat.reduceSub, Nat.reduceBEq, reduceCtorEq, Int.reduceBNe, Int.reduceBEq, Int.reduceLT, Int.reduceLE, Int.reduceGT, Int.reduceGE, ne_eq, eq_self, hF])
    | ((with_reducible refine headW_go ?_); simp only [go_sem, ↓reduceIte, Nat.reduceEqDiff, Nat.reduceLT, Nat.reduceLeDiff, Nat.reduceAdd, Nat.reduceMul, Nat.reduceSub, Nat.reduceBEq, reduceCtorEq, Int.reduceBNe, Int.reduceBEq, Int.reduceLT, Int.reduceLE, Int.reduceGT, Int.reduceGE, ne_eq, eq_self, hF, hbx])
    | (with_reducible refine awp_seq_k (fun _ _ => ?_))
    | (refine awp_draw' (id := 11) [57] 12 (by kernel_rfl) (by kernel_rfl) rfl rfl (fun bx0 hbx => ?_); (try dsimp only [List.take_succ_cons, List.take_zero, List.take_nil, List.drop_succ_cons, List.drop_zero, List.drop_nil]))
    | (with_reducible refine awp_region [57] ?_)
    | (with_reducible refine awp_block ?_)
    | go_step)
  refine ⟨_, rfchk_ok fs r hf hla hld, ?_⟩
  simp only [go_sem, ↓reduceIte, Nat.reduceEqDiff, Nat.reduceLT, Nat.reduceLeDiff, Nat.reduceAdd, Nat.reduceMul, Nat.reduceSub, Nat.reduceBEq, reduceCtorEq, Int.reduceBNe, Int.reduceBEq, Int.reduceLT, Int.reduceLE, Int.reduceGT, Int.reduceGE, ne_eq, eq_self, hF]
  cases hr : right fs r with
  | false =>
    repeat (first
      | ((refine awp_nil (c := .ret) 4 8 66 (by rw [hF]; decide) (by first | rfl | simp only [Av.look]; rfl) ?_); simp only [go_sem, ↓reduceIte, Nat.reduceEqDiff, Nat.reduceLT, Nat.reduceLeDiff, Nat.reduceAdd, Nat.reduceMul, Nat.reduceSub, Nat.reduceBEq, reduceCtorEq, Int.reduceBNe, Int.reduceBEq, Int.reduceLT, Int.reduceLE, Int.reduceGT, Int.reduceGE, ne_eq, eq_self, hF, hr])
      | ((first | with_reducible refine sops_go ?_ | with_reducible refine headW_end ?_ | with_reducible refine sops_end ?_ | with_reducible refine awp_if ?_ | with_reducible refine awp_skip ?_ | with_reducible refine awp_ret ?_ | with_reducible refine awp_exit ?_); simp only [go_sem, ↓reduceIte, Nat.reduceEqDiff, Nat.reduceLT, Nat.reduceLeDiff, Nat.reduceAdd, Nat.reduceMul, Nat.reduceSub, Nat.reduceBEq, reduceCtorEq, Int.reduceBNe, Int.reduceBEq, Int.reduceLT, Int.reduceLE, Int.reduceGT, Int.reduceGE, ne_eq, eq_self, hF, hr])
      | ((with_reducible refine headW_go ?_); simp only [go_sem, ↓reduceIte, Nat.reduceEqDiff, Nat.reduceLT, Nat.reduceLeDiff, Nat.reduceAdd, Nat.reduceMul, Nat.reduceSub, Nat.reduceBEq, reduceCtorEq, Int.reduceBNe, Int.reduceBEq, Int.reduceLT, Int.reduceLE, Int.reduceGT, Int.reduceGE, ne_eq, eq_self, hF, hr, hbx])
      | (with_reducible refine awp_seq_k (fun _ _ => ?_))
      | (refine awp_draw' (id := 11) [57] 12 (by kernel_rfl) (by kernel_rfl) rfl rfl (fun bx0 hbx => ?_); (try dsimp only [List.take_succ_cons, List.take_zero, List.take_nil, List.drop_succ_cons, List.drop_zero, List.drop_nil]))
      | (with_reducible refine awp_region [57] ?_)
      | (with_reducible refine awp_block ?_)
      | go_step)
    rw [show stray fs r = ([], 1) from by rw [stray, hr]; rfl]
    try rfl
  | true =>
    repeat (first
      | ((first | with_reducible refine sops_go ?_ | with_reducible refine headW_end ?_ | with_reducible refine sops_end ?_ | with_reducible refine awp_if ?_ | with_reducible refine awp_skip ?_ | with_reducible refine awp_ret ?_ | with_reducible refine awp_exit ?_); simp only [go_sem, ↓reduceIte, Nat.reduceEqDiff, Nat.reduceLT, Nat.reduceLeDiff, Nat.reduceAdd, Nat.reduceMul, Nat.reduceSub, Nat.reduceBEq, reduceCtorEq, Int.reduceBNe, Int.reduceBEq, Int.reduceLT, Int.reduceLE, Int.reduceGT, Int.reduceGE, ne_eq, eq_self, hF, hr])
      | ((with_reducible refine headW_go ?_); simp only [go_sem, ↓reduceIte, Nat.reduceEqDiff, Nat.reduceLT, Nat.reduceLeDiff, Nat.reduceAdd, Nat.reduceMul, Nat.reduceSub, Nat.reduceBEq, reduceCtorEq, Int.reduceBNe, Int.reduceBEq, Int.reduceLT, Int.reduceLE, Int.reduceGT, Int.reduceGE, ne_eq, eq_self, hF, hr, hbx])
      | (with_reducible refine awp_seq_k (fun _ _ => ?_))
      | (refine awp_draw' (id := 11) [57] 12 (by kernel_rfl) (by kernel_rfl) rfl rfl (fun bx0 hbx => ?_); (try dsimp only [List.take_succ_cons, List.take_zero, List.take_nil, List.drop_succ_cons, List.drop_zero, List.drop_nil]))
      | (with_reducible refine awp_region [57] ?_)
      | (with_reducible refine awp_block ?_)
      | go_step)
    refine awp_nil 7 8 66 (by rw [hF]; decide) rfl ?_
    simp only [go_sem, ↓reduceIte, Nat.reduceEqDiff, Nat.reduceLT, Nat.reduceLeDiff, Nat.reduceAdd, Nat.reduceMul, Nat.reduceSub, Nat.reduceBEq, reduceCtorEq, Int.reduceBNe, Int.reduceBEq, Int.reduceLT, Int.reduceLE, Int.reduceGT, Int.reduceGE, ne_eq, eq_self, hF]
    repeat (first
      | ((first | with_reducible refine sops_go ?_ | with_reducible refine headW_end ?_ | with_reducible refine sops_end ?_ | with_reducible refine awp_if ?_ | with_reducible refine awp_skip ?_ | with_reducible refine awp_ret ?_ | with_reducible refine awp_exit ?_); simp only [go_sem, ↓reduceIte, Nat.reduceEqDiff, Nat.reduceLT, Nat.reduceLeDiff, Nat.reduceAdd, Nat.reduceMul, Nat.reduceSub, Nat.reduceBEq, reduceCtorEq, Int.reduceBNe, Int.reduceBEq, Int.reduceLT, Int.reduceLE, Int.reduceGT, Int.reduceGE, ne_eq, eq_self, hF])
      | ((with_reducible refine headW_go ?_); simp only [go_sem, ↓reduceIte, Nat.reduceEqDiff, Nat.reduceLT, Nat.reduceLeDiff, Nat.reduceAdd, Nat.reduceMul, Nat.reduceSub, Nat.reduceBEq, reduceCtorEq, Int.reduceBNe, Int.reduceBEq, Int.reduceLT, Int.reduceLE, Int.reduceGT, Int.reduceGE, ne_eq, eq_self, hF, hbx])
      | (with_reducible refine awp_seq_k (fun _ _ => ?_))
      | (refine awp_draw' (id := 11) [57] 12 (by kernel_rfl) (by kernel_rfl) rfl rfl (fun bx0 hbx => ?_); (try dsimp only [List.take_succ_cons, List.take_zero, List.take_nil, List.drop_succ_cons, List.drop_zero, List.drop_nil]))
      | (with_reducible refine awp_region [57] ?_)
      | (with_reducible refine awp_block ?_)
      | go_step)
    refine awp_loop_by (ι := {k : Nat // k ≤ r.al.length}) (fun k σ => ⟨(8, iv (k.1 : Int)) :: (7, .sl 8 (((r.al.take k.1).filter (fun a => !onWay fs a)).map Att.pv)) :: keepS [0, 3] σ.slot, σ.box, [(.s 7, (66, 8))], σ.ext⟩) (fun k => r.al.length - k.1) ⟨0, by omega⟩ (sub_mk ?_) (fun R hR k => ?_)
    · simp only [go_sem, ↓reduceIte, Nat.reduceEqDiff, Nat.reduceLT, Nat.reduceLeDiff, Nat.reduceAdd, Nat.reduceMul, Nat.reduceSub, Nat.reduceBEq, reduceCtorEq, Int.reduceBNe, Int.reduceBEq, Int.reduceLT, Int.reduceLE, Int.reduceGT, Int.reduceGE, ne_eq, eq_self, hF]
      repeat' (first | rfl | refine ⟨?_, ?_⟩)
    obtain ⟨k, hk⟩ := k
    dsimp only
    simp only [go_sem, ↓reduceIte, Nat.reduceEqDiff, Nat.reduceLT, Nat.reduceLeDiff, Nat.reduceAdd, Nat.reduceMul, Nat.reduceSub, Nat.reduceBEq, reduceCtorEq, Int.reduceBNe, Int.reduceBEq, Int.reduceLT, Int.reduceLE, Int.reduceGT, Int.reduceGE, ne_eq, eq_self, hF]
    by_cases hlt : k < r.al.length
    case neg =>
      have hd : decide ((k : Int) < (r.al.length : Int)) = false := decide_eq_false (by omega)
      obtain rfl : k = r.al.length := by omega
      rw [List.take_length]
      repeat (first
        | ((first | with_reducible refine sops_go ?_ | with_reducible refine headW_end ?_ | with_reducible refine sops_end ?_ | with_reducible refine awp_if ?_ | with_reducible refine awp_skip ?_ | with_reducible refine awp_ret ?_ | with_reducible refine awp_exit ?_); simp only [go_sem, ↓reduceIte, Nat.reduceEqDiff, Nat.reduceLT, Nat.reduceLeDiff, Nat.reduceAdd, Nat.reduceMul, Nat.reduceSub, Nat.reduceBEq, reduceCtorEq, Int.reduceBNe, Int.reduceBEq, Int.reduceLT, Int.reduceLE, Int.reduceGT, Int.reduceGE, ne_eq, eq_self, hF, hd])
        | ((with_reducible refine headW_go ?_); simp only [go_sem, ↓reduceIte, Nat.reduceEqDiff, Nat.reduceLT, Nat.reduceLeDiff, Nat.reduceAdd, Nat.reduceMul, Nat.reduceSub, Nat.reduceBEq, reduceCtorEq, Int.reduceBNe, Int.reduceBEq, Int.reduceLT, Int.reduceLE, Int.reduceGT, Int.reduceGE, ne_eq, eq_self, hF, hd, hbx])
        | (with_reducible refine awp_seq_k (fun _ _ => ?_))
        | (refine awp_draw' (id := 11) [57] 12 (by kernel_rfl) (by kernel_rfl) rfl rfl (fun bx0 hbx => ?_); (try dsimp only [List.take_succ_cons, List.take_zero, List.take_nil, List.drop_succ_cons, List.drop_zero, List.drop_nil]))
        | (with_reducible refine awp_region [57] ?_)
        | (with_reducible refine awp_block ?_)
        | go_step)
      rw [show stray fs r = (r.al.filter (fun a => !onWay fs a), 0) from by rw [stray, hr]; rfl]
      try rfl
    obtain ⟨d, hdk⟩ := get_of_lt hlt
    have hd : decide ((k : Int) < (r.al.length : Int)) = true := decide_eq_true (by omega)
    have hw : IntKind.i64.wrap ((k : Int) + 1) = ((k + 1 : Nat) : Int) := by rw [IntKind.wrap_i64]; omega
    have hL : (List.filter (fun a => !onWay fs a) (List.take k r.al)).length ≤ 99999999 := by
      have h1 := List.length_filter_le (fun a => !onWay fs a) (r.al.take k)
      have h2 : (r.al.take k).length ≤ k := by rw [List.length_take]; omega
      omega
    have hT : List.take (k + 1) r.al = List.take k r.al ++ [d] := by rw [List.take_add_one, hdk]; rfl
    repeat (first
      | ((first | with_reducible refine sops_go ?_ | with_reducible refine headW_end ?_ | with_reducible refine sops_end ?_ | with_reducible refine awp_if ?_ | with_reducible refine awp_skip ?_ | with_reducible refine awp_ret ?_ | with_reducible refine awp_exit ?_); simp only [go_sem, ↓reduceIte, Nat.reduceEqDiff, Nat.reduceLT, Nat.reduceLeDiff, Nat.reduceAdd, Nat.reduceMul, Nat.reduceSub, Nat.reduceBEq, reduceCtorEq, Int.reduceBNe, Int.reduceBEq, Int.reduceLT, Int.reduceLE, Int.reduceGT, Int.reduceGE, ne_eq, eq_self, hF, hd, hdk])
      | ((with_reducible refine headW_go ?_); simp only [go_sem, ↓reduceIte, Nat.reduceEqDiff, Nat.reduceLT, Nat.reduceLeDiff, Nat.reduceAdd, Nat.reduceMul, Nat.reduceSub, Nat.reduceBEq, reduceCtorEq, Int.reduceBNe, Int.reduceBEq, Int.reduceLT, Int.reduceLE, Int.reduceGT, Int.reduceGE, ne_eq, eq_self, hF, hd, hdk, hbx])
      | (with_reducible refine awp_seq_k (fun _ _ => ?_))
      | (refine awp_draw' (id := 11) [57] 12 (by kernel_rfl) (by kernel_rfl) rfl rfl (fun bx0 hbx => ?_); (try dsimp only [List.take_succ_cons, List.take_zero, List.take_nil, List.drop_succ_cons, List.drop_zero, List.drop_nil]))
      | (with_reducible refine awp_region [57] ?_)
      | (with_reducible refine awp_block ?_)
      | go_step)
    refine ⟨_, rfind_ok fs d.cl hf, ?_⟩
    simp only [go_sem, ↓reduceIte, Nat.reduceEqDiff, Nat.reduceLT, Nat.reduceLeDiff, Nat.reduceAdd, Nat.reduceMul, Nat.reduceSub, Nat.reduceBEq, reduceCtorEq, Int.reduceBNe, Int.reduceBEq, Int.reduceLT, Int.reduceLE, Int.reduceGT, Int.reduceGE, ne_eq, eq_self, hF]
    rcases findF_cases fs d.cl with ⟨hfi, hfn⟩ | ⟨j, g, hgj, hfi, hfn⟩
    case inl =>
      have hT1 : List.filter (fun a => !onWay fs a) (List.take (k + 1) r.al) = List.filter (fun a => !onWay fs a) (List.take k r.al) ++ [d] := by rw [hT, List.filter_append, List.filter_cons_of_pos (by simp only [onWay, hfn]; decide), List.filter_nil]
      repeat (first
        | ((first | with_reducible refine sops_go ?_ | with_reducible refine headW_end ?_ | with_reducible refine sops_end ?_ | with_reducible refine awp_if ?_ | with_reducible refine awp_skip ?_ | with_reducible refine awp_ret ?_ | with_reducible refine awp_exit ?_); simp only [go_sem, ↓reduceIte, Nat.reduceEqDiff, Nat.reduceLT, Nat.reduceLeDiff, Nat.reduceAdd, Nat.reduceMul, Nat.reduceSub, Nat.reduceBEq, reduceCtorEq, Int.reduceBNe, Int.reduceBEq, Int.reduceLT, Int.reduceLE, Int.reduceGT, Int.reduceGE, ne_eq, eq_self, hF, hfi, hL])
        | ((with_reducible refine headW_go ?_); simp only [go_sem, ↓reduceIte, Nat.reduceEqDiff, Nat.reduceLT, Nat.reduceLeDiff, Nat.reduceAdd, Nat.reduceMul, Nat.reduceSub, Nat.reduceBEq, reduceCtorEq, Int.reduceBNe, Int.reduceBEq, Int.reduceLT, Int.reduceLE, Int.reduceGT, Int.reduceGE, ne_eq, eq_self, hF, hfi, hL, hbx])
        | (with_reducible refine awp_seq_k (fun _ _ => ?_))
        | (refine awp_draw' (id := 11) [57] 12 (by kernel_rfl) (by kernel_rfl) rfl rfl (fun bx0 hbx => ?_); (try dsimp only [List.take_succ_cons, List.take_zero, List.take_nil, List.drop_succ_cons, List.drop_zero, List.drop_nil]))
        | (with_reducible refine awp_region [57] ?_)
        | (with_reducible refine awp_block ?_)
        | go_step)
      refine ⟨⟨k + 1, by omega⟩, by dsimp only; omega, hR _ _ (sub_mk ?_)⟩
      simp only [go_sem, ↓reduceIte, Nat.reduceEqDiff, Nat.reduceLT, Nat.reduceLeDiff, Nat.reduceAdd, Nat.reduceMul, Nat.reduceSub, Nat.reduceBEq, reduceCtorEq, Int.reduceBNe, Int.reduceBEq, Int.reduceLT, Int.reduceLE, Int.reduceGT, Int.reduceGE, ne_eq, eq_self, hF, hw, hT1, List.map_append]
    have hj0 : decide ((j : Int) ≥ 0) = true := decide_eq_true (by omega)
    repeat (first
      | ((first | with_reducible refine sops_go ?_ | with_reducible refine headW_end ?_ | with_reducible refine sops_end ?_ | with_reducible refine awp_if ?_ | with_reducible refine awp_skip ?_ | with_reducible refine awp_ret ?_ | with_reducible refine awp_exit ?_); simp only [go_sem, ↓reduceIte, Nat.reduceEqDiff, Nat.reduceLT, Nat.reduceLeDiff, Nat.reduceAdd, Nat.reduceMul, Nat.reduceSub, Nat.reduceBEq, reduceCtorEq, Int.reduceBNe, Int.reduceBEq, Int.reduceLT, Int.reduceLE, Int.reduceGT, Int.reduceGE, ne_eq, eq_self, hF, hfi, hj0, hgj])
      | ((with_reducible refine headW_go ?_); simp only [go_sem, ↓reduceIte, Nat.reduceEqDiff, Nat.reduceLT, Nat.reduceLeDiff, Nat.reduceAdd, Nat.reduceMul, Nat.reduceSub, Nat.reduceBEq, reduceCtorEq, Int.reduceBNe, Int.reduceBEq, Int.reduceLT, Int.reduceLE, Int.reduceGT, Int.reduceGE, ne_eq, eq_self, hF, hfi, hj0, hgj, hbx])
      | (with_reducible refine awp_seq_k (fun _ _ => ?_))
      | (refine awp_draw' (id := 11) [57] 12 (by kernel_rfl) (by kernel_rfl) rfl rfl (fun bx0 hbx => ?_); (try dsimp only [List.take_succ_cons, List.take_zero, List.take_nil, List.drop_succ_cons, List.drop_zero, List.drop_nil]))
      | (with_reducible refine awp_region [57] ?_)
      | (with_reducible refine awp_block ?_)
      | go_step)
    refine ⟨_, rcurrent_ok g d.s, ?_⟩
    simp only [go_sem, ↓reduceIte, Nat.reduceEqDiff, Nat.reduceLT, Nat.reduceLeDiff, Nat.reduceAdd, Nat.reduceMul, Nat.reduceSub, Nat.reduceBEq, reduceCtorEq, Int.reduceBNe, Int.reduceBEq, Int.reduceLT, Int.reduceLE, Int.reduceGT, Int.reduceGE, ne_eq, eq_self, hF]
    cases e1 : (cur g d.s).2 with
    | false =>
      have hT1 : List.filter (fun a => !onWay fs a) (List.take (k + 1) r.al) = List.filter (fun a => !onWay fs a) (List.take k r.al) ++ [d] := by rw [hT, List.filter_append, List.filter_cons_of_pos (by simp only [onWay, hfn]; rw [e1]; rfl), List.filter_nil]
      repeat (first
        | ((first | with_reducible refine sops_go ?_ | with_reducible refine headW_end ?_ | with_reducible refine sops_end ?_ | with_reducible refine awp_if ?_ | with_reducible refine awp_skip ?_ | with_reducible refine awp_ret ?_ | with_reducible refine awp_exit ?_); simp only [go_sem, ↓reduceIte, Nat.reduceEqDiff, Nat.reduceLT, Nat.reduceLeDiff, Nat.reduceAdd, Nat.reduceMul, Nat.reduceSub, Nat.reduceBEq, reduceCtorEq, Int.reduceBNe, Int.reduceBEq, Int.reduceLT, Int.reduceLE, Int.reduceGT, Int.reduceGE, ne_eq, eq_self, hF, e1, hL])
        | ((with_reducible refine headW_go ?_); simp only [go_sem, ↓reduceIte, Nat.reduceEqDiff, Nat.reduceLT, Nat.reduceLeDiff, Nat.reduceAdd, Nat.reduceMul, Nat.reduceSub, Nat.reduceBEq, reduceCtorEq, Int.reduceBNe, Int.reduceBEq, Int.reduceLT, Int.reduceLE, Int.reduceGT, Int.reduceGE, ne_eq, eq_self, hF, e1, hL, hbx])
        | (with_reducible refine awp_seq_k (fun _ _ => ?_))
        | (refine awp_draw' (id := 11) [57] 12 (by kernel_rfl) (by kernel_rfl) rfl rfl (fun bx0 hbx => ?_); (try dsimp only [List.take_succ_cons, List.take_zero, List.take_nil, List.drop_succ_cons, List.drop_zero, List.drop_nil]))
        | (with_reducible refine awp_region [57] ?_)
        | (with_reducible refine awp_block ?_)
        | go_step)
      refine ⟨⟨k + 1, by omega⟩, by dsimp only; omega, hR _ _ (sub_mk ?_)⟩
      simp only [go_sem, ↓reduceIte, Nat.reduceEqDiff, Nat.reduceLT, Nat.reduceLeDiff, Nat.reduceAdd, Nat.reduceMul, Nat.reduceSub, Nat.reduceBEq, reduceCtorEq, Int.reduceBNe, Int.reduceBEq, Int.reduceLT, Int.reduceLE, Int.reduceGT, Int.reduceGE, ne_eq, eq_self, hF, hw, hT1, List.map_append]
    | true =>
      cases e2 : ((cur g d.s).1 == d.f) with
      | false =>
        have hT1 : List.filter (fun a => !onWay fs a) (List.take (k + 1) r.al) = List.filter (fun a => !onWay fs a) (List.take k r.al) ++ [d] := by rw [hT, List.filter_append, List.filter_cons_of_pos (by simp only [onWay, hfn]; rw [e1, e2]; rfl), List.filter_nil]
        repeat (first
          | ((first | with_reducible refine sops_go ?_ | with_reducible refine headW_end ?_ | with_reducible refine sops_end ?_ | with_reducible refine awp_if ?_ | with_reducible refine awp_skip ?_ | with_reducible refine awp_ret ?_ | with_reducible refine awp_exit ?_); simp only [go_sem, ↓reduceIte, Nat.reduceEqDiff, Nat.reduceLT, Nat.reduceLeDiff, Nat.reduceAdd, Nat.reduceMul, Nat.reduceSub, Nat.reduceBEq, reduceCtorEq, Int.reduceBNe, Int.reduceBEq, Int.reduceLT, Int.reduceLE, Int.reduceGT, Int.reduceGE, ne_eq, eq_self, hF, e1, e2, hL])
          | ((with_reducible refine headW_go ?_); simp only [go_sem, ↓reduceIte, Nat.reduceEqDiff, Nat.reduceLT, Nat.reduceLeDiff, Nat.reduceAdd, Nat.reduceMul, Nat.reduceSub, Nat.reduceBEq, reduceCtorEq, Int.reduceBNe, Int.reduceBEq, Int.reduceLT, Int.reduceLE, Int.reduceGT, Int.reduceGE, ne_eq, eq_self, hF, e1, e2, hL, hbx])
          | (with_reducible refine awp_seq_k (fun _ _ => ?_))
          | (refine awp_draw' (id := 11) [57] 12 (by kernel_rfl) (by kernel_rfl) rfl rfl (fun bx0 hbx => ?_); (try dsimp only [List.take_succ_cons, List.take_zero, List.take_nil, List.drop_succ_cons, List.drop_zero, List.drop_nil]))
          | (with_reducible refine awp_region [57] ?_)
          | (with_reducible refine awp_block ?_)
          | go_step)
        refine ⟨⟨k + 1, by omega⟩, by dsimp only; omega, hR _ _ (sub_mk ?_)⟩
        simp only [go_sem, ↓reduceIte, Nat.reduceEqDiff, Nat.reduceLT, Nat.reduceLeDiff, Nat.reduceAdd, Nat.reduceMul, Nat.reduceSub, Nat.reduceBEq, reduceCtorEq, Int.reduceBNe, Int.reduceBEq, Int.reduceLT, Int.reduceLE, Int.reduceGT, Int.reduceGE, ne_eq, eq_self, hF, hw, hT1, List.map_append]
      | true =>
        have hT1 : List.filter (fun a => !onWay fs a) (List.take (k + 1) r.al) = List.filter (fun a => !onWay fs a) (List.take k r.al) := by rw [hT, List.filter_append, List.filter_cons_of_neg (by simp only [onWay, hfn]; rw [e1, e2]; decide), List.filter_nil, List.append_nil]
        repeat (first
          | ((first | with_reducible refine sops_go ?_ | with_reducible refine headW_end ?_ | with_reducible refine sops_end ?_ | with_reducible refine awp_if ?_ | with_reducible refine awp_skip ?_ | with_reducible refine awp_ret ?_ | with_reducible refine awp_exit ?_); simp only [go_sem, ↓reduceIte, Nat.reduceEqDiff, Nat.reduceLT, Nat.reduceLeDiff, Nat.reduceAdd, Nat.reduceMul, Nat.reduceSub, Nat.reduceBEq, reduceCtorEq, Int.reduceBNe, Int.reduceBEq, Int.reduceLT, Int.reduceLE, Int.reduceGT, Int.reduceGE, ne_eq, eq_self, hF, e1, e2, hL])
          | ((with_reducible refine headW_go ?_); simp only [go_sem, ↓reduceIte, Nat.reduceEqDiff, Nat.reduceLT, Nat.reduceLeDiff, Nat.reduceAdd, Nat.reduceMul, Nat.reduceSub, Nat.reduceBEq, reduceCtorEq, Int.reduceBNe, Int.reduceBEq, Int.reduceLT, Int.reduceLE, Int.reduceGT, Int.reduceGE, ne_eq, eq_self, hF, e1, e2, hL, hbx])
          | (with_reducible refine awp_seq_k (fun _ _ => ?_))
          | (refine awp_draw' (id := 11) [57] 12 (by kernel_rfl) (by kernel_rfl) rfl rfl (fun bx0 hbx => ?_); (try dsimp only [List.take_succ_cons, List.take_zero, List.take_nil, List.drop_succ_cons, List.drop_zero, List.drop_nil]))
          | (with_reducible refine awp_region [57] ?_)
          | (with_reducible refine awp_block ?_)
          | go_step)
        refine ⟨⟨k + 1, by omega⟩, by dsimp only; omega, hR _ _ (sub_mk ?_)⟩
        simp only [go_sem, ↓reduceIte, Nat.reduceEqDiff, Nat.reduceLT, Nat.reduceLeDiff, Nat.reduceAdd, Nat.reduceMul, Nat.reduceSub, Nat.reduceBEq, reduceCtorEq, Int.reduceBNe, Int.reduceBEq, Int.reduceLT, Int.reduceLE, Int.reduceGT, Int.reduceGE, ne_eq, eq_self, hF, hw, hT1, List.map_append]
end Go.Proofs.Ytkdigdnacggknaa
/- By abstract states: the reference of Serve. -/
namespace Go.Proofs.Ytkdigdnacggknaa
open Go.RowKit
open Nd Rc Mo
open Av
set_option maxRecDepth 100000
set_option linter.unusedSimpArgs false
attribute [local go_sem] Av.guardB Av.sop Av.hopx Av.hop Av.hopCall Av.hopF Av.hopB Av.evo Av.evos Av.avCells Av.loadK Av.bound Av.abin Av.aun Av.partsC Av.lfill Av.placesB Av.setAt Av.stl Av.takes Av.src Av.bxOf Av.ownOf Av.St.res Av.St.put Av.St.addBox Av.St.putOwn Av.delL Av.delS Av.look Av.lookL Av.storeSt Av.stealSt Av.St.setBox Av.keepL Av.hitB Av.snap Av.snaps Av.snapCaps Av.AV.lit Av.AV.refs Av.capRefs Av.PV.av Av.CV.av Av.startSt Av.steals Av.athen Av.ablock Av.appK Av.AllS Av.AllO Av.AllR Av.keepS Av.St.avAt Av.RetOK Av.retAll Av.retOne Av.intsOf Av.ptrB Av.appB Av.appSt TypeDesc.isRow List.range_zero Option.some.injEq exists_eq_left' exists_eq_left exists_eq' exists_and_left exists_and_right exists_const true_and and_true and_self false_and and_false or_false false_or or_true true_or if_true if_false Bool.false_eq_true List.zipIdx_cons List.zipIdx_nil List.map_cons List.map_nil List.filter_cons List.filter_nil List.contains_cons List.contains_nil List.drop_succ_cons List.drop_zero List.take_succ_cons List.take_zero List.take_nil List.drop_nil List.length_cons List.length_nil List.cons_append List.nil_append List.append_nil List.getElem?_cons_zero List.getElem?_cons_succ List.getElem?_nil Option.bind_some Option.bind_none Option.map_some Option.map_none Option.isNone_none Option.isNone_some Option.isSome_some Option.isSome_none Bool.and_true Bool.true_and Bool.and_false Bool.false_and Bool.or_false Bool.false_or Bool.not_true Bool.not_false beq_true beq_false Bool.true_beq Bool.false_beq Loc.s.injEq Loc.b.injEq decide_true decide_false beq_self_eq_true Nat.zero_add Nat.add_zero List.getElem?_toArray List.toList_toArray List.size_toArray Value.oneCell' List.all_cons List.all_nil Value.int.injEq AV.v.injEq AV.sl.injEq AV.agg.injEq AV.ref.injEq AV.ept.injEq AV.tup.injEq Value.bool.injEq PV.v.injEq PV.sl.injEq List.isEmpty_nil List.isEmpty_cons forall_const not_true_eq_false not_false_eq_true true_implies false_implies Value.string.injEq List.length_map List.getElem?_map Int.toNat_natCast Int.natCast_nonneg List.length_append Value.cells implies_true TypeDesc.struct.injEq TypeDesc.slice.injEq TypeDesc.array.injEq List.getElem?_toArray Prod.mk.injEq and_assoc exists_false List.cons.injEq Operand.tmp.injEq ite_self AV.fnv.injEq AV.clo.injEq Try.sz3 Try.zr3 Try.by3 Try.pl3 Try.is3 Try.underlying3 Try.sz4 Try.zr4 Try.by4 Try.pl4 Try.is4 Try.underlying4 Try.sz32 Try.zr32 Try.by32 Try.pl32 Try.is32 Try.underlying32 Try.sz28 Try.zr28 Try.by28 Try.pl28 Try.is28 Try.underlying28 Try.sz26 Try.zr26 Try.by26 Try.pl26 Try.is26 Try.underlying26 Try.sz37 Try.zr37 Try.by37 Try.pl37 Try.is37 Try.underlying37 Try.sz68 Try.zr68 Try.by68 Try.pl68 Try.is68 Try.underlying68 Try.sz57 Try.zr57 Try.by57 Try.pl57 Try.is57 Try.underlying57 Try.sz70 Try.zr70 Try.by70 Try.pl70 Try.is70 Try.underlying70 Try.sz54 Try.zr54 Try.by54 Try.pl54 Try.is54 Try.underlying54 Try.sz66 Try.zr66 Try.by66 Try.pl66 Try.is66 Try.underlying66 Try.sz64 Try.zr64 Try.by64 Try.pl64 Try.is64 Try.underlying64 Try.sz73 Try.zr73 Try.by73 Try.pl73 Try.is73 Try.underlying73 Try.sz102 Try.zr102 Try.by102 Try.pl102 Try.is102 Try.underlying102 Try.sz105 Try.zr105 Try.by105 Try.pl105 Try.is105 Try.underlying105 Try.sz44 Try.zr44 Try.by44 Try.pl44 Try.is44 Try.underlying44 Try.sz22 Try.zr22 Try.by22 Try.pl22 Try.is22 Try.underlying22 Try.sz31 Try.zr31 Try.by31 Try.pl31 Try.is31 Try.underlying31 Try.sz23 Try.zr23 Try.by23 Try.pl23 Try.is23 Try.underlying23 Try.sz24 Try.zr24 Try.by24 Try.pl24 Try.is24 Try.underlying24 Try.sz46 Try.zr46 Try.by46 Try.pl46 Try.is46 Try.underlying46 Try.sz41 Try.zr41 Try.by41 Try.pl41 Try.is41 Try.underlying41 Try.sz42 Try.zr42 Try.by42 Try.pl42 Try.is42 Try.underlying42 Try.sz40 Try.zr40 Try.by40 Try.pl40 Try.is40 Try.underlying40 Try.it68 Try.eg68 Try.it54 Try.eg54 Try.it66 Try.eg66 Try.it57 Try.eg57 Try.it37 Try.eg37 Try.it73 Try.eg73 all_arr loc_ss loc_sb loc_bs loc_bb arr_two arr_one rg1 rg2 rg3 rg4 rg5 rg6 rg7 rg8 ResultVar.tmp.injEq Bool.not_true Bool.not_false undef Rc.Rec.pv Nd.Fl.pv Rc.Dlv.pv Rc.Att.pv Mo.Lt.pv Mo.Sv.pv Mo.Sv.zero

theorem serve_of {fs : List Fl} {r : Rec} {x : Int} {f : Fl} (hr : right fs r = true) (hf : fs.find? (fun f => f.id == x) = some f) : Mo.serve fs r x = (serveF f r, 0) := by
  unfold Mo.serve
  rw [if_pos hr, hf]
theorem serve_none {fs : List Fl} {r : Rec} {x : Int} (hr : right fs r = true) (hf : fs.find? (fun f => f.id == x) = none) : Mo.serve fs r x = (Sv.zero, 7) := by
  unfold Mo.serve
  rw [if_pos hr, hf]
theorem serve_bad {fs : List Fl} {r : Rec} {x : Int} (hr : right fs r = false) : Mo.serve fs r x = (Sv.zero, 1) := by
  unfold Mo.serve
  rw [if_neg (by rw [hr]; decide)]

set_option maxHeartbeats 20000000 in
theorem rserve_ok (fs : List Fl) (r : Rec) (x : Int) (hf : fs.length ≤ 1000000) (hla : r.al.length ≤ 1000000) (hld : r.dl.length ≤ 1000000) : FnOK Try.prog 24 [.sl 6 (fs.map Fl.pv), .agg r.pv, iv x] ⟨.tup [.g (Mo.serve fs r x).1.pv, .c (ip (Mo.serve fs r x).2)], none⟩ := by
  refine fn_ok Try.func24 (by kernel_rfl) rfl (by rw [Try.ntmps24]; exact of_decide_eq_true rfl) (fun F hF => ?_)
  rw [Try.ntmps24] at hF
  rw [Try.results24]
  repeat (first
    | ((first | with_reducible refine sops_go ?_ | with_reducible refine headW_end ?_ | with_reducible refine sops_end ?_ | with_reducible refine awp_if ?_ | with_reducible refine awp_skip ?_ | with_reducible refine awp_ret ?_ | with_reducible refine awp_exit ?_); simp only [go_sem, ↓reduceIte, Nat.reduceEqDiff, Nat.reduceLT, Nat.reduceLeDiff, Nat.reduceAdd, Nat.reduceMul, Nat.reduceSub, Nat.reduceBEq, reduceCtorEq, Int.reduceBNe, Int.reduceBEq, Int.reduceLT, Int.reduceLE, Int.reduceGT, Int.reduceGE, ne_eq, eq_self, hF])
    | ((with_reducible refine headW_go ?_); simp only [go_sem, ↓reduceIte, Nat.reduceEqDiff, Nat.reduceLT, Nat.reduceLeDiff, Nat.reduceAdd, Nat.reduceMul, Nat.reduceSub, Nat.reduceBEq, reduceCtorEq, Int.reduceBNe, Int.reduceBEq, Int.reduceLT, Int.reduceLE, Int.reduceGT, Int.reduceGE, ne_eq, eq_self, hF, hbx])
    | (with_reducible refine awp_seq_k (fun _ _ => ?_))
    | (refine awp_draw' (id := 10) [] 9 (by kernel_rfl) (by kernel_rfl) rfl rfl (fun bx0 hbx => ?_); (try dsimp only [List.take_succ_cons, List.take_zero, List.take_nil, List.drop_succ_cons, List.drop_zero, List.drop_nil]))
    | (with_reducible refine awp_region [] ?_)
    | (with_reducible refine awp_block ?_)
    | go_step)
  refine ⟨_, rfchk_ok fs r hf hla hld, ?_⟩
  simp only [go_sem, ↓reduceIte, Nat.reduceEqDiff, Nat.reduceLT, Nat.reduceLeDiff, Nat.reduceAdd, Nat.reduceMul, Nat.reduceSub, Nat.reduceBEq, reduceCtorEq, Int.reduceBNe, Int.reduceBEq, Int.reduceLT, Int.reduceLE, Int.reduceGT, Int.reduceGE, ne_eq, eq_self, hF]
  cases hr : right fs r with
  | false =>
    have hr1 : (if right fs r = true then (0 : Int) else 1) = 1 := by rw [hr]; rfl
    repeat (first
      | ((first | with_reducible refine sops_go ?_ | with_reducible refine headW_end ?_ | with_reducible refine sops_end ?_ | with_reducible refine awp_if ?_ | with_reducible refine awp_skip ?_ | with_reducible refine awp_ret ?_ | with_reducible refine awp_exit ?_); simp only [go_sem, ↓reduceIte, Nat.reduceEqDiff, Nat.reduceLT, Nat.reduceLeDiff, Nat.reduceAdd, Nat.reduceMul, Nat.reduceSub, Nat.reduceBEq, reduceCtorEq, Int.reduceBNe, Int.reduceBEq, Int.reduceLT, Int.reduceLE, Int.reduceGT, Int.reduceGE, ne_eq, eq_self, hF, hr])
      | ((with_reducible refine headW_go ?_); simp only [go_sem, ↓reduceIte, Nat.reduceEqDiff, Nat.reduceLT, Nat.reduceLeDiff, Nat.reduceAdd, Nat.reduceMul, Nat.reduceSub, Nat.reduceBEq, reduceCtorEq, Int.reduceBNe, Int.reduceBEq, Int.reduceLT, Int.reduceLE, Int.reduceGT, Int.reduceGE, ne_eq, eq_self, hF, hr, hbx])
      | (with_reducible refine awp_seq_k (fun _ _ => ?_))
      | (refine awp_draw' (id := 10) [] 9 (by kernel_rfl) (by kernel_rfl) rfl rfl (fun bx0 hbx => ?_); (try dsimp only [List.take_succ_cons, List.take_zero, List.take_nil, List.drop_succ_cons, List.drop_zero, List.drop_nil]))
      | (with_reducible refine awp_region [] ?_)
      | (with_reducible refine awp_block ?_)
      | go_step)
    rw [serve_bad hr]
    rfl
  | true =>
    repeat (first
      | ((first | with_reducible refine sops_go ?_ | with_reducible refine headW_end ?_ | with_reducible refine sops_end ?_ | with_reducible refine awp_if ?_ | with_reducible refine awp_skip ?_ | with_reducible refine awp_ret ?_ | with_reducible refine awp_exit ?_); simp only [go_sem, ↓reduceIte, Nat.reduceEqDiff, Nat.reduceLT, Nat.reduceLeDiff, Nat.reduceAdd, Nat.reduceMul, Nat.reduceSub, Nat.reduceBEq, reduceCtorEq, Int.reduceBNe, Int.reduceBEq, Int.reduceLT, Int.reduceLE, Int.reduceGT, Int.reduceGE, ne_eq, eq_self, hF, hr])
      | ((with_reducible refine headW_go ?_); simp only [go_sem, ↓reduceIte, Nat.reduceEqDiff, Nat.reduceLT, Nat.reduceLeDiff, Nat.reduceAdd, Nat.reduceMul, Nat.reduceSub, Nat.reduceBEq, reduceCtorEq, Int.reduceBNe, Int.reduceBEq, Int.reduceLT, Int.reduceLE, Int.reduceGT, Int.reduceGE, ne_eq, eq_self, hF, hr, hbx])
      | (with_reducible refine awp_seq_k (fun _ _ => ?_))
      | (refine awp_draw' (id := 10) [] 9 (by kernel_rfl) (by kernel_rfl) rfl rfl (fun bx0 hbx => ?_); (try dsimp only [List.take_succ_cons, List.take_zero, List.take_nil, List.drop_succ_cons, List.drop_zero, List.drop_nil]))
      | (with_reducible refine awp_region [] ?_)
      | (with_reducible refine awp_block ?_)
      | go_step)
    refine ⟨_, rfind_ok fs x hf, ?_⟩
    simp only [go_sem, ↓reduceIte, Nat.reduceEqDiff, Nat.reduceLT, Nat.reduceLeDiff, Nat.reduceAdd, Nat.reduceMul, Nat.reduceSub, Nat.reduceBEq, reduceCtorEq, Int.reduceBNe, Int.reduceBEq, Int.reduceLT, Int.reduceLE, Int.reduceGT, Int.reduceGE, ne_eq, eq_self, hF]
    rcases findF_cases fs x with ⟨hff, hfn⟩ | ⟨i, g, hgi, hff, hfn⟩
    case inl =>
      repeat (first
        | ((first | with_reducible refine sops_go ?_ | with_reducible refine headW_end ?_ | with_reducible refine sops_end ?_ | with_reducible refine awp_if ?_ | with_reducible refine awp_skip ?_ | with_reducible refine awp_ret ?_ | with_reducible refine awp_exit ?_); simp only [go_sem, ↓reduceIte, Nat.reduceEqDiff, Nat.reduceLT, Nat.reduceLeDiff, Nat.reduceAdd, Nat.reduceMul, Nat.reduceSub, Nat.reduceBEq, reduceCtorEq, Int.reduceBNe, Int.reduceBEq, Int.reduceLT, Int.reduceLE, Int.reduceGT, Int.reduceGE, ne_eq, eq_self, hF, hff])
        | ((with_reducible refine headW_go ?_); simp only [go_sem, ↓reduceIte, Nat.reduceEqDiff, Nat.reduceLT, Nat.reduceLeDiff, Nat.reduceAdd, Nat.reduceMul, Nat.reduceSub, Nat.reduceBEq, reduceCtorEq, Int.reduceBNe, Int.reduceBEq, Int.reduceLT, Int.reduceLE, Int.reduceGT, Int.reduceGE, ne_eq, eq_self, hF, hff, hbx])
        | (with_reducible refine awp_seq_k (fun _ _ => ?_))
        | (refine awp_draw' (id := 10) [] 9 (by kernel_rfl) (by kernel_rfl) rfl rfl (fun bx0 hbx => ?_); (try dsimp only [List.take_succ_cons, List.take_zero, List.take_nil, List.drop_succ_cons, List.drop_zero, List.drop_nil]))
        | (with_reducible refine awp_region [] ?_)
        | (with_reducible refine awp_block ?_)
        | go_step)
      rw [serve_none hr hfn]
      rfl
    obtain ⟨hc, hg⟩ := right_inv hr
    have hfa := (chkF_ok hc).1 g (List.mem_of_getElem? hgi)
    obtain ⟨hs0, hs1⟩ := good_slots hg
    obtain ⟨b1, b2, b3, b4, b5, b6, _⟩ := fault_zero hfa
    have hcb := complete_bounds hfa hs1
    obtain ⟨C, hC⟩ : ∃ C : Nat, C = (complete g r.slots).toNat := ⟨_, rfl⟩
    have hCi : complete g r.slots = (C : Int) := by rw [hC]; omega
    have hCl : C ≤ 4096 := by omega
    have hi0 : decide ((i : Int) < 0) = false := decide_eq_false (by omega)
    have hdp : ∀ d ∈ r.dl, 0 ≤ d.sl := fun d hd => (good_dlv hg hd).1
    repeat (first
      | ((first | with_reducible refine sops_go ?_ | with_reducible refine headW_end ?_ | with_reducible refine sops_end ?_ | with_reducible refine awp_if ?_ | with_reducible refine awp_skip ?_ | with_reducible refine awp_ret ?_ | with_reducible refine awp_exit ?_); simp only [go_sem, ↓reduceIte, Nat.reduceEqDiff, Nat.reduceLT, Nat.reduceLeDiff, Nat.reduceAdd, Nat.reduceMul, Nat.reduceSub, Nat.reduceBEq, reduceCtorEq, Int.reduceBNe, Int.reduceBEq, Int.reduceLT, Int.reduceLE, Int.reduceGT, Int.reduceGE, ne_eq, eq_self, hF, hff, hi0, hgi])
      | ((with_reducible refine headW_go ?_); simp only [go_sem, ↓reduceIte, Nat.reduceEqDiff, Nat.reduceLT, Nat.reduceLeDiff, Nat.reduceAdd, Nat.reduceMul, Nat.reduceSub, Nat.reduceBEq, reduceCtorEq, Int.reduceBNe, Int.reduceBEq, Int.reduceLT, Int.reduceLE, Int.reduceGT, Int.reduceGE, ne_eq, eq_self, hF, hff, hi0, hgi, hbx])
      | (with_reducible refine awp_seq_k (fun _ _ => ?_))
      | (refine awp_draw' (id := 10) [] 9 (by kernel_rfl) (by kernel_rfl) rfl rfl (fun bx0 hbx => ?_); (try dsimp only [List.take_succ_cons, List.take_zero, List.take_nil, List.drop_succ_cons, List.drop_zero, List.drop_nil]))
      | (with_reducible refine awp_region [] ?_)
      | (with_reducible refine awp_block ?_)
      | go_step)
    refine awp_loop_by (ι := {k : Nat // k ≤ C}) (fun k σ => ⟨(12, iv (k.1 : Int)) :: keepS [2, 4, 6, 7, 10, 11] σ.slot, (11, [ip (k.1 : Int), ip (svGo g r.dl k.1).1, ip (svGo g r.dl k.1).2.1, ip (svGo g r.dl k.1).2.2, ip 0, ip 0]) :: (10, g.pv) :: (6, [ip 0, ip 0, ip 0, ip 0, ip 0, ip 0]) :: [(4, r.pv)], [], σ.ext⟩) (fun k => C - k.1) ⟨0, Nat.zero_le _⟩ (sub_mk ?_) (fun R hR k => ?_)
    · simp only [go_sem, ↓reduceIte, Nat.reduceEqDiff, Nat.reduceLT, Nat.reduceLeDiff, Nat.reduceAdd, Nat.reduceMul, Nat.reduceSub, Nat.reduceBEq, reduceCtorEq, Int.reduceBNe, Int.reduceBEq, Int.reduceLT, Int.reduceLE, Int.reduceGT, Int.reduceGE, ne_eq, eq_self, hF]
      repeat' (first | rfl | refine ⟨?_, ?_⟩)
    obtain ⟨k, hk⟩ := k
    dsimp only
    have hrb : 0 ≤ rel g (k : Int) ∧ rel g (k : Int) ≤ 3000000 := by
      unfold rel
      have h1 : (k : Int) * g.pe ≤ 4096 * 512 := Int.mul_le_mul (by omega) (by omega) (by omega) (by omega)
      have h2 : 0 ≤ (k : Int) * g.pe := Int.mul_nonneg (by omega) (by omega)
      omega
    have hw1 : IntKind.i64.wrap (rel g (k : Int) + g.dl) = rel g (k : Int) + g.dl := by rw [IntKind.wrap_i64]; omega
    have hw2 : IntKind.i64.wrap (rel g (k : Int) + g.dl - 1) = rel g (k : Int) + g.dl - 1 := by rw [IntKind.wrap_i64]; omega
    have hw : IntKind.i64.wrap ((k : Int) + 1) = ((k + 1 : Nat) : Int) := by rw [IntKind.wrap_i64]; omega
    have hci := complete_iff hfa r.slots k
    simp only [go_sem, ↓reduceIte, Nat.reduceEqDiff, Nat.reduceLT, Nat.reduceLeDiff, Nat.reduceAdd, Nat.reduceMul, Nat.reduceSub, Nat.reduceBEq, reduceCtorEq, Int.reduceBNe, Int.reduceBEq, Int.reduceLT, Int.reduceLE, Int.reduceGT, Int.reduceGE, ne_eq, eq_self, hF]
    repeat (first
      | ((first | with_reducible refine sops_go ?_ | with_reducible refine headW_end ?_ | with_reducible refine sops_end ?_ | with_reducible refine awp_if ?_ | with_reducible refine awp_skip ?_ | with_reducible refine awp_ret ?_ | with_reducible refine awp_exit ?_); simp only [go_sem, ↓reduceIte, Nat.reduceEqDiff, Nat.reduceLT, Nat.reduceLeDiff, Nat.reduceAdd, Nat.reduceMul, Nat.reduceSub, Nat.reduceBEq, reduceCtorEq, Int.reduceBNe, Int.reduceBEq, Int.reduceLT, Int.reduceLE, Int.reduceGT, Int.reduceGE, ne_eq, eq_self, hF])
      | ((with_reducible refine headW_go ?_); simp only [go_sem, ↓reduceIte, Nat.reduceEqDiff, Nat.reduceLT, Nat.reduceLeDiff, Nat.reduceAdd, Nat.reduceMul, Nat.reduceSub, Nat.reduceBEq, reduceCtorEq, Int.reduceBNe, Int.reduceBEq, Int.reduceLT, Int.reduceLE, Int.reduceGT, Int.reduceGE, ne_eq, eq_self, hF, hbx])
      | (with_reducible refine awp_seq_k (fun _ _ => ?_))
      | (refine awp_draw' (id := 10) [] 9 (by kernel_rfl) (by kernel_rfl) rfl rfl (fun bx0 hbx => ?_); (try dsimp only [List.take_succ_cons, List.take_zero, List.take_nil, List.drop_succ_cons, List.drop_zero, List.drop_nil]))
      | (with_reducible refine awp_region [] ?_)
      | (with_reducible refine awp_block ?_)
      | go_step)
    refine ⟨_, rrel_ok g k hfa (by omega) (by omega), ?_⟩
    simp only [go_sem, ↓reduceIte, Nat.reduceEqDiff, Nat.reduceLT, Nat.reduceLeDiff, Nat.reduceAdd, Nat.reduceMul, Nat.reduceSub, Nat.reduceBEq, reduceCtorEq, Int.reduceBNe, Int.reduceBEq, Int.reduceLT, Int.reduceLE, Int.reduceGT, Int.reduceGE, ne_eq, eq_self, hF]
    by_cases hlt : k < C
    case neg =>
      have hd : decide (rel g (k : Int) + g.dl ≤ r.slots) = false := decide_eq_false (by omega)
      obtain rfl : k = C := by omega
      repeat (first
        | ((first | with_reducible refine sops_go ?_ | with_reducible refine headW_end ?_ | with_reducible refine sops_end ?_ | with_reducible refine awp_if ?_ | with_reducible refine awp_skip ?_ | with_reducible refine awp_ret ?_ | with_reducible refine awp_exit ?_); simp only [go_sem, ↓reduceIte, Nat.reduceEqDiff, Nat.reduceLT, Nat.reduceLeDiff, Nat.reduceAdd, Nat.reduceMul, Nat.reduceSub, Nat.reduceBEq, reduceCtorEq, Int.reduceBNe, Int.reduceBEq, Int.reduceLT, Int.reduceLE, Int.reduceGT, Int.reduceGE, ne_eq, eq_self, hF, hw1, hd])
        | ((with_reducible refine headW_go ?_); simp only [go_sem, ↓reduceIte, Nat.reduceEqDiff, Nat.reduceLT, Nat.reduceLeDiff, Nat.reduceAdd, Nat.reduceMul, Nat.reduceSub, Nat.reduceBEq, reduceCtorEq, Int.reduceBNe, Int.reduceBEq, Int.reduceLT, Int.reduceLE, Int.reduceGT, Int.reduceGE, ne_eq, eq_self, hF, hw1, hd, hbx])
        | (with_reducible refine awp_seq_k (fun _ _ => ?_))
        | (refine awp_draw' (id := 10) [] 9 (by kernel_rfl) (by kernel_rfl) rfl rfl (fun bx0 hbx => ?_); (try dsimp only [List.take_succ_cons, List.take_zero, List.take_nil, List.drop_succ_cons, List.drop_zero, List.drop_nil]))
        | (with_reducible refine awp_region [] ?_)
        | (with_reducible refine awp_block ?_)
        | go_step)
      refine awp_loop_by (ι := {j : Nat // j ≤ r.al.length}) (fun j σ => ⟨(16, iv (j.1 : Int)) :: keepS [2, 4, 6, 7, 11] σ.slot, (11, [ip (k : Int), ip (svGo g r.dl k).1, ip (svGo g r.dl k).2.1, ip (svGo g r.dl k).2.2, ip (cntAtt (r.al.take j.1) x), ip (cntLost (r.al.take j.1) x)]) :: (6, [ip 0, ip 0, ip 0, ip 0, ip 0, ip 0]) :: [(4, r.pv)], [], σ.ext⟩) (fun j => r.al.length - j.1) ⟨0, Nat.zero_le _⟩ (sub_mk ?_) (fun R2 hR2 j => ?_)
      · simp only [go_sem, ↓reduceIte, Nat.reduceEqDiff, Nat.reduceLT, Nat.reduceLeDiff, Nat.reduceAdd, Nat.reduceMul, Nat.reduceSub, Nat.reduceBEq, reduceCtorEq, Int.reduceBNe, Int.reduceBEq, Int.reduceLT, Int.reduceLE, Int.reduceGT, Int.reduceGE, ne_eq, eq_self, hF]
        repeat' (first | rfl | refine ⟨?_, ?_⟩)
      obtain ⟨j, hj⟩ := j
      dsimp only
      simp only [go_sem, ↓reduceIte, Nat.reduceEqDiff, Nat.reduceLT, Nat.reduceLeDiff, Nat.reduceAdd, Nat.reduceMul, Nat.reduceSub, Nat.reduceBEq, reduceCtorEq, Int.reduceBNe, Int.reduceBEq, Int.reduceLT, Int.reduceLE, Int.reduceGT, Int.reduceGE, ne_eq, eq_self, hF]
      have hcn := cnt_bounds r.al x j
      by_cases hjt : j < r.al.length
      case neg =>
        have hdj : decide ((j : Int) < (r.al.length : Int)) = false := decide_eq_false (by omega)
        obtain rfl : j = r.al.length := by omega
        rw [List.take_length]
        repeat (first
          | ((first | with_reducible refine sops_go ?_ | with_reducible refine headW_end ?_ | with_reducible refine sops_end ?_ | with_reducible refine awp_if ?_ | with_reducible refine awp_skip ?_ | with_reducible refine awp_ret ?_ | with_reducible refine awp_exit ?_); simp only [go_sem, ↓reduceIte, Nat.reduceEqDiff, Nat.reduceLT, Nat.reduceLeDiff, Nat.reduceAdd, Nat.reduceMul, Nat.reduceSub, Nat.reduceBEq, reduceCtorEq, Int.reduceBNe, Int.reduceBEq, Int.reduceLT, Int.reduceLE, Int.reduceGT, Int.reduceGE, ne_eq, eq_self, hF, hdj])
          | ((with_reducible refine headW_go ?_); simp only [go_sem, ↓reduceIte, Nat.reduceEqDiff, Nat.reduceLT, Nat.reduceLeDiff, Nat.reduceAdd, Nat.reduceMul, Nat.reduceSub, Nat.reduceBEq, reduceCtorEq, Int.reduceBNe, Int.reduceBEq, Int.reduceLT, Int.reduceLE, Int.reduceGT, Int.reduceGE, ne_eq, eq_self, hF, hdj, hbx])
          | (with_reducible refine awp_seq_k (fun _ _ => ?_))
          | (refine awp_draw' (id := 10) [] 9 (by kernel_rfl) (by kernel_rfl) rfl rfl (fun bx0 hbx => ?_); (try dsimp only [List.take_succ_cons, List.take_zero, List.take_nil, List.drop_succ_cons, List.drop_zero, List.drop_nil]))
          | (with_reducible refine awp_region [] ?_)
          | (with_reducible refine awp_block ?_)
          | go_step)
        have hgx : g.id = x := by have := List.find?_some hfn; simpa using this
        rw [serve_of hr hfn]
        unfold serveF
        dsimp only
        rw [hCi, Int.toNat_natCast, hgx]
      obtain ⟨d, hdk⟩ := get_of_lt hjt
      have hdj : decide ((j : Int) < (r.al.length : Int)) = true := decide_eq_true (by omega)
      have hwj : IntKind.i64.wrap ((j : Int) + 1) = ((j + 1 : Nat) : Int) := by rw [IntKind.wrap_i64]; omega
      have hwa : IntKind.i64.wrap (cntAtt (r.al.take j) x + 1) = cntAtt (r.al.take j) x + 1 := by rw [IntKind.wrap_i64]; omega
      have hwb : IntKind.i64.wrap (cntLost (r.al.take j) x + 1) = cntLost (r.al.take j) x + 1 := by rw [IntKind.wrap_i64]; omega
      have hsa := cntAtt_succ hdk x
      have hsb := cntLost_succ hdk x
      cases e1 : (d.cl == x) with
      | false =>
        have f1 : (d.cl != x) = true := by rw [bne, e1]; rfl
        have hsa1 : cntAtt (r.al.take (j + 1)) x = cntAtt (r.al.take j) x := by rw [hsa, e1]; simp
        have hsb1 : cntLost (r.al.take (j + 1)) x = cntLost (r.al.take j) x := by rw [hsb, e1]; simp
        repeat (first
          | ((first | with_reducible refine sops_go ?_ | with_reducible refine headW_end ?_ | with_reducible refine sops_end ?_ | with_reducible refine awp_if ?_ | with_reducible refine awp_skip ?_ | with_reducible refine awp_ret ?_ | with_reducible refine awp_exit ?_); simp only [go_sem, ↓reduceIte, Nat.reduceEqDiff, Nat.reduceLT, Nat.reduceLeDiff, Nat.reduceAdd, Nat.reduceMul, Nat.reduceSub, Nat.reduceBEq, reduceCtorEq, Int.reduceBNe, Int.reduceBEq, Int.reduceLT, Int.reduceLE, Int.reduceGT, Int.reduceGE, ne_eq, eq_self, hF, hdj, hdk, f1])
          | ((with_reducible refine headW_go ?_); simp only [go_sem, ↓reduceIte, Nat.reduceEqDiff, Nat.reduceLT, Nat.reduceLeDiff, Nat.reduceAdd, Nat.reduceMul, Nat.reduceSub, Nat.reduceBEq, reduceCtorEq, Int.reduceBNe, Int.reduceBEq, Int.reduceLT, Int.reduceLE, Int.reduceGT, Int.reduceGE, ne_eq, eq_self, hF, hdj, hdk, f1, hbx])
          | (with_reducible refine awp_seq_k (fun _ _ => ?_))
          | (refine awp_draw' (id := 10) [] 9 (by kernel_rfl) (by kernel_rfl) rfl rfl (fun bx0 hbx => ?_); (try dsimp only [List.take_succ_cons, List.take_zero, List.take_nil, List.drop_succ_cons, List.drop_zero, List.drop_nil]))
          | (with_reducible refine awp_region [] ?_)
          | (with_reducible refine awp_block ?_)
          | go_step)
        refine ⟨⟨j + 1, by omega⟩, by dsimp only; omega, hR2 _ _ (sub_mk ?_)⟩
        simp only [go_sem, ↓reduceIte, Nat.reduceEqDiff, Nat.reduceLT, Nat.reduceLeDiff, Nat.reduceAdd, Nat.reduceMul, Nat.reduceSub, Nat.reduceBEq, reduceCtorEq, Int.reduceBNe, Int.reduceBEq, Int.reduceLT, Int.reduceLE, Int.reduceGT, Int.reduceGE, ne_eq, eq_self, hF, hwj, hsa1, hsb1]
      | true =>
        have f1 : (d.cl != x) = false := by rw [bne, e1]; rfl
        cases e2 : (d.o == 4) with
        | true =>
          have hsa1 : cntAtt (r.al.take (j + 1)) x = cntAtt (r.al.take j) x := by rw [hsa, e1, e2]; simp
          have hsb1 : cntLost (r.al.take (j + 1)) x = cntLost (r.al.take j) x := by rw [hsb, e1, e2]; simp
          repeat (first
            | ((first | with_reducible refine sops_go ?_ | with_reducible refine headW_end ?_ | with_reducible refine sops_end ?_ | with_reducible refine awp_if ?_ | with_reducible refine awp_skip ?_ | with_reducible refine awp_ret ?_ | with_reducible refine awp_exit ?_); simp only [go_sem, ↓reduceIte, Nat.reduceEqDiff, Nat.reduceLT, Nat.reduceLeDiff, Nat.reduceAdd, Nat.reduceMul, Nat.reduceSub, Nat.reduceBEq, reduceCtorEq, Int.reduceBNe, Int.reduceBEq, Int.reduceLT, Int.reduceLE, Int.reduceGT, Int.reduceGE, ne_eq, eq_self, hF, hdj, hdk, f1, e2])
            | ((with_reducible refine headW_go ?_); simp only [go_sem, ↓reduceIte, Nat.reduceEqDiff, Nat.reduceLT, Nat.reduceLeDiff, Nat.reduceAdd, Nat.reduceMul, Nat.reduceSub, Nat.reduceBEq, reduceCtorEq, Int.reduceBNe, Int.reduceBEq, Int.reduceLT, Int.reduceLE, Int.reduceGT, Int.reduceGE, ne_eq, eq_self, hF, hdj, hdk, f1, e2, hbx])
            | (with_reducible refine awp_seq_k (fun _ _ => ?_))
            | (refine awp_draw' (id := 10) [] 9 (by kernel_rfl) (by kernel_rfl) rfl rfl (fun bx0 hbx => ?_); (try dsimp only [List.take_succ_cons, List.take_zero, List.take_nil, List.drop_succ_cons, List.drop_zero, List.drop_nil]))
            | (with_reducible refine awp_region [] ?_)
            | (with_reducible refine awp_block ?_)
            | go_step)
          refine ⟨⟨j + 1, by omega⟩, by dsimp only; omega, hR2 _ _ (sub_mk ?_)⟩
          simp only [go_sem, ↓reduceIte, Nat.reduceEqDiff, Nat.reduceLT, Nat.reduceLeDiff, Nat.reduceAdd, Nat.reduceMul, Nat.reduceSub, Nat.reduceBEq, reduceCtorEq, Int.reduceBNe, Int.reduceBEq, Int.reduceLT, Int.reduceLE, Int.reduceGT, Int.reduceGE, ne_eq, eq_self, hF, hwj, hsa1, hsb1]
        | false =>
          have hsa1 : cntAtt (r.al.take (j + 1)) x = cntAtt (r.al.take j) x + 1 := by rw [hsa, e1, e2]; simp
          cases e3 : (d.o == 1) with
          | true =>
            have f3 : (d.o != 1) = false := by rw [bne, e3]; rfl
            have hsb1 : cntLost (r.al.take (j + 1)) x = cntLost (r.al.take j) x := by rw [hsb, e1, e2, e3]; simp
            repeat (first
              | ((first | with_reducible refine sops_go ?_ | with_reducible refine headW_end ?_ | with_reducible refine sops_end ?_ | with_reducible refine awp_if ?_ | with_reducible refine awp_skip ?_ | with_reducible refine awp_ret ?_ | with_reducible refine awp_exit ?_); simp only [go_sem, ↓reduceIte, Nat.reduceEqDiff, Nat.reduceLT, Nat.reduceLeDiff, Nat.reduceAdd, Nat.reduceMul, Nat.reduceSub, Nat.reduceBEq, reduceCtorEq, Int.reduceBNe, Int.reduceBEq, Int.reduceLT, Int.reduceLE, Int.reduceGT, Int.reduceGE, ne_eq, eq_self, hF, hdj, hdk, f1, e2, f3, hwa])
              | ((with_reducible refine headW_go ?_); simp only [go_sem, ↓reduceIte, Nat.reduceEqDiff, Nat.reduceLT, Nat.reduceLeDiff, Nat.reduceAdd, Nat.reduceMul, Nat.reduceSub, Nat.reduceBEq, reduceCtorEq, Int.reduceBNe, Int.reduceBEq, Int.reduceLT, Int.reduceLE, Int.reduceGT, Int.reduceGE, ne_eq, eq_self, hF, hdj, hdk, f1, e2, f3, hwa, hbx])
              | (with_reducible refine awp_seq_k (fun _ _ => ?_))
              | (refine awp_draw' (id := 10) [] 9 (by kernel_rfl) (by kernel_rfl) rfl rfl (fun bx0 hbx => ?_); (try dsimp only [List.take_succ_cons, List.take_zero, List.take_nil, List.drop_succ_cons, List.drop_zero, List.drop_nil]))
              | (with_reducible refine awp_region [] ?_)
              | (with_reducible refine awp_block ?_)
              | go_step)
            refine ⟨⟨j + 1, by omega⟩, by dsimp only; omega, hR2 _ _ (sub_mk ?_)⟩
            simp only [go_sem, ↓reduceIte, Nat.reduceEqDiff, Nat.reduceLT, Nat.reduceLeDiff, Nat.reduceAdd, Nat.reduceMul, Nat.reduceSub, Nat.reduceBEq, reduceCtorEq, Int.reduceBNe, Int.reduceBEq, Int.reduceLT, Int.reduceLE, Int.reduceGT, Int.reduceGE, ne_eq, eq_self, hF, hwj, hsa1, hsb1]
          | false =>
            have f3 : (d.o != 1) = true := by rw [bne, e3]; rfl
            have hsb1 : cntLost (r.al.take (j + 1)) x = cntLost (r.al.take j) x + 1 := by rw [hsb, e1, e2, e3]; simp
            repeat (first
              | ((first | with_reducible refine sops_go ?_ | with_reducible refine headW_end ?_ | with_reducible refine sops_end ?_ | with_reducible refine awp_if ?_ | with_reducible refine awp_skip ?_ | with_reducible refine awp_ret ?_ | with_reducible refine awp_exit ?_); simp only [go_sem, ↓reduceIte, Nat.reduceEqDiff, Nat.reduceLT, Nat.reduceLeDiff, Nat.reduceAdd, Nat.reduceMul, Nat.reduceSub, Nat.reduceBEq, reduceCtorEq, Int.reduceBNe, Int.reduceBEq, Int.reduceLT, Int.reduceLE, Int.reduceGT, Int.reduceGE, ne_eq, eq_self, hF, hdj, hdk, f1, e2, f3, hwa, hwb])
              | ((with_reducible refine headW_go ?_); simp only [go_sem, ↓reduceIte, Nat.reduceEqDiff, Nat.reduceLT, Nat.reduceLeDiff, Nat.reduceAdd, Nat.reduceMul, Nat.reduceSub, Nat.reduceBEq, reduceCtorEq, Int.reduceBNe, Int.reduceBEq, Int.reduceLT, Int.reduceLE, Int.reduceGT, Int.reduceGE, ne_eq, eq_self, hF, hdj, hdk, f1, e2, f3, hwa, hwb, hbx])
              | (with_reducible refine awp_seq_k (fun _ _ => ?_))
              | (refine awp_draw' (id := 10) [] 9 (by kernel_rfl) (by kernel_rfl) rfl rfl (fun bx0 hbx => ?_); (try dsimp only [List.take_succ_cons, List.take_zero, List.take_nil, List.drop_succ_cons, List.drop_zero, List.drop_nil]))
              | (with_reducible refine awp_region [] ?_)
              | (with_reducible refine awp_block ?_)
              | go_step)
            refine ⟨⟨j + 1, by omega⟩, by dsimp only; omega, hR2 _ _ (sub_mk ?_)⟩
            simp only [go_sem, ↓reduceIte, Nat.reduceEqDiff, Nat.reduceLT, Nat.reduceLeDiff, Nat.reduceAdd, Nat.reduceMul, Nat.reduceSub, Nat.reduceBEq, reduceCtorEq, Int.reduceBNe, Int.reduceBEq, Int.reduceLT, Int.reduceLE, Int.reduceGT, Int.reduceGE, ne_eq, eq_self, hF, hwj, hsa1, hsb1]
    have hd : decide (rel g (k : Int) + g.dl ≤ r.slots) = true := decide_eq_true (by omega)
    have hsv := svGo_succ g r.dl k
    have hbd := sv_bounds hfa r.dl k
    have har := arrival_eq (f := g) hdp (k : Int)
    obtain ⟨S, hS⟩ : ∃ S, S = svGo g r.dl k := ⟨_, rfl⟩
    obtain ⟨q, hq⟩ : ∃ q, q = deliv r.dl g.id (k : Int) (rel g (k : Int)) (rel g (k : Int) + g.dl - 1) := ⟨_, rfl⟩
    rw [← hS] at hsv hbd ⊢
    rw [← hq] at har
    unfold svStep at hsv
    have hwl : IntKind.i64.wrap (S.1 + 1) = S.1 + 1 := by rw [IntKind.wrap_i64]; omega
    repeat (first
      | ((first | with_reducible refine sops_go ?_ | with_reducible refine headW_end ?_ | with_reducible refine sops_end ?_ | with_reducible refine awp_if ?_ | with_reducible refine awp_skip ?_ | with_reducible refine awp_ret ?_ | with_reducible refine awp_exit ?_); simp only [go_sem, ↓reduceIte, Nat.reduceEqDiff, Nat.reduceLT, Nat.reduceLeDiff, Nat.reduceAdd, Nat.reduceMul, Nat.reduceSub, Nat.reduceBEq, reduceCtorEq, Int.reduceBNe, Int.reduceBEq, Int.reduceLT, Int.reduceLE, Int.reduceGT, Int.reduceGE, ne_eq, eq_self, hF, hw1, hd])
      | ((with_reducible refine headW_go ?_); simp only [go_sem, ↓reduceIte, Nat.reduceEqDiff, Nat.reduceLT, Nat.reduceLeDiff, Nat.reduceAdd, Nat.reduceMul, Nat.reduceSub, Nat.reduceBEq, reduceCtorEq, Int.reduceBNe, Int.reduceBEq, Int.reduceLT, Int.reduceLE, Int.reduceGT, Int.reduceGE, ne_eq, eq_self, hF, hw1, hd, hbx])
      | (with_reducible refine awp_seq_k (fun _ _ => ?_))
      | (refine awp_draw' (id := 10) [] 9 (by kernel_rfl) (by kernel_rfl) rfl rfl (fun bx0 hbx => ?_); (try dsimp only [List.take_succ_cons, List.take_zero, List.take_nil, List.drop_succ_cons, List.drop_zero, List.drop_nil]))
      | (with_reducible refine awp_region [] ?_)
      | (with_reducible refine awp_block ?_)
      | go_step)
    refine ⟨_, rrel_ok g k hfa (by omega) (by omega), ?_⟩
    simp only [go_sem, ↓reduceIte, Nat.reduceEqDiff, Nat.reduceLT, Nat.reduceLeDiff, Nat.reduceAdd, Nat.reduceMul, Nat.reduceSub, Nat.reduceBEq, reduceCtorEq, Int.reduceBNe, Int.reduceBEq, Int.reduceLT, Int.reduceLE, Int.reduceGT, Int.reduceGE, ne_eq, eq_self, hF]
    repeat (first
      | ((first | with_reducible refine sops_go ?_ | with_reducible refine headW_end ?_ | with_reducible refine sops_end ?_ | with_reducible refine awp_if ?_ | with_reducible refine awp_skip ?_ | with_reducible refine awp_ret ?_ | with_reducible refine awp_exit ?_); simp only [go_sem, ↓reduceIte, Nat.reduceEqDiff, Nat.reduceLT, Nat.reduceLeDiff, Nat.reduceAdd, Nat.reduceMul, Nat.reduceSub, Nat.reduceBEq, reduceCtorEq, Int.reduceBNe, Int.reduceBEq, Int.reduceLT, Int.reduceLE, Int.reduceGT, Int.reduceGE, ne_eq, eq_self, hF, hw, hw1, hw2])
      | ((with_reducible refine headW_go ?_); simp only [go_sem, ↓reduceIte, Nat.reduceEqDiff, Nat.reduceLT, Nat.reduceLeDiff, Nat.reduceAdd, Nat.reduceMul, Nat.reduceSub, Nat.reduceBEq, reduceCtorEq, Int.reduceBNe, Int.reduceBEq, Int.reduceLT, Int.reduceLE, Int.reduceGT, Int.reduceGE, ne_eq, eq_self, hF, hw, hw1, hw2, hbx])
      | (with_reducible refine awp_seq_k (fun _ _ => ?_))
      | (refine awp_draw' (id := 10) [] 9 (by kernel_rfl) (by kernel_rfl) rfl rfl (fun bx0 hbx => ?_); (try dsimp only [List.take_succ_cons, List.take_zero, List.take_nil, List.drop_succ_cons, List.drop_zero, List.drop_nil]))
      | (with_reducible refine awp_region [] ?_)
      | (with_reducible refine awp_block ?_)
      | go_step)
    refine ⟨_, deliv_ok r g (k : Int) (rel g (k : Int)) (rel g (k : Int) + g.dl - 1) hld, ?_⟩
    rw [← hq]
    simp only [go_sem, ↓reduceIte, Nat.reduceEqDiff, Nat.reduceLT, Nat.reduceLeDiff, Nat.reduceAdd, Nat.reduceMul, Nat.reduceSub, Nat.reduceBEq, reduceCtorEq, Int.reduceBNe, Int.reduceBEq, Int.reduceLT, Int.reduceLE, Int.reduceGT, Int.reduceGE, ne_eq, eq_self, hF]
    by_cases hq0 : q < 0
    case pos =>
      have hqd : decide (q < 0) = true := decide_eq_true hq0
      rw [if_pos hq0] at har
      rw [har, if_neg (by simp)] at hsv
      repeat (first
        | ((first | with_reducible refine sops_go ?_ | with_reducible refine headW_end ?_ | with_reducible refine sops_end ?_ | with_reducible refine awp_if ?_ | with_reducible refine awp_skip ?_ | with_reducible refine awp_ret ?_ | with_reducible refine awp_exit ?_); simp only [go_sem, ↓reduceIte, Nat.reduceEqDiff, Nat.reduceLT, Nat.reduceLeDiff, Nat.reduceAdd, Nat.reduceMul, Nat.reduceSub, Nat.reduceBEq, reduceCtorEq, Int.reduceBNe, Int.reduceBEq, Int.reduceLT, Int.reduceLE, Int.reduceGT, Int.reduceGE, ne_eq, eq_self, hF, hqd, hwl])
        | ((with_reducible refine headW_go ?_); simp only [go_sem, ↓reduceIte, Nat.reduceEqDiff, Nat.reduceLT, Nat.reduceLeDiff, Nat.reduceAdd, Nat.reduceMul, Nat.reduceSub, Nat.reduceBEq, reduceCtorEq, Int.reduceBNe, Int.reduceBEq, Int.reduceLT, Int.reduceLE, Int.reduceGT, Int.reduceGE, ne_eq, eq_self, hF, hqd, hwl, hbx])
        | (with_reducible refine awp_seq_k (fun _ _ => ?_))
        | (refine awp_draw' (id := 10) [] 9 (by kernel_rfl) (by kernel_rfl) rfl rfl (fun bx0 hbx => ?_); (try dsimp only [List.take_succ_cons, List.take_zero, List.take_nil, List.drop_succ_cons, List.drop_zero, List.drop_nil]))
        | (with_reducible refine awp_region [] ?_)
        | (with_reducible refine awp_block ?_)
        | go_step)
      refine ⟨⟨k + 1, by omega⟩, by dsimp only; omega, hR _ _ (sub_mk ?_)⟩
      simp only [go_sem, ↓reduceIte, Nat.reduceEqDiff, Nat.reduceLT, Nat.reduceLeDiff, Nat.reduceAdd, Nat.reduceMul, Nat.reduceSub, Nat.reduceBEq, reduceCtorEq, Int.reduceBNe, Int.reduceBEq, Int.reduceLT, Int.reduceLE, Int.reduceGT, Int.reduceGE, ne_eq, eq_self, hF, hw, hsv]
    have hqd : decide (q < 0) = false := decide_eq_false hq0
    rw [if_neg hq0] at har
    have hqb := arr_bounds g (k : Int) (slotsOf r.dl g.id (k : Int)) (by rw [har])
    rw [har] at hqb
    dsimp only at hqb
    rw [har, if_pos rfl] at hsv
    dsimp only at hsv
    have hwq : IntKind.i64.wrap (q - rel g (k : Int)) = q - rel g (k : Int) := by rw [IntKind.wrap_i64]; omega
    have hwr : IntKind.i64.wrap (q - rel g (k : Int) + 1) = q - rel g (k : Int) + 1 := by rw [IntKind.wrap_i64]; omega
    have hmx : (if S.2.2 < q - rel g (k : Int) + 1 then q - rel g (k : Int) + 1 else S.2.2) = max S.2.2 (q - rel g (k : Int) + 1) := by rw [Int.max_def]; split <;> split <;> omega
    cases z1 : (S.2.1 == 0) with
    | true =>
      have hz : S.2.1 = 0 := by simpa using z1
      rw [if_pos (.inl hz)] at hsv
      repeat (first
        | ((first | with_reducible refine sops_go ?_ | with_reducible refine headW_end ?_ | with_reducible refine sops_end ?_ | with_reducible refine awp_if ?_ | with_reducible refine awp_skip ?_ | with_reducible refine awp_ret ?_ | with_reducible refine awp_exit ?_); simp only [go_sem, ↓reduceIte, Nat.reduceEqDiff, Nat.reduceLT, Nat.reduceLeDiff, Nat.reduceAdd, Nat.reduceMul, Nat.reduceSub, Nat.reduceBEq, reduceCtorEq, Int.reduceBNe, Int.reduceBEq, Int.reduceLT, Int.reduceLE, Int.reduceGT, Int.reduceGE, ne_eq, eq_self, hF, hqd, hwq, hwr, z1, hmx])
        | ((with_reducible refine headW_go ?_); simp only [go_sem, ↓reduceIte, Nat.reduceEqDiff, Nat.reduceLT, Nat.reduceLeDiff, Nat.reduceAdd, Nat.reduceMul, Nat.reduceSub, Nat.reduceBEq, reduceCtorEq, Int.reduceBNe, Int.reduceBEq, Int.reduceLT, Int.reduceLE, Int.reduceGT, Int.reduceGE, ne_eq, eq_self, hF, hqd, hwq, hwr, z1, hmx, hbx])
        | (with_reducible refine awp_seq_k (fun _ _ => ?_))
        | (refine awp_draw' (id := 10) [] 9 (by kernel_rfl) (by kernel_rfl) rfl rfl (fun bx0 hbx => ?_); (try dsimp only [List.take_succ_cons, List.take_zero, List.take_nil, List.drop_succ_cons, List.drop_zero, List.drop_nil]))
        | (with_reducible refine awp_region [] ?_)
        | (with_reducible refine awp_block ?_)
        | go_step)
      refine ⟨⟨k + 1, by omega⟩, by dsimp only; omega, hR _ _ (sub_mk ?_)⟩
      simp only [go_sem, ↓reduceIte, Nat.reduceEqDiff, Nat.reduceLT, Nat.reduceLeDiff, Nat.reduceAdd, Nat.reduceMul, Nat.reduceSub, Nat.reduceBEq, reduceCtorEq, Int.reduceBNe, Int.reduceBEq, Int.reduceLT, Int.reduceLE, Int.reduceGT, Int.reduceGE, ne_eq, eq_self, hF, hw, hsv]
    | false =>
      have hz : ¬ S.2.1 = 0 := by simpa using z1
      by_cases z2 : q - rel g (k : Int) + 1 < S.2.1
      case pos =>
        have hz2 : decide (q - rel g (k : Int) + 1 < S.2.1) = true := decide_eq_true z2
        rw [if_pos (.inr z2)] at hsv
        repeat (first
          | ((first | with_reducible refine sops_go ?_ | with_reducible refine headW_end ?_ | with_reducible refine sops_end ?_ | with_reducible refine awp_if ?_ | with_reducible refine awp_skip ?_ | with_reducible refine awp_ret ?_ | with_reducible refine awp_exit ?_); simp only [go_sem, ↓reduceIte, Nat.reduceEqDiff, Nat.reduceLT, Nat.reduceLeDiff, Nat.reduceAdd, Nat.reduceMul, Nat.reduceSub, Nat.reduceBEq, reduceCtorEq, Int.reduceBNe, Int.reduceBEq, Int.reduceLT, Int.reduceLE, Int.reduceGT, Int.reduceGE, ne_eq, eq_self, hF, hqd, hwq, hwr, z1, hz2, hmx])
          | ((with_reducible refine headW_go ?_); simp only [go_sem, ↓reduceIte, Nat.reduceEqDiff, Nat.reduceLT, Nat.reduceLeDiff, Nat.reduceAdd, Nat.reduceMul, Nat.reduceSub, Nat.reduceBEq, reduceCtorEq, Int.reduceBNe, Int.reduceBEq, Int.reduceLT, Int.reduceLE, Int.reduceGT, Int.reduceGE, ne_eq, eq_self, hF, hqd, hwq, hwr, z1, hz2, hmx, hbx])
          | (with_reducible refine awp_seq_k (fun _ _ => ?_))
          | (refine awp_draw' (id := 10) [] 9 (by kernel_rfl) (by kernel_rfl) rfl rfl (fun bx0 hbx => ?_); (try dsimp only [List.take_succ_cons, List.take_zero, List.take_nil, List.drop_succ_cons, List.drop_zero, List.drop_nil]))
          | (with_reducible refine awp_region [] ?_)
          | (with_reducible refine awp_block ?_)
          | go_step)
        refine ⟨⟨k + 1, by omega⟩, by dsimp only; omega, hR _ _ (sub_mk ?_)⟩
        simp only [go_sem, ↓reduceIte, Nat.reduceEqDiff, Nat.reduceLT, Nat.reduceLeDiff, Nat.reduceAdd, Nat.reduceMul, Nat.reduceSub, Nat.reduceBEq, reduceCtorEq, Int.reduceBNe, Int.reduceBEq, Int.reduceLT, Int.reduceLE, Int.reduceGT, Int.reduceGE, ne_eq, eq_self, hF, hw, hsv]
      have hz2 : decide (q - rel g (k : Int) + 1 < S.2.1) = false := decide_eq_false z2
      rw [if_neg (by rintro (h | h); exact hz h; exact z2 h)] at hsv
      repeat (first
        | ((first | with_reducible refine sops_go ?_ | with_reducible refine headW_end ?_ | with_reducible refine sops_end ?_ | with_reducible refine awp_if ?_ | with_reducible refine awp_skip ?_ | with_reducible refine awp_ret ?_ | with_reducible refine awp_exit ?_); simp only [go_sem, ↓reduceIte, Nat.reduceEqDiff, Nat.reduceLT, Nat.reduceLeDiff, Nat.reduceAdd, Nat.reduceMul, Nat.reduceSub, Nat.reduceBEq, reduceCtorEq, Int.reduceBNe, Int.reduceBEq, Int.reduceLT, Int.reduceLE, Int.reduceGT, Int.reduceGE, ne_eq, eq_self, hF, hqd, hwq, hwr, z1, hz2, hmx])
        | ((with_reducible refine headW_go ?_); simp only [go_sem, ↓reduceIte, Nat.reduceEqDiff, Nat.reduceLT, Nat.reduceLeDiff, Nat.reduceAdd, Nat.reduceMul, Nat.reduceSub, Nat.reduceBEq, reduceCtorEq, Int.reduceBNe, Int.reduceBEq, Int.reduceLT, Int.reduceLE, Int.reduceGT, Int.reduceGE, ne_eq, eq_self, hF, hqd, hwq, hwr, z1, hz2, hmx, hbx])
        | (with_reducible refine awp_seq_k (fun _ _ => ?_))
        | (refine awp_draw' (id := 10) [] 9 (by kernel_rfl) (by kernel_rfl) rfl rfl (fun bx0 hbx => ?_); (try dsimp only [List.take_succ_cons, List.take_zero, List.take_nil, List.drop_succ_cons, List.drop_zero, List.drop_nil]))
        | (with_reducible refine awp_region [] ?_)
        | (with_reducible refine awp_block ?_)
        | go_step)
      refine ⟨⟨k + 1, by omega⟩, by dsimp only; omega, hR _ _ (sub_mk ?_)⟩
      simp only [go_sem, ↓reduceIte, Nat.reduceEqDiff, Nat.reduceLT, Nat.reduceLeDiff, Nat.reduceAdd, Nat.reduceMul, Nat.reduceSub, Nat.reduceBEq, reduceCtorEq, Int.reduceBNe, Int.reduceBEq, Int.reduceLT, Int.reduceLE, Int.reduceGT, Int.reduceGE, ne_eq, eq_self, hF, hw, hsv]
end Go.Proofs.Ytkdigdnacggknaa

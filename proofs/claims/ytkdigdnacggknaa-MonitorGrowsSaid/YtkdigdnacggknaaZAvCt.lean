import Derived.Test.YtkdigdnacggknaaZAvA1
import Derived.Test.YtkdigdnacggknaaZMonG
import Derived.Test.YtkdigdnacggknaaZAvJ
import Derived.Test.YtkdigdnacggknaaZAvA2
/- record.Cut by abstract states. -/
namespace Go.Proofs.Ytkdigdnacggknaa
open Go.RowKit
open Nd Rc Mo
open Av
set_option maxRecDepth 100000
set_option linter.unusedSimpArgs false
attribute [local go_sem] Av.guardB Av.sop Av.hopx Av.hop Av.hopCall Av.hopF Av.hopB Av.evo Av.evos Av.avCells Av.loadK Av.bound Av.abin Av.aun Av.partsC Av.lfill Av.placesB Av.setAt Av.stl Av.takes Av.src Av.bxOf Av.ownOf Av.St.res Av.St.put Av.St.addBox Av.St.putOwn Av.delL Av.delS Av.look Av.lookL Av.storeSt Av.stealSt Av.St.setBox Av.keepL Av.hitB Av.snap Av.snaps Av.snapCaps Av.AV.lit Av.AV.refs Av.capRefs Av.PV.av Av.CV.av Av.startSt Av.steals Av.athen Av.ablock Av.appK Av.AllS Av.AllO Av.AllR Av.keepS Av.St.avAt Av.RetOK Av.retAll Av.retOne Av.intsOf Av.ptrB Av.appB Av.appSt TypeDesc.isRow List.range_zero Option.some.injEq exists_eq_left' exists_eq_left exists_eq' exists_and_left exists_and_right exists_const true_and and_true and_self false_and and_false or_false false_or or_true true_or if_true if_false Bool.false_eq_true List.zipIdx_cons List.zipIdx_nil List.map_cons List.map_nil List.filter_cons List.filter_nil List.contains_cons List.contains_nil List.drop_succ_cons List.drop_zero List.take_succ_cons List.take_zero List.take_nil List.drop_nil List.length_cons List.length_nil List.cons_append List.nil_append List.append_nil List.getElem?_cons_zero List.getElem?_cons_succ List.getElem?_nil Option.bind_some Option.bind_none Option.map_some Option.map_none Option.isNone_none Option.isNone_some Option.isSome_some Option.isSome_none Bool.and_true Bool.true_and Bool.and_false Bool.false_and Bool.or_false Bool.false_or Bool.not_true Bool.not_false beq_true beq_false Bool.true_beq Bool.false_beq Loc.s.injEq Loc.b.injEq decide_true decide_false beq_self_eq_true Nat.zero_add Nat.add_zero List.getElem?_toArray List.toList_toArray List.size_toArray Value.oneCell' List.all_cons List.all_nil Value.int.injEq AV.v.injEq AV.sl.injEq AV.agg.injEq AV.ref.injEq AV.ept.injEq AV.tup.injEq Value.bool.injEq PV.v.injEq PV.sl.injEq List.isEmpty_nil List.isEmpty_cons forall_const not_true_eq_false not_false_eq_true true_implies false_implies Value.string.injEq List.length_map List.getElem?_map Int.toNat_natCast Int.natCast_nonneg List.length_append Value.cells implies_true TypeDesc.struct.injEq TypeDesc.slice.injEq TypeDesc.array.injEq List.getElem?_toArray Prod.mk.injEq and_assoc exists_false List.cons.injEq Operand.tmp.injEq ite_self AV.fnv.injEq AV.clo.injEq Try.sz3 Try.zr3 Try.by3 Try.pl3 Try.is3 Try.underlying3 Try.sz4 Try.zr4 Try.by4 Try.pl4 Try.is4 Try.underlying4 Try.sz32 Try.zr32 Try.by32 Try.pl32 Try.is32 Try.underlying32 Try.sz28 Try.zr28 Try.by28 Try.pl28 Try.is28 Try.underlying28 Try.sz26 Try.zr26 Try.by26 Try.pl26 Try.is26 Try.underlying26 Try.sz37 Try.zr37 Try.by37 Try.pl37 Try.is37 Try.underlying37 Try.sz68 Try.zr68 Try.by68 Try.pl68 Try.is68 Try.underlying68 Try.sz57 Try.zr57 Try.by57 Try.pl57 Try.is57 Try.underlying57 Try.sz70 Try.zr70 Try.by70 Try.pl70 Try.is70 Try.underlying70 Try.sz54 Try.zr54 Try.by54 Try.pl54 Try.is54 Try.underlying54 Try.sz66 Try.zr66 Try.by66 Try.pl66 Try.is66 Try.underlying66 Try.sz64 Try.zr64 Try.by64 Try.pl64 Try.is64 Try.underlying64 Try.sz73 Try.zr73 Try.by73 Try.pl73 Try.is73 Try.underlying73 Try.sz102 Try.zr102 Try.by102 Try.pl102 Try.is102 Try.underlying102 Try.sz105 Try.zr105 Try.by105 Try.pl105 Try.is105 Try.underlying105 Try.sz44 Try.zr44 Try.by44 Try.pl44 Try.is44 Try.underlying44 Try.sz22 Try.zr22 Try.by22 Try.pl22 Try.is22 Try.underlying22 Try.sz31 Try.zr31 Try.by31 Try.pl31 Try.is31 Try.underlying31 Try.sz23 Try.zr23 Try.by23 Try.pl23 Try.is23 Try.underlying23 Try.sz24 Try.zr24 Try.by24 Try.pl24 Try.is24 Try.underlying24 Try.sz46 Try.zr46 Try.by46 Try.pl46 Try.is46 Try.underlying46 Try.sz41 Try.zr41 Try.by41 Try.pl41 Try.is41 Try.underlying41 Try.sz42 Try.zr42 Try.by42 Try.pl42 Try.is42 Try.underlying42 Try.sz40 Try.zr40 Try.by40 Try.pl40 Try.is40 Try.underlying40 Try.it68 Try.eg68 Try.it54 Try.eg54 Try.it66 Try.eg66 Try.it57 Try.eg57 Try.it37 Try.eg37 Try.it73 Try.eg73 all_arr loc_ss loc_sb loc_bs loc_bb arr_two arr_one rg1 rg2 rg3 rg4 rg5 rg6 rg7 rg8 ResultVar.tmp.injEq Bool.not_true Bool.not_false undef Rc.Rec.pv Nd.Fl.pv Rc.Dlv.pv Rc.Att.pv Mo.Lt.pv Mo.Sv.pv

set_option maxHeartbeats 2000000 in
theorem cut1_ok (r : Rec) (n : Int) (hla : r.al.length ≤ 1000000) (hld : r.dl.length ≤ 1000000) (hg : good r = false) : FnOK Try.prog 33 [.agg r.pv, iv n] ⟨.tup [.g [ip 0, .v (.slice none 0 0), .v (.slice none 0 0)], .c (ip 1)], none⟩ := by
  refine fn_ok Try.func33 (by kernel_rfl) rfl (by rw [Try.ntmps33]; exact of_decide_eq_true rfl) (fun F hF => ?_)
  rw [Try.ntmps33] at hF
  rw [Try.results33]
  have hr : checkE r = 1 := by rw [checkE, hg]; rfl
  have hn1 : ((1 : Int) != 0) = true := rfl
  repeat (first
    | ((first | with_reducible refine sops_go ?_ | with_reducible refine headW_end ?_ | with_reducible refine sops_end ?_ | with_reducible refine awp_if ?_ | with_reducible refine awp_skip ?_ | with_reducible refine awp_ret ?_ | with_reducible refine awp_exit ?_); simp only [go_sem, ↓reduceIte, Nat.reduceEqDiff, Nat.reduceLT, Nat.reduceLeDiff, Nat.reduceAdd, Nat.reduceMul, Nat.reduceSub, Nat.reduceBEq, reduceCtorEq, Int.reduceBNe, Int.reduceBEq, Int.reduceLT, Int.reduceLE, Int.reduceGT, Int.reduceGE, ne_eq, eq_self, hF])
    | (with_reducible refine awp_seq_k (fun _ _ => ?_))
    | (with_reducible refine awp_region [42, 63] ?_)
    | (with_reducible refine awp_block ?_)
    | go_step)
  refine ⟨_, check_ok r hla hld, ?_⟩
  simp only [go_sem, ↓reduceIte, Nat.reduceEqDiff, Nat.reduceLT, Nat.reduceLeDiff, Nat.reduceAdd, Nat.reduceMul, Nat.reduceSub, Nat.reduceBEq, reduceCtorEq, Int.reduceBNe, Int.reduceBEq, Int.reduceLT, Int.reduceLE, Int.reduceGT, Int.reduceGE, ne_eq, eq_self, hF, hr]
  repeat (first
    | ((first | with_reducible refine sops_go ?_ | with_reducible refine headW_end ?_ | with_reducible refine sops_end ?_ | with_reducible refine awp_if ?_ | with_reducible refine awp_skip ?_ | with_reducible refine awp_ret ?_ | with_reducible refine awp_exit ?_); simp only [go_sem, ↓reduceIte, Nat.reduceEqDiff, Nat.reduceLT, Nat.reduceLeDiff, Nat.reduceAdd, Nat.reduceMul, Nat.reduceSub, Nat.reduceBEq, reduceCtorEq, Int.reduceBNe, Int.reduceBEq, Int.reduceLT, Int.reduceLE, Int.reduceGT, Int.reduceGE, ne_eq, eq_self, hF, hr, hn1])
    | (with_reducible refine awp_seq_k (fun _ _ => ?_))
    | (with_reducible refine awp_region [42, 63] ?_)
    | (with_reducible refine awp_block ?_)
    | go_step)

set_option maxHeartbeats 2000000 in
theorem cut2_ok (r : Rec) (n : Int) (hla : r.al.length ≤ 1000000) (hld : r.dl.length ≤ 1000000) (hg : good r = true) (hb : n < 0 ∨ r.slots < n) : FnOK Try.prog 33 [.agg r.pv, iv n] ⟨.tup [.g [ip 0, .v (.slice none 0 0), .v (.slice none 0 0)], .c (ip 2)], none⟩ := by
  refine fn_ok Try.func33 (by kernel_rfl) rfl (by rw [Try.ntmps33]; exact of_decide_eq_true rfl) (fun F hF => ?_)
  rw [Try.ntmps33] at hF
  rw [Try.results33]
  have hr : checkE r = 0 := by rw [checkE, hg]; rfl
  have hn1 : ((0 : Int) != 0) = false := rfl
  repeat (first
    | ((first | with_reducible refine sops_go ?_ | with_reducible refine headW_end ?_ | with_reducible refine sops_end ?_ | with_reducible refine awp_if ?_ | with_reducible refine awp_skip ?_ | with_reducible refine awp_ret ?_ | with_reducible refine awp_exit ?_); simp only [go_sem, ↓reduceIte, Nat.reduceEqDiff, Nat.reduceLT, Nat.reduceLeDiff, Nat.reduceAdd, Nat.reduceMul, Nat.reduceSub, Nat.reduceBEq, reduceCtorEq, Int.reduceBNe, Int.reduceBEq, Int.reduceLT, Int.reduceLE, Int.reduceGT, Int.reduceGE, ne_eq, eq_self, hF])
    | (with_reducible refine awp_seq_k (fun _ _ => ?_))
    | (with_reducible refine awp_region [42, 63] ?_)
    | (with_reducible refine awp_block ?_)
    | go_step)
  refine ⟨_, check_ok r hla hld, ?_⟩
  simp only [go_sem, ↓reduceIte, Nat.reduceEqDiff, Nat.reduceLT, Nat.reduceLeDiff, Nat.reduceAdd, Nat.reduceMul, Nat.reduceSub, Nat.reduceBEq, reduceCtorEq, Int.reduceBNe, Int.reduceBEq, Int.reduceLT, Int.reduceLE, Int.reduceGT, Int.reduceGE, ne_eq, eq_self, hF, hr]
  by_cases h0 : n < 0
  · have hd : decide (n < 0) = true := decide_eq_true h0
    repeat (first
      | ((first | with_reducible refine sops_go ?_ | with_reducible refine headW_end ?_ | with_reducible refine sops_end ?_ | with_reducible refine awp_if ?_ | with_reducible refine awp_skip ?_ | with_reducible refine awp_ret ?_ | with_reducible refine awp_exit ?_); simp only [go_sem, ↓reduceIte, Nat.reduceEqDiff, Nat.reduceLT, Nat.reduceLeDiff, Nat.reduceAdd, Nat.reduceMul, Nat.reduceSub, Nat.reduceBEq, reduceCtorEq, Int.reduceBNe, Int.reduceBEq, Int.reduceLT, Int.reduceLE, Int.reduceGT, Int.reduceGE, ne_eq, eq_self, hF, hr, hn1, hd])
      | (with_reducible refine awp_seq_k (fun _ _ => ?_))
      | (with_reducible refine awp_region [42, 63] ?_)
      | (with_reducible refine awp_block ?_)
      | go_step)
  have hd : decide (n < 0) = false := decide_eq_false h0
  have he : decide (r.slots < n) = true := decide_eq_true (by omega)
  repeat (first
    | ((first | with_reducible refine sops_go ?_ | with_reducible refine headW_end ?_ | with_reducible refine sops_end ?_ | with_reducible refine awp_if ?_ | with_reducible refine awp_skip ?_ | with_reducible refine awp_ret ?_ | with_reducible refine awp_exit ?_); simp only [go_sem, ↓reduceIte, Nat.reduceEqDiff, Nat.reduceLT, Nat.reduceLeDiff, Nat.reduceAdd, Nat.reduceMul, Nat.reduceSub, Nat.reduceBEq, reduceCtorEq, Int.reduceBNe, Int.reduceBEq, Int.reduceLT, Int.reduceLE, Int.reduceGT, Int.reduceGE, ne_eq, eq_self, hF, hr, hn1, hd, he])
    | (with_reducible refine awp_seq_k (fun _ _ => ?_))
    | (with_reducible refine awp_region [42, 63] ?_)
    | (with_reducible refine awp_block ?_)
    | go_step)

set_option maxHeartbeats 20000000 in
theorem cut3_ok (r : Rec) (n : Int) (hla : r.al.length ≤ 1000000) (hld : r.dl.length ≤ 1000000) (hg : good r = true) (h0 : 0 ≤ n) (h1 : n ≤ r.slots) : FnOK Try.prog 33 [.agg r.pv, iv n] ⟨.tup [.g (halfR r n).pv, .c (ip 0)], none⟩ := by
  refine fn_ok Try.func33 (by kernel_rfl) rfl (by rw [Try.ntmps33]; exact of_decide_eq_true rfl) (fun F hF => ?_)
  rw [Try.ntmps33] at hF
  rw [Try.results33]
  have hr : checkE r = 0 := by rw [checkE, hg]; rfl
  have hn1 : ((0 : Int) != 0) = false := rfl
  have hd : decide (n < 0) = false := decide_eq_false (by omega)
  have he : decide (r.slots < n) = false := decide_eq_false (by omega)
  repeat (first
    | ((first | with_reducible refine sops_go ?_ | with_reducible refine headW_end ?_ | with_reducible refine sops_end ?_ | with_reducible refine awp_if ?_ | with_reducible refine awp_skip ?_ | with_reducible refine awp_ret ?_ | with_reducible refine awp_exit ?_); simp only [go_sem, ↓reduceIte, Nat.reduceEqDiff, Nat.reduceLT, Nat.reduceLeDiff, Nat.reduceAdd, Nat.reduceMul, Nat.reduceSub, Nat.reduceBEq, reduceCtorEq, Int.reduceBNe, Int.reduceBEq, Int.reduceLT, Int.reduceLE, Int.reduceGT, Int.reduceGE, ne_eq, eq_self, hF])
    | (with_reducible refine awp_seq_k (fun _ _ => ?_))
    | (with_reducible refine awp_region [42, 63] ?_)
    | (with_reducible refine awp_block ?_)
    | go_step)
  refine ⟨_, check_ok r hla hld, ?_⟩
  simp only [go_sem, ↓reduceIte, Nat.reduceEqDiff, Nat.reduceLT, Nat.reduceLeDiff, Nat.reduceAdd, Nat.reduceMul, Nat.reduceSub, Nat.reduceBEq, reduceCtorEq, Int.reduceBNe, Int.reduceBEq, Int.reduceLT, Int.reduceLE, Int.reduceGT, Int.reduceGE, ne_eq, eq_self, hF, hr]
  repeat (first
    | ((first | with_reducible refine sops_go ?_ | with_reducible refine headW_end ?_ | with_reducible refine sops_end ?_ | with_reducible refine awp_if ?_ | with_reducible refine awp_skip ?_ | with_reducible refine awp_ret ?_ | with_reducible refine awp_exit ?_); simp only [go_sem, ↓reduceIte, Nat.reduceEqDiff, Nat.reduceLT, Nat.reduceLeDiff, Nat.reduceAdd, Nat.reduceMul, Nat.reduceSub, Nat.reduceBEq, reduceCtorEq, Int.reduceBNe, Int.reduceBEq, Int.reduceLT, Int.reduceLE, Int.reduceGT, Int.reduceGE, ne_eq, eq_self, hF, hr, hn1, hd, he])
    | (with_reducible refine awp_seq_k (fun _ _ => ?_))
    | (with_reducible refine awp_region [42, 63] ?_)
    | (with_reducible refine awp_block ?_)
    | go_step)
  refine awp_nilB 6 1 8 66 rfl rfl ?_
  simp only [go_sem, ↓reduceIte, Nat.reduceEqDiff, Nat.reduceLT, Nat.reduceLeDiff, Nat.reduceAdd, Nat.reduceMul, Nat.reduceSub, Nat.reduceBEq, reduceCtorEq, Int.reduceBNe, Int.reduceBEq, Int.reduceLT, Int.reduceLE, Int.reduceGT, Int.reduceGE, ne_eq, eq_self, hF]
  refine awp_nilB 6 2 3 54 rfl rfl ?_
  simp only [go_sem, ↓reduceIte, Nat.reduceEqDiff, Nat.reduceLT, Nat.reduceLeDiff, Nat.reduceAdd, Nat.reduceMul, Nat.reduceSub, Nat.reduceBEq, reduceCtorEq, Int.reduceBNe, Int.reduceBEq, Int.reduceLT, Int.reduceLE, Int.reduceGT, Int.reduceGE, ne_eq, eq_self, hF]
  repeat (first
    | ((first | with_reducible refine sops_go ?_ | with_reducible refine headW_end ?_ | with_reducible refine sops_end ?_ | with_reducible refine awp_if ?_ | with_reducible refine awp_skip ?_ | with_reducible refine awp_ret ?_ | with_reducible refine awp_exit ?_); simp only [go_sem, ↓reduceIte, Nat.reduceEqDiff, Nat.reduceLT, Nat.reduceLeDiff, Nat.reduceAdd, Nat.reduceMul, Nat.reduceSub, Nat.reduceBEq, reduceCtorEq, Int.reduceBNe, Int.reduceBEq, Int.reduceLT, Int.reduceLE, Int.reduceGT, Int.reduceGE, ne_eq, eq_self, hF])
    | (with_reducible refine awp_seq_k (fun _ _ => ?_))
    | (with_reducible refine awp_region [42, 63] ?_)
    | (with_reducible refine awp_block ?_)
    | go_step)
  refine awp_loop_by (ι := {k : Nat // k ≤ r.al.length}) (fun k σ => ⟨(32, iv (k.1 : Int)) :: keepS [1, 2, 4, 5, 6, 30, 31] σ.slot, (6, [ip n, .sl 8 (((r.al.take k.1).filter (fun a => decide (a.s < n))).map Att.pv), .sl 3 []]) :: [(4, [ip 0, .v (.slice none 0 0), .v (.slice none 0 0)]), (2, r.pv)], [(.b 6 1, (66, 8)), (.b 6 2, (54, 3))], σ.ext⟩) (fun k => r.al.length - k.1) ⟨0, Nat.zero_le _⟩ (sub_mk ?_) (fun R hR k => ?_)
  · simp only [go_sem, ↓reduceIte, Nat.reduceEqDiff, Nat.reduceLT, Nat.reduceLeDiff, Nat.reduceAdd, Nat.reduceMul, Nat.reduceSub, Nat.reduceBEq, reduceCtorEq, Int.reduceBNe, Int.reduceBEq, Int.reduceLT, Int.reduceLE, Int.reduceGT, Int.reduceGE, ne_eq, eq_self, hF]
    repeat' (first | rfl | refine ⟨?_, ?_⟩)
  obtain ⟨k, hk⟩ := k
  dsimp only
  simp only [go_sem, ↓reduceIte, Nat.reduceEqDiff, Nat.reduceLT, Nat.reduceLeDiff, Nat.reduceAdd, Nat.reduceMul, Nat.reduceSub, Nat.reduceBEq, reduceCtorEq, Int.reduceBNe, Int.reduceBEq, Int.reduceLT, Int.reduceLE, Int.reduceGT, Int.reduceGE, ne_eq, eq_self, hF]
  by_cases hlt : k < r.al.length
  case neg =>
    have hdk : decide ((k : Int) < (r.al.length : Int)) = false := decide_eq_false (by omega)
    obtain rfl : k = r.al.length := by omega
    rw [List.take_length]
    repeat (first
      | ((first | with_reducible refine sops_go ?_ | with_reducible refine headW_end ?_ | with_reducible refine sops_end ?_ | with_reducible refine awp_if ?_ | with_reducible refine awp_skip ?_ | with_reducible refine awp_ret ?_ | with_reducible refine awp_exit ?_); simp only [go_sem, ↓reduceIte, Nat.reduceEqDiff, Nat.reduceLT, Nat.reduceLeDiff, Nat.reduceAdd, Nat.reduceMul, Nat.reduceSub, Nat.reduceBEq, reduceCtorEq, Int.reduceBNe, Int.reduceBEq, Int.reduceLT, Int.reduceLE, Int.reduceGT, Int.reduceGE, ne_eq, eq_self, hF, hdk])
      | (with_reducible refine awp_seq_k (fun _ _ => ?_))
      | (with_reducible refine awp_region [42, 63] ?_)
      | (with_reducible refine awp_block ?_)
      | go_step)
    refine awp_loop_by (ι := {j : Nat // j ≤ r.dl.length}) (fun j σ => ⟨(53, iv (j.1 : Int)) :: keepS [1, 2, 4, 5, 6, 51, 52] σ.slot, (6, [ip n, .sl 8 ((r.al.filter (fun a => decide (a.s < n))).map Att.pv), .sl 3 (((r.dl.take j.1).filter (fun a => decide (a.sl < n))).map Dlv.pv)]) :: [(4, [ip 0, .v (.slice none 0 0), .v (.slice none 0 0)]), (2, r.pv)], [(.b 6 1, (66, 8)), (.b 6 2, (54, 3))], σ.ext⟩) (fun j => r.dl.length - j.1) ⟨0, Nat.zero_le _⟩ (sub_mk ?_) (fun R2 hR2 j => ?_)
    · simp only [go_sem, ↓reduceIte, Nat.reduceEqDiff, Nat.reduceLT, Nat.reduceLeDiff, Nat.reduceAdd, Nat.reduceMul, Nat.reduceSub, Nat.reduceBEq, reduceCtorEq, Int.reduceBNe, Int.reduceBEq, Int.reduceLT, Int.reduceLE, Int.reduceGT, Int.reduceGE, ne_eq, eq_self, hF]
      repeat' (first | rfl | refine ⟨?_, ?_⟩)
    obtain ⟨j, hj⟩ := j
    dsimp only
    simp only [go_sem, ↓reduceIte, Nat.reduceEqDiff, Nat.reduceLT, Nat.reduceLeDiff, Nat.reduceAdd, Nat.reduceMul, Nat.reduceSub, Nat.reduceBEq, reduceCtorEq, Int.reduceBNe, Int.reduceBEq, Int.reduceLT, Int.reduceLE, Int.reduceGT, Int.reduceGE, ne_eq, eq_self, hF]
    by_cases hjt : j < r.dl.length
    case neg =>
      have hdj : decide ((j : Int) < (r.dl.length : Int)) = false := decide_eq_false (by omega)
      obtain rfl : j = r.dl.length := by omega
      rw [List.take_length]
      repeat (first
        | ((first | with_reducible refine sops_go ?_ | with_reducible refine headW_end ?_ | with_reducible refine sops_end ?_ | with_reducible refine awp_if ?_ | with_reducible refine awp_skip ?_ | with_reducible refine awp_ret ?_ | with_reducible refine awp_exit ?_); simp only [go_sem, ↓reduceIte, Nat.reduceEqDiff, Nat.reduceLT, Nat.reduceLeDiff, Nat.reduceAdd, Nat.reduceMul, Nat.reduceSub, Nat.reduceBEq, reduceCtorEq, Int.reduceBNe, Int.reduceBEq, Int.reduceLT, Int.reduceLE, Int.reduceGT, Int.reduceGE, ne_eq, eq_self, hF, hdj])
        | (with_reducible refine awp_seq_k (fun _ _ => ?_))
        | (with_reducible refine awp_region [42, 63] ?_)
        | (with_reducible refine awp_block ?_)
        | go_step)
      all_goals (try rfl)
    obtain ⟨d, hxk⟩ := get_of_lt hjt
    have hdj : decide ((j : Int) < (r.dl.length : Int)) = true := decide_eq_true (by omega)
    have hwj : IntKind.i64.wrap ((j : Int) + 1) = ((j + 1 : Nat) : Int) := by rw [IntKind.wrap_i64]; omega
    have hT : r.dl.take (j + 1) = r.dl.take j ++ [d] := by rw [List.take_add_one, hxk]; rfl
    have hL : ((r.dl.take j).filter (fun a => decide (a.sl < n))).length ≤ 99999999 := by
      have h1 := List.length_filter_le (fun a => decide (a.sl < n)) (r.dl.take j)
      have h2 : (r.dl.take j).length ≤ j := by rw [List.length_take]; omega
      omega
    cases hx : decide (d.sl < n) with
    | true =>
      have hN : (r.dl.take (j + 1)).filter (fun a => decide (a.sl < n)) = (r.dl.take j).filter (fun a => decide (a.sl < n)) ++ [d] := by rw [hT, List.filter_append, List.filter_cons_of_pos (by exact hx), List.filter_nil]
      repeat (first
        | ((first | with_reducible refine sops_go ?_ | with_reducible refine headW_end ?_ | with_reducible refine sops_end ?_ | with_reducible refine awp_if ?_ | with_reducible refine awp_skip ?_ | with_reducible refine awp_ret ?_ | with_reducible refine awp_exit ?_); simp only [go_sem, ↓reduceIte, Nat.reduceEqDiff, Nat.reduceLT, Nat.reduceLeDiff, Nat.reduceAdd, Nat.reduceMul, Nat.reduceSub, Nat.reduceBEq, reduceCtorEq, Int.reduceBNe, Int.reduceBEq, Int.reduceLT, Int.reduceLE, Int.reduceGT, Int.reduceGE, ne_eq, eq_self, hF, hdj, hxk, hx, hL])
        | (with_reducible refine awp_seq_k (fun _ _ => ?_))
        | (with_reducible refine awp_region [42, 63] ?_)
        | (with_reducible refine awp_block ?_)
        | go_step)
      refine ⟨⟨j + 1, by omega⟩, by dsimp only; omega, hR2 _ _ (sub_mk ?_)⟩
      simp only [go_sem, ↓reduceIte, Nat.reduceEqDiff, Nat.reduceLT, Nat.reduceLeDiff, Nat.reduceAdd, Nat.reduceMul, Nat.reduceSub, Nat.reduceBEq, reduceCtorEq, Int.reduceBNe, Int.reduceBEq, Int.reduceLT, Int.reduceLE, Int.reduceGT, Int.reduceGE, ne_eq, eq_self, hF, hwj, hN, List.map_append]
    | false =>
      have hN : (r.dl.take (j + 1)).filter (fun a => decide (a.sl < n)) = (r.dl.take j).filter (fun a => decide (a.sl < n)) := by rw [hT, List.filter_append, List.filter_cons_of_neg (by rw [hx]; decide), List.filter_nil, List.append_nil]
      repeat (first
        | ((first | with_reducible refine sops_go ?_ | with_reducible refine headW_end ?_ | with_reducible refine sops_end ?_ | with_reducible refine awp_if ?_ | with_reducible refine awp_skip ?_ | with_reducible refine awp_ret ?_ | with_reducible refine awp_exit ?_); simp only [go_sem, ↓reduceIte, Nat.reduceEqDiff, Nat.reduceLT, Nat.reduceLeDiff, Nat.reduceAdd, Nat.reduceMul, Nat.reduceSub, Nat.reduceBEq, reduceCtorEq, Int.reduceBNe, Int.reduceBEq, Int.reduceLT, Int.reduceLE, Int.reduceGT, Int.reduceGE, ne_eq, eq_self, hF, hdj, hxk, hx])
        | (with_reducible refine awp_seq_k (fun _ _ => ?_))
        | (with_reducible refine awp_region [42, 63] ?_)
        | (with_reducible refine awp_block ?_)
        | go_step)
      refine ⟨⟨j + 1, by omega⟩, by dsimp only; omega, hR2 _ _ (sub_mk ?_)⟩
      simp only [go_sem, ↓reduceIte, Nat.reduceEqDiff, Nat.reduceLT, Nat.reduceLeDiff, Nat.reduceAdd, Nat.reduceMul, Nat.reduceSub, Nat.reduceBEq, reduceCtorEq, Int.reduceBNe, Int.reduceBEq, Int.reduceLT, Int.reduceLE, Int.reduceGT, Int.reduceGE, ne_eq, eq_self, hF, hwj, hN]
  obtain ⟨d, hxk⟩ := get_of_lt hlt
  have hdk : decide ((k : Int) < (r.al.length : Int)) = true := decide_eq_true (by omega)
  have hwk : IntKind.i64.wrap ((k : Int) + 1) = ((k + 1 : Nat) : Int) := by rw [IntKind.wrap_i64]; omega
  have hT : r.al.take (k + 1) = r.al.take k ++ [d] := by rw [List.take_add_one, hxk]; rfl
  have hL : ((r.al.take k).filter (fun a => decide (a.s < n))).length ≤ 99999999 := by
    have h1 := List.length_filter_le (fun a => decide (a.s < n)) (r.al.take k)
    have h2 : (r.al.take k).length ≤ k := by rw [List.length_take]; omega
    omega
  cases hx : decide (d.s < n) with
  | true =>
    have hN : (r.al.take (k + 1)).filter (fun a => decide (a.s < n)) = (r.al.take k).filter (fun a => decide (a.s < n)) ++ [d] := by rw [hT, List.filter_append, List.filter_cons_of_pos (by exact hx), List.filter_nil]
    repeat (first
      | ((first | with_reducible refine sops_go ?_ | with_reducible refine headW_end ?_ | with_reducible refine sops_end ?_ | with_reducible refine awp_if ?_ | with_reducible refine awp_skip ?_ | with_reducible refine awp_ret ?_ | with_reducible refine awp_exit ?_); simp only [go_sem, ↓reduceIte, Nat.reduceEqDiff, Nat.reduceLT, Nat.reduceLeDiff, Nat.reduceAdd, Nat.reduceMul, Nat.reduceSub, Nat.reduceBEq, reduceCtorEq, Int.reduceBNe, Int.reduceBEq, Int.reduceLT, Int.reduceLE, Int.reduceGT, Int.reduceGE, ne_eq, eq_self, hF, hdk, hxk, hx, hL])
      | (with_reducible refine awp_seq_k (fun _ _ => ?_))
      | (with_reducible refine awp_region [42, 63] ?_)
      | (with_reducible refine awp_block ?_)
      | go_step)
    refine ⟨⟨k + 1, by omega⟩, by dsimp only; omega, hR _ _ (sub_mk ?_)⟩
    simp only [go_sem, ↓reduceIte, Nat.reduceEqDiff, Nat.reduceLT, Nat.reduceLeDiff, Nat.reduceAdd, Nat.reduceMul, Nat.reduceSub, Nat.reduceBEq, reduceCtorEq, Int.reduceBNe, Int.reduceBEq, Int.reduceLT, Int.reduceLE, Int.reduceGT, Int.reduceGE, ne_eq, eq_self, hF, hwk, hN, List.map_append]
  | false =>
    have hN : (r.al.take (k + 1)).filter (fun a => decide (a.s < n)) = (r.al.take k).filter (fun a => decide (a.s < n)) := by rw [hT, List.filter_append, List.filter_cons_of_neg (by rw [hx]; decide), List.filter_nil, List.append_nil]
    repeat (first
      | ((first | with_reducible refine sops_go ?_ | with_reducible refine headW_end ?_ | with_reducible refine sops_end ?_ | with_reducible refine awp_if ?_ | with_reducible refine awp_skip ?_ | with_reducible refine awp_ret ?_ | with_reducible refine awp_exit ?_); simp only [go_sem, ↓reduceIte, Nat.reduceEqDiff, Nat.reduceLT, Nat.reduceLeDiff, Nat.reduceAdd, Nat.reduceMul, Nat.reduceSub, Nat.reduceBEq, reduceCtorEq, Int.reduceBNe, Int.reduceBEq, Int.reduceLT, Int.reduceLE, Int.reduceGT, Int.reduceGE, ne_eq, eq_self, hF, hdk, hxk, hx])
      | (with_reducible refine awp_seq_k (fun _ _ => ?_))
      | (with_reducible refine awp_region [42, 63] ?_)
      | (with_reducible refine awp_block ?_)
      | go_step)
    refine ⟨⟨k + 1, by omega⟩, by dsimp only; omega, hR _ _ (sub_mk ?_)⟩
    simp only [go_sem, ↓reduceIte, Nat.reduceEqDiff, Nat.reduceLT, Nat.reduceLeDiff, Nat.reduceAdd, Nat.reduceMul, Nat.reduceSub, Nat.reduceBEq, reduceCtorEq, Int.reduceBNe, Int.reduceBEq, Int.reduceLT, Int.reduceLE, Int.reduceGT, Int.reduceGE, ne_eq, eq_self, hF, hwk, hN]
end Go.Proofs.Ytkdigdnacggknaa
/- MonitorGrows by abstract states. -/
namespace Go.Proofs.Ytkdigdnacggknaa
open Go.RowKit
open Nd Rc Mo
open Av
set_option maxRecDepth 100000
set_option linter.unusedSimpArgs false
attribute [local go_sem] Av.guardB Av.sop Av.hopx Av.hop Av.hopCall Av.hopF Av.hopB Av.evo Av.evos Av.avCells Av.loadK Av.bound Av.abin Av.aun Av.partsC Av.lfill Av.placesB Av.setAt Av.stl Av.takes Av.src Av.bxOf Av.ownOf Av.St.res Av.St.put Av.St.addBox Av.St.putOwn Av.delL Av.delS Av.look Av.lookL Av.storeSt Av.stealSt Av.St.setBox Av.keepL Av.hitB Av.snap Av.snaps Av.snapCaps Av.AV.lit Av.AV.refs Av.capRefs Av.PV.av Av.CV.av Av.startSt Av.steals Av.athen Av.ablock Av.appK Av.AllS Av.AllO Av.AllR Av.keepS Av.St.avAt Av.RetOK Av.retAll Av.retOne Av.intsOf Av.ptrB Av.appB Av.appSt TypeDesc.isRow List.range_zero Option.some.injEq exists_eq_left' exists_eq_left exists_eq' exists_and_left exists_and_right exists_const true_and and_true and_self false_and and_false or_false false_or or_true true_or if_true if_false Bool.false_eq_true List.zipIdx_cons List.zipIdx_nil List.map_cons List.map_nil List.filter_cons List.filter_nil List.contains_cons List.contains_nil List.drop_succ_cons List.drop_zero List.take_succ_cons List.take_zero List.take_nil List.drop_nil List.length_cons List.length_nil List.cons_append List.nil_append List.append_nil List.getElem?_cons_zero List.getElem?_cons_succ List.getElem?_nil Option.bind_some Option.bind_none Option.map_some Option.map_none Option.isNone_none Option.isNone_some Option.isSome_some Option.isSome_none Bool.and_true Bool.true_and Bool.and_false Bool.false_and Bool.or_false Bool.false_or Bool.not_true Bool.not_false beq_true beq_false Bool.true_beq Bool.false_beq Loc.s.injEq Loc.b.injEq decide_true decide_false beq_self_eq_true Nat.zero_add Nat.add_zero List.getElem?_toArray List.toList_toArray List.size_toArray Value.oneCell' List.all_cons List.all_nil Value.int.injEq AV.v.injEq AV.sl.injEq AV.agg.injEq AV.ref.injEq AV.ept.injEq AV.tup.injEq Value.bool.injEq PV.v.injEq PV.sl.injEq List.isEmpty_nil List.isEmpty_cons forall_const not_true_eq_false not_false_eq_true true_implies false_implies Value.string.injEq List.length_map List.getElem?_map Int.toNat_natCast Int.natCast_nonneg List.length_append Value.cells implies_true TypeDesc.struct.injEq TypeDesc.slice.injEq TypeDesc.array.injEq List.getElem?_toArray Prod.mk.injEq and_assoc exists_false List.cons.injEq Operand.tmp.injEq ite_self AV.fnv.injEq AV.clo.injEq Try.sz3 Try.zr3 Try.by3 Try.pl3 Try.is3 Try.underlying3 Try.sz4 Try.zr4 Try.by4 Try.pl4 Try.is4 Try.underlying4 Try.sz32 Try.zr32 Try.by32 Try.pl32 Try.is32 Try.underlying32 Try.sz28 Try.zr28 Try.by28 Try.pl28 Try.is28 Try.underlying28 Try.sz26 Try.zr26 Try.by26 Try.pl26 Try.is26 Try.underlying26 Try.sz37 Try.zr37 Try.by37 Try.pl37 Try.is37 Try.underlying37 Try.sz68 Try.zr68 Try.by68 Try.pl68 Try.is68 Try.underlying68 Try.sz57 Try.zr57 Try.by57 Try.pl57 Try.is57 Try.underlying57 Try.sz70 Try.zr70 Try.by70 Try.pl70 Try.is70 Try.underlying70 Try.sz54 Try.zr54 Try.by54 Try.pl54 Try.is54 Try.underlying54 Try.sz66 Try.zr66 Try.by66 Try.pl66 Try.is66 Try.underlying66 Try.sz64 Try.zr64 Try.by64 Try.pl64 Try.is64 Try.underlying64 Try.sz73 Try.zr73 Try.by73 Try.pl73 Try.is73 Try.underlying73 Try.sz102 Try.zr102 Try.by102 Try.pl102 Try.is102 Try.underlying102 Try.sz105 Try.zr105 Try.by105 Try.pl105 Try.is105 Try.underlying105 Try.sz44 Try.zr44 Try.by44 Try.pl44 Try.is44 Try.underlying44 Try.sz22 Try.zr22 Try.by22 Try.pl22 Try.is22 Try.underlying22 Try.sz31 Try.zr31 Try.by31 Try.pl31 Try.is31 Try.underlying31 Try.sz23 Try.zr23 Try.by23 Try.pl23 Try.is23 Try.underlying23 Try.sz24 Try.zr24 Try.by24 Try.pl24 Try.is24 Try.underlying24 Try.sz46 Try.zr46 Try.by46 Try.pl46 Try.is46 Try.underlying46 Try.sz41 Try.zr41 Try.by41 Try.pl41 Try.is41 Try.underlying41 Try.sz42 Try.zr42 Try.by42 Try.pl42 Try.is42 Try.underlying42 Try.sz40 Try.zr40 Try.by40 Try.pl40 Try.is40 Try.underlying40 Try.it68 Try.eg68 Try.it54 Try.eg54 Try.it66 Try.eg66 Try.it57 Try.eg57 Try.it37 Try.eg37 Try.it73 Try.eg73 all_arr loc_ss loc_sb loc_bs loc_bb arr_two arr_one rg1 rg2 rg3 rg4 rg5 rg6 rg7 rg8 ResultVar.tmp.injEq Bool.not_true Bool.not_false undef Rc.Rec.pv Nd.Fl.pv Rc.Dlv.pv Rc.Att.pv Mo.Lt.pv Mo.Sv.pv Fn.func.injEq

def sameB (x y : Lt) : Bool := y.fl == x.fl && y.fr == x.fr

set_option maxHeartbeats 2000000 in
theorem same_ok (x y : Lt) : FnOK Try.prog 35 [.agg y.pv, .ept x.pv] ⟨bv (sameB x y), none⟩ := by
  refine fn_ok Try.func35 (by kernel_rfl) rfl (by rw [Try.ntmps35]; exact of_decide_eq_true rfl) (fun F hF => ?_)
  rw [Try.ntmps35] at hF
  rw [Try.results35]
  unfold sameB
  cases e1 : (y.fl == x.fl) with
  | false =>
    repeat (first
      | ((first | with_reducible refine sops_go ?_ | with_reducible refine headW_end ?_ | with_reducible refine sops_end ?_ | with_reducible refine awp_if ?_ | with_reducible refine awp_skip ?_ | with_reducible refine awp_ret ?_ | with_reducible refine awp_exit ?_); simp only [go_sem, ↓reduceIte, Nat.reduceEqDiff, Nat.reduceLT, Nat.reduceLeDiff, Nat.reduceAdd, Nat.reduceMul, Nat.reduceSub, Nat.reduceBEq, reduceCtorEq, Int.reduceBNe, Int.reduceBEq, Int.reduceLT, Int.reduceLE, Int.reduceGT, Int.reduceGE, ne_eq, eq_self, hF, e1])
      | (with_reducible refine awp_seq_k (fun _ _ => ?_))
      | (with_reducible refine awp_region [] ?_)
      | (with_reducible refine awp_block ?_)
      | go_step)
    all_goals (try rfl)
  | true =>
    cases e2 : (y.fr == x.fr) with
    | false =>
      repeat (first
        | ((first | with_reducible refine sops_go ?_ | with_reducible refine headW_end ?_ | with_reducible refine sops_end ?_ | with_reducible refine awp_if ?_ | with_reducible refine awp_skip ?_ | with_reducible refine awp_ret ?_ | with_reducible refine awp_exit ?_); simp only [go_sem, ↓reduceIte, Nat.reduceEqDiff, Nat.reduceLT, Nat.reduceLeDiff, Nat.reduceAdd, Nat.reduceMul, Nat.reduceSub, Nat.reduceBEq, reduceCtorEq, Int.reduceBNe, Int.reduceBEq, Int.reduceLT, Int.reduceLE, Int.reduceGT, Int.reduceGE, ne_eq, eq_self, hF, e1, e2])
        | (with_reducible refine awp_seq_k (fun _ _ => ?_))
        | (with_reducible refine awp_region [] ?_)
        | (with_reducible refine awp_block ?_)
        | go_step)
      all_goals (try rfl)
    | true =>
      repeat (first
        | ((first | with_reducible refine sops_go ?_ | with_reducible refine headW_end ?_ | with_reducible refine sops_end ?_ | with_reducible refine awp_if ?_ | with_reducible refine awp_skip ?_ | with_reducible refine awp_ret ?_ | with_reducible refine awp_exit ?_); simp only [go_sem, ↓reduceIte, Nat.reduceEqDiff, Nat.reduceLT, Nat.reduceLeDiff, Nat.reduceAdd, Nat.reduceMul, Nat.reduceSub, Nat.reduceBEq, reduceCtorEq, Int.reduceBNe, Int.reduceBEq, Int.reduceLT, Int.reduceLE, Int.reduceGT, Int.reduceGE, ne_eq, eq_self, hF, e1, e2])
        | (with_reducible refine awp_seq_k (fun _ _ => ?_))
        | (with_reducible refine awp_region [] ?_)
        | (with_reducible refine awp_block ?_)
        | go_step)
      all_goals (try rfl)

set_option maxHeartbeats 2000000 in
theorem index_ok (x : Lt) (l : List Lt) (hl : l.length ≤ 1000000) : FnOK Try.prog 34 [.sl 3 (l.map Lt.pv), .fnv 35 [x.pv]] ⟨iv (idxP (sameB x) l 0), none⟩ := by
  refine fn_ok Try.func34 (by kernel_rfl) rfl (by rw [Try.ntmps34]; exact of_decide_eq_true rfl) (fun F hF => ?_)
  rw [Try.ntmps34] at hF
  rw [Try.results34]
  repeat (first
    | ((first | with_reducible refine sops_go ?_ | with_reducible refine headW_end ?_ | with_reducible refine sops_end ?_ | with_reducible refine awp_if ?_ | with_reducible refine awp_skip ?_ | with_reducible refine awp_ret ?_ | with_reducible refine awp_exit ?_); simp only [go_sem, ↓reduceIte, Nat.reduceEqDiff, Nat.reduceLT, Nat.reduceLeDiff, Nat.reduceAdd, Nat.reduceMul, Nat.reduceSub, Nat.reduceBEq, reduceCtorEq, Int.reduceBNe, Int.reduceBEq, Int.reduceLT, Int.reduceLE, Int.reduceGT, Int.reduceGE, ne_eq, eq_self, hF])
    | (with_reducible refine awp_seq_k (fun _ _ => ?_))
    | (with_reducible refine awp_region [] ?_)
    | (with_reducible refine awp_block ?_)
    | go_step)
  refine awp_loop_by (ι := {k : Nat // k ≤ l.length ∧ idxP (sameB x) l 0 = idxP (sameB x) (l.drop k) (k : Int)}) (fun k σ => ⟨(8, iv (k.1 : Int)) :: keepS [0, 1, 4, 7] σ.slot, σ.box, [], σ.ext⟩) (fun k => l.length - k.1) ⟨0, by omega, rfl⟩ (sub_mk ?_) (fun R hR k => ?_)
  · simp only [go_sem, ↓reduceIte, Nat.reduceEqDiff, Nat.reduceLT, Nat.reduceLeDiff, Nat.reduceAdd, Nat.reduceMul, Nat.reduceSub, Nat.reduceBEq, reduceCtorEq, Int.reduceBNe, Int.reduceBEq, Int.reduceLT, Int.reduceLE, Int.reduceGT, Int.reduceGE, ne_eq, eq_self, hF]
    repeat' (first | rfl | refine ⟨?_, ?_⟩)
  obtain ⟨k, hk, hT⟩ := k
  dsimp only
  simp only [go_sem, ↓reduceIte, Nat.reduceEqDiff, Nat.reduceLT, Nat.reduceLeDiff, Nat.reduceAdd, Nat.reduceMul, Nat.reduceSub, Nat.reduceBEq, reduceCtorEq, Int.reduceBNe, Int.reduceBEq, Int.reduceLT, Int.reduceLE, Int.reduceGT, Int.reduceGE, ne_eq, eq_self, hF]
  by_cases hlt : k < l.length
  case neg =>
    have hd : decide ((k : Int) < (l.length : Int)) = false := decide_eq_false (by omega)
    repeat (first
      | ((first | with_reducible refine sops_go ?_ | with_reducible refine headW_end ?_ | with_reducible refine sops_end ?_ | with_reducible refine awp_if ?_ | with_reducible refine awp_skip ?_ | with_reducible refine awp_ret ?_ | with_reducible refine awp_exit ?_); simp only [go_sem, ↓reduceIte, Nat.reduceEqDiff, Nat.reduceLT, Nat.reduceLeDiff, Nat.reduceAdd, Nat.reduceMul, Nat.reduceSub, Nat.reduceBEq, reduceCtorEq, Int.reduceBNe, Int.reduceBEq, Int.reduceLT, Int.reduceLE, Int.reduceGT, Int.reduceGE, ne_eq, eq_self, hF, hd])
      | (with_reducible refine awp_seq_k (fun _ _ => ?_))
      | (with_reducible refine awp_region [] ?_)
      | (with_reducible refine awp_block ?_)
      | go_step)
    rw [hT, List.drop_of_length_le (by omega)]
    rfl
  obtain ⟨y, hyk⟩ := get_of_lt hlt
  have hd : decide ((k : Int) < (l.length : Int)) = true := decide_eq_true (by omega)
  have hw : IntKind.i64.wrap ((k : Int) + 1) = ((k + 1 : Nat) : Int) := by rw [IntKind.wrap_i64]; omega
  have hT' : idxP (sameB x) l 0 = if sameB x y = true then (k : Int) else idxP (sameB x) (l.drop (k + 1)) ((k + 1 : Nat) : Int) := by rw [hT, drop_of_get hyk, idxP]; rfl
  repeat (first
    | ((first | with_reducible refine sops_go ?_ | with_reducible refine headW_end ?_ | with_reducible refine sops_end ?_ | with_reducible refine awp_if ?_ | with_reducible refine awp_skip ?_ | with_reducible refine awp_ret ?_ | with_reducible refine awp_exit ?_); simp only [go_sem, ↓reduceIte, Nat.reduceEqDiff, Nat.reduceLT, Nat.reduceLeDiff, Nat.reduceAdd, Nat.reduceMul, Nat.reduceSub, Nat.reduceBEq, reduceCtorEq, Int.reduceBNe, Int.reduceBEq, Int.reduceLT, Int.reduceLE, Int.reduceGT, Int.reduceGE, ne_eq, eq_self, hF, hd, hyk])
    | (with_reducible refine awp_seq_k (fun _ _ => ?_))
    | (with_reducible refine awp_region [] ?_)
    | (with_reducible refine awp_block ?_)
    | go_step)
  refine ⟨_, same_ok x y, ?_⟩
  simp only [go_sem, ↓reduceIte, Nat.reduceEqDiff, Nat.reduceLT, Nat.reduceLeDiff, Nat.reduceAdd, Nat.reduceMul, Nat.reduceSub, Nat.reduceBEq, reduceCtorEq, Int.reduceBNe, Int.reduceBEq, Int.reduceLT, Int.reduceLE, Int.reduceGT, Int.reduceGE, ne_eq, eq_self, hF]
  cases he : sameB x y with
  | true =>
    try simp only [go_sem, ↓reduceIte, Nat.reduceEqDiff, Nat.reduceLT, Nat.reduceLeDiff, Nat.reduceAdd, Nat.reduceMul, Nat.reduceSub, Nat.reduceBEq, reduceCtorEq, Int.reduceBNe, Int.reduceBEq, Int.reduceLT, Int.reduceLE, Int.reduceGT, Int.reduceGE, ne_eq, eq_self, hF, he]
    repeat (first
      | ((first | with_reducible refine sops_go ?_ | with_reducible refine headW_end ?_ | with_reducible refine sops_end ?_ | with_reducible refine awp_if ?_ | with_reducible refine awp_skip ?_ | with_reducible refine awp_ret ?_ | with_reducible refine awp_exit ?_); simp only [go_sem, ↓reduceIte, Nat.reduceEqDiff, Nat.reduceLT, Nat.reduceLeDiff, Nat.reduceAdd, Nat.reduceMul, Nat.reduceSub, Nat.reduceBEq, reduceCtorEq, Int.reduceBNe, Int.reduceBEq, Int.reduceLT, Int.reduceLE, Int.reduceGT, Int.reduceGE, ne_eq, eq_self, hF, he])
      | (with_reducible refine awp_seq_k (fun _ _ => ?_))
      | (with_reducible refine awp_region [] ?_)
      | (with_reducible refine awp_block ?_)
      | go_step)
    rw [hT', if_pos he]
  | false =>
    try simp only [go_sem, ↓reduceIte, Nat.reduceEqDiff, Nat.reduceLT, Nat.reduceLeDiff, Nat.reduceAdd, Nat.reduceMul, Nat.reduceSub, Nat.reduceBEq, reduceCtorEq, Int.reduceBNe, Int.reduceBEq, Int.reduceLT, Int.reduceLE, Int.reduceGT, Int.reduceGE, ne_eq, eq_self, hF, he]
    repeat (first
      | ((first | with_reducible refine sops_go ?_ | with_reducible refine headW_end ?_ | with_reducible refine sops_end ?_ | with_reducible refine awp_if ?_ | with_reducible refine awp_skip ?_ | with_reducible refine awp_ret ?_ | with_reducible refine awp_exit ?_); simp only [go_sem, ↓reduceIte, Nat.reduceEqDiff, Nat.reduceLT, Nat.reduceLeDiff, Nat.reduceAdd, Nat.reduceMul, Nat.reduceSub, Nat.reduceBEq, reduceCtorEq, Int.reduceBNe, Int.reduceBEq, Int.reduceLT, Int.reduceLE, Int.reduceGT, Int.reduceGE, ne_eq, eq_self, hF, he])
      | (with_reducible refine awp_seq_k (fun _ _ => ?_))
      | (with_reducible refine awp_region [] ?_)
      | (with_reducible refine awp_block ?_)
      | go_step)
    refine ⟨⟨k + 1, by omega, by rw [hT', if_neg (by rw [he]; decide)]⟩, by dsimp only; omega, hR _ _ (sub_mk ?_)⟩
    simp only [go_sem, ↓reduceIte, Nat.reduceEqDiff, Nat.reduceLT, Nat.reduceLeDiff, Nat.reduceAdd, Nat.reduceMul, Nat.reduceSub, Nat.reduceBEq, reduceCtorEq, Int.reduceBNe, Int.reduceBEq, Int.reduceLT, Int.reduceLE, Int.reduceGT, Int.reduceGE, ne_eq, eq_self, hF, hw]

set_option maxHeartbeats 20000000 in
theorem lawGrows_ok (fs : List Fl) (r : Rec) (n : Int) : FnOK Try.prog 8 [.sl 6 (fs.map Fl.pv), .agg r.pv, iv n] ⟨bv true, none⟩ := by
  refine fn_ok Try.func8 (by kernel_rfl) rfl (by rw [Try.ntmps8]; exact of_decide_eq_true rfl) (fun F hF => ?_)
  rw [Try.ntmps8] at hF
  rw [Try.results8]
  repeat (first
    | ((first | with_reducible refine sops_go ?_ | with_reducible refine headW_end ?_ | with_reducible refine sops_end ?_ | with_reducible refine awp_if ?_ | with_reducible refine awp_skip ?_ | with_reducible refine awp_ret ?_ | with_reducible refine awp_exit ?_); simp only [go_sem, ↓reduceIte, Nat.reduceEqDiff, Nat.reduceLT, Nat.reduceLeDiff, Nat.reduceAdd, Nat.reduceMul, Nat.reduceSub, Nat.reduceBEq, reduceCtorEq, Int.reduceBNe, Int.reduceBEq, Int.reduceLT, Int.reduceLE, Int.reduceGT, Int.reduceGE, ne_eq, eq_self, hF])
    | ((with_reducible refine headW_go ?_); simp only [go_sem, ↓reduceIte, Nat.reduceEqDiff, Nat.reduceLT, Nat.reduceLeDiff, Nat.reduceAdd, Nat.reduceMul, Nat.reduceSub, Nat.reduceBEq, reduceCtorEq, Int.reduceBNe, Int.reduceBEq, Int.reduceLT, Int.reduceLE, Int.reduceGT, Int.reduceGE, ne_eq, eq_self, hF, hbx])
    | (with_reducible refine awp_seq_k (fun _ _ => ?_))
    | (refine awp_draw' (id := 14) [] 15 (by kernel_rfl) (by kernel_rfl) rfl rfl (fun bx0 hbx => ?_); (try dsimp only [List.take_succ_cons, List.take_zero, List.take_nil, List.drop_succ_cons, List.drop_zero, List.drop_nil]))
    | (refine awp_draw' (id := 17) [] 14 (by kernel_rfl) (by kernel_rfl) rfl rfl (fun bx0 hbx => ?_); (try dsimp only [List.take_succ_cons, List.take_zero, List.take_nil, List.drop_succ_cons, List.drop_zero, List.drop_nil]))
    | (refine awp_draw' (id := 18) [] 15 (by kernel_rfl) (by kernel_rfl) rfl rfl (fun bx0 hbx => ?_); (try dsimp only [List.take_succ_cons, List.take_zero, List.take_nil, List.drop_succ_cons, List.drop_zero, List.drop_nil]))
    | (with_reducible refine awp_region [] ?_)
    | (with_reducible refine awp_block ?_)
    | go_step)
  refine ⟨_, awake_ok, ?_⟩
  simp only [go_sem, ↓reduceIte, Nat.reduceEqDiff, Nat.reduceLT, Nat.reduceLeDiff, Nat.reduceAdd, Nat.reduceMul, Nat.reduceSub, Nat.reduceBEq, reduceCtorEq, Int.reduceBNe, Int.reduceBEq, Int.reduceLT, Int.reduceLE, Int.reduceGT, Int.reduceGE, ne_eq, eq_self, hF]
  repeat (first
    | ((first | with_reducible refine sops_go ?_ | with_reducible refine headW_end ?_ | with_reducible refine sops_end ?_ | with_reducible refine awp_if ?_ | with_reducible refine awp_skip ?_ | with_reducible refine awp_ret ?_ | with_reducible refine awp_exit ?_); simp only [go_sem, ↓reduceIte, Nat.reduceEqDiff, Nat.reduceLT, Nat.reduceLeDiff, Nat.reduceAdd, Nat.reduceMul, Nat.reduceSub, Nat.reduceBEq, reduceCtorEq, Int.reduceBNe, Int.reduceBEq, Int.reduceLT, Int.reduceLE, Int.reduceGT, Int.reduceGE, ne_eq, eq_self, hF])
    | ((with_reducible refine headW_go ?_); simp only [go_sem, ↓reduceIte, Nat.reduceEqDiff, Nat.reduceLT, Nat.reduceLeDiff, Nat.reduceAdd, Nat.reduceMul, Nat.reduceSub, Nat.reduceBEq, reduceCtorEq, Int.reduceBNe, Int.reduceBEq, Int.reduceLT, Int.reduceLE, Int.reduceGT, Int.reduceGE, ne_eq, eq_self, hF, hbx])
    | (with_reducible refine awp_seq_k (fun _ _ => ?_))
    | (refine awp_draw' (id := 14) [] 15 (by kernel_rfl) (by kernel_rfl) rfl rfl (fun bx0 hbx => ?_); (try dsimp only [List.take_succ_cons, List.take_zero, List.take_nil, List.drop_succ_cons, List.drop_zero, List.drop_nil]))
    | (refine awp_draw' (id := 17) [] 14 (by kernel_rfl) (by kernel_rfl) rfl rfl (fun bx0 hbx => ?_); (try dsimp only [List.take_succ_cons, List.take_zero, List.take_nil, List.drop_succ_cons, List.drop_zero, List.drop_nil]))
    | (refine awp_draw' (id := 18) [] 15 (by kernel_rfl) (by kernel_rfl) rfl rfl (fun bx0 hbx => ?_); (try dsimp only [List.take_succ_cons, List.take_zero, List.take_nil, List.drop_succ_cons, List.drop_zero, List.drop_nil]))
    | (with_reducible refine awp_region [] ?_)
    | (with_reducible refine awp_block ?_)
    | go_step)
  refine ⟨_, few_ok fs r, ?_⟩
  simp only [go_sem, ↓reduceIte, Nat.reduceEqDiff, Nat.reduceLT, Nat.reduceLeDiff, Nat.reduceAdd, Nat.reduceMul, Nat.reduceSub, Nat.reduceBEq, reduceCtorEq, Int.reduceBNe, Int.reduceBEq, Int.reduceLT, Int.reduceLE, Int.reduceGT, Int.reduceGE, ne_eq, eq_self, hF]
  cases hfw : fewB fs r with
  | false =>
    try simp only [go_sem, ↓reduceIte, Nat.reduceEqDiff, Nat.reduceLT, Nat.reduceLeDiff, Nat.reduceAdd, Nat.reduceMul, Nat.reduceSub, Nat.reduceBEq, reduceCtorEq, Int.reduceBNe, Int.reduceBEq, Int.reduceLT, Int.reduceLE, Int.reduceGT, Int.reduceGE, ne_eq, eq_self, hF, hfw]
    repeat (first
      | ((first | with_reducible refine sops_go ?_ | with_reducible refine headW_end ?_ | with_reducible refine sops_end ?_ | with_reducible refine awp_if ?_ | with_reducible refine awp_skip ?_ | with_reducible refine awp_ret ?_ | with_reducible refine awp_exit ?_); simp only [go_sem, ↓reduceIte, Nat.reduceEqDiff, Nat.reduceLT, Nat.reduceLeDiff, Nat.reduceAdd, Nat.reduceMul, Nat.reduceSub, Nat.reduceBEq, reduceCtorEq, Int.reduceBNe, Int.reduceBEq, Int.reduceLT, Int.reduceLE, Int.reduceGT, Int.reduceGE, ne_eq, eq_self, hF, hfw])
      | ((with_reducible refine headW_go ?_); simp only [go_sem, ↓reduceIte, Nat.reduceEqDiff, Nat.reduceLT, Nat.reduceLeDiff, Nat.reduceAdd, Nat.reduceMul, Nat.reduceSub, Nat.reduceBEq, reduceCtorEq, Int.reduceBNe, Int.reduceBEq, Int.reduceLT, Int.reduceLE, Int.reduceGT, Int.reduceGE, ne_eq, eq_self, hF, hfw, hbx])
      | (with_reducible refine awp_seq_k (fun _ _ => ?_))
      | (refine awp_draw' (id := 14) [] 15 (by kernel_rfl) (by kernel_rfl) rfl rfl (fun bx0 hbx => ?_); (try dsimp only [List.take_succ_cons, List.take_zero, List.take_nil, List.drop_succ_cons, List.drop_zero, List.drop_nil]))
      | (refine awp_draw' (id := 17) [] 14 (by kernel_rfl) (by kernel_rfl) rfl rfl (fun bx0 hbx => ?_); (try dsimp only [List.take_succ_cons, List.take_zero, List.take_nil, List.drop_succ_cons, List.drop_zero, List.drop_nil]))
      | (refine awp_draw' (id := 18) [] 15 (by kernel_rfl) (by kernel_rfl) rfl rfl (fun bx0 hbx => ?_); (try dsimp only [List.take_succ_cons, List.take_zero, List.take_nil, List.drop_succ_cons, List.drop_zero, List.drop_nil]))
      | (with_reducible refine awp_region [] ?_)
      | (with_reducible refine awp_block ?_)
      | go_step)
    refine ⟨_, awake_ok, ?_⟩
    simp only [go_sem, ↓reduceIte, Nat.reduceEqDiff, Nat.reduceLT, Nat.reduceLeDiff, Nat.reduceAdd, Nat.reduceMul, Nat.reduceSub, Nat.reduceBEq, reduceCtorEq, Int.reduceBNe, Int.reduceBEq, Int.reduceLT, Int.reduceLE, Int.reduceGT, Int.reduceGE, ne_eq, eq_self, hF]
    repeat (first
      | ((first | with_reducible refine sops_go ?_ | with_reducible refine headW_end ?_ | with_reducible refine sops_end ?_ | with_reducible refine awp_if ?_ | with_reducible refine awp_skip ?_ | with_reducible refine awp_ret ?_ | with_reducible refine awp_exit ?_); simp only [go_sem, ↓reduceIte, Nat.reduceEqDiff, Nat.reduceLT, Nat.reduceLeDiff, Nat.reduceAdd, Nat.reduceMul, Nat.reduceSub, Nat.reduceBEq, reduceCtorEq, Int.reduceBNe, Int.reduceBEq, Int.reduceLT, Int.reduceLE, Int.reduceGT, Int.reduceGE, ne_eq, eq_self, hF])
      | ((with_reducible refine headW_go ?_); simp only [go_sem, ↓reduceIte, Nat.reduceEqDiff, Nat.reduceLT, Nat.reduceLeDiff, Nat.reduceAdd, Nat.reduceMul, Nat.reduceSub, Nat.reduceBEq, reduceCtorEq, Int.reduceBNe, Int.reduceBEq, Int.reduceLT, Int.reduceLE, Int.reduceGT, Int.reduceGE, ne_eq, eq_self, hF, hbx])
      | (with_reducible refine awp_seq_k (fun _ _ => ?_))
      | (refine awp_draw' (id := 14) [] 15 (by kernel_rfl) (by kernel_rfl) rfl rfl (fun bx0 hbx => ?_); (try dsimp only [List.take_succ_cons, List.take_zero, List.take_nil, List.drop_succ_cons, List.drop_zero, List.drop_nil]))
      | (refine awp_draw' (id := 17) [] 14 (by kernel_rfl) (by kernel_rfl) rfl rfl (fun bx0 hbx => ?_); (try dsimp only [List.take_succ_cons, List.take_zero, List.take_nil, List.drop_succ_cons, List.drop_zero, List.drop_nil]))
      | (refine awp_draw' (id := 18) [] 15 (by kernel_rfl) (by kernel_rfl) rfl rfl (fun bx0 hbx => ?_); (try dsimp only [List.take_succ_cons, List.take_zero, List.take_nil, List.drop_succ_cons, List.drop_zero, List.drop_nil]))
      | (with_reducible refine awp_region [] ?_)
      | (with_reducible refine awp_block ?_)
      | go_step)

    all_goals (try rfl)
  | true =>
    obtain ⟨hf1, hla1, hld1⟩ := fewB_of hfw
    have hf : fs.length ≤ 1000000 := by omega
    have hla : r.al.length ≤ 1000000 := by omega
    have hld : r.dl.length ≤ 1000000 := by omega
    have hll := late_bound fs r
    have hn0 : ((0 : Int) != 0) = false := rfl
    have hn1 : ((1 : Int) != 0) = true := rfl
    have hn2 : ((2 : Int) != 0) = true := rfl
    cases hg : good r with
    | false =>
      try simp only [go_sem, ↓reduceIte, Nat.reduceEqDiff, Nat.reduceLT, Nat.reduceLeDiff, Nat.reduceAdd, Nat.reduceMul, Nat.reduceSub, Nat.reduceBEq, reduceCtorEq, Int.reduceBNe, Int.reduceBEq, Int.reduceLT, Int.reduceLE, Int.reduceGT, Int.reduceGE, ne_eq, eq_self, hF, hfw]
      repeat (first
        | ((first | with_reducible refine sops_go ?_ | with_reducible refine headW_end ?_ | with_reducible refine sops_end ?_ | with_reducible refine awp_if ?_ | with_reducible refine awp_skip ?_ | with_reducible refine awp_ret ?_ | with_reducible refine awp_exit ?_); simp only [go_sem, ↓reduceIte, Nat.reduceEqDiff, Nat.reduceLT, Nat.reduceLeDiff, Nat.reduceAdd, Nat.reduceMul, Nat.reduceSub, Nat.reduceBEq, reduceCtorEq, Int.reduceBNe, Int.reduceBEq, Int.reduceLT, Int.reduceLE, Int.reduceGT, Int.reduceGE, ne_eq, eq_self, hF, hfw])
        | ((with_reducible refine headW_go ?_); simp only [go_sem, ↓reduceIte, Nat.reduceEqDiff, Nat.reduceLT, Nat.reduceLeDiff, Nat.reduceAdd, Nat.reduceMul, Nat.reduceSub, Nat.reduceBEq, reduceCtorEq, Int.reduceBNe, Int.reduceBEq, Int.reduceLT, Int.reduceLE, Int.reduceGT, Int.reduceGE, ne_eq, eq_self, hF, hfw, hbx])
        | (with_reducible refine awp_seq_k (fun _ _ => ?_))
        | (refine awp_draw' (id := 14) [] 15 (by kernel_rfl) (by kernel_rfl) rfl rfl (fun bx0 hbx => ?_); (try dsimp only [List.take_succ_cons, List.take_zero, List.take_nil, List.drop_succ_cons, List.drop_zero, List.drop_nil]))
        | (refine awp_draw' (id := 17) [] 14 (by kernel_rfl) (by kernel_rfl) rfl rfl (fun bx0 hbx => ?_); (try dsimp only [List.take_succ_cons, List.take_zero, List.take_nil, List.drop_succ_cons, List.drop_zero, List.drop_nil]))
        | (refine awp_draw' (id := 18) [] 15 (by kernel_rfl) (by kernel_rfl) rfl rfl (fun bx0 hbx => ?_); (try dsimp only [List.take_succ_cons, List.take_zero, List.take_nil, List.drop_succ_cons, List.drop_zero, List.drop_nil]))
        | (with_reducible refine awp_region [] ?_)
        | (with_reducible refine awp_block ?_)
        | go_step)
      refine ⟨_, cp_ok r hla hld, ?_⟩
      simp only [go_sem, ↓reduceIte, Nat.reduceEqDiff, Nat.reduceLT, Nat.reduceLeDiff, Nat.reduceAdd, Nat.reduceMul, Nat.reduceSub, Nat.reduceBEq, reduceCtorEq, Int.reduceBNe, Int.reduceBEq, Int.reduceLT, Int.reduceLE, Int.reduceGT, Int.reduceGE, ne_eq, eq_self, hF]
      repeat (first
        | ((first | with_reducible refine sops_go ?_ | with_reducible refine headW_end ?_ | with_reducible refine sops_end ?_ | with_reducible refine awp_if ?_ | with_reducible refine awp_skip ?_ | with_reducible refine awp_ret ?_ | with_reducible refine awp_exit ?_); simp only [go_sem, ↓reduceIte, Nat.reduceEqDiff, Nat.reduceLT, Nat.reduceLeDiff, Nat.reduceAdd, Nat.reduceMul, Nat.reduceSub, Nat.reduceBEq, reduceCtorEq, Int.reduceBNe, Int.reduceBEq, Int.reduceLT, Int.reduceLE, Int.reduceGT, Int.reduceGE, ne_eq, eq_self, hF])
        | ((with_reducible refine headW_go ?_); simp only [go_sem, ↓reduceIte, Nat.reduceEqDiff, Nat.reduceLT, Nat.reduceLeDiff, Nat.reduceAdd, Nat.reduceMul, Nat.reduceSub, Nat.reduceBEq, reduceCtorEq, Int.reduceBNe, Int.reduceBEq, Int.reduceLT, Int.reduceLE, Int.reduceGT, Int.reduceGE, ne_eq, eq_self, hF, hbx])
        | (with_reducible refine awp_seq_k (fun _ _ => ?_))
        | (refine awp_draw' (id := 14) [] 15 (by kernel_rfl) (by kernel_rfl) rfl rfl (fun bx0 hbx => ?_); (try dsimp only [List.take_succ_cons, List.take_zero, List.take_nil, List.drop_succ_cons, List.drop_zero, List.drop_nil]))
        | (refine awp_draw' (id := 17) [] 14 (by kernel_rfl) (by kernel_rfl) rfl rfl (fun bx0 hbx => ?_); (try dsimp only [List.take_succ_cons, List.take_zero, List.take_nil, List.drop_succ_cons, List.drop_zero, List.drop_nil]))
        | (refine awp_draw' (id := 18) [] 15 (by kernel_rfl) (by kernel_rfl) rfl rfl (fun bx0 hbx => ?_); (try dsimp only [List.take_succ_cons, List.take_zero, List.take_nil, List.drop_succ_cons, List.drop_zero, List.drop_nil]))
        | (with_reducible refine awp_region [] ?_)
        | (with_reducible refine awp_block ?_)
        | go_step)
      refine ⟨_, cut1_ok r n hla hld hg, ?_⟩
      simp only [go_sem, ↓reduceIte, Nat.reduceEqDiff, Nat.reduceLT, Nat.reduceLeDiff, Nat.reduceAdd, Nat.reduceMul, Nat.reduceSub, Nat.reduceBEq, reduceCtorEq, Int.reduceBNe, Int.reduceBEq, Int.reduceLT, Int.reduceLE, Int.reduceGT, Int.reduceGE, ne_eq, eq_self, hF, hn1]
      repeat (first
        | ((first | with_reducible refine sops_go ?_ | with_reducible refine headW_end ?_ | with_reducible refine sops_end ?_ | with_reducible refine awp_if ?_ | with_reducible refine awp_skip ?_ | with_reducible refine awp_ret ?_ | with_reducible refine awp_exit ?_); simp only [go_sem, ↓reduceIte, Nat.reduceEqDiff, Nat.reduceLT, Nat.reduceLeDiff, Nat.reduceAdd, Nat.reduceMul, Nat.reduceSub, Nat.reduceBEq, reduceCtorEq, Int.reduceBNe, Int.reduceBEq, Int.reduceLT, Int.reduceLE, Int.reduceGT, Int.reduceGE, ne_eq, eq_self, hF, hn1])
        | ((with_reducible refine headW_go ?_); simp only [go_sem, ↓reduceIte, Nat.reduceEqDiff, Nat.reduceLT, Nat.reduceLeDiff, Nat.reduceAdd, Nat.reduceMul, Nat.reduceSub, Nat.reduceBEq, reduceCtorEq, Int.reduceBNe, Int.reduceBEq, Int.reduceLT, Int.reduceLE, Int.reduceGT, Int.reduceGE, ne_eq, eq_self, hF, hn1, hbx])
        | (with_reducible refine awp_seq_k (fun _ _ => ?_))
        | (refine awp_draw' (id := 14) [] 15 (by kernel_rfl) (by kernel_rfl) rfl rfl (fun bx0 hbx => ?_); (try dsimp only [List.take_succ_cons, List.take_zero, List.take_nil, List.drop_succ_cons, List.drop_zero, List.drop_nil]))
        | (refine awp_draw' (id := 17) [] 14 (by kernel_rfl) (by kernel_rfl) rfl rfl (fun bx0 hbx => ?_); (try dsimp only [List.take_succ_cons, List.take_zero, List.take_nil, List.drop_succ_cons, List.drop_zero, List.drop_nil]))
        | (refine awp_draw' (id := 18) [] 15 (by kernel_rfl) (by kernel_rfl) rfl rfl (fun bx0 hbx => ?_); (try dsimp only [List.take_succ_cons, List.take_zero, List.take_nil, List.drop_succ_cons, List.drop_zero, List.drop_nil]))
        | (with_reducible refine awp_region [] ?_)
        | (with_reducible refine awp_block ?_)
        | go_step)
      all_goals (try rfl)
    | true =>
      by_cases hb : n < 0 ∨ r.slots < n
      case pos =>
        try simp only [go_sem, ↓reduceIte, Nat.reduceEqDiff, Nat.reduceLT, Nat.reduceLeDiff, Nat.reduceAdd, Nat.reduceMul, Nat.reduceSub, Nat.reduceBEq, reduceCtorEq, Int.reduceBNe, Int.reduceBEq, Int.reduceLT, Int.reduceLE, Int.reduceGT, Int.reduceGE, ne_eq, eq_self, hF, hfw]
        repeat (first
          | ((first | with_reducible refine sops_go ?_ | with_reducible refine headW_end ?_ | with_reducible refine sops_end ?_ | with_reducible refine awp_if ?_ | with_reducible refine awp_skip ?_ | with_reducible refine awp_ret ?_ | with_reducible refine awp_exit ?_); simp only [go_sem, ↓reduceIte, Nat.reduceEqDiff, Nat.reduceLT, Nat.reduceLeDiff, Nat.reduceAdd, Nat.reduceMul, Nat.reduceSub, Nat.reduceBEq, reduceCtorEq, Int.reduceBNe, Int.reduceBEq, Int.reduceLT, Int.reduceLE, Int.reduceGT, Int.reduceGE, ne_eq, eq_self, hF, hfw])
          | ((with_reducible refine headW_go ?_); simp only [go_sem, ↓reduceIte, Nat.reduceEqDiff, Nat.reduceLT, Nat.reduceLeDiff, Nat.reduceAdd, Nat.reduceMul, Nat.reduceSub, Nat.reduceBEq, reduceCtorEq, Int.reduceBNe, Int.reduceBEq, Int.reduceLT, Int.reduceLE, Int.reduceGT, Int.reduceGE, ne_eq, eq_self, hF, hfw, hbx])
          | (with_reducible refine awp_seq_k (fun _ _ => ?_))
          | (refine awp_draw' (id := 14) [] 15 (by kernel_rfl) (by kernel_rfl) rfl rfl (fun bx0 hbx => ?_); (try dsimp only [List.take_succ_cons, List.take_zero, List.take_nil, List.drop_succ_cons, List.drop_zero, List.drop_nil]))
          | (refine awp_draw' (id := 17) [] 14 (by kernel_rfl) (by kernel_rfl) rfl rfl (fun bx0 hbx => ?_); (try dsimp only [List.take_succ_cons, List.take_zero, List.take_nil, List.drop_succ_cons, List.drop_zero, List.drop_nil]))
          | (refine awp_draw' (id := 18) [] 15 (by kernel_rfl) (by kernel_rfl) rfl rfl (fun bx0 hbx => ?_); (try dsimp only [List.take_succ_cons, List.take_zero, List.take_nil, List.drop_succ_cons, List.drop_zero, List.drop_nil]))
          | (with_reducible refine awp_region [] ?_)
          | (with_reducible refine awp_block ?_)
          | go_step)
        refine ⟨_, cp_ok r hla hld, ?_⟩
        simp only [go_sem, ↓reduceIte, Nat.reduceEqDiff, Nat.reduceLT, Nat.reduceLeDiff, Nat.reduceAdd, Nat.reduceMul, Nat.reduceSub, Nat.reduceBEq, reduceCtorEq, Int.reduceBNe, Int.reduceBEq, Int.reduceLT, Int.reduceLE, Int.reduceGT, Int.reduceGE, ne_eq, eq_self, hF]
        repeat (first
          | ((first | with_reducible refine sops_go ?_ | with_reducible refine headW_end ?_ | with_reducible refine sops_end ?_ | with_reducible refine awp_if ?_ | with_reducible refine awp_skip ?_ | with_reducible refine awp_ret ?_ | with_reducible refine awp_exit ?_); simp only [go_sem, ↓reduceIte, Nat.reduceEqDiff, Nat.reduceLT, Nat.reduceLeDiff, Nat.reduceAdd, Nat.reduceMul, Nat.reduceSub, Nat.reduceBEq, reduceCtorEq, Int.reduceBNe, Int.reduceBEq, Int.reduceLT, Int.reduceLE, Int.reduceGT, Int.reduceGE, ne_eq, eq_self, hF])
          | ((with_reducible refine headW_go ?_); simp only [go_sem, ↓reduceIte, Nat.reduceEqDiff, Nat.reduceLT, Nat.reduceLeDiff, Nat.reduceAdd, Nat.reduceMul, Nat.reduceSub, Nat.reduceBEq, reduceCtorEq, Int.reduceBNe, Int.reduceBEq, Int.reduceLT, Int.reduceLE, Int.reduceGT, Int.reduceGE, ne_eq, eq_self, hF, hbx])
          | (with_reducible refine awp_seq_k (fun _ _ => ?_))
          | (refine awp_draw' (id := 14) [] 15 (by kernel_rfl) (by kernel_rfl) rfl rfl (fun bx0 hbx => ?_); (try dsimp only [List.take_succ_cons, List.take_zero, List.take_nil, List.drop_succ_cons, List.drop_zero, List.drop_nil]))
          | (refine awp_draw' (id := 17) [] 14 (by kernel_rfl) (by kernel_rfl) rfl rfl (fun bx0 hbx => ?_); (try dsimp only [List.take_succ_cons, List.take_zero, List.take_nil, List.drop_succ_cons, List.drop_zero, List.drop_nil]))
          | (refine awp_draw' (id := 18) [] 15 (by kernel_rfl) (by kernel_rfl) rfl rfl (fun bx0 hbx => ?_); (try dsimp only [List.take_succ_cons, List.take_zero, List.take_nil, List.drop_succ_cons, List.drop_zero, List.drop_nil]))
          | (with_reducible refine awp_region [] ?_)
          | (with_reducible refine awp_block ?_)
          | go_step)
        refine ⟨_, cut2_ok r n hla hld hg hb, ?_⟩
        simp only [go_sem, ↓reduceIte, Nat.reduceEqDiff, Nat.reduceLT, Nat.reduceLeDiff, Nat.reduceAdd, Nat.reduceMul, Nat.reduceSub, Nat.reduceBEq, reduceCtorEq, Int.reduceBNe, Int.reduceBEq, Int.reduceLT, Int.reduceLE, Int.reduceGT, Int.reduceGE, ne_eq, eq_self, hF, hn2]
        repeat (first
          | ((first | with_reducible refine sops_go ?_ | with_reducible refine headW_end ?_ | with_reducible refine sops_end ?_ | with_reducible refine awp_if ?_ | with_reducible refine awp_skip ?_ | with_reducible refine awp_ret ?_ | with_reducible refine awp_exit ?_); simp only [go_sem, ↓reduceIte, Nat.reduceEqDiff, Nat.reduceLT, Nat.reduceLeDiff, Nat.reduceAdd, Nat.reduceMul, Nat.reduceSub, Nat.reduceBEq, reduceCtorEq, Int.reduceBNe, Int.reduceBEq, Int.reduceLT, Int.reduceLE, Int.reduceGT, Int.reduceGE, ne_eq, eq_self, hF, hn2])
          | ((with_reducible refine headW_go ?_); simp only [go_sem, ↓reduceIte, Nat.reduceEqDiff, Nat.reduceLT, Nat.reduceLeDiff, Nat.reduceAdd, Nat.reduceMul, Nat.reduceSub, Nat.reduceBEq, reduceCtorEq, Int.reduceBNe, Int.reduceBEq, Int.reduceLT, Int.reduceLE, Int.reduceGT, Int.reduceGE, ne_eq, eq_self, hF, hn2, hbx])
          | (with_reducible refine awp_seq_k (fun _ _ => ?_))
          | (refine awp_draw' (id := 14) [] 15 (by kernel_rfl) (by kernel_rfl) rfl rfl (fun bx0 hbx => ?_); (try dsimp only [List.take_succ_cons, List.take_zero, List.take_nil, List.drop_succ_cons, List.drop_zero, List.drop_nil]))
          | (refine awp_draw' (id := 17) [] 14 (by kernel_rfl) (by kernel_rfl) rfl rfl (fun bx0 hbx => ?_); (try dsimp only [List.take_succ_cons, List.take_zero, List.take_nil, List.drop_succ_cons, List.drop_zero, List.drop_nil]))
          | (refine awp_draw' (id := 18) [] 15 (by kernel_rfl) (by kernel_rfl) rfl rfl (fun bx0 hbx => ?_); (try dsimp only [List.take_succ_cons, List.take_zero, List.take_nil, List.drop_succ_cons, List.drop_zero, List.drop_nil]))
          | (with_reducible refine awp_region [] ?_)
          | (with_reducible refine awp_block ?_)
          | go_step)
        all_goals (try rfl)
      have h0 : 0 ≤ n := by omega
      have h1 : n ≤ r.slots := by omega
      have hgh := Hg.good_half hg h0 h1
      have hl1 : (halfR r n).al.length ≤ 1000000 := Nat.le_trans (List.length_filter_le _ _) hla
      have hl2 : (halfR r n).dl.length ≤ 1000000 := Nat.le_trans (List.length_filter_le _ _) hld
      have hlh := late_bound fs (halfR r n)
      have hcode : ((late fs (halfR r n)).2 != (late fs r).2) = false := by
        unfold late right
        rw [hgh, hg]
        split <;> simp
      try simp only [go_sem, ↓reduceIte, Nat.reduceEqDiff, Nat.reduceLT, Nat.reduceLeDiff, Nat.reduceAdd, Nat.reduceMul, Nat.reduceSub, Nat.reduceBEq, reduceCtorEq, Int.reduceBNe, Int.reduceBEq, Int.reduceLT, Int.reduceLE, Int.reduceGT, Int.reduceGE, ne_eq, eq_self, hF, hfw]
      repeat (first
        | ((first | with_reducible refine sops_go ?_ | with_reducible refine headW_end ?_ | with_reducible refine sops_end ?_ | with_reducible refine awp_if ?_ | with_reducible refine awp_skip ?_ | with_reducible refine awp_ret ?_ | with_reducible refine awp_exit ?_); simp only [go_sem, ↓reduceIte, Nat.reduceEqDiff, Nat.reduceLT, Nat.reduceLeDiff, Nat.reduceAdd, Nat.reduceMul, Nat.reduceSub, Nat.reduceBEq, reduceCtorEq, Int.reduceBNe, Int.reduceBEq, Int.reduceLT, Int.reduceLE, Int.reduceGT, Int.reduceGE, ne_eq, eq_self, hF, hfw])
        | ((with_reducible refine headW_go ?_); simp only [go_sem, ↓reduceIte, Nat.reduceEqDiff, Nat.reduceLT, Nat.reduceLeDiff, Nat.reduceAdd, Nat.reduceMul, Nat.reduceSub, Nat.reduceBEq, reduceCtorEq, Int.reduceBNe, Int.reduceBEq, Int.reduceLT, Int.reduceLE, Int.reduceGT, Int.reduceGE, ne_eq, eq_self, hF, hfw, hbx])
        | (with_reducible refine awp_seq_k (fun _ _ => ?_))
        | (refine awp_draw' (id := 14) [] 15 (by kernel_rfl) (by kernel_rfl) rfl rfl (fun bx0 hbx => ?_); (try dsimp only [List.take_succ_cons, List.take_zero, List.take_nil, List.drop_succ_cons, List.drop_zero, List.drop_nil]))
        | (refine awp_draw' (id := 17) [] 14 (by kernel_rfl) (by kernel_rfl) rfl rfl (fun bx0 hbx => ?_); (try dsimp only [List.take_succ_cons, List.take_zero, List.take_nil, List.drop_succ_cons, List.drop_zero, List.drop_nil]))
        | (refine awp_draw' (id := 18) [] 15 (by kernel_rfl) (by kernel_rfl) rfl rfl (fun bx0 hbx => ?_); (try dsimp only [List.take_succ_cons, List.take_zero, List.take_nil, List.drop_succ_cons, List.drop_zero, List.drop_nil]))
        | (with_reducible refine awp_region [] ?_)
        | (with_reducible refine awp_block ?_)
        | go_step)
      refine ⟨_, cp_ok r hla hld, ?_⟩
      simp only [go_sem, ↓reduceIte, Nat.reduceEqDiff, Nat.reduceLT, Nat.reduceLeDiff, Nat.reduceAdd, Nat.reduceMul, Nat.reduceSub, Nat.reduceBEq, reduceCtorEq, Int.reduceBNe, Int.reduceBEq, Int.reduceLT, Int.reduceLE, Int.reduceGT, Int.reduceGE, ne_eq, eq_self, hF]
      repeat (first
        | ((first | with_reducible refine sops_go ?_ | with_reducible refine headW_end ?_ | with_reducible refine sops_end ?_ | with_reducible refine awp_if ?_ | with_reducible refine awp_skip ?_ | with_reducible refine awp_ret ?_ | with_reducible refine awp_exit ?_); simp only [go_sem, ↓reduceIte, Nat.reduceEqDiff, Nat.reduceLT, Nat.reduceLeDiff, Nat.reduceAdd, Nat.reduceMul, Nat.reduceSub, Nat.reduceBEq, reduceCtorEq, Int.reduceBNe, Int.reduceBEq, Int.reduceLT, Int.reduceLE, Int.reduceGT, Int.reduceGE, ne_eq, eq_self, hF])
        | ((with_reducible refine headW_go ?_); simp only [go_sem, ↓reduceIte, Nat.reduceEqDiff, Nat.reduceLT, Nat.reduceLeDiff, Nat.reduceAdd, Nat.reduceMul, Nat.reduceSub, Nat.reduceBEq, reduceCtorEq, Int.reduceBNe, Int.reduceBEq, Int.reduceLT, Int.reduceLE, Int.reduceGT, Int.reduceGE, ne_eq, eq_self, hF, hbx])
        | (with_reducible refine awp_seq_k (fun _ _ => ?_))
        | (refine awp_draw' (id := 14) [] 15 (by kernel_rfl) (by kernel_rfl) rfl rfl (fun bx0 hbx => ?_); (try dsimp only [List.take_succ_cons, List.take_zero, List.take_nil, List.drop_succ_cons, List.drop_zero, List.drop_nil]))
        | (refine awp_draw' (id := 17) [] 14 (by kernel_rfl) (by kernel_rfl) rfl rfl (fun bx0 hbx => ?_); (try dsimp only [List.take_succ_cons, List.take_zero, List.take_nil, List.drop_succ_cons, List.drop_zero, List.drop_nil]))
        | (refine awp_draw' (id := 18) [] 15 (by kernel_rfl) (by kernel_rfl) rfl rfl (fun bx0 hbx => ?_); (try dsimp only [List.take_succ_cons, List.take_zero, List.take_nil, List.drop_succ_cons, List.drop_zero, List.drop_nil]))
        | (with_reducible refine awp_region [] ?_)
        | (with_reducible refine awp_block ?_)
        | go_step)
      refine ⟨_, cut3_ok r n hla hld hg h0 h1, ?_⟩
      simp only [go_sem, ↓reduceIte, Nat.reduceEqDiff, Nat.reduceLT, Nat.reduceLeDiff, Nat.reduceAdd, Nat.reduceMul, Nat.reduceSub, Nat.reduceBEq, reduceCtorEq, Int.reduceBNe, Int.reduceBEq, Int.reduceLT, Int.reduceLE, Int.reduceGT, Int.reduceGE, ne_eq, eq_self, hF, hn0]
      repeat (first
        | ((first | with_reducible refine sops_go ?_ | with_reducible refine headW_end ?_ | with_reducible refine sops_end ?_ | with_reducible refine awp_if ?_ | with_reducible refine awp_skip ?_ | with_reducible refine awp_ret ?_ | with_reducible refine awp_exit ?_); simp only [go_sem, ↓reduceIte, Nat.reduceEqDiff, Nat.reduceLT, Nat.reduceLeDiff, Nat.reduceAdd, Nat.reduceMul, Nat.reduceSub, Nat.reduceBEq, reduceCtorEq, Int.reduceBNe, Int.reduceBEq, Int.reduceLT, Int.reduceLE, Int.reduceGT, Int.reduceGE, ne_eq, eq_self, hF, hn0])
        | ((with_reducible refine headW_go ?_); simp only [go_sem, ↓reduceIte, Nat.reduceEqDiff, Nat.reduceLT, Nat.reduceLeDiff, Nat.reduceAdd, Nat.reduceMul, Nat.reduceSub, Nat.reduceBEq, reduceCtorEq, Int.reduceBNe, Int.reduceBEq, Int.reduceLT, Int.reduceLE, Int.reduceGT, Int.reduceGE, ne_eq, eq_self, hF, hn0, hbx])
        | (with_reducible refine awp_seq_k (fun _ _ => ?_))
        | (refine awp_draw' (id := 14) [] 15 (by kernel_rfl) (by kernel_rfl) rfl rfl (fun bx0 hbx => ?_); (try dsimp only [List.take_succ_cons, List.take_zero, List.take_nil, List.drop_succ_cons, List.drop_zero, List.drop_nil]))
        | (refine awp_draw' (id := 17) [] 14 (by kernel_rfl) (by kernel_rfl) rfl rfl (fun bx0 hbx => ?_); (try dsimp only [List.take_succ_cons, List.take_zero, List.take_nil, List.drop_succ_cons, List.drop_zero, List.drop_nil]))
        | (refine awp_draw' (id := 18) [] 15 (by kernel_rfl) (by kernel_rfl) rfl rfl (fun bx0 hbx => ?_); (try dsimp only [List.take_succ_cons, List.take_zero, List.take_nil, List.drop_succ_cons, List.drop_zero, List.drop_nil]))
        | (with_reducible refine awp_region [] ?_)
        | (with_reducible refine awp_block ?_)
        | go_step)
      refine ⟨_, late_ok fs (halfR r n) hf hl1 hl2, ?_⟩
      simp only [go_sem, ↓reduceIte, Nat.reduceEqDiff, Nat.reduceLT, Nat.reduceLeDiff, Nat.reduceAdd, Nat.reduceMul, Nat.reduceSub, Nat.reduceBEq, reduceCtorEq, Int.reduceBNe, Int.reduceBEq, Int.reduceLT, Int.reduceLE, Int.reduceGT, Int.reduceGE, ne_eq, eq_self, hF]
      repeat (first
        | ((first | with_reducible refine sops_go ?_ | with_reducible refine headW_end ?_ | with_reducible refine sops_end ?_ | with_reducible refine awp_if ?_ | with_reducible refine awp_skip ?_ | with_reducible refine awp_ret ?_ | with_reducible refine awp_exit ?_); simp only [go_sem, ↓reduceIte, Nat.reduceEqDiff, Nat.reduceLT, Nat.reduceLeDiff, Nat.reduceAdd, Nat.reduceMul, Nat.reduceSub, Nat.reduceBEq, reduceCtorEq, Int.reduceBNe, Int.reduceBEq, Int.reduceLT, Int.reduceLE, Int.reduceGT, Int.reduceGE, ne_eq, eq_self, hF])
        | ((with_reducible refine headW_go ?_); simp only [go_sem, ↓reduceIte, Nat.reduceEqDiff, Nat.reduceLT, Nat.reduceLeDiff, Nat.reduceAdd, Nat.reduceMul, Nat.reduceSub, Nat.reduceBEq, reduceCtorEq, Int.reduceBNe, Int.reduceBEq, Int.reduceLT, Int.reduceLE, Int.reduceGT, Int.reduceGE, ne_eq, eq_self, hF, hbx])
        | (with_reducible refine awp_seq_k (fun _ _ => ?_))
        | (refine awp_draw' (id := 14) [] 15 (by kernel_rfl) (by kernel_rfl) rfl rfl (fun bx0 hbx => ?_); (try dsimp only [List.take_succ_cons, List.take_zero, List.take_nil, List.drop_succ_cons, List.drop_zero, List.drop_nil]))
        | (refine awp_draw' (id := 17) [] 14 (by kernel_rfl) (by kernel_rfl) rfl rfl (fun bx0 hbx => ?_); (try dsimp only [List.take_succ_cons, List.take_zero, List.take_nil, List.drop_succ_cons, List.drop_zero, List.drop_nil]))
        | (refine awp_draw' (id := 18) [] 15 (by kernel_rfl) (by kernel_rfl) rfl rfl (fun bx0 hbx => ?_); (try dsimp only [List.take_succ_cons, List.take_zero, List.take_nil, List.drop_succ_cons, List.drop_zero, List.drop_nil]))
        | (with_reducible refine awp_region [] ?_)
        | (with_reducible refine awp_block ?_)
        | go_step)
      refine ⟨_, cp_ok r hla hld, ?_⟩
      simp only [go_sem, ↓reduceIte, Nat.reduceEqDiff, Nat.reduceLT, Nat.reduceLeDiff, Nat.reduceAdd, Nat.reduceMul, Nat.reduceSub, Nat.reduceBEq, reduceCtorEq, Int.reduceBNe, Int.reduceBEq, Int.reduceLT, Int.reduceLE, Int.reduceGT, Int.reduceGE, ne_eq, eq_self, hF]
      repeat (first
        | ((first | with_reducible refine sops_go ?_ | with_reducible refine headW_end ?_ | with_reducible refine sops_end ?_ | with_reducible refine awp_if ?_ | with_reducible refine awp_skip ?_ | with_reducible refine awp_ret ?_ | with_reducible refine awp_exit ?_); simp only [go_sem, ↓reduceIte, Nat.reduceEqDiff, Nat.reduceLT, Nat.reduceLeDiff, Nat.reduceAdd, Nat.reduceMul, Nat.reduceSub, Nat.reduceBEq, reduceCtorEq, Int.reduceBNe, Int.reduceBEq, Int.reduceLT, Int.reduceLE, Int.reduceGT, Int.reduceGE, ne_eq, eq_self, hF])
        | ((with_reducible refine headW_go ?_); simp only [go_sem, ↓reduceIte, Nat.reduceEqDiff, Nat.reduceLT, Nat.reduceLeDiff, Nat.reduceAdd, Nat.reduceMul, Nat.reduceSub, Nat.reduceBEq, reduceCtorEq, Int.reduceBNe, Int.reduceBEq, Int.reduceLT, Int.reduceLE, Int.reduceGT, Int.reduceGE, ne_eq, eq_self, hF, hbx])
        | (with_reducible refine awp_seq_k (fun _ _ => ?_))
        | (refine awp_draw' (id := 14) [] 15 (by kernel_rfl) (by kernel_rfl) rfl rfl (fun bx0 hbx => ?_); (try dsimp only [List.take_succ_cons, List.take_zero, List.take_nil, List.drop_succ_cons, List.drop_zero, List.drop_nil]))
        | (refine awp_draw' (id := 17) [] 14 (by kernel_rfl) (by kernel_rfl) rfl rfl (fun bx0 hbx => ?_); (try dsimp only [List.take_succ_cons, List.take_zero, List.take_nil, List.drop_succ_cons, List.drop_zero, List.drop_nil]))
        | (refine awp_draw' (id := 18) [] 15 (by kernel_rfl) (by kernel_rfl) rfl rfl (fun bx0 hbx => ?_); (try dsimp only [List.take_succ_cons, List.take_zero, List.take_nil, List.drop_succ_cons, List.drop_zero, List.drop_nil]))
        | (with_reducible refine awp_region [] ?_)
        | (with_reducible refine awp_block ?_)
        | go_step)
      refine ⟨_, late_ok fs r hf hla hld, ?_⟩
      simp only [go_sem, ↓reduceIte, Nat.reduceEqDiff, Nat.reduceLT, Nat.reduceLeDiff, Nat.reduceAdd, Nat.reduceMul, Nat.reduceSub, Nat.reduceBEq, reduceCtorEq, Int.reduceBNe, Int.reduceBEq, Int.reduceLT, Int.reduceLE, Int.reduceGT, Int.reduceGE, ne_eq, eq_self, hF, hcode]
      repeat (first
        | ((first | with_reducible refine sops_go ?_ | with_reducible refine headW_end ?_ | with_reducible refine sops_end ?_ | with_reducible refine awp_if ?_ | with_reducible refine awp_skip ?_ | with_reducible refine awp_ret ?_ | with_reducible refine awp_exit ?_); simp only [go_sem, ↓reduceIte, Nat.reduceEqDiff, Nat.reduceLT, Nat.reduceLeDiff, Nat.reduceAdd, Nat.reduceMul, Nat.reduceSub, Nat.reduceBEq, reduceCtorEq, Int.reduceBNe, Int.reduceBEq, Int.reduceLT, Int.reduceLE, Int.reduceGT, Int.reduceGE, ne_eq, eq_self, hF, hcode])
        | ((with_reducible refine headW_go ?_); simp only [go_sem, ↓reduceIte, Nat.reduceEqDiff, Nat.reduceLT, Nat.reduceLeDiff, Nat.reduceAdd, Nat.reduceMul, Nat.reduceSub, Nat.reduceBEq, reduceCtorEq, Int.reduceBNe, Int.reduceBEq, Int.reduceLT, Int.reduceLE, Int.reduceGT, Int.reduceGE, ne_eq, eq_self, hF, hcode, hbx])
        | (with_reducible refine awp_seq_k (fun _ _ => ?_))
        | (refine awp_draw' (id := 14) [] 15 (by kernel_rfl) (by kernel_rfl) rfl rfl (fun bx0 hbx => ?_); (try dsimp only [List.take_succ_cons, List.take_zero, List.take_nil, List.drop_succ_cons, List.drop_zero, List.drop_nil]))
        | (refine awp_draw' (id := 17) [] 14 (by kernel_rfl) (by kernel_rfl) rfl rfl (fun bx0 hbx => ?_); (try dsimp only [List.take_succ_cons, List.take_zero, List.take_nil, List.drop_succ_cons, List.drop_zero, List.drop_nil]))
        | (refine awp_draw' (id := 18) [] 15 (by kernel_rfl) (by kernel_rfl) rfl rfl (fun bx0 hbx => ?_); (try dsimp only [List.take_succ_cons, List.take_zero, List.take_nil, List.drop_succ_cons, List.drop_zero, List.drop_nil]))
        | (with_reducible refine awp_region [] ?_)
        | (with_reducible refine awp_block ?_)
        | go_step)
      refine awp_loop_by (ι := {k : Nat // k ≤ (late fs (halfR r n)).1.length}) (fun k σ => ⟨(56, iv (k.1 : Int)) :: keepS [0, 2, 4, 6, 11, 54, 55] σ.slot, [(4, r.pv)], [], σ.ext⟩) (fun k => (late fs (halfR r n)).1.length - k.1) ⟨0, Nat.zero_le _⟩ (sub_mk ?_) (fun R hR k => ?_)
      · simp only [go_sem, ↓reduceIte, Nat.reduceEqDiff, Nat.reduceLT, Nat.reduceLeDiff, Nat.reduceAdd, Nat.reduceMul, Nat.reduceSub, Nat.reduceBEq, reduceCtorEq, Int.reduceBNe, Int.reduceBEq, Int.reduceLT, Int.reduceLE, Int.reduceGT, Int.reduceGE, ne_eq, eq_self, hF]
        repeat' (first | rfl | refine ⟨?_, ?_⟩)
      obtain ⟨k, hk⟩ := k
      dsimp only
      simp only [go_sem, ↓reduceIte, Nat.reduceEqDiff, Nat.reduceLT, Nat.reduceLeDiff, Nat.reduceAdd, Nat.reduceMul, Nat.reduceSub, Nat.reduceBEq, reduceCtorEq, Int.reduceBNe, Int.reduceBEq, Int.reduceLT, Int.reduceLE, Int.reduceGT, Int.reduceGE, ne_eq, eq_self, hF]
      by_cases hlt : k < (late fs (halfR r n)).1.length
      case neg =>
        have hd : decide ((k : Int) < ((late fs (halfR r n)).1.length : Int)) = false := decide_eq_false (by omega)
        repeat (first
          | ((first | with_reducible refine sops_go ?_ | with_reducible refine headW_end ?_ | with_reducible refine sops_end ?_ | with_reducible refine awp_if ?_ | with_reducible refine awp_skip ?_ | with_reducible refine awp_ret ?_ | with_reducible refine awp_exit ?_); simp only [go_sem, ↓reduceIte, Nat.reduceEqDiff, Nat.reduceLT, Nat.reduceLeDiff, Nat.reduceAdd, Nat.reduceMul, Nat.reduceSub, Nat.reduceBEq, reduceCtorEq, Int.reduceBNe, Int.reduceBEq, Int.reduceLT, Int.reduceLE, Int.reduceGT, Int.reduceGE, ne_eq, eq_self, hF, hd])
          | ((with_reducible refine headW_go ?_); simp only [go_sem, ↓reduceIte, Nat.reduceEqDiff, Nat.reduceLT, Nat.reduceLeDiff, Nat.reduceAdd, Nat.reduceMul, Nat.reduceSub, Nat.reduceBEq, reduceCtorEq, Int.reduceBNe, Int.reduceBEq, Int.reduceLT, Int.reduceLE, Int.reduceGT, Int.reduceGE, ne_eq, eq_self, hF, hd, hbx])
          | (with_reducible refine awp_seq_k (fun _ _ => ?_))
          | (refine awp_draw' (id := 14) [] 15 (by kernel_rfl) (by kernel_rfl) rfl rfl (fun bx0 hbx => ?_); (try dsimp only [List.take_succ_cons, List.take_zero, List.take_nil, List.drop_succ_cons, List.drop_zero, List.drop_nil]))
          | (refine awp_draw' (id := 17) [] 14 (by kernel_rfl) (by kernel_rfl) rfl rfl (fun bx0 hbx => ?_); (try dsimp only [List.take_succ_cons, List.take_zero, List.take_nil, List.drop_succ_cons, List.drop_zero, List.drop_nil]))
          | (refine awp_draw' (id := 18) [] 15 (by kernel_rfl) (by kernel_rfl) rfl rfl (fun bx0 hbx => ?_); (try dsimp only [List.take_succ_cons, List.take_zero, List.take_nil, List.drop_succ_cons, List.drop_zero, List.drop_nil]))
          | (with_reducible refine awp_region [] ?_)
          | (with_reducible refine awp_block ?_)
          | go_step)
        all_goals (try rfl)
      obtain ⟨x, hxk⟩ := get_of_lt hlt
      have hd : decide ((k : Int) < ((late fs (halfR r n)).1.length : Int)) = true := decide_eq_true (by omega)
      have hw : IntKind.i64.wrap ((k : Int) + 1) = ((k + 1 : Nat) : Int) := by rw [IntKind.wrap_i64]; omega
      have hxm : x ∈ (late fs (halfR r n)).1 := List.mem_of_getElem? hxk
      have hrh : right fs (halfR r n) = true := by
        cases hq : right fs (halfR r n) with
        | true => rfl
        | false =>
          unfold late at hxm
          rw [hq] at hxm
          cases hxm
      have hrr : right fs r = true := by
        have := (right_inv hrh).1
        unfold right
        rw [hg, this]; rfl
      obtain ⟨y, y1, y2, g, g1, g2, g3, g4, g5⟩ := grows_law hrh hrr h1 hxm
      have hfg := (chkF_ok (right_inv hrr).1).1 g g2
      have hix : ∃ i : Nat, idxP (sameB x) (late fs r).1 0 = (i : Int) ∧ (late fs r).1[i]? = some y := by
        rcases idxP_spec (sameB x) (late fs r).1 0 with ⟨q1, q2⟩ | ⟨i, a, q1, q2, q3, q4⟩
        · exfalso
          have := List.all_eq_true.1 q2 y (List.mem_of_find?_eq_some y1)
          have h2 : sameB x y = true := List.find?_some (p := sameB x) y1
          rw [h2] at this; cases this
        · have hf : (late fs r).1.find? (sameB x) = some a := by
            rw [List.find?_eq_some_iff_append]
            obtain ⟨z1, z2⟩ := List.getElem?_eq_some_iff.1 q1
            exact ⟨q2, (late fs r).1.take i, (late fs r).1.drop (i + 1), by rw [← z2, List.getElem_cons_drop, List.take_append_drop], fun b hb => List.all_eq_true.1 q4 b hb⟩
          have hy : (late fs r).1.find? (sameB x) = some y := y1
          rw [hf] at hy
          cases hy
          exact ⟨i, by rw [q3]; omega, q1⟩
      obtain ⟨i, hi1, hi2⟩ := hix
      have hi0 : decide ((i : Int) < 0) = false := decide_eq_false (by omega)
      have hfj : ∃ j : Nat, findF fs x.fl = (j : Int) ∧ fs[j]? = some g := by
        rcases findF_cases fs x.fl with ⟨_, q2⟩ | ⟨j, f, q1, q2, q3⟩
        · rw [g1] at q2; cases q2
        · rw [g1] at q3
          cases q3
          exact ⟨j, q2, q1⟩
      obtain ⟨j, hj1, hj2⟩ := hfj
      repeat (first
        | ((first | with_reducible refine sops_go ?_ | with_reducible refine headW_end ?_ | with_reducible refine sops_end ?_ | with_reducible refine awp_if ?_ | with_reducible refine awp_skip ?_ | with_reducible refine awp_ret ?_ | with_reducible refine awp_exit ?_); simp only [go_sem, ↓reduceIte, Nat.reduceEqDiff, Nat.reduceLT, Nat.reduceLeDiff, Nat.reduceAdd, Nat.reduceMul, Nat.reduceSub, Nat.reduceBEq, reduceCtorEq, Int.reduceBNe, Int.reduceBEq, Int.reduceLT, Int.reduceLE, Int.reduceGT, Int.reduceGE, ne_eq, eq_self, hF, hd, hxk])
        | ((with_reducible refine headW_go ?_); simp only [go_sem, ↓reduceIte, Nat.reduceEqDiff, Nat.reduceLT, Nat.reduceLeDiff, Nat.reduceAdd, Nat.reduceMul, Nat.reduceSub, Nat.reduceBEq, reduceCtorEq, Int.reduceBNe, Int.reduceBEq, Int.reduceLT, Int.reduceLE, Int.reduceGT, Int.reduceGE, ne_eq, eq_self, hF, hd, hxk, hbx])
        | (with_reducible refine awp_seq_k (fun _ _ => ?_))
        | (refine awp_draw' (id := 14) [] 15 (by kernel_rfl) (by kernel_rfl) rfl rfl (fun bx0 hbx => ?_); (try dsimp only [List.take_succ_cons, List.take_zero, List.take_nil, List.drop_succ_cons, List.drop_zero, List.drop_nil]))
        | (refine awp_draw' (id := 17) [] 14 (by kernel_rfl) (by kernel_rfl) rfl rfl (fun bx0 hbx => ?_); (try dsimp only [List.take_succ_cons, List.take_zero, List.take_nil, List.drop_succ_cons, List.drop_zero, List.drop_nil]))
        | (refine awp_draw' (id := 18) [] 15 (by kernel_rfl) (by kernel_rfl) rfl rfl (fun bx0 hbx => ?_); (try dsimp only [List.take_succ_cons, List.take_zero, List.take_nil, List.drop_succ_cons, List.drop_zero, List.drop_nil]))
        | (with_reducible refine awp_region [] ?_)
        | (with_reducible refine awp_block ?_)
        | go_step)
      refine ⟨_, index_ok x (late fs r).1 hll, ?_⟩
      simp only [go_sem, ↓reduceIte, Nat.reduceEqDiff, Nat.reduceLT, Nat.reduceLeDiff, Nat.reduceAdd, Nat.reduceMul, Nat.reduceSub, Nat.reduceBEq, reduceCtorEq, Int.reduceBNe, Int.reduceBEq, Int.reduceLT, Int.reduceLE, Int.reduceGT, Int.reduceGE, ne_eq, eq_self, hF, hi1]
      cases hs : (x.sl != -1) with
      | true =>
        have hs1 : x.sl ≠ -1 := by simpa using hs
        obtain rfl : x = y := (y2 hs1).symm
        repeat (first
          | ((first | with_reducible refine sops_go ?_ | with_reducible refine headW_end ?_ | with_reducible refine sops_end ?_ | with_reducible refine awp_if ?_ | with_reducible refine awp_skip ?_ | with_reducible refine awp_ret ?_ | with_reducible refine awp_exit ?_); simp only [go_sem, ↓reduceIte, Nat.reduceEqDiff, Nat.reduceLT, Nat.reduceLeDiff, Nat.reduceAdd, Nat.reduceMul, Nat.reduceSub, Nat.reduceBEq, reduceCtorEq, Int.reduceBNe, Int.reduceBEq, Int.reduceLT, Int.reduceLE, Int.reduceGT, Int.reduceGE, ne_eq, eq_self, hF, hi0, hi2, hs])
          | ((with_reducible refine headW_go ?_); simp only [go_sem, ↓reduceIte, Nat.reduceEqDiff, Nat.reduceLT, Nat.reduceLeDiff, Nat.reduceAdd, Nat.reduceMul, Nat.reduceSub, Nat.reduceBEq, reduceCtorEq, Int.reduceBNe, Int.reduceBEq, Int.reduceLT, Int.reduceLE, Int.reduceGT, Int.reduceGE, ne_eq, eq_self, hF, hi0, hi2, hs, hbx])
          | (with_reducible refine awp_seq_k (fun _ _ => ?_))
          | (refine awp_draw' (id := 14) [] 15 (by kernel_rfl) (by kernel_rfl) rfl rfl (fun bx0 hbx => ?_); (try dsimp only [List.take_succ_cons, List.take_zero, List.take_nil, List.drop_succ_cons, List.drop_zero, List.drop_nil]))
          | (refine awp_draw' (id := 17) [] 14 (by kernel_rfl) (by kernel_rfl) rfl rfl (fun bx0 hbx => ?_); (try dsimp only [List.take_succ_cons, List.take_zero, List.take_nil, List.drop_succ_cons, List.drop_zero, List.drop_nil]))
          | (refine awp_draw' (id := 18) [] 15 (by kernel_rfl) (by kernel_rfl) rfl rfl (fun bx0 hbx => ?_); (try dsimp only [List.take_succ_cons, List.take_zero, List.take_nil, List.drop_succ_cons, List.drop_zero, List.drop_nil]))
          | (with_reducible refine awp_region [] ?_)
          | (with_reducible refine awp_block ?_)
          | go_step)
        refine ⟨_, find_ok fs x.fl hf, ?_⟩
        simp only [go_sem, ↓reduceIte, Nat.reduceEqDiff, Nat.reduceLT, Nat.reduceLeDiff, Nat.reduceAdd, Nat.reduceMul, Nat.reduceSub, Nat.reduceBEq, reduceCtorEq, Int.reduceBNe, Int.reduceBEq, Int.reduceLT, Int.reduceLE, Int.reduceGT, Int.reduceGE, ne_eq, eq_self, hF, hj1]
        repeat (first
          | ((first | with_reducible refine sops_go ?_ | with_reducible refine headW_end ?_ | with_reducible refine sops_end ?_ | with_reducible refine awp_if ?_ | with_reducible refine awp_skip ?_ | with_reducible refine awp_ret ?_ | with_reducible refine awp_exit ?_); simp only [go_sem, ↓reduceIte, Nat.reduceEqDiff, Nat.reduceLT, Nat.reduceLeDiff, Nat.reduceAdd, Nat.reduceMul, Nat.reduceSub, Nat.reduceBEq, reduceCtorEq, Int.reduceBNe, Int.reduceBEq, Int.reduceLT, Int.reduceLE, Int.reduceGT, Int.reduceGE, ne_eq, eq_self, hF, hj2])
          | ((with_reducible refine headW_go ?_); simp only [go_sem, ↓reduceIte, Nat.reduceEqDiff, Nat.reduceLT, Nat.reduceLeDiff, Nat.reduceAdd, Nat.reduceMul, Nat.reduceSub, Nat.reduceBEq, reduceCtorEq, Int.reduceBNe, Int.reduceBEq, Int.reduceLT, Int.reduceLE, Int.reduceGT, Int.reduceGE, ne_eq, eq_self, hF, hj2, hbx])
          | (with_reducible refine awp_seq_k (fun _ _ => ?_))
          | (refine awp_draw' (id := 14) [] 15 (by kernel_rfl) (by kernel_rfl) rfl rfl (fun bx0 hbx => ?_); (try dsimp only [List.take_succ_cons, List.take_zero, List.take_nil, List.drop_succ_cons, List.drop_zero, List.drop_nil]))
          | (refine awp_draw' (id := 17) [] 14 (by kernel_rfl) (by kernel_rfl) rfl rfl (fun bx0 hbx => ?_); (try dsimp only [List.take_succ_cons, List.take_zero, List.take_nil, List.drop_succ_cons, List.drop_zero, List.drop_nil]))
          | (refine awp_draw' (id := 18) [] 15 (by kernel_rfl) (by kernel_rfl) rfl rfl (fun bx0 hbx => ?_); (try dsimp only [List.take_succ_cons, List.take_zero, List.take_nil, List.drop_succ_cons, List.drop_zero, List.drop_nil]))
          | (with_reducible refine awp_region [] ?_)
          | (with_reducible refine awp_block ?_)
          | go_step)
        refine ⟨_, window_ok g x.fr hfg g3 (by omega), ?_⟩
        simp only [go_sem, ↓reduceIte, Nat.reduceEqDiff, Nat.reduceLT, Nat.reduceLeDiff, Nat.reduceAdd, Nat.reduceMul, Nat.reduceSub, Nat.reduceBEq, reduceCtorEq, Int.reduceBNe, Int.reduceBEq, Int.reduceLT, Int.reduceLE, Int.reduceGT, Int.reduceGE, ne_eq, eq_self, hF]
        by_cases z : rel g x.fr + g.pe - 1 < n
        case pos =>
          have hz : decide (rel g x.fr + g.pe - 1 < n) = true := decide_eq_true z
          repeat (first
            | ((first | with_reducible refine sops_go ?_ | with_reducible refine headW_end ?_ | with_reducible refine sops_end ?_ | with_reducible refine awp_if ?_ | with_reducible refine awp_skip ?_ | with_reducible refine awp_ret ?_ | with_reducible refine awp_exit ?_); simp only [go_sem, ↓reduceIte, Nat.reduceEqDiff, Nat.reduceLT, Nat.reduceLeDiff, Nat.reduceAdd, Nat.reduceMul, Nat.reduceSub, Nat.reduceBEq, reduceCtorEq, Int.reduceBNe, Int.reduceBEq, Int.reduceLT, Int.reduceLE, Int.reduceGT, Int.reduceGE, ne_eq, eq_self, hF, hn0, hz, hi2])
            | ((with_reducible refine headW_go ?_); simp only [go_sem, ↓reduceIte, Nat.reduceEqDiff, Nat.reduceLT, Nat.reduceLeDiff, Nat.reduceAdd, Nat.reduceMul, Nat.reduceSub, Nat.reduceBEq, reduceCtorEq, Int.reduceBNe, Int.reduceBEq, Int.reduceLT, Int.reduceLE, Int.reduceGT, Int.reduceGE, ne_eq, eq_self, hF, hn0, hz, hi2, hbx])
            | (with_reducible refine awp_seq_k (fun _ _ => ?_))
            | (refine awp_draw' (id := 14) [] 15 (by kernel_rfl) (by kernel_rfl) rfl rfl (fun bx0 hbx => ?_); (try dsimp only [List.take_succ_cons, List.take_zero, List.take_nil, List.drop_succ_cons, List.drop_zero, List.drop_nil]))
            | (refine awp_draw' (id := 17) [] 14 (by kernel_rfl) (by kernel_rfl) rfl rfl (fun bx0 hbx => ?_); (try dsimp only [List.take_succ_cons, List.take_zero, List.take_nil, List.drop_succ_cons, List.drop_zero, List.drop_nil]))
            | (refine awp_draw' (id := 18) [] 15 (by kernel_rfl) (by kernel_rfl) rfl rfl (fun bx0 hbx => ?_); (try dsimp only [List.take_succ_cons, List.take_zero, List.take_nil, List.drop_succ_cons, List.drop_zero, List.drop_nil]))
            | (with_reducible refine awp_region [] ?_)
            | (with_reducible refine awp_block ?_)
            | go_step)
          refine ⟨⟨k + 1, by omega⟩, by dsimp only; omega, hR _ _ (sub_mk ?_)⟩
          simp only [go_sem, ↓reduceIte, Nat.reduceEqDiff, Nat.reduceLT, Nat.reduceLeDiff, Nat.reduceAdd, Nat.reduceMul, Nat.reduceSub, Nat.reduceBEq, reduceCtorEq, Int.reduceBNe, Int.reduceBEq, Int.reduceLT, Int.reduceLE, Int.reduceGT, Int.reduceGE, ne_eq, eq_self, hF, hw]
        have hz : decide (rel g x.fr + g.pe - 1 < n) = false := decide_eq_false z
        repeat (first
          | ((first | with_reducible refine sops_go ?_ | with_reducible refine headW_end ?_ | with_reducible refine sops_end ?_ | with_reducible refine awp_if ?_ | with_reducible refine awp_skip ?_ | with_reducible refine awp_ret ?_ | with_reducible refine awp_exit ?_); simp only [go_sem, ↓reduceIte, Nat.reduceEqDiff, Nat.reduceLT, Nat.reduceLeDiff, Nat.reduceAdd, Nat.reduceMul, Nat.reduceSub, Nat.reduceBEq, reduceCtorEq, Int.reduceBNe, Int.reduceBEq, Int.reduceLT, Int.reduceLE, Int.reduceGT, Int.reduceGE, ne_eq, eq_self, hF, hn0, hz, hi2])
          | ((with_reducible refine headW_go ?_); simp only [go_sem, ↓reduceIte, Nat.reduceEqDiff, Nat.reduceLT, Nat.reduceLeDiff, Nat.reduceAdd, Nat.reduceMul, Nat.reduceSub, Nat.reduceBEq, reduceCtorEq, Int.reduceBNe, Int.reduceBEq, Int.reduceLT, Int.reduceLE, Int.reduceGT, Int.reduceGE, ne_eq, eq_self, hF, hn0, hz, hi2, hbx])
          | (with_reducible refine awp_seq_k (fun _ _ => ?_))
          | (refine awp_draw' (id := 14) [] 15 (by kernel_rfl) (by kernel_rfl) rfl rfl (fun bx0 hbx => ?_); (try dsimp only [List.take_succ_cons, List.take_zero, List.take_nil, List.drop_succ_cons, List.drop_zero, List.drop_nil]))
          | (refine awp_draw' (id := 17) [] 14 (by kernel_rfl) (by kernel_rfl) rfl rfl (fun bx0 hbx => ?_); (try dsimp only [List.take_succ_cons, List.take_zero, List.take_nil, List.drop_succ_cons, List.drop_zero, List.drop_nil]))
          | (refine awp_draw' (id := 18) [] 15 (by kernel_rfl) (by kernel_rfl) rfl rfl (fun bx0 hbx => ?_); (try dsimp only [List.take_succ_cons, List.take_zero, List.take_nil, List.drop_succ_cons, List.drop_zero, List.drop_nil]))
          | (with_reducible refine awp_region [] ?_)
          | (with_reducible refine awp_block ?_)
          | go_step)
        refine ⟨⟨k + 1, by omega⟩, by dsimp only; omega, hR _ _ (sub_mk ?_)⟩
        simp only [go_sem, ↓reduceIte, Nat.reduceEqDiff, Nat.reduceLT, Nat.reduceLeDiff, Nat.reduceAdd, Nat.reduceMul, Nat.reduceSub, Nat.reduceBEq, reduceCtorEq, Int.reduceBNe, Int.reduceBEq, Int.reduceLT, Int.reduceLE, Int.reduceGT, Int.reduceGE, ne_eq, eq_self, hF, hw]
      | false =>
        repeat (first
          | ((first | with_reducible refine sops_go ?_ | with_reducible refine headW_end ?_ | with_reducible refine sops_end ?_ | with_reducible refine awp_if ?_ | with_reducible refine awp_skip ?_ | with_reducible refine awp_ret ?_ | with_reducible refine awp_exit ?_); simp only [go_sem, ↓reduceIte, Nat.reduceEqDiff, Nat.reduceLT, Nat.reduceLeDiff, Nat.reduceAdd, Nat.reduceMul, Nat.reduceSub, Nat.reduceBEq, reduceCtorEq, Int.reduceBNe, Int.reduceBEq, Int.reduceLT, Int.reduceLE, Int.reduceGT, Int.reduceGE, ne_eq, eq_self, hF, hi0, hi2, hs])
          | ((with_reducible refine headW_go ?_); simp only [go_sem, ↓reduceIte, Nat.reduceEqDiff, Nat.reduceLT, Nat.reduceLeDiff, Nat.reduceAdd, Nat.reduceMul, Nat.reduceSub, Nat.reduceBEq, reduceCtorEq, Int.reduceBNe, Int.reduceBEq, Int.reduceLT, Int.reduceLE, Int.reduceGT, Int.reduceGE, ne_eq, eq_self, hF, hi0, hi2, hs, hbx])
          | (with_reducible refine awp_seq_k (fun _ _ => ?_))
          | (refine awp_draw' (id := 14) [] 15 (by kernel_rfl) (by kernel_rfl) rfl rfl (fun bx0 hbx => ?_); (try dsimp only [List.take_succ_cons, List.take_zero, List.take_nil, List.drop_succ_cons, List.drop_zero, List.drop_nil]))
          | (refine awp_draw' (id := 17) [] 14 (by kernel_rfl) (by kernel_rfl) rfl rfl (fun bx0 hbx => ?_); (try dsimp only [List.take_succ_cons, List.take_zero, List.take_nil, List.drop_succ_cons, List.drop_zero, List.drop_nil]))
          | (refine awp_draw' (id := 18) [] 15 (by kernel_rfl) (by kernel_rfl) rfl rfl (fun bx0 hbx => ?_); (try dsimp only [List.take_succ_cons, List.take_zero, List.take_nil, List.drop_succ_cons, List.drop_zero, List.drop_nil]))
          | (with_reducible refine awp_region [] ?_)
          | (with_reducible refine awp_block ?_)
          | go_step)
        refine ⟨_, find_ok fs x.fl hf, ?_⟩
        simp only [go_sem, ↓reduceIte, Nat.reduceEqDiff, Nat.reduceLT, Nat.reduceLeDiff, Nat.reduceAdd, Nat.reduceMul, Nat.reduceSub, Nat.reduceBEq, reduceCtorEq, Int.reduceBNe, Int.reduceBEq, Int.reduceLT, Int.reduceLE, Int.reduceGT, Int.reduceGE, ne_eq, eq_self, hF, hj1]
        repeat (first
          | ((first | with_reducible refine sops_go ?_ | with_reducible refine headW_end ?_ | with_reducible refine sops_end ?_ | with_reducible refine awp_if ?_ | with_reducible refine awp_skip ?_ | with_reducible refine awp_ret ?_ | with_reducible refine awp_exit ?_); simp only [go_sem, ↓reduceIte, Nat.reduceEqDiff, Nat.reduceLT, Nat.reduceLeDiff, Nat.reduceAdd, Nat.reduceMul, Nat.reduceSub, Nat.reduceBEq, reduceCtorEq, Int.reduceBNe, Int.reduceBEq, Int.reduceLT, Int.reduceLE, Int.reduceGT, Int.reduceGE, ne_eq, eq_self, hF, hj2])
          | ((with_reducible refine headW_go ?_); simp only [go_sem, ↓reduceIte, Nat.reduceEqDiff, Nat.reduceLT, Nat.reduceLeDiff, Nat.reduceAdd, Nat.reduceMul, Nat.reduceSub, Nat.reduceBEq, reduceCtorEq, Int.reduceBNe, Int.reduceBEq, Int.reduceLT, Int.reduceLE, Int.reduceGT, Int.reduceGE, ne_eq, eq_self, hF, hj2, hbx])
          | (with_reducible refine awp_seq_k (fun _ _ => ?_))
          | (refine awp_draw' (id := 14) [] 15 (by kernel_rfl) (by kernel_rfl) rfl rfl (fun bx0 hbx => ?_); (try dsimp only [List.take_succ_cons, List.take_zero, List.take_nil, List.drop_succ_cons, List.drop_zero, List.drop_nil]))
          | (refine awp_draw' (id := 17) [] 14 (by kernel_rfl) (by kernel_rfl) rfl rfl (fun bx0 hbx => ?_); (try dsimp only [List.take_succ_cons, List.take_zero, List.take_nil, List.drop_succ_cons, List.drop_zero, List.drop_nil]))
          | (refine awp_draw' (id := 18) [] 15 (by kernel_rfl) (by kernel_rfl) rfl rfl (fun bx0 hbx => ?_); (try dsimp only [List.take_succ_cons, List.take_zero, List.take_nil, List.drop_succ_cons, List.drop_zero, List.drop_nil]))
          | (with_reducible refine awp_region [] ?_)
          | (with_reducible refine awp_block ?_)
          | go_step)
        refine ⟨_, window_ok g x.fr hfg g3 (by omega), ?_⟩
        simp only [go_sem, ↓reduceIte, Nat.reduceEqDiff, Nat.reduceLT, Nat.reduceLeDiff, Nat.reduceAdd, Nat.reduceMul, Nat.reduceSub, Nat.reduceBEq, reduceCtorEq, Int.reduceBNe, Int.reduceBEq, Int.reduceLT, Int.reduceLE, Int.reduceGT, Int.reduceGE, ne_eq, eq_self, hF]
        by_cases z : rel g x.fr + g.pe - 1 < n
        case pos =>
          have hz : decide (rel g x.fr + g.pe - 1 < n) = true := decide_eq_true z
          obtain rfl : x = y := (g5 z).symm
          repeat (first
            | ((first | with_reducible refine sops_go ?_ | with_reducible refine headW_end ?_ | with_reducible refine sops_end ?_ | with_reducible refine awp_if ?_ | with_reducible refine awp_skip ?_ | with_reducible refine awp_ret ?_ | with_reducible refine awp_exit ?_); simp only [go_sem, ↓reduceIte, Nat.reduceEqDiff, Nat.reduceLT, Nat.reduceLeDiff, Nat.reduceAdd, Nat.reduceMul, Nat.reduceSub, Nat.reduceBEq, reduceCtorEq, Int.reduceBNe, Int.reduceBEq, Int.reduceLT, Int.reduceLE, Int.reduceGT, Int.reduceGE, ne_eq, eq_self, hF, hn0, hz, hi2])
            | ((with_reducible refine headW_go ?_); simp only [go_sem, ↓reduceIte, Nat.reduceEqDiff, Nat.reduceLT, Nat.reduceLeDiff, Nat.reduceAdd, Nat.reduceMul, Nat.reduceSub, Nat.reduceBEq, reduceCtorEq, Int.reduceBNe, Int.reduceBEq, Int.reduceLT, Int.reduceLE, Int.reduceGT, Int.reduceGE, ne_eq, eq_self, hF, hn0, hz, hi2, hbx])
            | (with_reducible refine awp_seq_k (fun _ _ => ?_))
            | (refine awp_draw' (id := 14) [] 15 (by kernel_rfl) (by kernel_rfl) rfl rfl (fun bx0 hbx => ?_); (try dsimp only [List.take_succ_cons, List.take_zero, List.take_nil, List.drop_succ_cons, List.drop_zero, List.drop_nil]))
            | (refine awp_draw' (id := 17) [] 14 (by kernel_rfl) (by kernel_rfl) rfl rfl (fun bx0 hbx => ?_); (try dsimp only [List.take_succ_cons, List.take_zero, List.take_nil, List.drop_succ_cons, List.drop_zero, List.drop_nil]))
            | (refine awp_draw' (id := 18) [] 15 (by kernel_rfl) (by kernel_rfl) rfl rfl (fun bx0 hbx => ?_); (try dsimp only [List.take_succ_cons, List.take_zero, List.take_nil, List.drop_succ_cons, List.drop_zero, List.drop_nil]))
            | (with_reducible refine awp_region [] ?_)
            | (with_reducible refine awp_block ?_)
            | go_step)
          refine ⟨⟨k + 1, by omega⟩, by dsimp only; omega, hR _ _ (sub_mk ?_)⟩
          simp only [go_sem, ↓reduceIte, Nat.reduceEqDiff, Nat.reduceLT, Nat.reduceLeDiff, Nat.reduceAdd, Nat.reduceMul, Nat.reduceSub, Nat.reduceBEq, reduceCtorEq, Int.reduceBNe, Int.reduceBEq, Int.reduceLT, Int.reduceLE, Int.reduceGT, Int.reduceGE, ne_eq, eq_self, hF, hw]
        have hz : decide (rel g x.fr + g.pe - 1 < n) = false := decide_eq_false z
        repeat (first
          | ((first | with_reducible refine sops_go ?_ | with_reducible refine headW_end ?_ | with_reducible refine sops_end ?_ | with_reducible refine awp_if ?_ | with_reducible refine awp_skip ?_ | with_reducible refine awp_ret ?_ | with_reducible refine awp_exit ?_); simp only [go_sem, ↓reduceIte, Nat.reduceEqDiff, Nat.reduceLT, Nat.reduceLeDiff, Nat.reduceAdd, Nat.reduceMul, Nat.reduceSub, Nat.reduceBEq, reduceCtorEq, Int.reduceBNe, Int.reduceBEq, Int.reduceLT, Int.reduceLE, Int.reduceGT, Int.reduceGE, ne_eq, eq_self, hF, hn0, hz, hi2])
          | ((with_reducible refine headW_go ?_); simp only [go_sem, ↓reduceIte, Nat.reduceEqDiff, Nat.reduceLT, Nat.reduceLeDiff, Nat.reduceAdd, Nat.reduceMul, Nat.reduceSub, Nat.reduceBEq, reduceCtorEq, Int.reduceBNe, Int.reduceBEq, Int.reduceLT, Int.reduceLE, Int.reduceGT, Int.reduceGE, ne_eq, eq_self, hF, hn0, hz, hi2, hbx])
          | (with_reducible refine awp_seq_k (fun _ _ => ?_))
          | (refine awp_draw' (id := 14) [] 15 (by kernel_rfl) (by kernel_rfl) rfl rfl (fun bx0 hbx => ?_); (try dsimp only [List.take_succ_cons, List.take_zero, List.take_nil, List.drop_succ_cons, List.drop_zero, List.drop_nil]))
          | (refine awp_draw' (id := 17) [] 14 (by kernel_rfl) (by kernel_rfl) rfl rfl (fun bx0 hbx => ?_); (try dsimp only [List.take_succ_cons, List.take_zero, List.take_nil, List.drop_succ_cons, List.drop_zero, List.drop_nil]))
          | (refine awp_draw' (id := 18) [] 15 (by kernel_rfl) (by kernel_rfl) rfl rfl (fun bx0 hbx => ?_); (try dsimp only [List.take_succ_cons, List.take_zero, List.take_nil, List.drop_succ_cons, List.drop_zero, List.drop_nil]))
          | (with_reducible refine awp_region [] ?_)
          | (with_reducible refine awp_block ?_)
          | go_step)
        refine ⟨⟨k + 1, by omega⟩, by dsimp only; omega, hR _ _ (sub_mk ?_)⟩
        simp only [go_sem, ↓reduceIte, Nat.reduceEqDiff, Nat.reduceLT, Nat.reduceLeDiff, Nat.reduceAdd, Nat.reduceMul, Nat.reduceSub, Nat.reduceBEq, reduceCtorEq, Int.reduceBNe, Int.reduceBEq, Int.reduceLT, Int.reduceLE, Int.reduceGT, Int.reduceGE, ne_eq, eq_self, hF, hw]
end Go.Proofs.Ytkdigdnacggknaa

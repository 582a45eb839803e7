import Derived.Test.YticnppnejafhdaaGreatDoorZ7
set_option linter.unusedVariables false
set_option linter.unusedSimpArgs false
/- The example of the laws, by abstract states. -/
namespace Go.Proofs.YticnppnejafhdaaGreatDoor
open Go.RowKit
open Nd Rc Mo
open Av
set_option maxRecDepth 100000
set_option linter.unusedSimpArgs false
attribute [local go_sem] Av.guardB Av.sop Av.hopx Av.hop Av.hopCall Av.hopF Av.hopB Av.evo Av.evos Av.avCells Av.loadK Av.bound Av.abin Av.aun Av.partsC Av.lfill Av.placesB Av.setAt Av.stl Av.takes Av.src Av.bxOf Av.ownOf Av.St.res Av.St.put Av.St.addBox Av.St.putOwn Av.delL Av.delS Av.look Av.lookL Av.storeSt Av.stealSt Av.St.setBox Av.keepL Av.hitB Av.snap Av.snaps Av.snapCaps Av.AV.lit Av.AV.refs Av.capRefs Av.PV.av Av.CV.av Av.startSt Av.steals Av.athen Av.ablock Av.appK Av.AllS Av.AllO Av.AllR Av.keepS Av.St.avAt Av.RetOK Av.retAll Av.retOne Av.intsOf Av.ptrB Av.appB Av.appSt TypeDesc.isRow List.range_zero Option.some.injEq exists_eq_left' exists_eq_left exists_eq' exists_and_left exists_and_right exists_const true_and and_true and_self false_and and_false or_false false_or or_true true_or if_true if_false Bool.false_eq_true List.zipIdx_cons List.zipIdx_nil List.map_cons List.map_nil List.filter_cons List.filter_nil List.contains_cons List.contains_nil List.drop_succ_cons List.drop_zero List.take_succ_cons List.take_zero List.take_nil List.drop_nil List.length_cons List.length_nil List.cons_append List.nil_append List.append_nil List.getElem?_cons_zero List.getElem?_cons_succ List.getElem?_nil Option.bind_some Option.bind_none Option.map_some Option.map_none Option.isNone_none Option.isNone_some Option.isSome_some Option.isSome_none Bool.and_true Bool.true_and Bool.and_false Bool.false_and Bool.or_false Bool.false_or Bool.not_true Bool.not_false beq_true beq_false Bool.true_beq Bool.false_beq Loc.s.injEq Loc.b.injEq decide_true decide_false beq_self_eq_true Nat.zero_add Nat.add_zero List.getElem?_toArray List.toList_toArray List.size_toArray Value.oneCell' List.all_cons List.all_nil Value.int.injEq AV.v.injEq AV.sl.injEq AV.agg.injEq AV.ref.injEq AV.ept.injEq AV.tup.injEq Value.bool.injEq PV.v.injEq PV.sl.injEq List.isEmpty_nil List.isEmpty_cons forall_const not_true_eq_false not_false_eq_true true_implies false_implies Value.string.injEq List.length_map List.getElem?_map Int.toNat_natCast Int.natCast_nonneg List.length_append Value.cells implies_true TypeDesc.struct.injEq TypeDesc.slice.injEq TypeDesc.array.injEq List.getElem?_toArray Prod.mk.injEq and_assoc exists_false List.cons.injEq Operand.tmp.injEq ite_self AV.fnv.injEq AV.clo.injEq ne_eq eq_self Tryz.sz3 Tryz.zr3 Tryz.by3 Tryz.pl3 Tryz.is3 Tryz.underlying3 Tryz.sz4 Tryz.zr4 Tryz.by4 Tryz.pl4 Tryz.is4 Tryz.underlying4 Tryz.sz43 Tryz.zr43 Tryz.by43 Tryz.pl43 Tryz.is43 Tryz.underlying43 Tryz.sz35 Tryz.zr35 Tryz.by35 Tryz.pl35 Tryz.is35 Tryz.underlying35 Tryz.sz33 Tryz.zr33 Tryz.by33 Tryz.pl33 Tryz.is33 Tryz.underlying33 Tryz.sz28 Tryz.zr28 Tryz.by28 Tryz.pl28 Tryz.is28 Tryz.underlying28 Tryz.sz39 Tryz.zr39 Tryz.by39 Tryz.pl39 Tryz.is39 Tryz.underlying39 Tryz.sz57 Tryz.zr57 Tryz.by57 Tryz.pl57 Tryz.is57 Tryz.underlying57 Tryz.sz137 Tryz.zr137 Tryz.by137 Tryz.pl137 Tryz.is137 Tryz.underlying137 Tryz.sz66 Tryz.zr66 Tryz.by66 Tryz.pl66 Tryz.is66 Tryz.underlying66 Tryz.sz64 Tryz.zr64 Tryz.by64 Tryz.pl64 Tryz.is64 Tryz.underlying64 Tryz.sz60 Tryz.zr60 Tryz.by60 Tryz.pl60 Tryz.is60 Tryz.underlying60 Tryz.sz100 Tryz.zr100 Tryz.by100 Tryz.pl100 Tryz.is100 Tryz.underlying100 Tryz.sz103 Tryz.zr103 Tryz.by103 Tryz.pl103 Tryz.is103 Tryz.underlying103 Tryz.sz26 Tryz.zr26 Tryz.by26 Tryz.pl26 Tryz.is26 Tryz.underlying26 Tryz.sz120 Tryz.zr120 Tryz.by120 Tryz.pl120 Tryz.is120 Tryz.underlying120 Tryz.sz117 Tryz.zr117 Tryz.by117 Tryz.pl117 Tryz.is117 Tryz.underlying117 Tryz.sz30 Tryz.zr30 Tryz.by30 Tryz.pl30 Tryz.is30 Tryz.underlying30 Tryz.sz31 Tryz.zr31 Tryz.by31 Tryz.pl31 Tryz.is31 Tryz.underlying31 Tryz.sz40 Tryz.zr40 Tryz.by40 Tryz.pl40 Tryz.is40 Tryz.underlying40 Tryz.sz23 Tryz.zr23 Tryz.by23 Tryz.pl23 Tryz.is23 Tryz.underlying23 Tryz.sz24 Tryz.zr24 Tryz.by24 Tryz.pl24 Tryz.is24 Tryz.underlying24 Tryz.sz22 Tryz.zr22 Tryz.by22 Tryz.pl22 Tryz.is22 Tryz.underlying22 Tryz.sz141 Tryz.zr141 Tryz.by141 Tryz.pl141 Tryz.is141 Tryz.underlying141 Tryz.sz42 Tryz.zr42 Tryz.by42 Tryz.pl42 Tryz.is42 Tryz.underlying42 Tryz.sz29 Tryz.zr29 Tryz.by29 Tryz.pl29 Tryz.is29 Tryz.underlying29 Tryz.sz83 Tryz.zr83 Tryz.by83 Tryz.pl83 Tryz.is83 Tryz.underlying83 Tryz.sz67 Tryz.zr67 Tryz.by67 Tryz.pl67 Tryz.is67 Tryz.underlying67 Tryz.sz20 Tryz.zr20 Tryz.by20 Tryz.pl20 Tryz.is20 Tryz.underlying20 Tryz.sz89 Tryz.zr89 Tryz.by89 Tryz.pl89 Tryz.is89 Tryz.underlying89 Tryz.sz132 Tryz.zr132 Tryz.by132 Tryz.pl132 Tryz.is132 Tryz.underlying132 Tryz.sz113 Tryz.zr113 Tryz.by113 Tryz.pl113 Tryz.is113 Tryz.underlying113 Tryz.sz9 Tryz.zr9 Tryz.by9 Tryz.pl9 Tryz.is9 Tryz.underlying9 Tryz.it39 Tryz.eg39 Tryz.it137 Tryz.eg137 Tryz.it66 Tryz.eg66 Tryz.it28 Tryz.eg28 Tryz.it60 Tryz.eg60 all_arr loc_ss loc_sb loc_bs loc_bb arr_two arr_one rg1 rg2 rg3 rg4 rg5 rg6 rg7 rg8 ResultVar.tmp.injEq Bool.not_true Bool.not_false undef Rc.Rec.pv Nd.Fl.pv Rc.Dlv.pv Rc.Att.pv Mo.Lt.pv Fn.func.injEq Mo.Net.pv Mo.Lk.pv prow_pv irow_pv Br.pv
theorem cz0 : ((0 : Nat) : Int) = 0 := rfl
theorem cz1 : ((1 : Nat) : Int) = 1 := rfl
theorem cz2 : ((2 : Nat) : Int) = 2 := rfl
theorem cz3 : ((3 : Nat) : Int) = 3 := rfl
theorem cz4 : ((4 : Nat) : Int) = 4 := rfl
theorem tz0 : Int.toNat 0 = 0 := rfl
theorem tz1 : Int.toNat 1 = 1 := rfl
theorem tz2 : Int.toNat 2 = 2 := rfl
theorem tz3 : Int.toNat 3 = 3 := rfl

set_option maxHeartbeats 20000000 in
theorem lineL_ok : FnOK Tryz.prog 31 [] ⟨.tup [.g nL.pv, .g fL.pv, .c (.sl 1 (psL.map prow_pv))], none⟩ := by
 refine fn_ok Tryz.func31 (by kernel_rfl) rfl (by rw [Tryz.ntmps31]; exact of_decide_eq_true rfl) (fun F hF => ?_)
 rw [Tryz.ntmps31] at hF
 rw [Tryz.results31]
 repeat (first
  | (with_reducible (first | refine sops_go ?_ | refine headW_end ?_ | refine sops_end ?_ | refine awp_if ?_ | refine awp_skip ?_ | refine awp_ret ?_ | refine awp_exit ?_); simp only [go_sem, simprocAttr, hF, cz0, cz1, cz2, cz3, cz4, tz0, tz1, tz2, tz3])
  | with_reducible (first | refine awp_seq_k fun _ _ => ?_ | refine awp_region [23] ?_ | refine awp_block ?_)
  | go_step)
 refine awp_nilB 3 4 3 60 (cs := _) rfl rfl ?_
 simp only [go_sem, simprocAttr, hF, cz0, cz1, cz2, cz3, cz4, tz0, tz1, tz2, tz3]
 repeat (first
  | (with_reducible (first | refine sops_go ?_ | refine headW_end ?_ | refine sops_end ?_ | refine awp_if ?_ | refine awp_skip ?_ | refine awp_ret ?_ | refine awp_exit ?_); simp only [go_sem, simprocAttr, hF, cz0, cz1, cz2, cz3, cz4, tz0, tz1, tz2, tz3])
  | with_reducible (first | refine awp_seq_k fun _ _ => ?_ | refine awp_region [23] ?_ | refine awp_block ?_)
  | go_step)
 refine awp_loop_by (ι := {k : Nat // k ≤ 4}) (fun k σ => ⟨(18, iv (k.1 : Int)) :: keepS [0, 1, 3, 16, 17] σ.slot, (3, [ip 3, .sl 1 (nL.pow.map prow_pv), ip 1, ip 1000, .sl 3 ((nL.lk.take k.1).map Lk.pv), .sl 1 (nL.mg.map irow_pv)]) :: keepS [0, 1] σ.box, [(.b 3 4, (60, 3))], σ.ext⟩) (fun k => 4 - k.1) ⟨0, by omega⟩ (sub_mk ?_) (fun R hR k => ?_)
 · simp only [go_sem, simprocAttr, hF]
   repeat' (first | rfl | refine ⟨?_, ?_⟩)
 obtain ⟨k, hk⟩ := k
 dsimp only
 simp only [go_sem, simprocAttr, hF]
 have hks : k = 0 ∨ k = 1 ∨ k = 2 ∨ k = 3 ∨ k = 4 := by omega
 rcases hks with rfl | rfl | rfl | rfl | rfl
 · have hd : decide (((0 : Nat) : Int) < 4) = true := rfl
   have hw : IntKind.i64.wrap (((0 : Nat) : Int) + 1) = ((1 : Nat) : Int) := rfl
   have hTk : (nL.lk.take 0).length ≤ 99999999 := by decide
   repeat (first
    | (with_reducible (first | refine sops_go ?_ | refine headW_end ?_ | refine sops_end ?_ | refine awp_if ?_ | refine awp_skip ?_ | refine awp_ret ?_ | refine awp_exit ?_); simp only [go_sem, simprocAttr, hF, hd, hTk, Int.toNat_natCast, tz0, tz1, tz2, tz3])
    | with_reducible (first | refine awp_seq_k fun _ _ => ?_ | refine awp_region [23] ?_ | refine awp_block ?_)
    | go_step)
   refine ⟨⟨1, by omega⟩, by dsimp only; omega, hR _ _ (sub_mk ?_)⟩
   simp only [go_sem, simprocAttr, hF, hw]
   repeat' (first | rfl | exact True.intro | refine ⟨?_, ?_⟩)
 · have hd : decide (((1 : Nat) : Int) < 4) = true := rfl
   have hw : IntKind.i64.wrap (((1 : Nat) : Int) + 1) = ((2 : Nat) : Int) := rfl
   have hTk : (nL.lk.take 1).length ≤ 99999999 := by decide
   repeat (first
    | (with_reducible (first | refine sops_go ?_ | refine headW_end ?_ | refine sops_end ?_ | refine awp_if ?_ | refine awp_skip ?_ | refine awp_ret ?_ | refine awp_exit ?_); simp only [go_sem, simprocAttr, hF, hd, hTk, Int.toNat_natCast, tz0, tz1, tz2, tz3])
    | with_reducible (first | refine awp_seq_k fun _ _ => ?_ | refine awp_region [23] ?_ | refine awp_block ?_)
    | go_step)
   refine ⟨⟨2, by omega⟩, by dsimp only; omega, hR _ _ (sub_mk ?_)⟩
   simp only [go_sem, simprocAttr, hF, hw]
   repeat' (first | rfl | exact True.intro | refine ⟨?_, ?_⟩)
 · have hd : decide (((2 : Nat) : Int) < 4) = true := rfl
   have hw : IntKind.i64.wrap (((2 : Nat) : Int) + 1) = ((3 : Nat) : Int) := rfl
   have hTk : (nL.lk.take 2).length ≤ 99999999 := by decide
   repeat (first
    | (with_reducible (first | refine sops_go ?_ | refine headW_end ?_ | refine sops_end ?_ | refine awp_if ?_ | refine awp_skip ?_ | refine awp_ret ?_ | refine awp_exit ?_); simp only [go_sem, simprocAttr, hF, hd, hTk, Int.toNat_natCast, tz0, tz1, tz2, tz3])
    | with_reducible (first | refine awp_seq_k fun _ _ => ?_ | refine awp_region [23] ?_ | refine awp_block ?_)
    | go_step)
   refine ⟨⟨3, by omega⟩, by dsimp only; omega, hR _ _ (sub_mk ?_)⟩
   simp only [go_sem, simprocAttr, hF, hw]
   repeat' (first | rfl | exact True.intro | refine ⟨?_, ?_⟩)
 · have hd : decide (((3 : Nat) : Int) < 4) = true := rfl
   have hw : IntKind.i64.wrap (((3 : Nat) : Int) + 1) = ((4 : Nat) : Int) := rfl
   have hTk : (nL.lk.take 3).length ≤ 99999999 := by decide
   repeat (first
    | (with_reducible (first | refine sops_go ?_ | refine headW_end ?_ | refine sops_end ?_ | refine awp_if ?_ | refine awp_skip ?_ | refine awp_ret ?_ | refine awp_exit ?_); simp only [go_sem, simprocAttr, hF, hd, hTk, Int.toNat_natCast, tz0, tz1, tz2, tz3])
    | with_reducible (first | refine awp_seq_k fun _ _ => ?_ | refine awp_region [23] ?_ | refine awp_block ?_)
    | go_step)
   refine ⟨⟨4, by omega⟩, by dsimp only; omega, hR _ _ (sub_mk ?_)⟩
   simp only [go_sem, simprocAttr, hF, hw]
   repeat' (first | rfl | exact True.intro | refine ⟨?_, ?_⟩)
 · have hd : decide (((4 : Nat) : Int) < 4) = false := rfl
   repeat (first
    | (with_reducible (first | refine sops_go ?_ | refine headW_end ?_ | refine sops_end ?_ | refine awp_if ?_ | refine awp_skip ?_ | refine awp_ret ?_ | refine awp_exit ?_); simp only [go_sem, simprocAttr, hF, hd])
    | with_reducible (first | refine awp_seq_k fun _ _ => ?_ | refine awp_region [23] ?_ | refine awp_block ?_)
    | go_step)
   all_goals (first | rfl | exact .inr rfl)
/- explain.line, by abstract states. -/
attribute [local go_sem] Pt.row Pt.pv strRow Av.startStC
set_option maxHeartbeats 20000000 in
theorem line_okC (C : World → Prop) (hst : ∀ {w w' : World}, Below w.heap.size w w' → C w → C w') (l : List Pt) (hI : ∀ i, Pt.n i ∈ l → FnOKC Tryz.prog C 88 [iv i] ⟨.v (.string (txtI i)), none⟩) (hll : l.length ≤ 100000) (hlen : lensT l ≤ 1000000) : FnOKC Tryz.prog C 45 [.sl 1 (l.map Pt.row)] ⟨.v (.string (lineT l)), none⟩ := by
 have hjl := joinT_len l
 have hsz : (joinT (l.map Pt.txt) ⟨#[32]⟩).size ≤ 9223372036854775806 := by
  have e1 : (joinT (l.map Pt.txt) ⟨#[32]⟩).size = (Lib.join ((l.map Pt.txt).map (·.data.toList)) [32]).length := List.size_toArray
  omega
 refine fn_okC (C := C) Tryz.func45 (by kernel_rfl) rfl (by rw [Tryz.ntmps45]; exact of_decide_eq_true rfl) (fun F hF => ?_)
 rw [Tryz.ntmps45] at hF
 rw [Tryz.results45]
 repeat (first
  | (with_reducible (first | refine sops_go ?_ | refine headW_end ?_ | refine sops_end ?_ | refine awp_if ?_ | refine awp_skip ?_ | refine awp_ret ?_ | refine awp_exit ?_); simp only [go_sem, simprocAttr, hF])
  | with_reducible (first | refine awp_seq_k fun _ _ => ?_ | refine awp_region [18, 26, 1000015, 1000020, 1000023] ?_ | refine awp_block ?_)
  | go_step)
 refine awp_nil 3 1 9 (by rw [hF]; decide) (by first | rfl | simp only [Av.look]; rfl) ?_
 simp only [go_sem, simprocAttr, hF]
 repeat (first
  | (with_reducible (first | refine sops_go ?_ | refine headW_end ?_ | refine sops_end ?_ | refine awp_if ?_ | refine awp_skip ?_ | refine awp_ret ?_ | refine awp_exit ?_); simp only [go_sem, simprocAttr, hF])
  | with_reducible (first | refine awp_seq_k fun _ _ => ?_ | refine awp_region [18, 26, 1000015, 1000020, 1000023] ?_ | refine awp_block ?_)
  | go_step)
 refine awp_loop_by (ι := {k : Nat // k ≤ l.length}) (fun k σ => ⟨(10, iv (k.1 : Int)) :: (3, .sl 1 (((l.take k.1).map Pt.txt).map strRow)) :: keepS [8, 9] σ.slot, [], [(.s 3, (9, 1))], σ.ext⟩) (fun k => l.length - k.1) ⟨0, by omega⟩ (sub_mk ?_) (fun R hR k => ?_)
 · simp only [go_sem, simprocAttr, hF]
   repeat' (first | rfl | refine ⟨?_, ?_⟩)
 obtain ⟨k, hk⟩ := k
 dsimp only
 simp only [go_sem, simprocAttr, hF]
 by_cases hlt : k < l.length
 case neg =>
  have hd : decide ((k : Int) < (l.length : Int)) = false := decide_eq_false (by omega)
  obtain rfl : k = l.length := by omega
  repeat (first
   | (with_reducible (first | refine sops_go ?_ | refine headW_end ?_ | refine sops_end ?_ | refine awp_if ?_ | refine awp_skip ?_ | refine awp_ret ?_ | refine awp_exit ?_); simp only [go_sem, simprocAttr, hF, hd, List.take_length])
   | with_reducible (first | refine awp_seq_k fun _ _ => ?_ | refine awp_region [18, 26, 1000015, 1000020, 1000023] ?_ | refine awp_block ?_)
   | go_step)
  refine ⟨_, join_ok (l.map Pt.txt) ⟨#[32]⟩ (by rw [List.length_map]; omega) (Nat.le_trans hjl (by omega)), ?_⟩
  simp only [go_sem, simprocAttr, hF, hsz]
  repeat (first
   | (with_reducible (first | refine sops_go ?_ | refine headW_end ?_ | refine sops_end ?_ | refine awp_if ?_ | refine awp_skip ?_ | refine awp_ret ?_ | refine awp_exit ?_); simp only [go_sem, simprocAttr, hF, hsz])
   | with_reducible (first | refine awp_seq_k fun _ _ => ?_ | refine awp_region [18, 26, 1000015, 1000020, 1000023] ?_ | refine awp_block ?_)
   | go_step)
  all_goals (try rfl)
 obtain ⟨p, hdk⟩ := get_of_lt hlt
 have hd : decide ((k : Int) < (l.length : Int)) = true := decide_eq_true (by omega)
 have hw : IntKind.i64.wrap ((k : Int) + 1) = ((k + 1 : Nat) : Int) := by rw [IntKind.wrap_i64]; omega
 have hT : List.take (k + 1) l = List.take k l ++ [p] := by rw [List.take_add_one, hdk]; rfl
 have hL : (List.take k l).length ≤ 99999999 := by rw [List.length_take]; omega
 cases p with
 | n i =>
  repeat (first
   | (with_reducible (first | refine sops_go ?_ | refine headW_end ?_ | refine sops_end ?_ | refine awp_if ?_ | refine awp_skip ?_ | refine awp_ret ?_ | refine awp_exit ?_); simp only [go_sem, simprocAttr, hF, hd, hdk])
   | with_reducible (first | refine awp_seq_k fun _ _ => ?_ | refine awp_region [18, 26, 1000015, 1000020, 1000023] ?_ | refine awp_block ?_)
   | go_step)
  refine hand_assert (d := 15) (T := 20) (U := 3) (t := 3) (u := .int .i64 i) (z := .int .i64 0) rfl rfl (by decide) rfl Tryz.underlying3 (fun _ h => by cases h) Tryz.zr3 rfl rfl ?_
  simp only [go_sem, simprocAttr, hF]
  repeat (first
   | (with_reducible (first | refine sops_go ?_ | refine headW_end ?_ | refine sops_end ?_ | refine awp_if ?_ | refine awp_skip ?_ | refine awp_ret ?_ | refine awp_exit ?_); simp only [go_sem, simprocAttr, hF])
   | with_reducible (first | refine awp_seq_k fun _ _ => ?_ | refine awp_region [18, 26, 1000015, 1000020, 1000023] ?_ | refine awp_block ?_)
   | go_step)
  refine hand_fnC (d := 20) (C := C) hst rfl rfl (by decide) rfl rfl rfl (hI i (List.mem_of_getElem? hdk)) rfl ?_
  simp only [go_sem, simprocAttr, hF, hL]
  repeat (first
   | (with_reducible (first | refine sops_go ?_ | refine headW_end ?_ | refine sops_end ?_ | refine awp_if ?_ | refine awp_skip ?_ | refine awp_ret ?_ | refine awp_exit ?_); simp only [go_sem, simprocAttr, hF, hL])
   | with_reducible (first | refine awp_seq_k fun _ _ => ?_ | refine awp_region [18, 26, 1000015, 1000020, 1000023] ?_ | refine awp_block ?_)
   | go_step)
  refine ⟨⟨k + 1, by omega⟩, by dsimp only; omega, hR _ _ (sub_mk ?_)⟩
  simp only [go_sem, simprocAttr, hF, hw, hT, List.map_append, List.map_cons, List.map_nil, Pt.txt]
 | s t =>
  repeat (first
   | (with_reducible (first | refine sops_go ?_ | refine headW_end ?_ | refine sops_end ?_ | refine awp_if ?_ | refine awp_skip ?_ | refine awp_ret ?_ | refine awp_exit ?_); simp only [go_sem, simprocAttr, hF, hd, hdk])
   | with_reducible (first | refine awp_seq_k fun _ _ => ?_ | refine awp_region [18, 26, 1000015, 1000020, 1000023] ?_ | refine awp_block ?_)
   | go_step)
  refine hand_assert (d := 15) (T := 20) (U := 3) (t := 9) (u := .string t) (z := .int .i64 0) rfl rfl (by decide) rfl Tryz.underlying3 (fun _ h => by cases h) Tryz.zr3 rfl rfl ?_
  simp only [go_sem, simprocAttr, hF]
  repeat (first
   | (with_reducible (first | refine sops_go ?_ | refine headW_end ?_ | refine sops_end ?_ | refine awp_if ?_ | refine awp_skip ?_ | refine awp_ret ?_ | refine awp_exit ?_); simp only [go_sem, simprocAttr, hF])
   | with_reducible (first | refine awp_seq_k fun _ _ => ?_ | refine awp_region [18, 26, 1000015, 1000020, 1000023] ?_ | refine awp_block ?_)
   | go_step)
  refine hand_assert (d := 23) (T := 20) (U := 9) (t := 9) (u := .string t) (z := .string ⟨#[]⟩) rfl rfl (by decide) rfl Tryz.underlying9 (fun _ h => by cases h) Tryz.zr9 rfl rfl ?_
  simp only [go_sem, simprocAttr, hF]
  repeat (first
   | (with_reducible (first | refine sops_go ?_ | refine headW_end ?_ | refine sops_end ?_ | refine awp_if ?_ | refine awp_skip ?_ | refine awp_ret ?_ | refine awp_exit ?_); simp only [go_sem, simprocAttr, hF, hL])
   | with_reducible (first | refine awp_seq_k fun _ _ => ?_ | refine awp_region [18, 26, 1000015, 1000020, 1000023] ?_ | refine awp_block ?_)
   | go_step)
  refine ⟨⟨k + 1, by omega⟩, by dsimp only; omega, hR _ _ (sub_mk ?_)⟩
  simp only [go_sem, simprocAttr, hF, hw, hT, List.map_append, List.map_cons, List.map_nil, Pt.txt]
/- explain.Format, by abstract states. -/
attribute [local go_sem] Ex.pv
theorem conc_i : Tryz.prog.concrete 3 = true := by kernel_rfl
theorem conc_s : Tryz.prog.concrete 9 = true := by kernel_rfl

set_option maxHeartbeats 40000000 in
theorem format_okC (C : World → Prop) (hst : ∀ {w w' : World}, Below w.heap.size w w' → C w → C w') (x : Ex) (hca : x.ca.length ≤ 1000000) (hsl : ∀ c ∈ x.ca, c.sl.length ≤ 1000000) (hI : ∀ i, (0 ≤ i ∧ i ≤ 1073741824) → (i = x.lt.fl ∨ i = x.lt.fr ∨ i = x.lt.sl ∨ ∃ c ∈ x.ca, i = c.fm ∨ i = c.tt ∨ i ∈ c.sl) → FnOKC Tryz.prog C 88 [iv i] ⟨.v (.string (txtI i)), none⟩) : FnOKC Tryz.prog C 18 [.agg x.pv] ⟨.tup [.c (.v (.string (fmtX x).1)), .c (ip (fmtX x).2)], none⟩ := by
 refine fn_okC (C := C) Tryz.func18 (by kernel_rfl) rfl (by rw [Tryz.ntmps18]; exact of_decide_eq_true rfl) (fun F hF => ?_)
 rw [Tryz.ntmps18] at hF
 rw [Tryz.results18]
 repeat (first
  | (with_reducible (first | refine sops_go ?_ | refine headW_end ?_ | refine sops_end ?_ | refine awp_if ?_ | refine awp_skip ?_ | refine awp_ret ?_ | refine awp_exit ?_); simp only [go_sem, simprocAttr, hF])
  | with_reducible (first | refine awp_seq_k fun _ _ => ?_ | refine awp_region [116, 1000041, 1000062, 1000124] ?_ | refine awp_block ?_)
  | go_step)
 refine ⟨_, numbers_ok [x.lt.fl, x.lt.fr, m0 x.lt.sl] (by simp), ?_⟩
 simp only [go_sem, simprocAttr, hF]
 cases hA : ([x.lt.fl, x.lt.fr, m0 x.lt.sl].any wrongB) with
 | true =>
  have hX : fmtX x = (⟨#[]⟩, 1) := by unfold fmtX; rw [hA]; rfl
  try simp only [go_sem, simprocAttr, hF, hA]
  repeat (first
   | (with_reducible (first | refine sops_go ?_ | refine headW_end ?_ | refine sops_end ?_ | refine awp_if ?_ | refine awp_skip ?_ | refine awp_ret ?_ | refine awp_exit ?_); simp only [go_sem, simprocAttr, hF, hA])
   | with_reducible (first | refine awp_seq_k fun _ _ => ?_ | refine awp_region [116, 1000041, 1000062, 1000124] ?_ | refine awp_block ?_)
   | go_step)
  all_goals (try rw [hX])
  all_goals (try rfl)
 | false =>
  by_cases c2 : 1024 < x.ca.length
  case pos =>
   have e2 : decide ((1024 : Int) < (x.ca.length : Int)) = true := decide_eq_true (by omega)
   have hX : fmtX x = (⟨#[]⟩, 1) := by unfold fmtX; rw [hA, e2]; rfl
   try simp only [go_sem, simprocAttr, hF, hA, e2]
   repeat (first
    | (with_reducible (first | refine sops_go ?_ | refine headW_end ?_ | refine sops_end ?_ | refine awp_if ?_ | refine awp_skip ?_ | refine awp_ret ?_ | refine awp_exit ?_); simp only [go_sem, simprocAttr, hF, hA, e2])
    | with_reducible (first | refine awp_seq_k fun _ _ => ?_ | refine awp_region [116, 1000041, 1000062, 1000124] ?_ | refine awp_block ?_)
    | go_step)
   all_goals (try rw [hX])
   all_goals (try rfl)
  have e2 : decide ((1024 : Int) < (x.ca.length : Int)) = false := decide_eq_false (by omega)
  have hX0 : fmtX x = if x.ca.any badC = true then (⟨#[]⟩, 1) else (outT (lineT (headL x.lt)) x.ca, 0) := by unfold fmtX; rw [hA, e2]; rfl
  have hA2 := hA
  simp only [List.any_cons, Bool.or_eq_false_iff] at hA2
  obtain ⟨a1, a2, a3, _⟩ := hA2
  have a1 := wrongB_f a1
  have a2 := wrongB_f a2
  have a3 := wrongB_f a3
  have hHN := headN_len a1 a2
  try simp only [go_sem, simprocAttr, hF, hA, e2, conc_i, conc_s]
  repeat (first
   | (with_reducible (first | refine sops_go ?_ | refine headW_end ?_ | refine sops_end ?_ | refine awp_if ?_ | refine awp_skip ?_ | refine awp_ret ?_ | refine awp_exit ?_); simp only [go_sem, simprocAttr, hF, hA, e2, conc_i, conc_s])
   | with_reducible (first | refine awp_seq_k fun _ _ => ?_ | refine awp_region [116, 1000041, 1000062, 1000124] ?_ | refine awp_block ?_)
   | go_step)
  refine hand_fnC (d := 41) (C := C) hst rfl rfl (by decide) rfl rfl rfl (line_okC C hst (headN x.lt) (fun i hi => by
   simp only [headN, List.mem_cons, Pt.n.injEq, reduceCtorEq, false_or, List.not_mem_nil, or_false] at hi
   rcases hi with rfl | rfl
   · exact hI _ a1 (.inl rfl)
   · exact hI _ a2 (.inr (.inl rfl))) (by simp only [headN, headD, causeL, causeP, List.length_append, List.length_map, List.length_cons, List.length_nil]; omega) (by omega)) rfl ?_
  simp only [go_sem, simprocAttr, hF]
  obtain ⟨H, hH, hHs, hHl⟩ : ∃ H, H = lineT (headL x.lt) ∧ H.size ≤ 300 ∧ True := ⟨_, rfl, by
   have s1 := lineT_size (headL x.lt)
   unfold headL at s1 ⊢
   split
   · rename_i hs
     rw [if_pos hs] at s1
     have := headD_len a1 a2 (show 0 ≤ x.lt.sl ∧ x.lt.sl ≤ 1073741824 by unfold m0 at a3; split at a3 <;> omega)
     omega
   · rename_i hs
     rw [if_neg hs] at s1
     omega, trivial⟩
  by_cases c3 : 0 ≤ x.lt.sl
  case pos =>
   have e3 : decide ((0 : Int) ≤ x.lt.sl) = true := decide_eq_true c3
   have a3' : 0 ≤ x.lt.sl ∧ x.lt.sl ≤ 1073741824 := by unfold m0 at a3; split at a3 <;> omega
   have hHD := headD_len a1 a2 a3'
   have hHe : lineT (headD x.lt) = H := by rw [hH]; unfold headL; rw [if_pos c3]
   try simp only [go_sem, simprocAttr, hF, e3, conc_i, conc_s]
   repeat (first
    | (with_reducible (first | refine sops_go ?_ | refine headW_end ?_ | refine sops_end ?_ | refine awp_if ?_ | refine awp_skip ?_ | refine awp_ret ?_ | refine awp_exit ?_); simp only [go_sem, simprocAttr, hF, e3, conc_i, conc_s])
    | with_reducible (first | refine awp_seq_k fun _ _ => ?_ | refine awp_region [116, 1000041, 1000062, 1000124] ?_ | refine awp_block ?_)
    | go_step)
   refine hand_fnC (d := 62) (C := C) hst rfl rfl (by decide) rfl rfl rfl (line_okC C hst (headD x.lt) (fun i hi => by
    simp only [headD, List.mem_cons, Pt.n.injEq, reduceCtorEq, false_or, List.not_mem_nil, or_false] at hi
    rcases hi with rfl | rfl | rfl
    · exact hI _ a1 (.inl rfl)
    · exact hI _ a2 (.inr (.inl rfl))
    · exact hI _ a3' (.inr (.inr (.inl rfl)))) (by simp only [headN, headD, causeL, causeP, List.length_append, List.length_map, List.length_cons, List.length_nil]; omega) (by omega)) rfl ?_
   simp only [go_sem, simprocAttr, hF]
   rw [hHe]
   repeat (first
    | (with_reducible (first | refine sops_go ?_ | refine headW_end ?_ | refine sops_end ?_ | refine awp_if ?_ | refine awp_skip ?_ | refine awp_ret ?_ | refine awp_exit ?_); simp only [go_sem, simprocAttr, hF])
    | with_reducible (first | refine awp_seq_k fun _ _ => ?_ | refine awp_region [116, 1000041, 1000062, 1000124] ?_ | refine awp_block ?_)
    | go_step)
   refine awp_loop_by (ι := {k : Nat // k ≤ x.ca.length ∧ (x.ca.take k).any badC = false}) (fun k σ => ⟨(66, iv (k.1 : Int)) :: (4, .v (.string (outT H (x.ca.take k.1)))) :: keepS [1, 64, 65] σ.slot, keepS [1] σ.box, [], σ.ext⟩) (fun k => x.ca.length - k.1) ⟨0, by omega, rfl⟩ (sub_mk ?_) (fun R hR k => ?_)
   · simp only [go_sem, simprocAttr, hF]
     repeat' (first | rfl | refine ⟨?_, ?_⟩)
   obtain ⟨k, hk, hT⟩ := k
   dsimp only
   simp only [go_sem, simprocAttr, hF]
   by_cases hlt : k < x.ca.length
   case neg =>
    have hd : decide ((k : Int) < (x.ca.length : Int)) = false := decide_eq_false (by omega)
    have hall : List.take k x.ca = x.ca := List.take_of_length_le (by omega)
    rw [hall] at hT
    have hX : fmtX x = (outT H x.ca, 0) := by rw [hX0, if_neg (by rw [hT]; decide), hH]
    repeat (first
     | (with_reducible (first | refine sops_go ?_ | refine headW_end ?_ | refine sops_end ?_ | refine awp_if ?_ | refine awp_skip ?_ | refine awp_ret ?_ | refine awp_exit ?_); simp only [go_sem, simprocAttr, hF, hd, hall])
     | with_reducible (first | refine awp_seq_k fun _ _ => ?_ | refine awp_region [116, 1000041, 1000062, 1000124] ?_ | refine awp_block ?_)
     | go_step)
    all_goals (try rw [hX])
    all_goals (try rfl)
   obtain ⟨c, hdk⟩ := get_of_lt hlt
   have hd : decide ((k : Int) < (x.ca.length : Int)) = true := decide_eq_true (by omega)
   have hw : IntKind.i64.wrap ((k : Int) + 1) = ((k + 1 : Nat) : Int) := by rw [IntKind.wrap_i64]; omega
   have hTk : List.take (k + 1) x.ca = List.take k x.ca ++ [c] := by rw [List.take_add_one, hdk]; rfl
   have hbad : badC c = true → fmtX x = (⟨#[]⟩, 1) := fun h => by rw [hX0, if_pos (List.any_eq_true.2 ⟨c, List.mem_of_getElem? hdk, h⟩)]
   have hcl := hsl c (List.mem_of_getElem? hdk)
   repeat (first
    | (with_reducible (first | refine sops_go ?_ | refine headW_end ?_ | refine sops_end ?_ | refine awp_if ?_ | refine awp_skip ?_ | refine awp_ret ?_ | refine awp_exit ?_); simp only [go_sem, simprocAttr, hF, hd, hdk])
    | with_reducible (first | refine awp_seq_k fun _ _ => ?_ | refine awp_region [116, 1000041, 1000062, 1000124] ?_ | refine awp_block ?_)
    | go_step)
   refine ⟨_, numbers_ok [c.fl, c.fr, c.fm, c.tt] (by simp), ?_⟩
   simp only [go_sem, simprocAttr, hF]
   cases b1 : [c.fl, c.fr, c.fm, c.tt].any wrongB with
   | true =>
    have hX := hbad (by unfold badC; rw [b1]; rfl)
    try simp only [go_sem, simprocAttr, hF, b1]
    repeat (first
     | (with_reducible (first | refine sops_go ?_ | refine headW_end ?_ | refine sops_end ?_ | refine awp_if ?_ | refine awp_skip ?_ | refine awp_ret ?_ | refine awp_exit ?_); simp only [go_sem, simprocAttr, hF, b1])
     | with_reducible (first | refine awp_seq_k fun _ _ => ?_ | refine awp_region [116, 1000041, 1000062, 1000124] ?_ | refine awp_block ?_)
     | go_step)
    all_goals (try rw [hX])
    all_goals (try rfl)
   | false =>
    try simp only [go_sem, simprocAttr, hF, b1]
    repeat (first
     | (with_reducible (first | refine sops_go ?_ | refine headW_end ?_ | refine sops_end ?_ | refine awp_if ?_ | refine awp_skip ?_ | refine awp_ret ?_ | refine awp_exit ?_); simp only [go_sem, simprocAttr, hF, b1])
     | with_reducible (first | refine awp_seq_k fun _ _ => ?_ | refine awp_region [116, 1000041, 1000062, 1000124] ?_ | refine awp_block ?_)
     | go_step)
    refine ⟨_, numbers_ok c.sl (by omega), ?_⟩
    simp only [go_sem, simprocAttr, hF, b1]
    cases b2 : c.sl.any wrongB with
    | true =>
     have hX := hbad (by unfold badC; rw [b1, b2]; rfl)
     try simp only [go_sem, simprocAttr, hF, b1, b2]
     repeat (first
      | (with_reducible (first | refine sops_go ?_ | refine headW_end ?_ | refine sops_end ?_ | refine awp_if ?_ | refine awp_skip ?_ | refine awp_ret ?_ | refine awp_exit ?_); simp only [go_sem, simprocAttr, hF, b1, b2])
      | with_reducible (first | refine awp_seq_k fun _ _ => ?_ | refine awp_region [116, 1000041, 1000062, 1000124] ?_ | refine awp_block ?_)
      | go_step)
     all_goals (try rw [hX])
     all_goals (try rfl)
    | false =>
     cases b3 : decide ((c.sl.length : Int) < 1) with
     | true =>
      have hX := hbad (by unfold badC; rw [b1, b2, b3]; rfl)
      try simp only [go_sem, simprocAttr, hF, b1, b2, b3]
      repeat (first
       | (with_reducible (first | refine sops_go ?_ | refine headW_end ?_ | refine sops_end ?_ | refine awp_if ?_ | refine awp_skip ?_ | refine awp_ret ?_ | refine awp_exit ?_); simp only [go_sem, simprocAttr, hF, b1, b2, b3])
       | with_reducible (first | refine awp_seq_k fun _ _ => ?_ | refine awp_region [116, 1000041, 1000062, 1000124] ?_ | refine awp_block ?_)
       | go_step)
      all_goals (try rw [hX])
      all_goals (try rfl)
     | false =>
      cases b4 : decide ((8 : Int) < (c.sl.length : Int)) with
      | true =>
       have hX := hbad (by unfold badC; rw [b1, b2, b3, b4]; rfl)
       try simp only [go_sem, simprocAttr, hF, b1, b2, b3, b4]
       repeat (first
        | (with_reducible (first | refine sops_go ?_ | refine headW_end ?_ | refine sops_end ?_ | refine awp_if ?_ | refine awp_skip ?_ | refine awp_ret ?_ | refine awp_exit ?_); simp only [go_sem, simprocAttr, hF, b1, b2, b3, b4])
        | with_reducible (first | refine awp_seq_k fun _ _ => ?_ | refine awp_region [116, 1000041, 1000062, 1000124] ?_ | refine awp_block ?_)
        | go_step)
       all_goals (try rw [hX])
       all_goals (try rfl)
      | false =>
       have hgood : badC c = false := by unfold badC; rw [b1, b2, b3, b4]; rfl
       have hany : (List.take (k + 1) x.ca).any badC = false := by rw [hTk, List.any_append, hT, List.any_cons, hgood]; rfl
       obtain ⟨⟨_, g1, g2, g3⟩, g4, g5⟩ := badC_f hgood
       try simp only [go_sem, simprocAttr, hF, b1, b2, b3, b4, conc_i, conc_s]
       repeat (first
        | (with_reducible (first | refine sops_go ?_ | refine headW_end ?_ | refine sops_end ?_ | refine awp_if ?_ | refine awp_skip ?_ | refine awp_ret ?_ | refine awp_exit ?_); simp only [go_sem, simprocAttr, hF, b1, b2, b3, b4, conc_i, conc_s])
        | with_reducible (first | refine awp_seq_k fun _ _ => ?_ | refine awp_region [116, 1000041, 1000062, 1000124] ?_ | refine awp_block ?_)
        | go_step)
       refine awp_loop_by (ι := {j : Nat // j ≤ c.sl.length}) (fun j σ => ⟨(112, iv (j.1 : Int)) :: (7, .sl 1 ((causeP c ++ (c.sl.take j.1).map Pt.n).map Pt.row)) :: keepS [1, 4, 64, 65, 66, 110, 111] σ.slot, keepS [1] σ.box, [(.s 7, (20, 1))], σ.ext⟩) (fun j => c.sl.length - j.1) ⟨0, by omega⟩ (sub_mk ?_) (fun R2 hR2 j => ?_)
       · simp only [go_sem, simprocAttr, hF]
         repeat' (first | rfl | refine ⟨?_, ?_⟩)
       obtain ⟨j, hj⟩ := j
       dsimp only
       simp only [go_sem, simprocAttr, hF]
       by_cases hjt : j < c.sl.length
       case neg =>
        have hdj : decide ((j : Int) < (c.sl.length : Int)) = false := decide_eq_false (by omega)
        have hallj : causeP c ++ List.map Pt.n (List.take j c.sl) = causeL c := by rw [List.take_of_length_le (by omega)]; rfl
        have hos := outT_size (h := H) hT
        have hcz := causeL_len hgood
        have hlz := lineT_size (causeL c)
        have hkz : (List.take k x.ca).length ≤ 1024 := by rw [List.length_take]; omega
        have hadd : (outT H (List.take k x.ca)).size + (lineT (causeL c)).size ≤ 9223372036854775807 := by omega
        have hsn : outT H (List.take (k + 1) x.ca) = outT H (List.take k x.ca) ++ lineT (causeL c) := by rw [hTk, outT_snoc]
        repeat (first
         | (with_reducible (first | refine sops_go ?_ | refine headW_end ?_ | refine sops_end ?_ | refine awp_if ?_ | refine awp_skip ?_ | refine awp_ret ?_ | refine awp_exit ?_); simp only [go_sem, simprocAttr, hF, hdj])
         | with_reducible (first | refine awp_seq_k fun _ _ => ?_ | refine awp_region [116, 1000041, 1000062, 1000124] ?_ | refine awp_block ?_)
         | go_step)
        rw [hallj]
        refine hand_fnC (d := 124) (C := C) hst rfl rfl (by decide) rfl rfl rfl (line_okC C hst (causeL c) (fun i hi => by
         rcases List.mem_append.1 hi with hi | hi
         · simp only [causeP, List.mem_cons, Pt.n.injEq, reduceCtorEq, false_or, List.not_mem_nil, or_false] at hi
           rcases hi with rfl | rfl
           · exact hI _ g4 (.inr (.inr (.inr ⟨c, List.mem_of_getElem? hdk, .inl rfl⟩)))
           · exact hI _ g5 (.inr (.inr (.inr ⟨c, List.mem_of_getElem? hdk, .inr (.inl rfl)⟩)))
         · obtain ⟨y, hy, hy2⟩ := List.mem_map.1 hi
           cases hy2
           have hwy : wrongB i = false := by
            cases hq : wrongB i with
            | false => rfl
            | true => rw [List.any_eq_true.2 ⟨i, hy, hq⟩] at g1; cases g1
           exact hI _ (wrongB_f hwy) (.inr (.inr (.inr ⟨c, List.mem_of_getElem? hdk, .inr (.inr hy)⟩)))) (by simp only [headN, headD, causeL, causeP, List.length_append, List.length_map, List.length_cons, List.length_nil]; omega) (by omega)) rfl ?_
        simp only [go_sem, simprocAttr, hF, hadd]
        repeat (first
         | (with_reducible (first | refine sops_go ?_ | refine headW_end ?_ | refine sops_end ?_ | refine awp_if ?_ | refine awp_skip ?_ | refine awp_ret ?_ | refine awp_exit ?_); simp only [go_sem, simprocAttr, hF, hadd])
         | with_reducible (first | refine awp_seq_k fun _ _ => ?_ | refine awp_region [116, 1000041, 1000062, 1000124] ?_ | refine awp_block ?_)
         | go_step)
        refine ⟨⟨k + 1, by omega, hany⟩, by dsimp only; omega, hR _ _ (sub_mk ?_)⟩
        simp only [go_sem, simprocAttr, hF, hw, hsn]
       obtain ⟨s, hsj⟩ := get_of_lt hjt
       have hdj : decide ((j : Int) < (c.sl.length : Int)) = true := decide_eq_true (by omega)
       have hwj : IntKind.i64.wrap ((j : Int) + 1) = ((j + 1 : Nat) : Int) := by rw [IntKind.wrap_i64]; omega
       have hTj : causeP c ++ List.map Pt.n (List.take (j + 1) c.sl) = (causeP c ++ List.map Pt.n (List.take j c.sl)) ++ [Pt.n s] := by rw [List.take_add_one, hsj, List.append_assoc, List.map_append]; rfl
       have hLj : (causeP c ++ List.map Pt.n (List.take j c.sl)).length ≤ 99999999 := by rw [List.length_append, List.length_map, List.length_take]; show 5 + _ ≤ _; omega
       generalize hGW : causeP c ++ List.map Pt.n (List.take j c.sl) = GW at hTj hLj ⊢
       repeat (first
        | (with_reducible (first | refine sops_go ?_ | refine headW_end ?_ | refine sops_end ?_ | refine awp_if ?_ | refine awp_skip ?_ | refine awp_ret ?_ | refine awp_exit ?_); simp only [go_sem, simprocAttr, hF, hdj, hsj, hLj, conc_i, conc_s])
        | with_reducible (first | refine awp_seq_k fun _ _ => ?_ | refine awp_region [116, 1000041, 1000062, 1000124] ?_ | refine awp_block ?_)
        | go_step)
       refine ⟨⟨j + 1, by omega⟩, by dsimp only; omega, hR2 _ _ (sub_mk ?_)⟩
       simp only [go_sem, simprocAttr, hF, hwj, hTj, List.map_append, List.map_cons, List.map_nil]
  have e3 : decide ((0 : Int) ≤ x.lt.sl) = false := decide_eq_false c3
  have hHe : lineT (headN x.lt) = H := by rw [hH]; unfold headL; rw [if_neg c3]
  rw [hHe]
  try simp only [go_sem, simprocAttr, hF, e3]
  repeat (first
   | (with_reducible (first | refine sops_go ?_ | refine headW_end ?_ | refine sops_end ?_ | refine awp_if ?_ | refine awp_skip ?_ | refine awp_ret ?_ | refine awp_exit ?_); simp only [go_sem, simprocAttr, hF, e3])
   | with_reducible (first | refine awp_seq_k fun _ _ => ?_ | refine awp_region [116, 1000041, 1000062, 1000124] ?_ | refine awp_block ?_)
   | go_step)
  refine awp_loop_by (ι := {k : Nat // k ≤ x.ca.length ∧ (x.ca.take k).any badC = false}) (fun k σ => ⟨(66, iv (k.1 : Int)) :: (4, .v (.string (outT H (x.ca.take k.1)))) :: keepS [1, 64, 65] σ.slot, keepS [1] σ.box, [], σ.ext⟩) (fun k => x.ca.length - k.1) ⟨0, by omega, rfl⟩ (sub_mk ?_) (fun R hR k => ?_)
  · simp only [go_sem, simprocAttr, hF]
    repeat' (first | rfl | refine ⟨?_, ?_⟩)
  obtain ⟨k, hk, hT⟩ := k
  dsimp only
  simp only [go_sem, simprocAttr, hF]
  by_cases hlt : k < x.ca.length
  case neg =>
   have hd : decide ((k : Int) < (x.ca.length : Int)) = false := decide_eq_false (by omega)
   have hall : List.take k x.ca = x.ca := List.take_of_length_le (by omega)
   rw [hall] at hT
   have hX : fmtX x = (outT H x.ca, 0) := by rw [hX0, if_neg (by rw [hT]; decide), hH]
   repeat (first
    | (with_reducible (first | refine sops_go ?_ | refine headW_end ?_ | refine sops_end ?_ | refine awp_if ?_ | refine awp_skip ?_ | refine awp_ret ?_ | refine awp_exit ?_); simp only [go_sem, simprocAttr, hF, hd, hall])
    | with_reducible (first | refine awp_seq_k fun _ _ => ?_ | refine awp_region [116, 1000041, 1000062, 1000124] ?_ | refine awp_block ?_)
    | go_step)
   all_goals (try rw [hX])
   all_goals (try rfl)
  obtain ⟨c, hdk⟩ := get_of_lt hlt
  have hd : decide ((k : Int) < (x.ca.length : Int)) = true := decide_eq_true (by omega)
  have hw : IntKind.i64.wrap ((k : Int) + 1) = ((k + 1 : Nat) : Int) := by rw [IntKind.wrap_i64]; omega
  have hTk : List.take (k + 1) x.ca = List.take k x.ca ++ [c] := by rw [List.take_add_one, hdk]; rfl
  have hbad : badC c = true → fmtX x = (⟨#[]⟩, 1) := fun h => by rw [hX0, if_pos (List.any_eq_true.2 ⟨c, List.mem_of_getElem? hdk, h⟩)]
  have hcl := hsl c (List.mem_of_getElem? hdk)
  repeat (first
   | (with_reducible (first | refine sops_go ?_ | refine headW_end ?_ | refine sops_end ?_ | refine awp_if ?_ | refine awp_skip ?_ | refine awp_ret ?_ | refine awp_exit ?_); simp only [go_sem, simprocAttr, hF, hd, hdk])
   | with_reducible (first | refine awp_seq_k fun _ _ => ?_ | refine awp_region [116, 1000041, 1000062, 1000124] ?_ | refine awp_block ?_)
   | go_step)
  refine ⟨_, numbers_ok [c.fl, c.fr, c.fm, c.tt] (by simp), ?_⟩
  simp only [go_sem, simprocAttr, hF]
  cases b1 : [c.fl, c.fr, c.fm, c.tt].any wrongB with
  | true =>
   have hX := hbad (by unfold badC; rw [b1]; rfl)
   try simp only [go_sem, simprocAttr, hF, b1]
   repeat (first
    | (with_reducible (first | refine sops_go ?_ | refine headW_end ?_ | refine sops_end ?_ | refine awp_if ?_ | refine awp_skip ?_ | refine awp_ret ?_ | refine awp_exit ?_); simp only [go_sem, simprocAttr, hF, b1])
    | with_reducible (first | refine awp_seq_k fun _ _ => ?_ | refine awp_region [116, 1000041, 1000062, 1000124] ?_ | refine awp_block ?_)
    | go_step)
   all_goals (try rw [hX])
   all_goals (try rfl)
  | false =>
   try simp only [go_sem, simprocAttr, hF, b1]
   repeat (first
    | (with_reducible (first | refine sops_go ?_ | refine headW_end ?_ | refine sops_end ?_ | refine awp_if ?_ | refine awp_skip ?_ | refine awp_ret ?_ | refine awp_exit ?_); simp only [go_sem, simprocAttr, hF, b1])
    | with_reducible (first | refine awp_seq_k fun _ _ => ?_ | refine awp_region [116, 1000041, 1000062, 1000124] ?_ | refine awp_block ?_)
    | go_step)
   refine ⟨_, numbers_ok c.sl (by omega), ?_⟩
   simp only [go_sem, simprocAttr, hF, b1]
   cases b2 : c.sl.any wrongB with
   | true =>
    have hX := hbad (by unfold badC; rw [b1, b2]; rfl)
    try simp only [go_sem, simprocAttr, hF, b1, b2]
    repeat (first
     | (with_reducible (first | refine sops_go ?_ | refine headW_end ?_ | refine sops_end ?_ | refine awp_if ?_ | refine awp_skip ?_ | refine awp_ret ?_ | refine awp_exit ?_); simp only [go_sem, simprocAttr, hF, b1, b2])
     | with_reducible (first | refine awp_seq_k fun _ _ => ?_ | refine awp_region [116, 1000041, 1000062, 1000124] ?_ | refine awp_block ?_)
     | go_step)
    all_goals (try rw [hX])
    all_goals (try rfl)
   | false =>
    cases b3 : decide ((c.sl.length : Int) < 1) with
    | true =>
     have hX := hbad (by unfold badC; rw [b1, b2, b3]; rfl)
     try simp only [go_sem, simprocAttr, hF, b1, b2, b3]
     repeat (first
      | (with_reducible (first | refine sops_go ?_ | refine headW_end ?_ | refine sops_end ?_ | refine awp_if ?_ | refine awp_skip ?_ | refine awp_ret ?_ | refine awp_exit ?_); simp only [go_sem, simprocAttr, hF, b1, b2, b3])
      | with_reducible (first | refine awp_seq_k fun _ _ => ?_ | refine awp_region [116, 1000041, 1000062, 1000124] ?_ | refine awp_block ?_)
      | go_step)
     all_goals (try rw [hX])
     all_goals (try rfl)
    | false =>
     cases b4 : decide ((8 : Int) < (c.sl.length : Int)) with
     | true =>
      have hX := hbad (by unfold badC; rw [b1, b2, b3, b4]; rfl)
      try simp only [go_sem, simprocAttr, hF, b1, b2, b3, b4]
      repeat (first
       | (with_reducible (first | refine sops_go ?_ | refine headW_end ?_ | refine sops_end ?_ | refine awp_if ?_ | refine awp_skip ?_ | refine awp_ret ?_ | refine awp_exit ?_); simp only [go_sem, simprocAttr, hF, b1, b2, b3, b4])
       | with_reducible (first | refine awp_seq_k fun _ _ => ?_ | refine awp_region [116, 1000041, 1000062, 1000124] ?_ | refine awp_block ?_)
       | go_step)
      all_goals (try rw [hX])
      all_goals (try rfl)
     | false =>
      have hgood : badC c = false := by unfold badC; rw [b1, b2, b3, b4]; rfl
      have hany : (List.take (k + 1) x.ca).any badC = false := by rw [hTk, List.any_append, hT, List.any_cons, hgood]; rfl
      obtain ⟨⟨_, g1, g2, g3⟩, g4, g5⟩ := badC_f hgood
      try simp only [go_sem, simprocAttr, hF, b1, b2, b3, b4, conc_i, conc_s]
      repeat (first
       | (with_reducible (first | refine sops_go ?_ | refine headW_end ?_ | refine sops_end ?_ | refine awp_if ?_ | refine awp_skip ?_ | refine awp_ret ?_ | refine awp_exit ?_); simp only [go_sem, simprocAttr, hF, b1, b2, b3, b4, conc_i, conc_s])
       | with_reducible (first | refine awp_seq_k fun _ _ => ?_ | refine awp_region [116, 1000041, 1000062, 1000124] ?_ | refine awp_block ?_)
       | go_step)
      refine awp_loop_by (ι := {j : Nat // j ≤ c.sl.length}) (fun j σ => ⟨(112, iv (j.1 : Int)) :: (7, .sl 1 ((causeP c ++ (c.sl.take j.1).map Pt.n).map Pt.row)) :: keepS [1, 4, 64, 65, 66, 110, 111] σ.slot, keepS [1] σ.box, [(.s 7, (20, 1))], σ.ext⟩) (fun j => c.sl.length - j.1) ⟨0, by omega⟩ (sub_mk ?_) (fun R2 hR2 j => ?_)
      · simp only [go_sem, simprocAttr, hF]
        repeat' (first | rfl | refine ⟨?_, ?_⟩)
      obtain ⟨j, hj⟩ := j
      dsimp only
      simp only [go_sem, simprocAttr, hF]
      by_cases hjt : j < c.sl.length
      case neg =>
       have hdj : decide ((j : Int) < (c.sl.length : Int)) = false := decide_eq_false (by omega)
       have hallj : causeP c ++ List.map Pt.n (List.take j c.sl) = causeL c := by rw [List.take_of_length_le (by omega)]; rfl
       have hos := outT_size (h := H) hT
       have hcz := causeL_len hgood
       have hlz := lineT_size (causeL c)
       have hkz : (List.take k x.ca).length ≤ 1024 := by rw [List.length_take]; omega
       have hadd : (outT H (List.take k x.ca)).size + (lineT (causeL c)).size ≤ 9223372036854775807 := by omega
       have hsn : outT H (List.take (k + 1) x.ca) = outT H (List.take k x.ca) ++ lineT (causeL c) := by rw [hTk, outT_snoc]
       repeat (first
        | (with_reducible (first | refine sops_go ?_ | refine headW_end ?_ | refine sops_end ?_ | refine awp_if ?_ | refine awp_skip ?_ | refine awp_ret ?_ | refine awp_exit ?_); simp only [go_sem, simprocAttr, hF, hdj])
        | with_reducible (first | refine awp_seq_k fun _ _ => ?_ | refine awp_region [116, 1000041, 1000062, 1000124] ?_ | refine awp_block ?_)
        | go_step)
       rw [hallj]
       refine hand_fnC (d := 124) (C := C) hst rfl rfl (by decide) rfl rfl rfl (line_okC C hst (causeL c) (fun i hi => by
        rcases List.mem_append.1 hi with hi | hi
        · simp only [causeP, List.mem_cons, Pt.n.injEq, reduceCtorEq, false_or, List.not_mem_nil, or_false] at hi
          rcases hi with rfl | rfl
          · exact hI _ g4 (.inr (.inr (.inr ⟨c, List.mem_of_getElem? hdk, .inl rfl⟩)))
          · exact hI _ g5 (.inr (.inr (.inr ⟨c, List.mem_of_getElem? hdk, .inr (.inl rfl)⟩)))
        · obtain ⟨y, hy, hy2⟩ := List.mem_map.1 hi
          cases hy2
          have hwy : wrongB i = false := by
           cases hq : wrongB i with
           | false => rfl
           | true => rw [List.any_eq_true.2 ⟨i, hy, hq⟩] at g1; cases g1
          exact hI _ (wrongB_f hwy) (.inr (.inr (.inr ⟨c, List.mem_of_getElem? hdk, .inr (.inr hy)⟩)))) (by simp only [headN, headD, causeL, causeP, List.length_append, List.length_map, List.length_cons, List.length_nil]; omega) (by omega)) rfl ?_
       simp only [go_sem, simprocAttr, hF, hadd]
       repeat (first
        | (with_reducible (first | refine sops_go ?_ | refine headW_end ?_ | refine sops_end ?_ | refine awp_if ?_ | refine awp_skip ?_ | refine awp_ret ?_ | refine awp_exit ?_); simp only [go_sem, simprocAttr, hF, hadd])
        | with_reducible (first | refine awp_seq_k fun _ _ => ?_ | refine awp_region [116, 1000041, 1000062, 1000124] ?_ | refine awp_block ?_)
        | go_step)
       refine ⟨⟨k + 1, by omega, hany⟩, by dsimp only; omega, hR _ _ (sub_mk ?_)⟩
       simp only [go_sem, simprocAttr, hF, hw, hsn]
      obtain ⟨s, hsj⟩ := get_of_lt hjt
      have hdj : decide ((j : Int) < (c.sl.length : Int)) = true := decide_eq_true (by omega)
      have hwj : IntKind.i64.wrap ((j : Int) + 1) = ((j + 1 : Nat) : Int) := by rw [IntKind.wrap_i64]; omega
      have hTj : causeP c ++ List.map Pt.n (List.take (j + 1) c.sl) = (causeP c ++ List.map Pt.n (List.take j c.sl)) ++ [Pt.n s] := by rw [List.take_add_one, hsj, List.append_assoc, List.map_append]; rfl
      have hLj : (causeP c ++ List.map Pt.n (List.take j c.sl)).length ≤ 99999999 := by rw [List.length_append, List.length_map, List.length_take]; show 5 + _ ≤ _; omega
      generalize hGW : causeP c ++ List.map Pt.n (List.take j c.sl) = GW at hTj hLj ⊢
      repeat (first
       | (with_reducible (first | refine sops_go ?_ | refine headW_end ?_ | refine sops_end ?_ | refine awp_if ?_ | refine awp_skip ?_ | refine awp_ret ?_ | refine awp_exit ?_); simp only [go_sem, simprocAttr, hF, hdj, hsj, hLj, conc_i, conc_s])
       | with_reducible (first | refine awp_seq_k fun _ _ => ?_ | refine awp_region [116, 1000041, 1000062, 1000124] ?_ | refine awp_block ?_)
       | go_step)
      refine ⟨⟨j + 1, by omega⟩, by dsimp only; omega, hR2 _ _ (sub_mk ?_)⟩
      simp only [go_sem, simprocAttr, hF, hwj, hTj, List.map_append, List.map_cons, List.map_nil]
/- The check of a route, by abstract states. -/
set_option maxHeartbeats 2000000 in
theorem sidx_ok (l : List Int) (v : Int) (hl : l.length ≤ 1000000) : FnOK Tryz.prog 48 [.sl 1 (l.map irow_pv), iv v] ⟨iv (idxP (fun y => v == y) l 0), none⟩ := by
 refine fn_ok Tryz.func48 (by kernel_rfl) rfl (by rw [Tryz.ntmps48]; exact of_decide_eq_true rfl) (fun F hF => ?_)
 rw [Tryz.ntmps48] at hF
 rw [Tryz.results48]
 repeat (first
  | (with_reducible (first | refine sops_go ?_ | refine headW_end ?_ | refine sops_end ?_ | refine awp_if ?_ | refine awp_skip ?_ | refine awp_ret ?_ | refine awp_exit ?_); simp only [go_sem, simprocAttr, hF])
  | with_reducible (first | refine awp_seq_k fun _ _ => ?_ | refine awp_region [] ?_ | refine awp_block ?_)
  | go_step)
 refine awp_loop_by (ι := {k : Nat // k ≤ l.length ∧ idxP (fun y => v == y) l 0 = idxP (fun y => v == y) (l.drop k) (k : Int)}) (fun k σ => ⟨(8, iv (k.1 : Int)) :: keepS [0, 1, 4, 7] σ.slot, σ.box, [], σ.ext⟩) (fun k => l.length - k.1) ⟨0, by omega, rfl⟩ (sub_mk ?_) (fun R hR k => ?_)
 · simp only [go_sem, simprocAttr, hF]
   repeat' (first | rfl | refine ⟨?_, ?_⟩)
 obtain ⟨k, hk, hT⟩ := k
 dsimp only
 simp only [go_sem, simprocAttr, hF]
 by_cases hlt : k < l.length
 case neg =>
  have hd : decide ((k : Int) < (l.length : Int)) = false := decide_eq_false (by omega)
  repeat (first
   | (with_reducible (first | refine sops_go ?_ | refine headW_end ?_ | refine sops_end ?_ | refine awp_if ?_ | refine awp_skip ?_ | refine awp_ret ?_ | refine awp_exit ?_); simp only [go_sem, simprocAttr, hF, hd])
   | with_reducible (first | refine awp_seq_k fun _ _ => ?_ | refine awp_region [] ?_ | refine awp_block ?_)
   | go_step)
  rw [hT, List.drop_of_length_le (by omega)]
  rfl
 obtain ⟨y, hyk⟩ := get_of_lt hlt
 have hd : decide ((k : Int) < (l.length : Int)) = true := decide_eq_true (by omega)
 have hw : IntKind.i64.wrap ((k : Int) + 1) = ((k + 1 : Nat) : Int) := by rw [IntKind.wrap_i64]; omega
 have hT' : idxP (fun y => v == y) l 0 = if (v == y) = true then (k : Int) else idxP (fun y => v == y) (l.drop (k + 1)) ((k + 1 : Nat) : Int) := by rw [hT, drop_of_get hyk, idxP]; rfl
 cases he : (v == y) with
 | true =>
  repeat (first
   | (with_reducible (first | refine sops_go ?_ | refine headW_end ?_ | refine sops_end ?_ | refine awp_if ?_ | refine awp_skip ?_ | refine awp_ret ?_ | refine awp_exit ?_); simp only [go_sem, simprocAttr, hF, hd, hyk, he])
   | with_reducible (first | refine awp_seq_k fun _ _ => ?_ | refine awp_region [] ?_ | refine awp_block ?_)
   | go_step)
  rw [hT', if_pos he]
 | false =>
  repeat (first
   | (with_reducible (first | refine sops_go ?_ | refine headW_end ?_ | refine sops_end ?_ | refine awp_if ?_ | refine awp_skip ?_ | refine awp_ret ?_ | refine awp_exit ?_); simp only [go_sem, simprocAttr, hF, hd, hyk, he])
   | with_reducible (first | refine awp_seq_k fun _ _ => ?_ | refine awp_region [] ?_ | refine awp_block ?_)
   | go_step)
  refine ⟨⟨k + 1, by omega, by rw [hT', if_neg (by rw [he]; decide)]⟩, by dsimp only; omega, hR _ _ (sub_mk ?_)⟩
  simp only [go_sem, simprocAttr, hF, hw]

set_option maxHeartbeats 2000000 in
theorem scont_ok (l : List Int) (v : Int) (hl : l.length ≤ 1000000) : FnOK Tryz.prog 150 [.sl 1 (l.map irow_pv), iv v] ⟨bv (l.any (fun y => v == y)), none⟩ := by
 have hx := idx_any (fun y => v == y) l
 refine fn_ok Tryz.func150 (by kernel_rfl) rfl (by rw [Tryz.ntmps150]; exact of_decide_eq_true rfl) (fun F hF => ?_)
 rw [Tryz.ntmps150] at hF
 rw [Tryz.results150]
 repeat (first
  | (with_reducible (first | refine sops_go ?_ | refine headW_end ?_ | refine sops_end ?_ | refine awp_if ?_ | refine awp_skip ?_ | refine awp_ret ?_ | refine awp_exit ?_); simp only [go_sem, simprocAttr, hF])
  | with_reducible (first | refine awp_seq_k fun _ _ => ?_ | refine awp_region [] ?_ | refine awp_block ?_)
  | go_step)
 refine ⟨_, sidx_ok l v hl, ?_⟩
 simp only [go_sem, simprocAttr, hF]
 repeat (first
  | (with_reducible (first | refine sops_go ?_ | refine headW_end ?_ | refine sops_end ?_ | refine awp_if ?_ | refine awp_skip ?_ | refine awp_ret ?_ | refine awp_exit ?_); simp only [go_sem, simprocAttr, hF, hx])
  | with_reducible (first | refine awp_seq_k fun _ _ => ?_ | refine awp_region [] ?_ | refine awp_block ?_)
  | go_step)
 all_goals (try rfl)

set_option maxHeartbeats 2000000 in
theorem rends_ok (n : Net) (a b : Int) (hS : SmallN n) (hc : chkN n = 0) (ha : 0 ≤ a ∧ a < n.nodes) (hb : 0 ≤ b ∧ b < n.nodes) (hab : a ≠ b) : FnOK Tryz.prog 100 [.agg n.pv, iv a, iv b] ⟨iv 0, none⟩ := by
 have he : (chkN n != 0) = false := by rw [hc]; rfl
 have h1 : decide ((if b < a then b else a) < 0) = false := decide_eq_false (by split <;> omega)
 have h2 : decide (n.nodes ≤ (if a < b then b else a)) = false := decide_eq_false (by split <;> omega)
 have h3 : (a == b) = false := by simpa using hab
 refine fn_ok Tryz.func100 (by kernel_rfl) rfl (by rw [Tryz.ntmps100]; exact of_decide_eq_true rfl) (fun F hF => ?_)
 rw [Tryz.ntmps100] at hF
 rw [Tryz.results100]
 repeat (first
  | (with_reducible (first | refine sops_go ?_ | refine headW_end ?_ | refine sops_end ?_ | refine awp_if ?_ | refine awp_skip ?_ | refine awp_ret ?_ | refine awp_exit ?_); simp only [go_sem, simprocAttr, hF])
  | with_reducible (first | refine awp_seq_k fun _ _ => ?_ | refine awp_region [] ?_ | refine awp_block ?_)
  | go_step)
 refine ⟨_, ncheck_ok n hS.pow hS.rows hS.lk hS.mg, ?_⟩
 simp only [go_sem, simprocAttr, hF, he]
 repeat (first
  | (with_reducible (first | refine sops_go ?_ | refine headW_end ?_ | refine sops_end ?_ | refine awp_if ?_ | refine awp_skip ?_ | refine awp_ret ?_ | refine awp_exit ?_); simp only [go_sem, simprocAttr, hF, he, h1, h2, h3])
  | with_reducible (first | refine awp_seq_k fun _ _ => ?_ | refine awp_region [] ?_ | refine awp_block ?_)
  | go_step)

set_option maxHeartbeats 2000000 in
theorem rfault1_ok (n : Net) (x : Int) : FnOK Tryz.prog 149 [iv x, .ept n.pv] ⟨bv (outN n x), none⟩ := by
 refine fn_ok Tryz.func149 (by kernel_rfl) rfl (by rw [Tryz.ntmps149]; exact of_decide_eq_true rfl) (fun F hF => ?_)
 rw [Tryz.ntmps149] at hF
 rw [Tryz.results149]
 unfold outN
 cases h1 : decide (x < 0) <;> cases h2 : decide (n.nodes ≤ x)
 · repeat (first
  | (with_reducible (first | refine sops_go ?_ | refine headW_end ?_ | refine sops_end ?_ | refine awp_if ?_ | refine awp_skip ?_ | refine awp_ret ?_ | refine awp_exit ?_); simp only [go_sem, simprocAttr, hF, h1, h2])
  | with_reducible (first | refine awp_seq_k fun _ _ => ?_ | refine awp_region [] ?_ | refine awp_block ?_)
  | go_step)
   all_goals (try rfl)
 · repeat (first
  | (with_reducible (first | refine sops_go ?_ | refine headW_end ?_ | refine sops_end ?_ | refine awp_if ?_ | refine awp_skip ?_ | refine awp_ret ?_ | refine awp_exit ?_); simp only [go_sem, simprocAttr, hF, h1, h2])
  | with_reducible (first | refine awp_seq_k fun _ _ => ?_ | refine awp_region [] ?_ | refine awp_block ?_)
  | go_step)
   all_goals (try rfl)
 · repeat (first
  | (with_reducible (first | refine sops_go ?_ | refine headW_end ?_ | refine sops_end ?_ | refine awp_if ?_ | refine awp_skip ?_ | refine awp_ret ?_ | refine awp_exit ?_); simp only [go_sem, simprocAttr, hF, h1, h2])
  | with_reducible (first | refine awp_seq_k fun _ _ => ?_ | refine awp_region [] ?_ | refine awp_block ?_)
  | go_step)
   all_goals (try rfl)
 · repeat (first
  | (with_reducible (first | refine sops_go ?_ | refine headW_end ?_ | refine sops_end ?_ | refine awp_if ?_ | refine awp_skip ?_ | refine awp_ret ?_ | refine awp_exit ?_); simp only [go_sem, simprocAttr, hF, h1, h2])
  | with_reducible (first | refine awp_seq_k fun _ _ => ?_ | refine awp_region [] ?_ | refine awp_block ?_)
  | go_step)
   all_goals (try rfl)

set_option maxHeartbeats 20000000 in
theorem rfault_ok (n : Net) (a b : Int) (p : List Int) (hS : SmallN n) (hc : chkN n = 0) (hl : p.length ≤ 1000000) : FnOK Tryz.prog 101 [.agg n.pv, iv a, iv b, .sl 1 (p.map irow_pv)] ⟨iv (routeE n a b p), none⟩ := by
 have hlen : p.length ≤ 1000000 := hl
 refine fn_ok Tryz.func101 (by kernel_rfl) rfl (by rw [Tryz.ntmps101]; exact of_decide_eq_true rfl) (fun F hF => ?_)
 rw [Tryz.ntmps101] at hF
 rw [Tryz.results101]
 by_cases c1 : p.length < 2
 case pos =>
  have e1 : decide ((p.length : Int) < 2) = true := by first | exact decide_eq_true (by omega) | simpa using c1
  repeat (first
   | (with_reducible (first | refine sops_go ?_ | refine headW_end ?_ | refine sops_end ?_ | refine awp_if ?_ | refine awp_skip ?_ | refine awp_ret ?_ | refine awp_exit ?_); simp only [go_sem, simprocAttr, hF, e1])
   | ((with_reducible refine headW_go ?_); simp only [go_sem, simprocAttr, hF, e1, hbx])
   | with_reducible refine awp_seq_k fun _ _ => ?_
   | (refine awp_draw' (id := 18) [] 10 (by kernel_rfl) (by kernel_rfl) rfl rfl (fun bx0 hbx => ?_); try dsimp only [List.take, List.drop])
   | with_reducible (first | refine awp_region [] ?_ | refine awp_block ?_)
   | go_step)
  rw [routeE, if_pos c1]
 have e1 : decide ((p.length : Int) < 2) = false := by first | exact decide_eq_false (by omega) | simpa using c1
 by_cases c2 : 9 < p.length
 case pos =>
  have e2 : decide ((9 : Int) < (p.length : Int)) = true := by first | exact decide_eq_true (by omega) | simpa using c2
  repeat (first
   | (with_reducible (first | refine sops_go ?_ | refine headW_end ?_ | refine sops_end ?_ | refine awp_if ?_ | refine awp_skip ?_ | refine awp_ret ?_ | refine awp_exit ?_); simp only [go_sem, simprocAttr, hF, e1, e2])
   | ((with_reducible refine headW_go ?_); simp only [go_sem, simprocAttr, hF, e1, e2, hbx])
   | with_reducible refine awp_seq_k fun _ _ => ?_
   | (refine awp_draw' (id := 18) [] 10 (by kernel_rfl) (by kernel_rfl) rfl rfl (fun bx0 hbx => ?_); try dsimp only [List.take, List.drop])
   | with_reducible (first | refine awp_region [] ?_ | refine awp_block ?_)
   | go_step)
  rw [routeE, if_neg c1, if_pos c2]
 have e2 : decide ((9 : Int) < (p.length : Int)) = false := by first | exact decide_eq_false (by omega) | simpa using c2
 repeat (first
  | (with_reducible (first | refine sops_go ?_ | refine headW_end ?_ | refine sops_end ?_ | refine awp_if ?_ | refine awp_skip ?_ | refine awp_ret ?_ | refine awp_exit ?_); simp only [go_sem, simprocAttr, hF, e1, e2])
  | ((with_reducible refine headW_go ?_); simp only [go_sem, simprocAttr, hF, e1, e2, hbx])
  | with_reducible refine awp_seq_k fun _ _ => ?_
  | (refine awp_draw' (id := 18) [] 10 (by kernel_rfl) (by kernel_rfl) rfl rfl (fun bx0 hbx => ?_); try dsimp only [List.take, List.drop])
  | with_reducible (first | refine awp_region [] ?_ | refine awp_block ?_)
  | go_step)
 refine ⟨_, contI_ok _ [n.pv] (outN n) p hlen (fun y _ => rfault1_ok n y), ?_⟩
 simp only [go_sem, simprocAttr, hF]
 cases e3 : p.any (outN n) with
 | true =>
  try simp only [go_sem, simprocAttr, hF, e3]
  repeat (first
   | (with_reducible (first | refine sops_go ?_ | refine headW_end ?_ | refine sops_end ?_ | refine awp_if ?_ | refine awp_skip ?_ | refine awp_ret ?_ | refine awp_exit ?_); simp only [go_sem, simprocAttr, hF, e3])
   | ((with_reducible refine headW_go ?_); simp only [go_sem, simprocAttr, hF, e3, hbx])
   | with_reducible refine awp_seq_k fun _ _ => ?_
   | (refine awp_draw' (id := 18) [] 10 (by kernel_rfl) (by kernel_rfl) rfl rfl (fun bx0 hbx => ?_); try dsimp only [List.take, List.drop])
   | with_reducible (first | refine awp_region [] ?_ | refine awp_block ?_)
   | go_step)
  rw [routeE, if_neg c1, if_neg c2, if_pos e3]
 | false =>
  have hne3 : ¬ p.any (outN n) = true := by rw [e3]; decide
  obtain ⟨x0, hx0⟩ := get_of_lt (l := p) (k := 0) (by omega)
  obtain ⟨x1, hx1⟩ := get_of_lt (l := p) (k := p.length - 1) (by omega)
  have q0 : p.getD 0 0 = x0 := by rw [List.getD_eq_getElem?_getD, hx0]; rfl
  have q1 : p.getD (p.length - 1) 0 = x1 := by rw [List.getD_eq_getElem?_getD, hx1]; rfl
  have z0 : Int.toNat 0 = 0 := rfl
  have w1 : IntKind.i64.wrap ((p.length : Int) - 1) = ((p.length - 1 : Nat) : Int) := by rw [IntKind.wrap_i64]; omega
  by_cases h4 : x0 = a
  case neg =>
   have e4 : (x0 != a) = true := by simpa using h4
   try simp only [go_sem, simprocAttr, hF, e3, z0, hx0, e4]
   repeat (first
    | (with_reducible (first | refine sops_go ?_ | refine headW_end ?_ | refine sops_end ?_ | refine awp_if ?_ | refine awp_skip ?_ | refine awp_ret ?_ | refine awp_exit ?_); simp only [go_sem, simprocAttr, hF, e3, z0, hx0, e4])
    | ((with_reducible refine headW_go ?_); simp only [go_sem, simprocAttr, hF, e3, z0, hx0, e4, hbx])
    | with_reducible refine awp_seq_k fun _ _ => ?_
    | (refine awp_draw' (id := 18) [] 10 (by kernel_rfl) (by kernel_rfl) rfl rfl (fun bx0 hbx => ?_); try dsimp only [List.take, List.drop])
    | with_reducible (first | refine awp_region [] ?_ | refine awp_block ?_)
    | go_step)
   rw [routeE, if_neg c1, if_neg c2, if_neg hne3, if_pos (.inl (by rw [q0]; exact h4))]
  have e4 : (x0 != a) = false := by simpa using h4
  by_cases h5 : x1 = b
  case neg =>
   have e5 : (x1 != b) = true := by simpa using h5
   try simp only [go_sem, simprocAttr, hF, e3, z0, hx0, e4, w1, hx1, e5]
   repeat (first
    | (with_reducible (first | refine sops_go ?_ | refine headW_end ?_ | refine sops_end ?_ | refine awp_if ?_ | refine awp_skip ?_ | refine awp_ret ?_ | refine awp_exit ?_); simp only [go_sem, simprocAttr, hF, e3, z0, hx0, e4, w1, hx1, e5])
    | ((with_reducible refine headW_go ?_); simp only [go_sem, simprocAttr, hF, e3, z0, hx0, e4, w1, hx1, e5, hbx])
    | with_reducible refine awp_seq_k fun _ _ => ?_
    | (refine awp_draw' (id := 18) [] 10 (by kernel_rfl) (by kernel_rfl) rfl rfl (fun bx0 hbx => ?_); try dsimp only [List.take, List.drop])
    | with_reducible (first | refine awp_region [] ?_ | refine awp_block ?_)
    | go_step)
   rw [routeE, if_neg c1, if_neg c2, if_neg hne3, if_pos (.inr (by rw [q1]; exact h5))]
  have e5 : (x1 != b) = false := by simpa using h5
  have hne4 : ¬ (p.getD 0 0 ≠ a ∨ p.getD (p.length - 1) 0 ≠ b) := by rw [q0, q1]; rintro (h | h); exact h h4; exact h h5
  have hRt : routeE n a b p = if dupB p = true then 6 else if gapB n p = true then 17 else 0 := by rw [routeE, if_neg c1, if_neg c2, if_neg hne3, if_neg hne4]
  try simp only [go_sem, simprocAttr, hF, e3, z0, hx0, e4, w1, hx1, e5]
  repeat (first
   | (with_reducible (first | refine sops_go ?_ | refine headW_end ?_ | refine sops_end ?_ | refine awp_if ?_ | refine awp_skip ?_ | refine awp_ret ?_ | refine awp_exit ?_); simp only [go_sem, simprocAttr, hF, e3, z0, hx0, e4, w1, hx1, e5])
   | ((with_reducible refine headW_go ?_); simp only [go_sem, simprocAttr, hF, e3, z0, hx0, e4, w1, hx1, e5, hbx])
   | with_reducible refine awp_seq_k fun _ _ => ?_
   | (refine awp_draw' (id := 18) [] 10 (by kernel_rfl) (by kernel_rfl) rfl rfl (fun bx0 hbx => ?_); try dsimp only [List.take, List.drop])
   | with_reducible (first | refine awp_region [] ?_ | refine awp_block ?_)
   | go_step)
  refine awp_loop_by (ι := {k : Nat // k ≤ p.length ∧ (List.range k).any (dupAt p) = false}) (fun k σ => ⟨(43, iv (k.1 : Int)) :: keepS [3, 4, 8, 41, 42] σ.slot, σ.box, [], σ.ext⟩) (fun k => p.length - k.1) ⟨0, by omega, rfl⟩ (sub_mk ?_) (fun R hR k => ?_)
  · simp only [go_sem, simprocAttr, hF]
    repeat' (first | rfl | refine ⟨?_, ?_⟩)
  obtain ⟨k, hk, hT⟩ := k
  dsimp only
  simp only [go_sem, simprocAttr, hF]
  by_cases hlt : k < p.length
  case neg =>
   have hd : decide ((k : Int) < (p.length : Int)) = false := decide_eq_false (by omega)
   obtain rfl : k = p.length := by omega
   have hdup : ¬ dupB p = true := by unfold dupB; rw [hT]; decide
   have o1 : Int.toNat 1 = 1 := rfl
   have hp1 : 1 ≤ p.length := by omega
   have hmd : List.drop 1 (List.take p.length (List.map irow_pv p)) = List.map irow_pv (p.drop 1) := by rw [List.take_of_length_le (by rw [List.length_map]; exact Nat.le_refl _), List.map_drop]
   have hmn : (p.drop 1).length = p.length - 1 := List.length_drop
   repeat (first
    | (with_reducible (first | refine sops_go ?_ | refine headW_end ?_ | refine sops_end ?_ | refine awp_if ?_ | refine awp_skip ?_ | refine awp_ret ?_ | refine awp_exit ?_); simp only [go_sem, simprocAttr, hF, hd, o1, hp1, Nat.le_refl, hmd, hmn])
    | ((with_reducible refine headW_go ?_); simp only [go_sem, simprocAttr, hF, hd, o1, hp1, Nat.le_refl, hmd, hmn, hbx])
    | with_reducible refine awp_seq_k fun _ _ => ?_
    | (refine awp_draw' (id := 18) [] 10 (by kernel_rfl) (by kernel_rfl) rfl rfl (fun bx0 hbx => ?_); try dsimp only [List.take, List.drop])
    | with_reducible (first | refine awp_region [] ?_ | refine awp_block ?_)
    | go_step)
   refine awp_loop_by (ι := {i : Nat // i ≤ p.length - 1 ∧ (List.range i).any (gapAt n p) = false}) (fun i σ => ⟨(57, iv (i.1 : Int)) :: keepS [3, 4, 8, 55, 56] σ.slot, σ.box, [], σ.ext⟩) (fun i => (p.length - 1) - i.1) ⟨0, by omega, rfl⟩ (sub_mk ?_) (fun R2 hR2 i => ?_)
   · simp only [go_sem, simprocAttr, hF]
     repeat' (first | rfl | refine ⟨?_, ?_⟩)
   obtain ⟨i, hi, hU⟩ := i
   dsimp only
   simp only [go_sem, simprocAttr, hF]
   by_cases hit : i < p.length - 1
   case neg =>
    have hdi : decide ((i : Int) < ((p.length - 1 : Nat) : Int)) = false := decide_eq_false (by omega)
    obtain rfl : i = p.length - 1 := by omega
    have hgap : ¬ gapB n p = true := by unfold gapB; rw [hU]; decide
    repeat (first
     | (with_reducible (first | refine sops_go ?_ | refine headW_end ?_ | refine sops_end ?_ | refine awp_if ?_ | refine awp_skip ?_ | refine awp_ret ?_ | refine awp_exit ?_); simp only [go_sem, simprocAttr, hF, hdi])
     | ((with_reducible refine headW_go ?_); simp only [go_sem, simprocAttr, hF, hdi, hbx])
     | with_reducible refine awp_seq_k fun _ _ => ?_
     | (refine awp_draw' (id := 18) [] 10 (by kernel_rfl) (by kernel_rfl) rfl rfl (fun bx0 hbx => ?_); try dsimp only [List.take, List.drop])
     | with_reducible (first | refine awp_region [] ?_ | refine awp_block ?_)
     | go_step)
    rw [hRt, if_neg hdup, if_neg hgap]
   have hdi : decide ((i : Int) < ((p.length - 1 : Nat) : Int)) = true := decide_eq_true (by omega)
   have hwi : IntKind.i64.wrap ((i : Int) + 1) = ((i + 1 : Nat) : Int) := by rw [IntKind.wrap_i64]; omega
   obtain ⟨x, hx⟩ := get_of_lt (l := p) (k := i) (by omega)
   obtain ⟨y, hy⟩ := get_of_lt (l := p) (k := 1 + i) (by omega)
   have hG : gapAt n p i = !goodL n x y := by unfold gapAt; rw [List.getD_eq_getElem?_getD, List.getD_eq_getElem?_getD, hx, show i + 1 = 1 + i by omega, hy]; rfl
   repeat (first
    | (with_reducible (first | refine sops_go ?_ | refine headW_end ?_ | refine sops_end ?_ | refine awp_if ?_ | refine awp_skip ?_ | refine awp_ret ?_ | refine awp_exit ?_); simp only [go_sem, simprocAttr, hF, hdi, hx, hy, List.getElem?_drop])
    | ((with_reducible refine headW_go ?_); simp only [go_sem, simprocAttr, hF, hdi, hx, hy, List.getElem?_drop, hbx])
    | with_reducible refine awp_seq_k fun _ _ => ?_
    | (refine awp_draw' (id := 18) [] 10 (by kernel_rfl) (by kernel_rfl) rfl rfl (fun bx0 hbx => ?_); try dsimp only [List.take, List.drop])
    | with_reducible (first | refine awp_region [] ?_ | refine awp_block ?_)
    | go_step)
   refine ⟨_, nindex_ok n x y hS hc, ?_⟩
   simp only [go_sem, simprocAttr, hF]
   repeat (first
    | (with_reducible (first | refine sops_go ?_ | refine headW_end ?_ | refine sops_end ?_ | refine awp_if ?_ | refine awp_skip ?_ | refine awp_ret ?_ | refine awp_exit ?_); simp only [go_sem, simprocAttr, hF])
    | ((with_reducible refine headW_go ?_); simp only [go_sem, simprocAttr, hF, hbx])
    | with_reducible refine awp_seq_k fun _ _ => ?_
    | (refine awp_draw' (id := 18) [] 10 (by kernel_rfl) (by kernel_rfl) rfl rfl (fun bx0 hbx => ?_); try dsimp only [List.take, List.drop])
    | with_reducible (first | refine awp_region [] ?_ | refine awp_block ?_)
    | go_step)
   refine ⟨_, Usable_ok n x y hS hc, ?_⟩
   simp only [go_sem, simprocAttr, hF]
   cases eg : goodL n x y with
   | false =>
    have hgap : gapB n p = true := List.any_eq_true.2 ⟨i, List.mem_range.2 hit, by rw [hG, eg]; rfl⟩
    try simp only [go_sem, simprocAttr, hF, eg]
    repeat (first
     | (with_reducible (first | refine sops_go ?_ | refine headW_end ?_ | refine sops_end ?_ | refine awp_if ?_ | refine awp_skip ?_ | refine awp_ret ?_ | refine awp_exit ?_); simp only [go_sem, simprocAttr, hF, eg])
     | ((with_reducible refine headW_go ?_); simp only [go_sem, simprocAttr, hF, eg, hbx])
     | with_reducible refine awp_seq_k fun _ _ => ?_
     | (refine awp_draw' (id := 18) [] 10 (by kernel_rfl) (by kernel_rfl) rfl rfl (fun bx0 hbx => ?_); try dsimp only [List.take, List.drop])
     | with_reducible (first | refine awp_region [] ?_ | refine awp_block ?_)
     | go_step)
    rw [hRt, if_neg hdup, if_pos hgap]
   | true =>
    try simp only [go_sem, simprocAttr, hF, eg]
    repeat (first
     | (with_reducible (first | refine sops_go ?_ | refine headW_end ?_ | refine sops_end ?_ | refine awp_if ?_ | refine awp_skip ?_ | refine awp_ret ?_ | refine awp_exit ?_); simp only [go_sem, simprocAttr, hF, eg])
     | ((with_reducible refine headW_go ?_); simp only [go_sem, simprocAttr, hF, eg, hbx])
     | with_reducible refine awp_seq_k fun _ _ => ?_
     | (refine awp_draw' (id := 18) [] 10 (by kernel_rfl) (by kernel_rfl) rfl rfl (fun bx0 hbx => ?_); try dsimp only [List.take, List.drop])
     | with_reducible (first | refine awp_region [] ?_ | refine awp_block ?_)
     | go_step)
    refine ⟨⟨i + 1, by omega, by rw [List.range_succ, List.any_append, hU, List.any_cons, hG, eg]; rfl⟩, by dsimp only; omega, hR2 _ _ (sub_mk ?_)⟩
    simp only [go_sem, simprocAttr, hF, hwi]
  obtain ⟨x, hx⟩ := get_of_lt hlt
  have hd : decide ((k : Int) < (p.length : Int)) = true := decide_eq_true (by omega)
  have hw : IntKind.i64.wrap ((k : Int) + 1) = ((k + 1 : Nat) : Int) := by rw [IntKind.wrap_i64]; omega
  have hmt : List.take k (List.map irow_pv p) = List.map irow_pv (p.take k) := List.map_take.symm
  have hD : dupAt p k = (p.take k).any (fun y => x == y) := by unfold dupAt; rw [List.getD_eq_getElem?_getD, hx]; rfl
  repeat (first
   | (with_reducible (first | refine sops_go ?_ | refine headW_end ?_ | refine sops_end ?_ | refine awp_if ?_ | refine awp_skip ?_ | refine awp_ret ?_ | refine awp_exit ?_); simp only [go_sem, simprocAttr, hF, hd, hx, hk, Nat.zero_le, hmt])
   | ((with_reducible refine headW_go ?_); simp only [go_sem, simprocAttr, hF, hd, hx, hk, Nat.zero_le, hmt, hbx])
   | with_reducible refine awp_seq_k fun _ _ => ?_
   | (refine awp_draw' (id := 18) [] 10 (by kernel_rfl) (by kernel_rfl) rfl rfl (fun bx0 hbx => ?_); try dsimp only [List.take, List.drop])
   | with_reducible (first | refine awp_region [] ?_ | refine awp_block ?_)
   | go_step)
  refine ⟨_, scont_ok (p.take k) x (by rw [List.length_take]; omega), ?_⟩
  simp only [go_sem, simprocAttr, hF]
  cases e6 : (p.take k).any (fun y => x == y) with
  | true =>
   have hdup : dupB p = true := List.any_eq_true.2 ⟨k, List.mem_range.2 hlt, by rw [hD, e6]⟩
   try simp only [go_sem, simprocAttr, hF, e6]
   repeat (first
    | (with_reducible (first | refine sops_go ?_ | refine headW_end ?_ | refine sops_end ?_ | refine awp_if ?_ | refine awp_skip ?_ | refine awp_ret ?_ | refine awp_exit ?_); simp only [go_sem, simprocAttr, hF, e6])
    | ((with_reducible refine headW_go ?_); simp only [go_sem, simprocAttr, hF, e6, hbx])
    | with_reducible refine awp_seq_k fun _ _ => ?_
    | (refine awp_draw' (id := 18) [] 10 (by kernel_rfl) (by kernel_rfl) rfl rfl (fun bx0 hbx => ?_); try dsimp only [List.take, List.drop])
    | with_reducible (first | refine awp_region [] ?_ | refine awp_block ?_)
    | go_step)
   rw [hRt, if_pos hdup]
  | false =>
   try simp only [go_sem, simprocAttr, hF, e6]
   repeat (first
    | (with_reducible (first | refine sops_go ?_ | refine headW_end ?_ | refine sops_end ?_ | refine awp_if ?_ | refine awp_skip ?_ | refine awp_ret ?_ | refine awp_exit ?_); simp only [go_sem, simprocAttr, hF, e6])
    | ((with_reducible refine headW_go ?_); simp only [go_sem, simprocAttr, hF, e6, hbx])
    | with_reducible refine awp_seq_k fun _ _ => ?_
    | (refine awp_draw' (id := 18) [] 10 (by kernel_rfl) (by kernel_rfl) rfl rfl (fun bx0 hbx => ?_); try dsimp only [List.take, List.drop])
    | with_reducible (first | refine awp_region [] ?_ | refine awp_block ?_)
    | go_step)
   refine ⟨⟨k + 1, by omega, by rw [List.range_succ, List.any_append, hT, List.any_cons, hD, e6]; rfl⟩, by dsimp only; omega, hR _ _ (sub_mk ?_)⟩
   simp only [go_sem, simprocAttr, hF, hw]

set_option maxHeartbeats 2000000 in
theorem rcheckP_ok (n : Net) (a b : Int) (p : List Int) (hS : SmallN n) (hc : chkN n = 0) (ha : 0 ≤ a ∧ a < n.nodes) (hb : 0 ≤ b ∧ b < n.nodes) (hab : a ≠ b) (hl : p.length ≤ 1000000) : FnOK Tryz.prog 66 [.agg n.pv, iv a, iv b, .sl 1 (p.map irow_pv)] ⟨iv (routeE n a b p), none⟩ := by
 have h0 : ((0 : Int) != 0) = false := rfl
 refine fn_ok Tryz.func66 (by kernel_rfl) rfl (by rw [Tryz.ntmps66]; exact of_decide_eq_true rfl) (fun F hF => ?_)
 rw [Tryz.ntmps66] at hF
 rw [Tryz.results66]
 repeat (first
  | (with_reducible (first | refine sops_go ?_ | refine headW_end ?_ | refine sops_end ?_ | refine awp_if ?_ | refine awp_skip ?_ | refine awp_ret ?_ | refine awp_exit ?_); simp only [go_sem, simprocAttr, hF])
  | with_reducible (first | refine awp_seq_k fun _ _ => ?_ | refine awp_region [] ?_ | refine awp_block ?_)
  | go_step)
 refine ⟨_, rends_ok n a b hS hc ha hb hab, ?_⟩
 simp only [go_sem, simprocAttr, hF, h0]
 repeat (first
  | (with_reducible (first | refine sops_go ?_ | refine headW_end ?_ | refine sops_end ?_ | refine awp_if ?_ | refine awp_skip ?_ | refine awp_ret ?_ | refine awp_exit ?_); simp only [go_sem, simprocAttr, hF, h0])
  | with_reducible (first | refine awp_seq_k fun _ _ => ?_ | refine awp_region [] ?_ | refine awp_block ?_)
  | go_step)
 refine ⟨_, rfault_ok n a b p hS hc hl, ?_⟩
 simp only [go_sem, simprocAttr, hF]
 repeat (first
  | (with_reducible (first | refine sops_go ?_ | refine headW_end ?_ | refine sops_end ?_ | refine awp_if ?_ | refine awp_skip ?_ | refine awp_ret ?_ | refine awp_exit ?_); simp only [go_sem, simprocAttr, hF])
  | with_reducible (first | refine awp_seq_k fun _ _ => ?_ | refine awp_region [] ?_ | refine awp_block ?_)
  | go_step)
 all_goals (try rfl)
end Go.Proofs.YticnppnejafhdaaGreatDoor

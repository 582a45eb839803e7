import Derived.Test.YticnppnejafhdaaGreatDoorZ6
set_option linter.unusedVariables false
set_option linter.unusedSimpArgs false
/- Usable links, by abstract states. -/
namespace Go.Proofs.YticnppnejafhdaaGreatDoor
open Go.RowKit
open Nd Rc Mo
open Av
set_option maxRecDepth 100000
set_option linter.unusedSimpArgs false
attribute [local go_sem] Av.guardB Av.sop Av.hopx Av.hop Av.hopCall Av.hopF Av.hopB Av.evo Av.evos Av.avCells Av.loadK Av.bound Av.abin Av.aun Av.partsC Av.lfill Av.placesB Av.setAt Av.stl Av.takes Av.src Av.bxOf Av.ownOf Av.St.res Av.St.put Av.St.addBox Av.St.putOwn Av.delL Av.delS Av.look Av.lookL Av.storeSt Av.stealSt Av.St.setBox Av.keepL Av.hitB Av.snap Av.snaps Av.snapCaps Av.AV.lit Av.AV.refs Av.capRefs Av.PV.av Av.CV.av Av.startSt Av.steals Av.athen Av.ablock Av.appK Av.AllS Av.AllO Av.AllR Av.keepS Av.St.avAt Av.RetOK Av.retAll Av.retOne Av.intsOf Av.ptrB TypeDesc.isRow List.range_zero Option.some.injEq exists_eq_left' exists_eq_left exists_eq' exists_and_left exists_and_right exists_const true_and and_true and_self false_and and_false or_false false_or or_true true_or if_true if_false Bool.false_eq_true List.zipIdx_cons List.zipIdx_nil List.map_cons List.map_nil List.filter_cons List.filter_nil List.contains_cons List.contains_nil List.drop_succ_cons List.drop_zero List.take_succ_cons List.take_zero List.take_nil List.drop_nil List.length_cons List.length_nil List.cons_append List.nil_append List.append_nil List.getElem?_cons_zero List.getElem?_cons_succ List.getElem?_nil Option.bind_some Option.bind_none Option.map_some Option.map_none Option.isNone_none Option.isNone_some Option.isSome_some Option.isSome_none Bool.and_true Bool.true_and Bool.and_false Bool.false_and Bool.or_false Bool.false_or Bool.not_true Bool.not_false beq_true beq_false Bool.true_beq Bool.false_beq Loc.s.injEq Loc.b.injEq decide_true decide_false beq_self_eq_true Nat.zero_add Nat.add_zero List.getElem?_toArray List.toList_toArray List.size_toArray Value.oneCell' List.all_cons List.all_nil Value.int.injEq AV.v.injEq AV.sl.injEq AV.agg.injEq AV.ref.injEq AV.ept.injEq AV.tup.injEq Value.bool.injEq PV.v.injEq PV.sl.injEq List.isEmpty_nil List.isEmpty_cons forall_const not_true_eq_false not_false_eq_true true_implies false_implies Value.string.injEq List.length_map List.getElem?_map Int.toNat_natCast Int.natCast_nonneg List.length_append Value.cells implies_true TypeDesc.struct.injEq TypeDesc.slice.injEq TypeDesc.array.injEq List.getElem?_toArray Prod.mk.injEq and_assoc exists_false List.cons.injEq Operand.tmp.injEq ite_self AV.fnv.injEq AV.clo.injEq ne_eq eq_self Tryz.sz3 Tryz.zr3 Tryz.by3 Tryz.pl3 Tryz.is3 Tryz.underlying3 Tryz.sz4 Tryz.zr4 Tryz.by4 Tryz.pl4 Tryz.is4 Tryz.underlying4 Tryz.sz43 Tryz.zr43 Tryz.by43 Tryz.pl43 Tryz.is43 Tryz.underlying43 Tryz.sz35 Tryz.zr35 Tryz.by35 Tryz.pl35 Tryz.is35 Tryz.underlying35 Tryz.sz33 Tryz.zr33 Tryz.by33 Tryz.pl33 Tryz.is33 Tryz.underlying33 Tryz.sz28 Tryz.zr28 Tryz.by28 Tryz.pl28 Tryz.is28 Tryz.underlying28 Tryz.sz39 Tryz.zr39 Tryz.by39 Tryz.pl39 Tryz.is39 Tryz.underlying39 Tryz.sz57 Tryz.zr57 Tryz.by57 Tryz.pl57 Tryz.is57 Tryz.underlying57 Tryz.sz137 Tryz.zr137 Tryz.by137 Tryz.pl137 Tryz.is137 Tryz.underlying137 Tryz.sz66 Tryz.zr66 Tryz.by66 Tryz.pl66 Tryz.is66 Tryz.underlying66 Tryz.sz64 Tryz.zr64 Tryz.by64 Tryz.pl64 Tryz.is64 Tryz.underlying64 Tryz.sz60 Tryz.zr60 Tryz.by60 Tryz.pl60 Tryz.is60 Tryz.underlying60 Tryz.sz100 Tryz.zr100 Tryz.by100 Tryz.pl100 Tryz.is100 Tryz.underlying100 Tryz.sz103 Tryz.zr103 Tryz.by103 Tryz.pl103 Tryz.is103 Tryz.underlying103 Tryz.sz26 Tryz.zr26 Tryz.by26 Tryz.pl26 Tryz.is26 Tryz.underlying26 Tryz.sz120 Tryz.zr120 Tryz.by120 Tryz.pl120 Tryz.is120 Tryz.underlying120 Tryz.sz117 Tryz.zr117 Tryz.by117 Tryz.pl117 Tryz.is117 Tryz.underlying117 Tryz.sz30 Tryz.zr30 Tryz.by30 Tryz.pl30 Tryz.is30 Tryz.underlying30 Tryz.sz31 Tryz.zr31 Tryz.by31 Tryz.pl31 Tryz.is31 Tryz.underlying31 Tryz.sz40 Tryz.zr40 Tryz.by40 Tryz.pl40 Tryz.is40 Tryz.underlying40 Tryz.sz23 Tryz.zr23 Tryz.by23 Tryz.pl23 Tryz.is23 Tryz.underlying23 Tryz.sz24 Tryz.zr24 Tryz.by24 Tryz.pl24 Tryz.is24 Tryz.underlying24 Tryz.sz22 Tryz.zr22 Tryz.by22 Tryz.pl22 Tryz.is22 Tryz.underlying22 Tryz.sz141 Tryz.zr141 Tryz.by141 Tryz.pl141 Tryz.is141 Tryz.underlying141 Tryz.sz42 Tryz.zr42 Tryz.by42 Tryz.pl42 Tryz.is42 Tryz.underlying42 Tryz.sz29 Tryz.zr29 Tryz.by29 Tryz.pl29 Tryz.is29 Tryz.underlying29 Tryz.sz83 Tryz.zr83 Tryz.by83 Tryz.pl83 Tryz.is83 Tryz.underlying83 Tryz.it39 Tryz.eg39 Tryz.it137 Tryz.eg137 Tryz.it66 Tryz.eg66 Tryz.it28 Tryz.eg28 Tryz.it60 Tryz.eg60 all_arr loc_ss loc_sb loc_bs loc_bb arr_two arr_one rg1 rg2 rg3 rg4 rg5 rg6 rg7 rg8 ResultVar.tmp.injEq Bool.not_true Bool.not_false undef Rc.Rec.pv Nd.Fl.pv Rc.Dlv.pv Rc.Att.pv Mo.Lt.pv Fn.func.injEq Mo.Net.pv Mo.Lk.pv prow_pv irow_pv Br.pv
structure SmallN (n : Net) : Prop where
  pow : n.pow.length ≤ 1000000
  rows : ∀ l ∈ n.pow, l.length ≤ 1000000
  lk : n.lk.length ≤ 1000000
  mg : n.mg.length ≤ 1000000
theorem idxL_cases (n : Net) (a b : Int) : idxL n a b = -1 ∨ ∃ (i : Nat) (x : Lk), n.lk[i]? = some x ∧ x.fr = a ∧ x.tt = b ∧ idxL n a b = (i : Int) := by
  rcases idxP_spec (lkP a b) n.lk 0 with ⟨h, _⟩ | ⟨i, x, h1, h2, h3, _⟩
  · exact .inl h
  · rw [lkP_iff] at h2
    exact .inr ⟨i, x, h1, h2.1, h2.2, by unfold idxL; rw [h3]; omega⟩
theorem heard_nums {n : Net} (hN : NetOK n) {s : Int} (h0 : 0 ≤ s) (h1 : s ≤ 68719476736) : IntKind.i64.wrap (s * 1000) = s * 1000 ∧ IntKind.i64.wrap (n.noise + 0) = n.noise + 0 ∧ IntKind.i64.wrap (n.thr * (n.noise + 0)) = n.thr * (n.noise + 0) := by
  obtain ⟨a0, a1⟩ := hN.noise
  obtain ⟨b0, b1⟩ := hN.thr
  have m1 : n.thr * (n.noise + 0) ≤ 100000 * 68719476736 := Int.mul_le_mul b1 (by omega) (by omega) (by omega)
  have m2 : 0 ≤ n.thr * (n.noise + 0) := Int.mul_nonneg (by omega) (by omega)
  refine ⟨?_, ?_, ?_⟩ <;> rw [IntKind.wrap_i64] <;> omega

set_option maxHeartbeats 2000000 in
theorem nfindP_ok (n : Net) (a b : Int) (hN : NetOK n) : FnOK Tryz.prog 82 [.agg n.pv, iv a, iv b] ⟨iv (idxL n a b), none⟩ := by
  have hx : idxL n a b = if bsB n.lk a b = true then 0 + (bsN n.lk a b : Int) else -1 := idx_bs (a := a) (b := b) (l := n.lk) 0 hN.sorted
  have hlen := hN.lk
  refine fn_ok Tryz.func82 (by kernel_rfl) rfl (by rw [Tryz.ntmps82]; exact of_decide_eq_true rfl) (fun F hF => ?_)
  rw [Tryz.ntmps82] at hF
  rw [Tryz.results82]
  repeat (first
    | (with_reducible (first | refine sops_go ?_ | refine headW_end ?_ | refine sops_end ?_ | refine awp_if ?_ | refine awp_skip ?_ | refine awp_ret ?_ | refine awp_exit ?_); simp only [go_sem, simprocAttr, hF])
    | with_reducible (first | refine awp_seq_k fun _ _ => ?_ | refine awp_region [] ?_ | refine awp_block ?_)
    | go_step)
  refine ⟨_, bs_ok n.lk a b hN.sorted (by omega), ?_⟩
  simp only [go_sem, simprocAttr, hF]
  cases hB : bsB n.lk a b with
  | false =>
    try simp only [go_sem, simprocAttr, hF, hB]
    repeat (first
      | (with_reducible (first | refine sops_go ?_ | refine headW_end ?_ | refine sops_end ?_ | refine awp_if ?_ | refine awp_skip ?_ | refine awp_ret ?_ | refine awp_exit ?_); simp only [go_sem, simprocAttr, hF, hB])
      | with_reducible (first | refine awp_seq_k fun _ _ => ?_ | refine awp_region [] ?_ | refine awp_block ?_)
      | go_step)
    rw [hx, hB, if_neg (by decide)]
  | true =>
    try simp only [go_sem, simprocAttr, hF, hB]
    repeat (first
      | (with_reducible (first | refine sops_go ?_ | refine headW_end ?_ | refine sops_end ?_ | refine awp_if ?_ | refine awp_skip ?_ | refine awp_ret ?_ | refine awp_exit ?_); simp only [go_sem, simprocAttr, hF, hB])
      | with_reducible (first | refine awp_seq_k fun _ _ => ?_ | refine awp_region [] ?_ | refine awp_block ?_)
      | go_step)
    rw [hx, hB, if_pos rfl, Int.zero_add]

set_option maxHeartbeats 2000000 in
theorem nindex_ok (n : Net) (a b : Int) (hS : SmallN n) (hc : chkN n = 0) : FnOK Tryz.prog 41 [.agg n.pv, iv a, iv b] ⟨iv (idxL n a b), none⟩ := by
  have hN := netOK hc
  have he : (chkN n != 0) = false := by rw [hc]; rfl
  refine fn_ok Tryz.func41 (by kernel_rfl) rfl (by rw [Tryz.ntmps41]; exact of_decide_eq_true rfl) (fun F hF => ?_)
  rw [Tryz.ntmps41] at hF
  rw [Tryz.results41]
  repeat (first
    | (with_reducible (first | refine sops_go ?_ | refine headW_end ?_ | refine sops_end ?_ | refine awp_if ?_ | refine awp_skip ?_ | refine awp_ret ?_ | refine awp_exit ?_); simp only [go_sem, simprocAttr, hF])
    | with_reducible (first | refine awp_seq_k fun _ _ => ?_ | refine awp_region [] ?_ | refine awp_block ?_)
    | go_step)
  refine ⟨_, ncheck_ok n hS.pow hS.rows hS.lk hS.mg, ?_⟩
  simp only [go_sem, simprocAttr, hF, he]
  repeat (first
    | (with_reducible (first | refine sops_go ?_ | refine headW_end ?_ | refine sops_end ?_ | refine awp_if ?_ | refine awp_skip ?_ | refine awp_ret ?_ | refine awp_exit ?_); simp only [go_sem, simprocAttr, hF, he])
    | with_reducible (first | refine awp_seq_k fun _ _ => ?_ | refine awp_region [] ?_ | refine awp_block ?_)
    | go_step)
  refine ⟨_, nfindP_ok n a b hN, ?_⟩
  simp only [go_sem, simprocAttr, hF]
  repeat (first
    | (with_reducible (first | refine sops_go ?_ | refine headW_end ?_ | refine sops_end ?_ | refine awp_if ?_ | refine awp_skip ?_ | refine awp_ret ?_ | refine awp_exit ?_); simp only [go_sem, simprocAttr, hF])
    | with_reducible (first | refine awp_seq_k fun _ _ => ?_ | refine awp_region [] ?_ | refine awp_block ?_)
    | go_step)
  all_goals (try rfl)

set_option maxHeartbeats 2000000 in
theorem hears_ok (n : Net) (s : Int) (hN : NetOK n) (h0 : 0 ≤ s) (h1 : s ≤ 68719476736) : FnOK Tryz.prog 178 [.agg n.pv, iv s, iv 0] ⟨bv (heardB n s), none⟩ := by
  obtain ⟨w1, w2, w3⟩ := heard_nums hN h0 h1
  unfold heardB
  refine fn_ok Tryz.func178 (by kernel_rfl) rfl (by rw [Tryz.ntmps178]; exact of_decide_eq_true rfl) (fun F hF => ?_)
  rw [Tryz.ntmps178] at hF
  rw [Tryz.results178]
  repeat (first
    | (with_reducible (first | refine sops_go ?_ | refine headW_end ?_ | refine sops_end ?_ | refine awp_if ?_ | refine awp_skip ?_ | refine awp_ret ?_ | refine awp_exit ?_); simp only [go_sem, simprocAttr, hF, w1, w2, w3])
    | with_reducible (first | refine awp_seq_k fun _ _ => ?_ | refine awp_region [] ?_ | refine awp_block ?_)
    | go_step)
  all_goals (try rfl)

set_option maxHeartbeats 20000000 in
theorem usable_ok (n : Net) (i : Nat) (x : Lk) (m : Int) (hN : NetOK n) (hx : n.lk[i]? = some x) (hm : n.mg[i]? = some m) : FnOK Tryz.prog 169 [.agg n.pv, iv (i : Int)] ⟨bv (decide (0 ≤ idxL n x.tt x.fr) && (heardB n m && heardB n (n.mg.getD (idxL n x.tt x.fr).toNat 0))), none⟩ := by
  obtain ⟨hm0, hm1⟩ := hN.mgb i m hm
  have hgd : n.mg.getD i 0 = m := by rw [List.getD_eq_getElem?_getD, hm]; rfl
  refine fn_ok Tryz.func169 (by kernel_rfl) rfl (by rw [Tryz.ntmps169]; exact of_decide_eq_true rfl) (fun F hF => ?_)
  rw [Tryz.ntmps169] at hF
  rw [Tryz.results169]
  repeat (first
    | (with_reducible (first | refine sops_go ?_ | refine headW_end ?_ | refine sops_end ?_ | refine awp_if ?_ | refine awp_skip ?_ | refine awp_ret ?_ | refine awp_exit ?_); simp only [go_sem, simprocAttr, hF, hx])
    | ((with_reducible refine headW_go ?_); simp only [go_sem, simprocAttr, hF, hx, hbx])
    | with_reducible refine awp_seq_k fun _ _ => ?_
    | (refine awp_draw' (id := 1) [] 14 (by kernel_rfl) (by kernel_rfl) rfl rfl (fun bx0 hbx => ?_); try dsimp only [List.take, List.drop])
    | (refine awp_draw' (id := 2) [] 20 (by kernel_rfl) (by kernel_rfl) rfl rfl (fun bx0 hbx => ?_); try dsimp only [List.take, List.drop])
    | with_reducible (first | refine awp_region [] ?_ | refine awp_block ?_)
    | go_step)
  refine ⟨_, nfindP_ok n x.tt x.fr hN, ?_⟩
  simp only [go_sem, simprocAttr, hF]
  rcases idxL_cases n x.tt x.fr with hk | ⟨k, y, hy, _, _, hk⟩
  · have e0 : decide ((0 : Int) ≤ -1) = false := rfl
    rw [hk]
    try simp only [go_sem, simprocAttr, hF, hk, e0]
    repeat (first
      | (with_reducible (first | refine sops_go ?_ | refine headW_end ?_ | refine sops_end ?_ | refine awp_if ?_ | refine awp_skip ?_ | refine awp_ret ?_ | refine awp_exit ?_); simp only [go_sem, simprocAttr, hF, hk, e0])
      | ((with_reducible refine headW_go ?_); simp only [go_sem, simprocAttr, hF, hk, e0, hbx])
      | with_reducible refine awp_seq_k fun _ _ => ?_
      | (refine awp_draw' (id := 1) [] 14 (by kernel_rfl) (by kernel_rfl) rfl rfl (fun bx0 hbx => ?_); try dsimp only [List.take, List.drop])
      | (refine awp_draw' (id := 2) [] 20 (by kernel_rfl) (by kernel_rfl) rfl rfl (fun bx0 hbx => ?_); try dsimp only [List.take, List.drop])
      | with_reducible (first | refine awp_region [] ?_ | refine awp_block ?_)
      | go_step)
    try rfl
  have e0 : decide ((0 : Int) ≤ (k : Int)) = true := decide_eq_true (by omega)
  have hkl := (List.getElem?_eq_some_iff.1 hy).1
  obtain ⟨m2, hm2⟩ := get_of_lt (l := n.mg) (k := k) (by rw [hN.mg]; exact hkl)
  obtain ⟨hp0, hp1⟩ := hN.mgb k m2 hm2
  have hgd2 : n.mg.getD (k : Int).toNat 0 = m2 := by rw [Int.toNat_natCast, List.getD_eq_getElem?_getD, hm2]; rfl
  rw [hk, hgd2]
  try simp only [go_sem, simprocAttr, hF, hk, e0, hm]
  repeat (first
    | (with_reducible (first | refine sops_go ?_ | refine headW_end ?_ | refine sops_end ?_ | refine awp_if ?_ | refine awp_skip ?_ | refine awp_ret ?_ | refine awp_exit ?_); simp only [go_sem, simprocAttr, hF, hk, e0, hm])
    | ((with_reducible refine headW_go ?_); simp only [go_sem, simprocAttr, hF, hk, e0, hm, hbx])
    | with_reducible refine awp_seq_k fun _ _ => ?_
    | (refine awp_draw' (id := 1) [] 14 (by kernel_rfl) (by kernel_rfl) rfl rfl (fun bx0 hbx => ?_); try dsimp only [List.take, List.drop])
    | (refine awp_draw' (id := 2) [] 20 (by kernel_rfl) (by kernel_rfl) rfl rfl (fun bx0 hbx => ?_); try dsimp only [List.take, List.drop])
    | with_reducible (first | refine awp_region [] ?_ | refine awp_block ?_)
    | go_step)
  refine ⟨_, hears_ok n m hN hm0 hm1, ?_⟩
  simp only [go_sem, simprocAttr, hF]
  cases e1 : heardB n m with
  | false =>
    try simp only [go_sem, simprocAttr, hF, e1]
    repeat (first
      | (with_reducible (first | refine sops_go ?_ | refine headW_end ?_ | refine sops_end ?_ | refine awp_if ?_ | refine awp_skip ?_ | refine awp_ret ?_ | refine awp_exit ?_); simp only [go_sem, simprocAttr, hF, e1])
      | ((with_reducible refine headW_go ?_); simp only [go_sem, simprocAttr, hF, e1, hbx])
      | with_reducible refine awp_seq_k fun _ _ => ?_
      | (refine awp_draw' (id := 1) [] 14 (by kernel_rfl) (by kernel_rfl) rfl rfl (fun bx0 hbx => ?_); try dsimp only [List.take, List.drop])
      | (refine awp_draw' (id := 2) [] 20 (by kernel_rfl) (by kernel_rfl) rfl rfl (fun bx0 hbx => ?_); try dsimp only [List.take, List.drop])
      | with_reducible (first | refine awp_region [] ?_ | refine awp_block ?_)
      | go_step)
    try (rw [hk, e0])
    try rfl
  | true =>
    try simp only [go_sem, simprocAttr, hF, e1, hm2]
    repeat (first
      | (with_reducible (first | refine sops_go ?_ | refine headW_end ?_ | refine sops_end ?_ | refine awp_if ?_ | refine awp_skip ?_ | refine awp_ret ?_ | refine awp_exit ?_); simp only [go_sem, simprocAttr, hF, e1, hm2])
      | ((with_reducible refine headW_go ?_); simp only [go_sem, simprocAttr, hF, e1, hm2, hbx])
      | with_reducible refine awp_seq_k fun _ _ => ?_
      | (refine awp_draw' (id := 1) [] 14 (by kernel_rfl) (by kernel_rfl) rfl rfl (fun bx0 hbx => ?_); try dsimp only [List.take, List.drop])
      | (refine awp_draw' (id := 2) [] 20 (by kernel_rfl) (by kernel_rfl) rfl rfl (fun bx0 hbx => ?_); try dsimp only [List.take, List.drop])
      | with_reducible (first | refine awp_region [] ?_ | refine awp_block ?_)
      | go_step)
    refine ⟨_, hears_ok n m2 hN hp0 hp1, ?_⟩
    simp only [go_sem, simprocAttr, hF]
    repeat (first
      | (with_reducible (first | refine sops_go ?_ | refine headW_end ?_ | refine sops_end ?_ | refine awp_if ?_ | refine awp_skip ?_ | refine awp_ret ?_ | refine awp_exit ?_); simp only [go_sem, simprocAttr, hF, e0])
      | ((with_reducible refine headW_go ?_); simp only [go_sem, simprocAttr, hF, e0, hbx])
      | with_reducible refine awp_seq_k fun _ _ => ?_
      | (refine awp_draw' (id := 1) [] 14 (by kernel_rfl) (by kernel_rfl) rfl rfl (fun bx0 hbx => ?_); try dsimp only [List.take, List.drop])
      | (refine awp_draw' (id := 2) [] 20 (by kernel_rfl) (by kernel_rfl) rfl rfl (fun bx0 hbx => ?_); try dsimp only [List.take, List.drop])
      | with_reducible (first | refine awp_region [] ?_ | refine awp_block ?_)
      | go_step)
    rw [hk, hgd2, e1, e0]
    try rfl

set_option maxHeartbeats 20000000 in
theorem Usable_ok (n : Net) (a b : Int) (hS : SmallN n) (hc : chkN n = 0) : FnOK Tryz.prog 151 [.agg n.pv, iv (idxL n a b)] ⟨bv (goodL n a b), none⟩ := by
  have hN := netOK hc
  have he : (chkN n == 0) = true := by rw [hc]; rfl
  unfold goodL
  rcases idxL_cases n a b with hk | ⟨k, y, hy, rfl, rfl, hk⟩
  case inl =>
    have e0 : decide ((0 : Int) ≤ -1) = false := rfl
    rw [hk]
    refine fn_ok Tryz.func151 (by kernel_rfl) rfl (by rw [Tryz.ntmps151]; exact of_decide_eq_true rfl) (fun F hF => ?_)
    rw [Tryz.ntmps151] at hF
    rw [Tryz.results151]
    repeat (first
      | (with_reducible (first | refine sops_go ?_ | refine headW_end ?_ | refine sops_end ?_ | refine awp_if ?_ | refine awp_skip ?_ | refine awp_ret ?_ | refine awp_exit ?_); simp only [go_sem, simprocAttr, hF])
      | with_reducible (first | refine awp_seq_k fun _ _ => ?_ | refine awp_region [] ?_ | refine awp_block ?_)
      | go_step)
    refine ⟨_, ncheck_ok n hS.pow hS.rows hS.lk hS.mg, ?_⟩
    simp only [go_sem, simprocAttr, hF, he]
    repeat (first
      | (with_reducible (first | refine sops_go ?_ | refine headW_end ?_ | refine sops_end ?_ | refine awp_if ?_ | refine awp_skip ?_ | refine awp_ret ?_ | refine awp_exit ?_); simp only [go_sem, simprocAttr, hF, he, e0])
      | with_reducible (first | refine awp_seq_k fun _ _ => ?_ | refine awp_region [] ?_ | refine awp_block ?_)
      | go_step)
    try rfl
  have e0 : decide ((0 : Int) ≤ (k : Int)) = true := decide_eq_true (by omega)
  have hkl := (List.getElem?_eq_some_iff.1 hy).1
  have e1 : decide ((k : Int) < (n.lk.length : Int)) = true := decide_eq_true (by omega)
  obtain ⟨m, hm⟩ := get_of_lt (l := n.mg) (k := k) (by rw [hN.mg]; exact hkl)
  have hgd : n.mg.getD (k : Int).toNat 0 = m := by rw [Int.toNat_natCast, List.getD_eq_getElem?_getD, hm]; rfl
  rw [hk, hgd]
  generalize hG : (decide (0 ≤ idxL n y.tt y.fr) && (heardB n m && heardB n (n.mg.getD (idxL n y.tt y.fr).toNat 0))) = G
  have hus := usable_ok n k y m hN hy hm
  rw [hG] at hus
  refine fn_ok Tryz.func151 (by kernel_rfl) rfl (by rw [Tryz.ntmps151]; exact of_decide_eq_true rfl) (fun F hF => ?_)
  rw [Tryz.ntmps151] at hF
  rw [Tryz.results151]
  repeat (first
    | (with_reducible (first | refine sops_go ?_ | refine headW_end ?_ | refine sops_end ?_ | refine awp_if ?_ | refine awp_skip ?_ | refine awp_ret ?_ | refine awp_exit ?_); simp only [go_sem, simprocAttr, hF])
    | with_reducible (first | refine awp_seq_k fun _ _ => ?_ | refine awp_region [] ?_ | refine awp_block ?_)
    | go_step)
  refine ⟨_, ncheck_ok n hS.pow hS.rows hS.lk hS.mg, ?_⟩
  simp only [go_sem, simprocAttr, hF, he]
  repeat (first
    | (with_reducible (first | refine sops_go ?_ | refine headW_end ?_ | refine sops_end ?_ | refine awp_if ?_ | refine awp_skip ?_ | refine awp_ret ?_ | refine awp_exit ?_); simp only [go_sem, simprocAttr, hF, he, e0, e1])
    | with_reducible (first | refine awp_seq_k fun _ _ => ?_ | refine awp_region [] ?_ | refine awp_block ?_)
    | go_step)
  refine ⟨_, hus, ?_⟩
  simp only [go_sem, simprocAttr, hF]
  repeat (first
    | (with_reducible (first | refine sops_go ?_ | refine headW_end ?_ | refine sops_end ?_ | refine awp_if ?_ | refine awp_skip ?_ | refine awp_ret ?_ | refine awp_exit ?_); simp only [go_sem, simprocAttr, hF])
    | with_reducible (first | refine awp_seq_k fun _ _ => ?_ | refine awp_region [] ?_ | refine awp_block ?_)
    | go_step)
end Go.Proofs.YticnppnejafhdaaGreatDoor
/- What is found is small: plain. -/
namespace Go.Proofs.YticnppnejafhdaaGreatDoor
open Go.RowKit
open Nd Rc Mo
open Av
set_option maxRecDepth 100000
set_option linter.unusedSimpArgs false

theorem firstC_mem {n : Net} {f : Fl} {r : Rec} {fr : Int} : ∀ {p : List Int} {c : Br}, firstC n f r fr p = some c → ∃ a b, c ∈ causesX n f r fr a b
  | [], c, h => by cases h
  | [x], c, h => by cases h
  | x :: y :: p, c, h => by
    rw [firstC] at h
    cases hq : (causesX n f r fr x y).head? with
    | none => rw [hq] at h; exact firstC_mem h
    | some d =>
      rw [hq] at h
      cases h
      exact ⟨x, y, List.mem_of_mem_head? (by rw [hq]; rfl)⟩
theorem findX_small (n : Net) (f : Fl) (ps : List (List Int)) (r : Rec) (fr : Int) (hps : ps.length ≤ 1000000) (hla : r.al.length ≤ 1000000) : (findX n f ps r fr).1.ca.length ≤ 1000000 ∧ ∀ c ∈ (findX n f ps r fr).1.ca, c.sl.length ≤ 1000000 := by
  unfold findX
  split
  · exact ⟨Nat.zero_le _, fun c hc => by cases hc⟩
  split
  · exact ⟨Nat.zero_le _, fun c hc => by cases hc⟩
  · refine ⟨Nat.le_trans (List.length_filterMap_le _ _) hps, fun c hc => ?_⟩
    obtain ⟨p, _, hp⟩ := List.mem_filterMap.1 hc
    obtain ⟨a, b, hm⟩ := firstC_mem hp
    exact Nat.le_trans (sl_len hm) hla
theorem causesR_small (n : Net) (f : Fl) (r : Rec) (fr a b : Int) (hla : r.al.length ≤ 1000000) : (causesR n f r fr a b).1.length ≤ 1000000 ∧ ∀ c ∈ (causesR n f r fr a b).1, c.sl.length ≤ 1000000 := by
  unfold causesR
  split
  · exact ⟨Nat.zero_le _, fun c hc => by cases hc⟩
  split
  · exact ⟨Nat.zero_le _, fun c hc => by cases hc⟩
  split
  · exact ⟨Nat.zero_le _, fun c hc => by cases hc⟩
  · exact ⟨Nat.le_trans causesX_len hla, fun c hc => Nat.le_trans (sl_len hc) hla⟩
end Go.Proofs.YticnppnejafhdaaGreatDoor
/- IndexFunc and ContainsFunc by abstract states, at whatever closure. -/
namespace Go.Proofs.YticnppnejafhdaaGreatDoor
open Go.RowKit
open Nd Rc Mo
open Av
set_option maxRecDepth 100000
set_option linter.unusedSimpArgs false
attribute [local go_sem] Av.guardB Av.sop Av.hopx Av.hop Av.hopCall Av.hopF Av.hopB Av.evo Av.evos Av.avCells Av.loadK Av.bound Av.abin Av.aun Av.partsC Av.lfill Av.placesB Av.setAt Av.stl Av.takes Av.src Av.bxOf Av.ownOf Av.St.res Av.St.put Av.St.addBox Av.St.putOwn Av.delL Av.delS Av.look Av.lookL Av.storeSt Av.stealSt Av.St.setBox Av.keepL Av.hitB Av.snap Av.snaps Av.snapCaps Av.AV.lit Av.AV.refs Av.capRefs Av.PV.av Av.CV.av Av.startSt Av.steals Av.athen Av.ablock Av.appK Av.AllS Av.AllO Av.AllR Av.keepS Av.St.avAt Av.RetOK Av.retAll Av.retOne Av.intsOf Av.ptrB TypeDesc.isRow List.range_zero Option.some.injEq exists_eq_left' exists_eq_left exists_eq' exists_and_left exists_and_right exists_const true_and and_true and_self false_and and_false or_false false_or or_true true_or if_true if_false Bool.false_eq_true List.zipIdx_cons List.zipIdx_nil List.map_cons List.map_nil List.filter_cons List.filter_nil List.contains_cons List.contains_nil List.drop_succ_cons List.drop_zero List.take_succ_cons List.take_zero List.take_nil List.drop_nil List.length_cons List.length_nil List.cons_append List.nil_append List.append_nil List.getElem?_cons_zero List.getElem?_cons_succ List.getElem?_nil Option.bind_some Option.bind_none Option.map_some Option.map_none Option.isNone_none Option.isNone_some Option.isSome_some Option.isSome_none Bool.and_true Bool.true_and Bool.and_false Bool.false_and Bool.or_false Bool.false_or Bool.not_true Bool.not_false beq_true beq_false Bool.true_beq Bool.false_beq Loc.s.injEq Loc.b.injEq decide_true decide_false beq_self_eq_true Nat.zero_add Nat.add_zero List.getElem?_toArray List.toList_toArray List.size_toArray Value.oneCell' List.all_cons List.all_nil Value.int.injEq AV.v.injEq AV.sl.injEq AV.agg.injEq AV.ref.injEq AV.ept.injEq AV.tup.injEq Value.bool.injEq PV.v.injEq PV.sl.injEq List.isEmpty_nil List.isEmpty_cons forall_const not_true_eq_false not_false_eq_true true_implies false_implies Value.string.injEq List.length_map List.getElem?_map Int.toNat_natCast Int.natCast_nonneg List.length_append Value.cells implies_true TypeDesc.struct.injEq TypeDesc.slice.injEq TypeDesc.array.injEq List.getElem?_toArray Prod.mk.injEq and_assoc exists_false List.cons.injEq Operand.tmp.injEq ite_self AV.fnv.injEq AV.clo.injEq ne_eq eq_self Tryz.sz3 Tryz.zr3 Tryz.by3 Tryz.pl3 Tryz.is3 Tryz.underlying3 Tryz.sz4 Tryz.zr4 Tryz.by4 Tryz.pl4 Tryz.is4 Tryz.underlying4 Tryz.sz43 Tryz.zr43 Tryz.by43 Tryz.pl43 Tryz.is43 Tryz.underlying43 Tryz.sz35 Tryz.zr35 Tryz.by35 Tryz.pl35 Tryz.is35 Tryz.underlying35 Tryz.sz33 Tryz.zr33 Tryz.by33 Tryz.pl33 Tryz.is33 Tryz.underlying33 Tryz.sz28 Tryz.zr28 Tryz.by28 Tryz.pl28 Tryz.is28 Tryz.underlying28 Tryz.sz39 Tryz.zr39 Tryz.by39 Tryz.pl39 Tryz.is39 Tryz.underlying39 Tryz.sz57 Tryz.zr57 Tryz.by57 Tryz.pl57 Tryz.is57 Tryz.underlying57 Tryz.sz137 Tryz.zr137 Tryz.by137 Tryz.pl137 Tryz.is137 Tryz.underlying137 Tryz.sz66 Tryz.zr66 Tryz.by66 Tryz.pl66 Tryz.is66 Tryz.underlying66 Tryz.sz64 Tryz.zr64 Tryz.by64 Tryz.pl64 Tryz.is64 Tryz.underlying64 Tryz.sz60 Tryz.zr60 Tryz.by60 Tryz.pl60 Tryz.is60 Tryz.underlying60 Tryz.sz100 Tryz.zr100 Tryz.by100 Tryz.pl100 Tryz.is100 Tryz.underlying100 Tryz.sz103 Tryz.zr103 Tryz.by103 Tryz.pl103 Tryz.is103 Tryz.underlying103 Tryz.sz26 Tryz.zr26 Tryz.by26 Tryz.pl26 Tryz.is26 Tryz.underlying26 Tryz.sz120 Tryz.zr120 Tryz.by120 Tryz.pl120 Tryz.is120 Tryz.underlying120 Tryz.sz117 Tryz.zr117 Tryz.by117 Tryz.pl117 Tryz.is117 Tryz.underlying117 Tryz.sz30 Tryz.zr30 Tryz.by30 Tryz.pl30 Tryz.is30 Tryz.underlying30 Tryz.sz31 Tryz.zr31 Tryz.by31 Tryz.pl31 Tryz.is31 Tryz.underlying31 Tryz.sz40 Tryz.zr40 Tryz.by40 Tryz.pl40 Tryz.is40 Tryz.underlying40 Tryz.sz23 Tryz.zr23 Tryz.by23 Tryz.pl23 Tryz.is23 Tryz.underlying23 Tryz.sz24 Tryz.zr24 Tryz.by24 Tryz.pl24 Tryz.is24 Tryz.underlying24 Tryz.sz22 Tryz.zr22 Tryz.by22 Tryz.pl22 Tryz.is22 Tryz.underlying22 Tryz.sz141 Tryz.zr141 Tryz.by141 Tryz.pl141 Tryz.is141 Tryz.underlying141 Tryz.sz42 Tryz.zr42 Tryz.by42 Tryz.pl42 Tryz.is42 Tryz.underlying42 Tryz.sz29 Tryz.zr29 Tryz.by29 Tryz.pl29 Tryz.is29 Tryz.underlying29 Tryz.sz83 Tryz.zr83 Tryz.by83 Tryz.pl83 Tryz.is83 Tryz.underlying83 Tryz.it39 Tryz.eg39 Tryz.it137 Tryz.eg137 Tryz.it66 Tryz.eg66 Tryz.it28 Tryz.eg28 Tryz.it60 Tryz.eg60 all_arr loc_ss loc_sb loc_bs loc_bb arr_two arr_one rg1 rg2 rg3 rg4 rg5 rg6 rg7 rg8 ResultVar.tmp.injEq Bool.not_true Bool.not_false undef Rc.Rec.pv Nd.Fl.pv Rc.Dlv.pv Rc.Att.pv Mo.Lt.pv Fn.func.injEq Mo.Net.pv Mo.Lk.pv prow_pv irow_pv Br.pv
set_option maxHeartbeats 2000000 in
theorem idxB_ok (c : FuncId) (caps : List (List PV)) (p : Br → Bool) (l : List Br) (hl : l.length ≤ 1000000) (hc : ∀ y ∈ l, FnOK Tryz.prog c (.agg y.pv :: caps.map AV.ept) ⟨bv (p y), none⟩) : FnOK Tryz.prog 63 [.sl 5 (l.map Br.pv), .fnv c caps] ⟨iv (idxP p l 0), none⟩ := by
  refine fn_ok Tryz.func63 (by kernel_rfl) rfl (by rw [Tryz.ntmps63]; exact of_decide_eq_true rfl) (fun F hF => ?_)
  rw [Tryz.ntmps63] at hF
  rw [Tryz.results63]
  repeat (first
    | (with_reducible (first | refine sops_go ?_ | refine headW_end ?_ | refine sops_end ?_ | refine awp_if ?_ | refine awp_skip ?_ | refine awp_ret ?_ | refine awp_exit ?_); simp only [go_sem, simprocAttr, hF])
    | with_reducible (first | refine awp_seq_k fun _ _ => ?_ | refine awp_region [] ?_ | refine awp_block ?_)
    | go_step)
  refine awp_loop_by (ι := {k : Nat // k ≤ l.length ∧ idxP p l 0 = idxP p (l.drop k) (k : Int)}) (fun k σ => ⟨(8, iv (k.1 : Int)) :: keepS [0, 1, 4, 7] σ.slot, σ.box, [], σ.ext⟩) (fun k => l.length - k.1) ⟨0, by omega, rfl⟩ (sub_mk ?_) (fun R hR k => ?_)
  · simp only [go_sem, simprocAttr, hF]
    repeat' (first | rfl | refine ⟨?_, ?_⟩)
  obtain ⟨k, hk, hT⟩ := k
  dsimp only
  simp only [go_sem, simprocAttr, hF]
  by_cases hlt : k < l.length
  case neg =>
    have hd : decide ((k : Int) < (l.length : Int)) = false := decide_eq_false (by omega)
    repeat (first
      | (with_reducible (first | refine sops_go ?_ | refine headW_end ?_ | refine sops_end ?_ | refine awp_if ?_ | refine awp_skip ?_ | refine awp_ret ?_ | refine awp_exit ?_); simp only [go_sem, simprocAttr, hF, hd])
      | with_reducible (first | refine awp_seq_k fun _ _ => ?_ | refine awp_region [] ?_ | refine awp_block ?_)
      | go_step)
    rw [hT, List.drop_of_length_le (by omega)]
    rfl
  obtain ⟨y, hyk⟩ := get_of_lt hlt
  have hd : decide ((k : Int) < (l.length : Int)) = true := decide_eq_true (by omega)
  have hw : IntKind.i64.wrap ((k : Int) + 1) = ((k + 1 : Nat) : Int) := by rw [IntKind.wrap_i64]; omega
  have hT' : idxP p l 0 = if p y = true then (k : Int) else idxP p (l.drop (k + 1)) ((k + 1 : Nat) : Int) := by rw [hT, drop_of_get hyk, idxP]; rfl
  repeat (first
    | (with_reducible (first | refine sops_go ?_ | refine headW_end ?_ | refine sops_end ?_ | refine awp_if ?_ | refine awp_skip ?_ | refine awp_ret ?_ | refine awp_exit ?_); simp only [go_sem, simprocAttr, hF, hd, hyk])
    | with_reducible (first | refine awp_seq_k fun _ _ => ?_ | refine awp_region [] ?_ | refine awp_block ?_)
    | go_step)
  refine ⟨_, hc y (List.mem_of_getElem? hyk), ?_⟩
  simp only [go_sem, simprocAttr, hF]
  cases he : p y with
  | true =>
    try simp only [go_sem, simprocAttr, hF, he]
    repeat (first
      | (with_reducible (first | refine sops_go ?_ | refine headW_end ?_ | refine sops_end ?_ | refine awp_if ?_ | refine awp_skip ?_ | refine awp_ret ?_ | refine awp_exit ?_); simp only [go_sem, simprocAttr, hF, he])
      | with_reducible (first | refine awp_seq_k fun _ _ => ?_ | refine awp_region [] ?_ | refine awp_block ?_)
      | go_step)
    rw [hT', if_pos he]
  | false =>
    try simp only [go_sem, simprocAttr, hF, he]
    repeat (first
      | (with_reducible (first | refine sops_go ?_ | refine headW_end ?_ | refine sops_end ?_ | refine awp_if ?_ | refine awp_skip ?_ | refine awp_ret ?_ | refine awp_exit ?_); simp only [go_sem, simprocAttr, hF, he])
      | with_reducible (first | refine awp_seq_k fun _ _ => ?_ | refine awp_region [] ?_ | refine awp_block ?_)
      | go_step)
    refine ⟨⟨k + 1, by omega, by rw [hT', if_neg (by rw [he]; decide)]⟩, by dsimp only; omega, hR _ _ (sub_mk ?_)⟩
    simp only [go_sem, simprocAttr, hF, hw]

set_option maxHeartbeats 2000000 in
theorem contB_ok (c : FuncId) (caps : List (List PV)) (p : Br → Bool) (l : List Br) (hl : l.length ≤ 1000000) (hc : ∀ y ∈ l, FnOK Tryz.prog c (.agg y.pv :: caps.map AV.ept) ⟨bv (p y), none⟩) : FnOK Tryz.prog 29 [.sl 5 (l.map Br.pv), .fnv c caps] ⟨bv (l.any p), none⟩ := by
  have hx := idx_any p l
  refine fn_ok Tryz.func29 (by kernel_rfl) rfl (by rw [Tryz.ntmps29]; exact of_decide_eq_true rfl) (fun F hF => ?_)
  rw [Tryz.ntmps29] at hF
  rw [Tryz.results29]
  repeat (first
    | (with_reducible (first | refine sops_go ?_ | refine headW_end ?_ | refine sops_end ?_ | refine awp_if ?_ | refine awp_skip ?_ | refine awp_ret ?_ | refine awp_exit ?_); simp only [go_sem, simprocAttr, hF])
    | with_reducible (first | refine awp_seq_k fun _ _ => ?_ | refine awp_region [] ?_ | refine awp_block ?_)
    | go_step)
  refine ⟨_, idxB_ok c caps p l hl hc, ?_⟩
  simp only [go_sem, simprocAttr, hF]
  repeat (first
    | (with_reducible (first | refine sops_go ?_ | refine headW_end ?_ | refine sops_end ?_ | refine awp_if ?_ | refine awp_skip ?_ | refine awp_ret ?_ | refine awp_exit ?_); simp only [go_sem, simprocAttr, hF, hx])
    | with_reducible (first | refine awp_seq_k fun _ _ => ?_ | refine awp_region [] ?_ | refine awp_block ?_)
    | go_step)
  all_goals (try rfl)

set_option maxHeartbeats 2000000 in
theorem idxR_ok (c : FuncId) (caps : List (List PV)) (p : (List Int) → Bool) (l : List (List Int)) (hl : l.length ≤ 1000000) (hc : ∀ y ∈ l, FnOK Tryz.prog c (.sl 1 (y.map irow_pv) :: caps.map AV.ept) ⟨bv (p y), none⟩) : FnOK Tryz.prog 99 [.sl 1 (l.map prow_pv), .fnv c caps] ⟨iv (idxP p l 0), none⟩ := by
  refine fn_ok Tryz.func99 (by kernel_rfl) rfl (by rw [Tryz.ntmps99]; exact of_decide_eq_true rfl) (fun F hF => ?_)
  rw [Tryz.ntmps99] at hF
  rw [Tryz.results99]
  repeat (first
    | (with_reducible (first | refine sops_go ?_ | refine headW_end ?_ | refine sops_end ?_ | refine awp_if ?_ | refine awp_skip ?_ | refine awp_ret ?_ | refine awp_exit ?_); simp only [go_sem, simprocAttr, hF])
    | with_reducible (first | refine awp_seq_k fun _ _ => ?_ | refine awp_region [] ?_ | refine awp_block ?_)
    | go_step)
  refine awp_loop_by (ι := {k : Nat // k ≤ l.length ∧ idxP p l 0 = idxP p (l.drop k) (k : Int)}) (fun k σ => ⟨(8, iv (k.1 : Int)) :: keepS [0, 1, 4, 7] σ.slot, σ.box, [], σ.ext⟩) (fun k => l.length - k.1) ⟨0, by omega, rfl⟩ (sub_mk ?_) (fun R hR k => ?_)
  · simp only [go_sem, simprocAttr, hF]
    repeat' (first | rfl | refine ⟨?_, ?_⟩)
  obtain ⟨k, hk, hT⟩ := k
  dsimp only
  simp only [go_sem, simprocAttr, hF]
  by_cases hlt : k < l.length
  case neg =>
    have hd : decide ((k : Int) < (l.length : Int)) = false := decide_eq_false (by omega)
    repeat (first
      | (with_reducible (first | refine sops_go ?_ | refine headW_end ?_ | refine sops_end ?_ | refine awp_if ?_ | refine awp_skip ?_ | refine awp_ret ?_ | refine awp_exit ?_); simp only [go_sem, simprocAttr, hF, hd])
      | with_reducible (first | refine awp_seq_k fun _ _ => ?_ | refine awp_region [] ?_ | refine awp_block ?_)
      | go_step)
    rw [hT, List.drop_of_length_le (by omega)]
    rfl
  obtain ⟨y, hyk⟩ := get_of_lt hlt
  have hd : decide ((k : Int) < (l.length : Int)) = true := decide_eq_true (by omega)
  have hw : IntKind.i64.wrap ((k : Int) + 1) = ((k + 1 : Nat) : Int) := by rw [IntKind.wrap_i64]; omega
  have hT' : idxP p l 0 = if p y = true then (k : Int) else idxP p (l.drop (k + 1)) ((k + 1 : Nat) : Int) := by rw [hT, drop_of_get hyk, idxP]; rfl
  repeat (first
    | (with_reducible (first | refine sops_go ?_ | refine headW_end ?_ | refine sops_end ?_ | refine awp_if ?_ | refine awp_skip ?_ | refine awp_ret ?_ | refine awp_exit ?_); simp only [go_sem, simprocAttr, hF, hd, hyk])
    | with_reducible (first | refine awp_seq_k fun _ _ => ?_ | refine awp_region [] ?_ | refine awp_block ?_)
    | go_step)
  refine ⟨_, hc y (List.mem_of_getElem? hyk), ?_⟩
  simp only [go_sem, simprocAttr, hF]
  cases he : p y with
  | true =>
    try simp only [go_sem, simprocAttr, hF, he]
    repeat (first
      | (with_reducible (first | refine sops_go ?_ | refine headW_end ?_ | refine sops_end ?_ | refine awp_if ?_ | refine awp_skip ?_ | refine awp_ret ?_ | refine awp_exit ?_); simp only [go_sem, simprocAttr, hF, he])
      | with_reducible (first | refine awp_seq_k fun _ _ => ?_ | refine awp_region [] ?_ | refine awp_block ?_)
      | go_step)
    rw [hT', if_pos he]
  | false =>
    try simp only [go_sem, simprocAttr, hF, he]
    repeat (first
      | (with_reducible (first | refine sops_go ?_ | refine headW_end ?_ | refine sops_end ?_ | refine awp_if ?_ | refine awp_skip ?_ | refine awp_ret ?_ | refine awp_exit ?_); simp only [go_sem, simprocAttr, hF, he])
      | with_reducible (first | refine awp_seq_k fun _ _ => ?_ | refine awp_region [] ?_ | refine awp_block ?_)
      | go_step)
    refine ⟨⟨k + 1, by omega, by rw [hT', if_neg (by rw [he]; decide)]⟩, by dsimp only; omega, hR _ _ (sub_mk ?_)⟩
    simp only [go_sem, simprocAttr, hF, hw]

set_option maxHeartbeats 2000000 in
theorem contR_ok (c : FuncId) (caps : List (List PV)) (p : (List Int) → Bool) (l : List (List Int)) (hl : l.length ≤ 1000000) (hc : ∀ y ∈ l, FnOK Tryz.prog c (.sl 1 (y.map irow_pv) :: caps.map AV.ept) ⟨bv (p y), none⟩) : FnOK Tryz.prog 64 [.sl 1 (l.map prow_pv), .fnv c caps] ⟨bv (l.any p), none⟩ := by
  have hx := idx_any p l
  refine fn_ok Tryz.func64 (by kernel_rfl) rfl (by rw [Tryz.ntmps64]; exact of_decide_eq_true rfl) (fun F hF => ?_)
  rw [Tryz.ntmps64] at hF
  rw [Tryz.results64]
  repeat (first
    | (with_reducible (first | refine sops_go ?_ | refine headW_end ?_ | refine sops_end ?_ | refine awp_if ?_ | refine awp_skip ?_ | refine awp_ret ?_ | refine awp_exit ?_); simp only [go_sem, simprocAttr, hF])
    | with_reducible (first | refine awp_seq_k fun _ _ => ?_ | refine awp_region [] ?_ | refine awp_block ?_)
    | go_step)
  refine ⟨_, idxR_ok c caps p l hl hc, ?_⟩
  simp only [go_sem, simprocAttr, hF]
  repeat (first
    | (with_reducible (first | refine sops_go ?_ | refine headW_end ?_ | refine sops_end ?_ | refine awp_if ?_ | refine awp_skip ?_ | refine awp_ret ?_ | refine awp_exit ?_); simp only [go_sem, simprocAttr, hF, hx])
    | with_reducible (first | refine awp_seq_k fun _ _ => ?_ | refine awp_region [] ?_ | refine awp_block ?_)
    | go_step)
  all_goals (try rfl)

set_option maxHeartbeats 2000000 in
theorem idxT_ok (c : FuncId) (caps : List (List PV)) (p : Lt → Bool) (l : List Lt) (hl : l.length ≤ 1000000) (hc : ∀ y ∈ l, FnOK Tryz.prog c (.agg y.pv :: caps.map AV.ept) ⟨bv (p y), none⟩) : FnOK Tryz.prog 68 [.sl 3 (l.map Lt.pv), .fnv c caps] ⟨iv (idxP p l 0), none⟩ := by
  refine fn_ok Tryz.func68 (by kernel_rfl) rfl (by rw [Tryz.ntmps68]; exact of_decide_eq_true rfl) (fun F hF => ?_)
  rw [Tryz.ntmps68] at hF
  rw [Tryz.results68]
  repeat (first
    | (with_reducible (first | refine sops_go ?_ | refine headW_end ?_ | refine sops_end ?_ | refine awp_if ?_ | refine awp_skip ?_ | refine awp_ret ?_ | refine awp_exit ?_); simp only [go_sem, simprocAttr, hF])
    | with_reducible (first | refine awp_seq_k fun _ _ => ?_ | refine awp_region [] ?_ | refine awp_block ?_)
    | go_step)
  refine awp_loop_by (ι := {k : Nat // k ≤ l.length ∧ idxP p l 0 = idxP p (l.drop k) (k : Int)}) (fun k σ => ⟨(8, iv (k.1 : Int)) :: keepS [0, 1, 4, 7] σ.slot, σ.box, [], σ.ext⟩) (fun k => l.length - k.1) ⟨0, by omega, rfl⟩ (sub_mk ?_) (fun R hR k => ?_)
  · simp only [go_sem, simprocAttr, hF]
    repeat' (first | rfl | refine ⟨?_, ?_⟩)
  obtain ⟨k, hk, hT⟩ := k
  dsimp only
  simp only [go_sem, simprocAttr, hF]
  by_cases hlt : k < l.length
  case neg =>
    have hd : decide ((k : Int) < (l.length : Int)) = false := decide_eq_false (by omega)
    repeat (first
      | (with_reducible (first | refine sops_go ?_ | refine headW_end ?_ | refine sops_end ?_ | refine awp_if ?_ | refine awp_skip ?_ | refine awp_ret ?_ | refine awp_exit ?_); simp only [go_sem, simprocAttr, hF, hd])
      | with_reducible (first | refine awp_seq_k fun _ _ => ?_ | refine awp_region [] ?_ | refine awp_block ?_)
      | go_step)
    rw [hT, List.drop_of_length_le (by omega)]
    rfl
  obtain ⟨y, hyk⟩ := get_of_lt hlt
  have hd : decide ((k : Int) < (l.length : Int)) = true := decide_eq_true (by omega)
  have hw : IntKind.i64.wrap ((k : Int) + 1) = ((k + 1 : Nat) : Int) := by rw [IntKind.wrap_i64]; omega
  have hT' : idxP p l 0 = if p y = true then (k : Int) else idxP p (l.drop (k + 1)) ((k + 1 : Nat) : Int) := by rw [hT, drop_of_get hyk, idxP]; rfl
  repeat (first
    | (with_reducible (first | refine sops_go ?_ | refine headW_end ?_ | refine sops_end ?_ | refine awp_if ?_ | refine awp_skip ?_ | refine awp_ret ?_ | refine awp_exit ?_); simp only [go_sem, simprocAttr, hF, hd, hyk])
    | with_reducible (first | refine awp_seq_k fun _ _ => ?_ | refine awp_region [] ?_ | refine awp_block ?_)
    | go_step)
  refine ⟨_, hc y (List.mem_of_getElem? hyk), ?_⟩
  simp only [go_sem, simprocAttr, hF]
  cases he : p y with
  | true =>
    try simp only [go_sem, simprocAttr, hF, he]
    repeat (first
      | (with_reducible (first | refine sops_go ?_ | refine headW_end ?_ | refine sops_end ?_ | refine awp_if ?_ | refine awp_skip ?_ | refine awp_ret ?_ | refine awp_exit ?_); simp only [go_sem, simprocAttr, hF, he])
      | with_reducible (first | refine awp_seq_k fun _ _ => ?_ | refine awp_region [] ?_ | refine awp_block ?_)
      | go_step)
    rw [hT', if_pos he]
  | false =>
    try simp only [go_sem, simprocAttr, hF, he]
    repeat (first
      | (with_reducible (first | refine sops_go ?_ | refine headW_end ?_ | refine sops_end ?_ | refine awp_if ?_ | refine awp_skip ?_ | refine awp_ret ?_ | refine awp_exit ?_); simp only [go_sem, simprocAttr, hF, he])
      | with_reducible (first | refine awp_seq_k fun _ _ => ?_ | refine awp_region [] ?_ | refine awp_block ?_)
      | go_step)
    refine ⟨⟨k + 1, by omega, by rw [hT', if_neg (by rw [he]; decide)]⟩, by dsimp only; omega, hR _ _ (sub_mk ?_)⟩
    simp only [go_sem, simprocAttr, hF, hw]

set_option maxHeartbeats 2000000 in
theorem idxI_ok (c : FuncId) (caps : List (List PV)) (p : Int → Bool) (l : List Int) (hl : l.length ≤ 1000000) (hc : ∀ y ∈ l, FnOK Tryz.prog c (iv y :: caps.map AV.ept) ⟨bv (p y), none⟩) : FnOK Tryz.prog 168 [.sl 1 (l.map irow_pv), .fnv c caps] ⟨iv (idxP p l 0), none⟩ := by
  refine fn_ok Tryz.func168 (by kernel_rfl) rfl (by rw [Tryz.ntmps168]; exact of_decide_eq_true rfl) (fun F hF => ?_)
  rw [Tryz.ntmps168] at hF
  rw [Tryz.results168]
  repeat (first
    | (with_reducible (first | refine sops_go ?_ | refine headW_end ?_ | refine sops_end ?_ | refine awp_if ?_ | refine awp_skip ?_ | refine awp_ret ?_ | refine awp_exit ?_); simp only [go_sem, simprocAttr, hF])
    | with_reducible (first | refine awp_seq_k fun _ _ => ?_ | refine awp_region [] ?_ | refine awp_block ?_)
    | go_step)
  refine awp_loop_by (ι := {k : Nat // k ≤ l.length ∧ idxP p l 0 = idxP p (l.drop k) (k : Int)}) (fun k σ => ⟨(8, iv (k.1 : Int)) :: keepS [0, 1, 4, 7] σ.slot, σ.box, [], σ.ext⟩) (fun k => l.length - k.1) ⟨0, by omega, rfl⟩ (sub_mk ?_) (fun R hR k => ?_)
  · simp only [go_sem, simprocAttr, hF]
    repeat' (first | rfl | refine ⟨?_, ?_⟩)
  obtain ⟨k, hk, hT⟩ := k
  dsimp only
  simp only [go_sem, simprocAttr, hF]
  by_cases hlt : k < l.length
  case neg =>
    have hd : decide ((k : Int) < (l.length : Int)) = false := decide_eq_false (by omega)
    repeat (first
      | (with_reducible (first | refine sops_go ?_ | refine headW_end ?_ | refine sops_end ?_ | refine awp_if ?_ | refine awp_skip ?_ | refine awp_ret ?_ | refine awp_exit ?_); simp only [go_sem, simprocAttr, hF, hd])
      | with_reducible (first | refine awp_seq_k fun _ _ => ?_ | refine awp_region [] ?_ | refine awp_block ?_)
      | go_step)
    rw [hT, List.drop_of_length_le (by omega)]
    rfl
  obtain ⟨y, hyk⟩ := get_of_lt hlt
  have hd : decide ((k : Int) < (l.length : Int)) = true := decide_eq_true (by omega)
  have hw : IntKind.i64.wrap ((k : Int) + 1) = ((k + 1 : Nat) : Int) := by rw [IntKind.wrap_i64]; omega
  have hT' : idxP p l 0 = if p y = true then (k : Int) else idxP p (l.drop (k + 1)) ((k + 1 : Nat) : Int) := by rw [hT, drop_of_get hyk, idxP]; rfl
  repeat (first
    | (with_reducible (first | refine sops_go ?_ | refine headW_end ?_ | refine sops_end ?_ | refine awp_if ?_ | refine awp_skip ?_ | refine awp_ret ?_ | refine awp_exit ?_); simp only [go_sem, simprocAttr, hF, hd, hyk])
    | with_reducible (first | refine awp_seq_k fun _ _ => ?_ | refine awp_region [] ?_ | refine awp_block ?_)
    | go_step)
  refine ⟨_, hc y (List.mem_of_getElem? hyk), ?_⟩
  simp only [go_sem, simprocAttr, hF]
  cases he : p y with
  | true =>
    try simp only [go_sem, simprocAttr, hF, he]
    repeat (first
      | (with_reducible (first | refine sops_go ?_ | refine headW_end ?_ | refine sops_end ?_ | refine awp_if ?_ | refine awp_skip ?_ | refine awp_ret ?_ | refine awp_exit ?_); simp only [go_sem, simprocAttr, hF, he])
      | with_reducible (first | refine awp_seq_k fun _ _ => ?_ | refine awp_region [] ?_ | refine awp_block ?_)
      | go_step)
    rw [hT', if_pos he]
  | false =>
    try simp only [go_sem, simprocAttr, hF, he]
    repeat (first
      | (with_reducible (first | refine sops_go ?_ | refine headW_end ?_ | refine sops_end ?_ | refine awp_if ?_ | refine awp_skip ?_ | refine awp_ret ?_ | refine awp_exit ?_); simp only [go_sem, simprocAttr, hF, he])
      | with_reducible (first | refine awp_seq_k fun _ _ => ?_ | refine awp_region [] ?_ | refine awp_block ?_)
      | go_step)
    refine ⟨⟨k + 1, by omega, by rw [hT', if_neg (by rw [he]; decide)]⟩, by dsimp only; omega, hR _ _ (sub_mk ?_)⟩
    simp only [go_sem, simprocAttr, hF, hw]

set_option maxHeartbeats 2000000 in
theorem contI_ok (c : FuncId) (caps : List (List PV)) (p : Int → Bool) (l : List Int) (hl : l.length ≤ 1000000) (hc : ∀ y ∈ l, FnOK Tryz.prog c (iv y :: caps.map AV.ept) ⟨bv (p y), none⟩) : FnOK Tryz.prog 148 [.sl 1 (l.map irow_pv), .fnv c caps] ⟨bv (l.any p), none⟩ := by
  have hx := idx_any p l
  refine fn_ok Tryz.func148 (by kernel_rfl) rfl (by rw [Tryz.ntmps148]; exact of_decide_eq_true rfl) (fun F hF => ?_)
  rw [Tryz.ntmps148] at hF
  rw [Tryz.results148]
  repeat (first
    | (with_reducible (first | refine sops_go ?_ | refine headW_end ?_ | refine sops_end ?_ | refine awp_if ?_ | refine awp_skip ?_ | refine awp_ret ?_ | refine awp_exit ?_); simp only [go_sem, simprocAttr, hF])
    | with_reducible (first | refine awp_seq_k fun _ _ => ?_ | refine awp_region [] ?_ | refine awp_block ?_)
    | go_step)
  refine ⟨_, idxI_ok c caps p l hl hc, ?_⟩
  simp only [go_sem, simprocAttr, hF]
  repeat (first
    | (with_reducible (first | refine sops_go ?_ | refine headW_end ?_ | refine sops_end ?_ | refine awp_if ?_ | refine awp_skip ?_ | refine awp_ret ?_ | refine awp_exit ?_); simp only [go_sem, simprocAttr, hF, hx])
    | with_reducible (first | refine awp_seq_k fun _ _ => ?_ | refine awp_region [] ?_ | refine awp_block ?_)
    | go_step)
  all_goals (try rfl)

set_option maxHeartbeats 2000000 in
theorem idxN_ok (c : FuncId) (caps : List (List PV)) (p : Int → Bool) (l : List Int) (hl : l.length ≤ 1000000) (hc : ∀ y ∈ l, FnOK Tryz.prog c (iv y :: caps.map AV.ept) ⟨bv (p y), none⟩) : FnOK Tryz.prog 122 [.sl 1 (l.map irow_pv), .fnv c caps] ⟨iv (idxP p l 0), none⟩ := by
  refine fn_ok Tryz.func122 (by kernel_rfl) rfl (by rw [Tryz.ntmps122]; exact of_decide_eq_true rfl) (fun F hF => ?_)
  rw [Tryz.ntmps122] at hF
  rw [Tryz.results122]
  repeat (first
    | (with_reducible (first | refine sops_go ?_ | refine headW_end ?_ | refine sops_end ?_ | refine awp_if ?_ | refine awp_skip ?_ | refine awp_ret ?_ | refine awp_exit ?_); simp only [go_sem, simprocAttr, hF])
    | with_reducible (first | refine awp_seq_k fun _ _ => ?_ | refine awp_region [] ?_ | refine awp_block ?_)
    | go_step)
  refine awp_loop_by (ι := {k : Nat // k ≤ l.length ∧ idxP p l 0 = idxP p (l.drop k) (k : Int)}) (fun k σ => ⟨(8, iv (k.1 : Int)) :: keepS [0, 1, 4, 7] σ.slot, σ.box, [], σ.ext⟩) (fun k => l.length - k.1) ⟨0, by omega, rfl⟩ (sub_mk ?_) (fun R hR k => ?_)
  · simp only [go_sem, simprocAttr, hF]
    repeat' (first | rfl | refine ⟨?_, ?_⟩)
  obtain ⟨k, hk, hT⟩ := k
  dsimp only
  simp only [go_sem, simprocAttr, hF]
  by_cases hlt : k < l.length
  case neg =>
    have hd : decide ((k : Int) < (l.length : Int)) = false := decide_eq_false (by omega)
    repeat (first
      | (with_reducible (first | refine sops_go ?_ | refine headW_end ?_ | refine sops_end ?_ | refine awp_if ?_ | refine awp_skip ?_ | refine awp_ret ?_ | refine awp_exit ?_); simp only [go_sem, simprocAttr, hF, hd])
      | with_reducible (first | refine awp_seq_k fun _ _ => ?_ | refine awp_region [] ?_ | refine awp_block ?_)
      | go_step)
    rw [hT, List.drop_of_length_le (by omega)]
    rfl
  obtain ⟨y, hyk⟩ := get_of_lt hlt
  have hd : decide ((k : Int) < (l.length : Int)) = true := decide_eq_true (by omega)
  have hw : IntKind.i64.wrap ((k : Int) + 1) = ((k + 1 : Nat) : Int) := by rw [IntKind.wrap_i64]; omega
  have hT' : idxP p l 0 = if p y = true then (k : Int) else idxP p (l.drop (k + 1)) ((k + 1 : Nat) : Int) := by rw [hT, drop_of_get hyk, idxP]; rfl
  repeat (first
    | (with_reducible (first | refine sops_go ?_ | refine headW_end ?_ | refine sops_end ?_ | refine awp_if ?_ | refine awp_skip ?_ | refine awp_ret ?_ | refine awp_exit ?_); simp only [go_sem, simprocAttr, hF, hd, hyk])
    | with_reducible (first | refine awp_seq_k fun _ _ => ?_ | refine awp_region [] ?_ | refine awp_block ?_)
    | go_step)
  refine ⟨_, hc y (List.mem_of_getElem? hyk), ?_⟩
  simp only [go_sem, simprocAttr, hF]
  cases he : p y with
  | true =>
    try simp only [go_sem, simprocAttr, hF, he]
    repeat (first
      | (with_reducible (first | refine sops_go ?_ | refine headW_end ?_ | refine sops_end ?_ | refine awp_if ?_ | refine awp_skip ?_ | refine awp_ret ?_ | refine awp_exit ?_); simp only [go_sem, simprocAttr, hF, he])
      | with_reducible (first | refine awp_seq_k fun _ _ => ?_ | refine awp_region [] ?_ | refine awp_block ?_)
      | go_step)
    rw [hT', if_pos he]
  | false =>
    try simp only [go_sem, simprocAttr, hF, he]
    repeat (first
      | (with_reducible (first | refine sops_go ?_ | refine headW_end ?_ | refine sops_end ?_ | refine awp_if ?_ | refine awp_skip ?_ | refine awp_ret ?_ | refine awp_exit ?_); simp only [go_sem, simprocAttr, hF, he])
      | with_reducible (first | refine awp_seq_k fun _ _ => ?_ | refine awp_region [] ?_ | refine awp_block ?_)
      | go_step)
    refine ⟨⟨k + 1, by omega, by rw [hT', if_neg (by rw [he]; decide)]⟩, by dsimp only; omega, hR _ _ (sub_mk ?_)⟩
    simp only [go_sem, simprocAttr, hF, hw]

set_option maxHeartbeats 2000000 in
theorem contN_ok (c : FuncId) (caps : List (List PV)) (p : Int → Bool) (l : List Int) (hl : l.length ≤ 1000000) (hc : ∀ y ∈ l, FnOK Tryz.prog c (iv y :: caps.map AV.ept) ⟨bv (p y), none⟩) : FnOK Tryz.prog 86 [.sl 1 (l.map irow_pv), .fnv c caps] ⟨bv (l.any p), none⟩ := by
  have hx := idx_any p l
  refine fn_ok Tryz.func86 (by kernel_rfl) rfl (by rw [Tryz.ntmps86]; exact of_decide_eq_true rfl) (fun F hF => ?_)
  rw [Tryz.ntmps86] at hF
  rw [Tryz.results86]
  repeat (first
    | (with_reducible (first | refine sops_go ?_ | refine headW_end ?_ | refine sops_end ?_ | refine awp_if ?_ | refine awp_skip ?_ | refine awp_ret ?_ | refine awp_exit ?_); simp only [go_sem, simprocAttr, hF])
    | with_reducible (first | refine awp_seq_k fun _ _ => ?_ | refine awp_region [] ?_ | refine awp_block ?_)
    | go_step)
  refine ⟨_, idxN_ok c caps p l hl hc, ?_⟩
  simp only [go_sem, simprocAttr, hF]
  repeat (first
    | (with_reducible (first | refine sops_go ?_ | refine headW_end ?_ | refine sops_end ?_ | refine awp_if ?_ | refine awp_skip ?_ | refine awp_ret ?_ | refine awp_exit ?_); simp only [go_sem, simprocAttr, hF, hx])
    | with_reducible (first | refine awp_seq_k fun _ _ => ?_ | refine awp_region [] ?_ | refine awp_block ?_)
    | go_step)
  all_goals (try rfl)
/- explain.numbers, by abstract states. -/
attribute [local go_sem] Tryz.sz67 Tryz.zr67 Tryz.by67 Tryz.pl67 Tryz.is67 Tryz.underlying67 Tryz.sz20 Tryz.zr20 Tryz.by20 Tryz.pl20 Tryz.is20 Tryz.underlying20 Tryz.sz89 Tryz.zr89 Tryz.by89 Tryz.pl89 Tryz.is89 Tryz.underlying89 Tryz.sz132 Tryz.zr132 Tryz.by132 Tryz.pl132 Tryz.is132 Tryz.underlying132 Tryz.sz9 Tryz.zr9 Tryz.by9 Tryz.pl9 Tryz.is9 Tryz.underlying9
def wrongB (x : Int) : Bool := decide (x < 0) || decide (1073741824 < x)

set_option maxHeartbeats 2000000 in
theorem num1_ok (x : Int) : FnOK Tryz.prog 87 [iv x] ⟨bv (wrongB x), none⟩ := by
  refine fn_ok Tryz.func87 (by kernel_rfl) rfl (by rw [Tryz.ntmps87]; exact of_decide_eq_true rfl) (fun F hF => ?_)
  rw [Tryz.ntmps87] at hF
  rw [Tryz.results87]
  unfold wrongB
  cases h1 : decide (x < 0) <;> cases h2 : decide ((1073741824 : Int) < x)
  · repeat (first
      | (with_reducible (first | refine sops_go ?_ | refine headW_end ?_ | refine sops_end ?_ | refine awp_if ?_ | refine awp_skip ?_ | refine awp_ret ?_ | refine awp_exit ?_); simp only [go_sem, simprocAttr, hF, h1, h2])
      | with_reducible (first | refine awp_seq_k fun _ _ => ?_ | refine awp_region [] ?_ | refine awp_block ?_)
      | go_step)
    all_goals (try rfl)
  · repeat (first
      | (with_reducible (first | refine sops_go ?_ | refine headW_end ?_ | refine sops_end ?_ | refine awp_if ?_ | refine awp_skip ?_ | refine awp_ret ?_ | refine awp_exit ?_); simp only [go_sem, simprocAttr, hF, h1, h2])
      | with_reducible (first | refine awp_seq_k fun _ _ => ?_ | refine awp_region [] ?_ | refine awp_block ?_)
      | go_step)
    all_goals (try rfl)
  · repeat (first
      | (with_reducible (first | refine sops_go ?_ | refine headW_end ?_ | refine sops_end ?_ | refine awp_if ?_ | refine awp_skip ?_ | refine awp_ret ?_ | refine awp_exit ?_); simp only [go_sem, simprocAttr, hF, h1, h2])
      | with_reducible (first | refine awp_seq_k fun _ _ => ?_ | refine awp_region [] ?_ | refine awp_block ?_)
      | go_step)
    all_goals (try rfl)
  · repeat (first
      | (with_reducible (first | refine sops_go ?_ | refine headW_end ?_ | refine sops_end ?_ | refine awp_if ?_ | refine awp_skip ?_ | refine awp_ret ?_ | refine awp_exit ?_); simp only [go_sem, simprocAttr, hF, h1, h2])
      | with_reducible (first | refine awp_seq_k fun _ _ => ?_ | refine awp_region [] ?_ | refine awp_block ?_)
      | go_step)
    all_goals (try rfl)

set_option maxHeartbeats 2000000 in
theorem numbers_ok (l : List Int) (hl : l.length ≤ 1000000) : FnOK Tryz.prog 44 [.sl 1 (l.map irow_pv)] ⟨bv (!(l.any wrongB)), none⟩ := by
  refine fn_ok Tryz.func44 (by kernel_rfl) rfl (by rw [Tryz.ntmps44]; exact of_decide_eq_true rfl) (fun F hF => ?_)
  rw [Tryz.ntmps44] at hF
  rw [Tryz.results44]
  repeat (first
    | (with_reducible (first | refine sops_go ?_ | refine headW_end ?_ | refine sops_end ?_ | refine awp_if ?_ | refine awp_skip ?_ | refine awp_ret ?_ | refine awp_exit ?_); simp only [go_sem, simprocAttr, hF])
    | with_reducible (first | refine awp_seq_k fun _ _ => ?_ | refine awp_region [] ?_ | refine awp_block ?_)
    | go_step)
  refine ⟨_, contN_ok 87 [] wrongB l hl (fun y _ => num1_ok y), ?_⟩
  simp only [go_sem, simprocAttr, hF]
  repeat (first
    | (with_reducible (first | refine sops_go ?_ | refine headW_end ?_ | refine sops_end ?_ | refine awp_if ?_ | refine awp_skip ?_ | refine awp_ret ?_ | refine awp_exit ?_); simp only [go_sem, simprocAttr, hF])
    | with_reducible (first | refine awp_seq_k fun _ _ => ?_ | refine awp_region [] ?_ | refine awp_block ?_)
    | go_step)
  all_goals (try rfl)
end Go.Proofs.YticnppnejafhdaaGreatDoor
/- The text of an explanation: plain. -/
namespace Go.Proofs.YticnppnejafhdaaGreatDoor
open Go.RowKit
open Nd Rc Mo
open Av
set_option maxRecDepth 100000
set_option linter.unusedSimpArgs false

def m0 (x : Int) : Int := if x < 0 then 0 else x
def headN (x : Lt) : List Pt := [.s ⟨#[102, 108, 111, 119]⟩, .n x.fl, .s ⟨#[102, 114, 97, 109, 101]⟩, .n x.fr, .s ⟨#[110, 111, 116, 32, 100, 101, 108, 105, 118, 101, 114, 101, 100]⟩]
def headD (x : Lt) : List Pt := [.s ⟨#[102, 108, 111, 119]⟩, .n x.fl, .s ⟨#[102, 114, 97, 109, 101]⟩, .n x.fr, .s ⟨#[108, 97, 116, 101, 32, 98, 121, 32, 116, 104, 101, 32, 100, 101, 108, 105, 118, 101, 114, 121, 32, 105, 110, 32, 115, 108, 111, 116]⟩, .n x.sl]
def headL (x : Lt) : List Pt := if 0 ≤ x.sl then headD x else headN x
def causeP (c : Br) : List Pt := [.s ⟨#[108, 105, 110, 107]⟩, .n c.fm, .s ⟨#[116, 111]⟩, .n c.tt, .s ⟨#[108, 111, 115, 116, 32, 105, 110, 32, 115, 108, 111, 116, 115]⟩]
def causeL (c : Br) : List Pt := causeP c ++ c.sl.map Pt.n
def badC (c : Br) : Bool := [c.fl, c.fr, c.fm, c.tt].any wrongB || (c.sl.any wrongB || (decide ((c.sl.length : Int) < 1) || decide ((8 : Int) < (c.sl.length : Int))))
def outT (h : ByteArray) (l : List Br) : ByteArray := l.foldl (fun o c => o ++ lineT (causeL c)) h
/-- The text of an explanation. -/
def fmtX (x : Ex) : ByteArray × Int :=
  if ([x.lt.fl, x.lt.fr, m0 x.lt.sl].any wrongB || decide ((1024 : Int) < (x.ca.length : Int))) = true then (⟨#[]⟩, 1)
  else if x.ca.any badC = true then (⟨#[]⟩, 1) else (outT (lineT (headL x.lt)) x.ca, 0)
theorem wrongB_f {x : Int} (h : wrongB x = false) : 0 ≤ x ∧ x ≤ 1073741824 := by
  unfold wrongB at h
  rw [Bool.or_eq_false_iff, decide_eq_false_iff_not, decide_eq_false_iff_not] at h
  omega
theorem txtI_size {x : Int} (h : 0 ≤ x ∧ x ≤ 1073741824) : (txtI x).size ≤ 21 := by
  show (Lib.itoa x).toArray.size ≤ 21
  rw [List.size_toArray]
  exact Lib.itoa_length_le x (by omega) (by omega)
theorem lensT_cons (p : Pt) (l : List Pt) : lensT (p :: l) = p.txt.size + 1 + lensT l := rfl
theorem lensT_append (l m : List Pt) : lensT (l ++ m) = lensT l + lensT m := by
  induction l with
  | nil => simp [lensT]
  | cons p l ih => rw [List.cons_append, lensT_cons, lensT_cons, ih]; omega
theorem lensT_nums {l : List Int} (h : l.any wrongB = false) : lensT (l.map Pt.n) ≤ 22 * l.length := by
  induction l with
  | nil => exact Nat.zero_le _
  | cons x l ih =>
    rw [List.any_cons, Bool.or_eq_false_iff] at h
    have h1 := txtI_size (wrongB_f h.1)
    have h2 := ih h.2
    rw [List.map_cons, lensT_cons, List.length_cons]
    show (txtI x).size + 1 + _ ≤ _
    omega
theorem badC_f {c : Br} (h : badC c = false) : ([c.fl, c.fr, c.fm, c.tt].any wrongB = false ∧ c.sl.any wrongB = false ∧ 1 ≤ c.sl.length ∧ c.sl.length ≤ 8) ∧ (0 ≤ c.fm ∧ c.fm ≤ 1073741824) ∧ (0 ≤ c.tt ∧ c.tt ≤ 1073741824) := by
  unfold badC at h
  simp only [Bool.or_eq_false_iff, decide_eq_false_iff_not] at h
  obtain ⟨h1, h2, h3, h4⟩ := h
  refine ⟨⟨h1, h2, by omega, by omega⟩, ?_, ?_⟩
  · simp only [List.any_cons, Bool.or_eq_false_iff] at h1
    exact wrongB_f h1.2.2.1
  · simp only [List.any_cons, Bool.or_eq_false_iff] at h1
    exact wrongB_f h1.2.2.2.1
theorem causeP_len {c : Br} (h1 : 0 ≤ c.fm ∧ c.fm ≤ 1073741824) (h2 : 0 ≤ c.tt ∧ c.tt ≤ 1073741824) : lensT (causeP c) ≤ 100 := by
  have a := txtI_size h1
  have b := txtI_size h2
  show 4 + 1 + ((txtI c.fm).size + 1 + (2 + 1 + ((txtI c.tt).size + 1 + (13 + 1 + 0)))) ≤ 100
  omega
theorem causeL_len {c : Br} (h : badC c = false) : lensT (causeL c) ≤ 300 := by
  obtain ⟨⟨_, h1, _, h2⟩, h3, h4⟩ := badC_f h
  have a := causeP_len h3 h4
  have b := lensT_nums h1
  unfold causeL
  rw [lensT_append]
  omega
theorem headN_len {x : Lt} (h1 : 0 ≤ x.fl ∧ x.fl ≤ 1073741824) (h2 : 0 ≤ x.fr ∧ x.fr ≤ 1073741824) : lensT (headN x) ≤ 200 := by
  have a := txtI_size h1
  have b := txtI_size h2
  show 4 + 1 + ((txtI x.fl).size + 1 + (5 + 1 + ((txtI x.fr).size + 1 + (13 + 1 + 0)))) ≤ 200
  omega
theorem headD_len {x : Lt} (h1 : 0 ≤ x.fl ∧ x.fl ≤ 1073741824) (h2 : 0 ≤ x.fr ∧ x.fr ≤ 1073741824) (h3 : 0 ≤ x.sl ∧ x.sl ≤ 1073741824) : lensT (headD x) ≤ 200 := by
  have a := txtI_size h1
  have b := txtI_size h2
  have c := txtI_size h3
  show 4 + 1 + ((txtI x.fl).size + 1 + (5 + 1 + ((txtI x.fr).size + 1 + (28 + 1 + ((txtI x.sl).size + 1 + 0))))) ≤ 200
  omega
theorem outT_size {h : ByteArray} : ∀ {l : List Br}, l.any badC = false → (outT h l).size ≤ h.size + 400 * l.length := by
  intro l
  induction l generalizing h with
  | nil => intro _; exact Nat.le_refl _
  | cons c l ih =>
    intro hb
    rw [List.any_cons, Bool.or_eq_false_iff] at hb
    have h1 := ih (h := h ++ lineT (causeL c)) hb.2
    have h2 := lineT_size (causeL c)
    have h3 := causeL_len hb.1
    rw [ByteArray.size_append] at h1
    show (outT (h ++ lineT (causeL c)) l).size ≤ _
    rw [List.length_cons]
    omega
theorem outT_snoc (h : ByteArray) (l : List Br) (c : Br) : outT h (l ++ [c]) = outT h l ++ lineT (causeL c) := by
  unfold outT
  rw [List.foldl_append]
  rfl
end Go.Proofs.YticnppnejafhdaaGreatDoor
/- The example of the laws: plain. -/
namespace Go.Proofs.YticnppnejafhdaaGreatDoor
open Go.RowKit
open Nd Rc Mo
open Av
set_option maxRecDepth 100000
set_option linter.unusedSimpArgs false

def nL : Net := ⟨3, 1, 1000, [[0, 9, 0], [9, 0, 9], [0, 9, 0]], [⟨0, 1, 1⟩, ⟨1, 0, 1⟩, ⟨1, 2, 1⟩, ⟨2, 1, 1⟩], [5, 5, 5, 5]⟩
def fL : Fl := ⟨6, 2, 0, 8, 0, 8⟩
def psL : List (List Int) := [[2, 1, 0]]
def atL (j : Nat) : Att := ⟨25 + (j : Int), 3, 1 + (j : Int), 0, 2, 1, 6, 3⟩
def rL : Rec := ⟨32, [atL 0, atL 1], []⟩
def bL : Br := ⟨6, 3, 2, 1, [25, 26]⟩
def xL : Ex := ⟨⟨6, 3, -1⟩, [bL]⟩
def yL : Ex := ⟨⟨6, 3, -1⟩, []⟩
def sL : ByteArray := ⟨#[102, 108, 111, 119, 32, 54, 32, 102, 114, 97, 109, 101, 32, 51, 32, 110, 111, 116, 32, 100, 101, 108, 105, 118, 101, 114, 101, 100, 10, 108, 105, 110, 107, 32, 50, 32, 116, 111, 32, 49, 32, 108, 111, 115, 116, 32, 105, 110, 32, 115, 108, 111, 116, 115, 32, 50, 53, 32, 50, 54, 10]⟩
theorem aw_find3 : findX nL fL psL rL 3 = (xL, 0) := of_decide_eq_true (by kernel_rfl)
theorem aw_find2 : findX nL fL psL rL 2 = (ex0, 7) := of_decide_eq_true (by kernel_rfl)
theorem aw_causes : causesR nL fL rL 3 2 1 = ([bL], 0) := of_decide_eq_true (by kernel_rfl)
theorem aw_ck : checkX nL fL psL rL xL = 0 := of_decide_eq_true (by kernel_rfl)
theorem aw_ck2 : checkX nL fL psL rL yL = 20 := of_decide_eq_true (by kernel_rfl)
theorem txt1 {n : Nat} (h : n < 10) : txtI (n : Int) = ⟨#[UInt8.ofNat (48 + n)]⟩ := by
  unfold txtI
  rw [Lib.itoa_nonneg, Lib.decDigits, dif_pos h]
theorem txt2 {n : Nat} (h0 : 10 ≤ n) (h : n < 100) : txtI (n : Int) = ⟨#[UInt8.ofNat (48 + n / 10), UInt8.ofNat (48 + n % 10)]⟩ := by
  unfold txtI
  rw [Lib.itoa_nonneg, Lib.decDigits, dif_neg (by omega), Lib.decDigits, dif_pos (by omega)]
  rfl
theorem aw_fmt : fmtX xL = (sL, 0) := by
  have t1 : txtI 1 = ⟨#[49]⟩ := txt1 (n := 1) (by decide)
  have t2 : txtI 2 = ⟨#[50]⟩ := txt1 (n := 2) (by decide)
  have t3 : txtI 3 = ⟨#[51]⟩ := txt1 (n := 3) (by decide)
  have t6 : txtI 6 = ⟨#[54]⟩ := txt1 (n := 6) (by decide)
  have t25 : txtI 25 = ⟨#[50, 53]⟩ := txt2 (n := 25) (by decide) (by decide)
  have t26 : txtI 26 = ⟨#[50, 54]⟩ := txt2 (n := 26) (by decide) (by decide)
  have h1 : lineT (headL xL.lt) = ⟨#[102, 108, 111, 119, 32, 54, 32, 102, 114, 97, 109, 101, 32, 51, 32, 110, 111, 116, 32, 100, 101, 108, 105, 118, 101, 114, 101, 100, 10]⟩ := by
    show joinT [⟨#[102, 108, 111, 119]⟩, txtI 6, ⟨#[102, 114, 97, 109, 101]⟩, txtI 3, ⟨#[110, 111, 116, 32, 100, 101, 108, 105, 118, 101, 114, 101, 100]⟩] ⟨#[32]⟩ ++ ⟨#[10]⟩ = _
    rw [t6, t3]
    rfl
  have h2 : lineT (causeL bL) = ⟨#[108, 105, 110, 107, 32, 50, 32, 116, 111, 32, 49, 32, 108, 111, 115, 116, 32, 105, 110, 32, 115, 108, 111, 116, 115, 32, 50, 53, 32, 50, 54, 10]⟩ := by
    show joinT [⟨#[108, 105, 110, 107]⟩, txtI 2, ⟨#[116, 111]⟩, txtI 1, ⟨#[108, 111, 115, 116, 32, 105, 110, 32, 115, 108, 111, 116, 115]⟩, txtI 25, txtI 26] ⟨#[32]⟩ ++ ⟨#[10]⟩ = _
    rw [t1, t2, t25, t26]
    rfl
  have h3 : fmtX xL = (lineT (headL xL.lt) ++ lineT (causeL bL), 0) := rfl
  rw [h3, h1, h2]
  rfl
end Go.Proofs.YticnppnejafhdaaGreatDoor
/- The example of the laws, by abstract states. -/
namespace Go.Proofs.YticnppnejafhdaaGreatDoor
open Go.RowKit
open Nd Rc Mo
open Av
set_option maxRecDepth 100000
set_option linter.unusedSimpArgs false
attribute [local go_sem] Av.guardB Av.sop Av.hopx Av.hop Av.hopCall Av.hopF Av.hopB Av.evo Av.evos Av.avCells Av.loadK Av.bound Av.abin Av.aun Av.partsC Av.lfill Av.placesB Av.setAt Av.stl Av.takes Av.src Av.bxOf Av.ownOf Av.St.res Av.St.put Av.St.addBox Av.St.putOwn Av.delL Av.delS Av.look Av.lookL Av.storeSt Av.stealSt Av.St.setBox Av.keepL Av.hitB Av.snap Av.snaps Av.snapCaps Av.AV.lit Av.AV.refs Av.capRefs Av.PV.av Av.CV.av Av.startSt Av.steals Av.athen Av.ablock Av.appK Av.AllS Av.AllO Av.AllR Av.keepS Av.St.avAt Av.RetOK Av.retAll Av.retOne Av.intsOf Av.ptrB TypeDesc.isRow List.range_zero Option.some.injEq exists_eq_left' exists_eq_left exists_eq' exists_and_left exists_and_right exists_const true_and and_true and_self false_and and_false or_false false_or or_true true_or if_true if_false Bool.false_eq_true List.zipIdx_cons List.zipIdx_nil List.map_cons List.map_nil List.filter_cons List.filter_nil List.contains_cons List.contains_nil List.drop_succ_cons List.drop_zero List.take_succ_cons List.take_zero List.take_nil List.drop_nil List.length_cons List.length_nil List.cons_append List.nil_append List.append_nil List.getElem?_cons_zero List.getElem?_cons_succ List.getElem?_nil Option.bind_some Option.bind_none Option.map_some Option.map_none Option.isNone_none Option.isNone_some Option.isSome_some Option.isSome_none Bool.and_true Bool.true_and Bool.and_false Bool.false_and Bool.or_false Bool.false_or Bool.not_true Bool.not_false beq_true beq_false Bool.true_beq Bool.false_beq Loc.s.injEq Loc.b.injEq decide_true decide_false beq_self_eq_true Nat.zero_add Nat.add_zero List.getElem?_toArray List.toList_toArray List.size_toArray Value.oneCell' List.all_cons List.all_nil Value.int.injEq AV.v.injEq AV.sl.injEq AV.agg.injEq AV.ref.injEq AV.ept.injEq AV.tup.injEq Value.bool.injEq PV.v.injEq PV.sl.injEq List.isEmpty_nil List.isEmpty_cons forall_const not_true_eq_false not_false_eq_true true_implies false_implies Value.string.injEq List.length_map List.getElem?_map Int.toNat_natCast Int.natCast_nonneg List.length_append Value.cells implies_true TypeDesc.struct.injEq TypeDesc.slice.injEq TypeDesc.array.injEq List.getElem?_toArray Prod.mk.injEq and_assoc exists_false List.cons.injEq Operand.tmp.injEq ite_self AV.fnv.injEq AV.clo.injEq ne_eq eq_self Tryz.sz3 Tryz.zr3 Tryz.by3 Tryz.pl3 Tryz.is3 Tryz.underlying3 Tryz.sz4 Tryz.zr4 Tryz.by4 Tryz.pl4 Tryz.is4 Tryz.underlying4 Tryz.sz43 Tryz.zr43 Tryz.by43 Tryz.pl43 Tryz.is43 Tryz.underlying43 Tryz.sz35 Tryz.zr35 Tryz.by35 Tryz.pl35 Tryz.is35 Tryz.underlying35 Tryz.sz33 Tryz.zr33 Tryz.by33 Tryz.pl33 Tryz.is33 Tryz.underlying33 Tryz.sz28 Tryz.zr28 Tryz.by28 Tryz.pl28 Tryz.is28 Tryz.underlying28 Tryz.sz39 Tryz.zr39 Tryz.by39 Tryz.pl39 Tryz.is39 Tryz.underlying39 Tryz.sz57 Tryz.zr57 Tryz.by57 Tryz.pl57 Tryz.is57 Tryz.underlying57 Tryz.sz137 Tryz.zr137 Tryz.by137 Tryz.pl137 Tryz.is137 Tryz.underlying137 Tryz.sz66 Tryz.zr66 Tryz.by66 Tryz.pl66 Tryz.is66 Tryz.underlying66 Tryz.sz64 Tryz.zr64 Tryz.by64 Tryz.pl64 Tryz.is64 Tryz.underlying64 Tryz.sz60 Tryz.zr60 Tryz.by60 Tryz.pl60 Tryz.is60 Tryz.underlying60 Tryz.sz100 Tryz.zr100 Tryz.by100 Tryz.pl100 Tryz.is100 Tryz.underlying100 Tryz.sz103 Tryz.zr103 Tryz.by103 Tryz.pl103 Tryz.is103 Tryz.underlying103 Tryz.sz26 Tryz.zr26 Tryz.by26 Tryz.pl26 Tryz.is26 Tryz.underlying26 Tryz.sz120 Tryz.zr120 Tryz.by120 Tryz.pl120 Tryz.is120 Tryz.underlying120 Tryz.sz117 Tryz.zr117 Tryz.by117 Tryz.pl117 Tryz.is117 Tryz.underlying117 Tryz.sz30 Tryz.zr30 Tryz.by30 Tryz.pl30 Tryz.is30 Tryz.underlying30 Tryz.sz31 Tryz.zr31 Tryz.by31 Tryz.pl31 Tryz.is31 Tryz.underlying31 Tryz.sz40 Tryz.zr40 Tryz.by40 Tryz.pl40 Tryz.is40 Tryz.underlying40 Tryz.sz23 Tryz.zr23 Tryz.by23 Tryz.pl23 Tryz.is23 Tryz.underlying23 Tryz.sz24 Tryz.zr24 Tryz.by24 Tryz.pl24 Tryz.is24 Tryz.underlying24 Tryz.sz22 Tryz.zr22 Tryz.by22 Tryz.pl22 Tryz.is22 Tryz.underlying22 Tryz.sz141 Tryz.zr141 Tryz.by141 Tryz.pl141 Tryz.is141 Tryz.underlying141 Tryz.sz42 Tryz.zr42 Tryz.by42 Tryz.pl42 Tryz.is42 Tryz.underlying42 Tryz.sz29 Tryz.zr29 Tryz.by29 Tryz.pl29 Tryz.is29 Tryz.underlying29 Tryz.sz83 Tryz.zr83 Tryz.by83 Tryz.pl83 Tryz.is83 Tryz.underlying83 Tryz.sz67 Tryz.zr67 Tryz.by67 Tryz.pl67 Tryz.is67 Tryz.underlying67 Tryz.sz20 Tryz.zr20 Tryz.by20 Tryz.pl20 Tryz.is20 Tryz.underlying20 Tryz.sz89 Tryz.zr89 Tryz.by89 Tryz.pl89 Tryz.is89 Tryz.underlying89 Tryz.sz132 Tryz.zr132 Tryz.by132 Tryz.pl132 Tryz.is132 Tryz.underlying132 Tryz.sz113 Tryz.zr113 Tryz.by113 Tryz.pl113 Tryz.is113 Tryz.underlying113 Tryz.sz9 Tryz.zr9 Tryz.by9 Tryz.pl9 Tryz.is9 Tryz.underlying9 Tryz.it39 Tryz.eg39 Tryz.it137 Tryz.eg137 Tryz.it66 Tryz.eg66 Tryz.it28 Tryz.eg28 Tryz.it60 Tryz.eg60 all_arr loc_ss loc_sb loc_bs loc_bb arr_two arr_one rg1 rg2 rg3 rg4 rg5 rg6 rg7 rg8 ResultVar.tmp.injEq Bool.not_true Bool.not_false undef Rc.Rec.pv Nd.Fl.pv Rc.Dlv.pv Rc.Att.pv Mo.Lt.pv Fn.func.injEq Mo.Net.pv Mo.Lk.pv prow_pv irow_pv Br.pv
theorem cz0 : ((0 : Nat) : Int) = 0 := rfl
theorem cz1 : ((1 : Nat) : Int) = 1 := rfl
theorem cz2 : ((2 : Nat) : Int) = 2 := rfl
theorem cz3 : ((3 : Nat) : Int) = 3 := rfl
theorem cz4 : ((4 : Nat) : Int) = 4 := rfl
theorem tz0 : Int.toNat 0 = 0 := rfl
theorem tz1 : Int.toNat 1 = 1 := rfl
theorem tz2 : Int.toNat 2 = 2 := rfl
theorem tz3 : Int.toNat 3 = 3 := rfl

set_option maxHeartbeats 20000000 in
theorem lineL_ok : FnOK Tryz.prog 31 [] ⟨.tup [.g nL.pv, .g fL.pv, .c (.sl 1 (psL.map prow_pv))], none⟩ := by
  refine fn_ok Tryz.func31 (by kernel_rfl) rfl (by rw [Tryz.ntmps31]; exact of_decide_eq_true rfl) (fun F hF => ?_)
  rw [Tryz.ntmps31] at hF
  rw [Tryz.results31]
  repeat (first
    | (with_reducible (first | refine sops_go ?_ | refine headW_end ?_ | refine sops_end ?_ | refine awp_if ?_ | refine awp_skip ?_ | refine awp_ret ?_ | refine awp_exit ?_); simp only [go_sem, simprocAttr, hF, cz0, cz1, cz2, cz3, cz4, tz0, tz1, tz2, tz3])
    | with_reducible (first | refine awp_seq_k fun _ _ => ?_ | refine awp_region [23] ?_ | refine awp_block ?_)
    | go_step)
  refine awp_nilB 3 4 3 60 (cs := _) rfl rfl ?_
  simp only [go_sem, simprocAttr, hF, cz0, cz1, cz2, cz3, cz4, tz0, tz1, tz2, tz3]
  repeat (first
    | (with_reducible (first | refine sops_go ?_ | refine headW_end ?_ | refine sops_end ?_ | refine awp_if ?_ | refine awp_skip ?_ | refine awp_ret ?_ | refine awp_exit ?_); simp only [go_sem, simprocAttr, hF, cz0, cz1, cz2, cz3, cz4, tz0, tz1, tz2, tz3])
    | with_reducible (first | refine awp_seq_k fun _ _ => ?_ | refine awp_region [23] ?_ | refine awp_block ?_)
    | go_step)
  refine awp_loop_by (ι := {k : Nat // k ≤ 4}) (fun k σ => ⟨(18, iv (k.1 : Int)) :: keepS [0, 1, 3, 16, 17] σ.slot, (3, [ip 3, .sl 1 (nL.pow.map prow_pv), ip 1, ip 1000, .sl 3 ((nL.lk.take k.1).map Lk.pv), .sl 1 (nL.mg.map irow_pv)]) :: keepS [0, 1] σ.box, [(.b 3 4, (60, 3))], σ.ext⟩) (fun k => 4 - k.1) ⟨0, by omega⟩ (sub_mk ?_) (fun R hR k => ?_)
  · simp only [go_sem, simprocAttr, hF]
    repeat' (first | rfl | refine ⟨?_, ?_⟩)
  obtain ⟨k, hk⟩ := k
  dsimp only
  simp only [go_sem, simprocAttr, hF]
  have hks : k = 0 ∨ k = 1 ∨ k = 2 ∨ k = 3 ∨ k = 4 := by omega
  rcases hks with rfl | rfl | rfl | rfl | rfl
  · have hd : decide (((0 : Nat) : Int) < 4) = true := rfl
    have hw : IntKind.i64.wrap (((0 : Nat) : Int) + 1) = ((1 : Nat) : Int) := rfl
    have hTk : (nL.lk.take 0).length ≤ 99999999 := by decide
    repeat (first
      | (with_reducible (first | refine sops_go ?_ | refine headW_end ?_ | refine sops_end ?_ | refine awp_if ?_ | refine awp_skip ?_ | refine awp_ret ?_ | refine awp_exit ?_); simp only [go_sem, simprocAttr, hF, hd, hTk, Int.toNat_natCast, tz0, tz1, tz2, tz3])
      | with_reducible (first | refine awp_seq_k fun _ _ => ?_ | refine awp_region [23] ?_ | refine awp_block ?_)
      | go_step)
    refine ⟨⟨1, by omega⟩, by dsimp only; omega, hR _ _ (sub_mk ?_)⟩
    simp only [go_sem, simprocAttr, hF, hw]
    repeat' (first | rfl | exact True.intro | refine ⟨?_, ?_⟩)
  · have hd : decide (((1 : Nat) : Int) < 4) = true := rfl
    have hw : IntKind.i64.wrap (((1 : Nat) : Int) + 1) = ((2 : Nat) : Int) := rfl
    have hTk : (nL.lk.take 1).length ≤ 99999999 := by decide
    repeat (first
      | (with_reducible (first | refine sops_go ?_ | refine headW_end ?_ | refine sops_end ?_ | refine awp_if ?_ | refine awp_skip ?_ | refine awp_ret ?_ | refine awp_exit ?_); simp only [go_sem, simprocAttr, hF, hd, hTk, Int.toNat_natCast, tz0, tz1, tz2, tz3])
      | with_reducible (first | refine awp_seq_k fun _ _ => ?_ | refine awp_region [23] ?_ | refine awp_block ?_)
      | go_step)
    refine ⟨⟨2, by omega⟩, by dsimp only; omega, hR _ _ (sub_mk ?_)⟩
    simp only [go_sem, simprocAttr, hF, hw]
    repeat' (first | rfl | exact True.intro | refine ⟨?_, ?_⟩)
  · have hd : decide (((2 : Nat) : Int) < 4) = true := rfl
    have hw : IntKind.i64.wrap (((2 : Nat) : Int) + 1) = ((3 : Nat) : Int) := rfl
    have hTk : (nL.lk.take 2).length ≤ 99999999 := by decide
    repeat (first
      | (with_reducible (first | refine sops_go ?_ | refine headW_end ?_ | refine sops_end ?_ | refine awp_if ?_ | refine awp_skip ?_ | refine awp_ret ?_ | refine awp_exit ?_); simp only [go_sem, simprocAttr, hF, hd, hTk, Int.toNat_natCast, tz0, tz1, tz2, tz3])
      | with_reducible (first | refine awp_seq_k fun _ _ => ?_ | refine awp_region [23] ?_ | refine awp_block ?_)
      | go_step)
    refine ⟨⟨3, by omega⟩, by dsimp only; omega, hR _ _ (sub_mk ?_)⟩
    simp only [go_sem, simprocAttr, hF, hw]
    repeat' (first | rfl | exact True.intro | refine ⟨?_, ?_⟩)
  · have hd : decide (((3 : Nat) : Int) < 4) = true := rfl
    have hw : IntKind.i64.wrap (((3 : Nat) : Int) + 1) = ((4 : Nat) : Int) := rfl
    have hTk : (nL.lk.take 3).length ≤ 99999999 := by decide
    repeat (first
      | (with_reducible (first | refine sops_go ?_ | refine headW_end ?_ | refine sops_end ?_ | refine awp_if ?_ | refine awp_skip ?_ | refine awp_ret ?_ | refine awp_exit ?_); simp only [go_sem, simprocAttr, hF, hd, hTk, Int.toNat_natCast, tz0, tz1, tz2, tz3])
      | with_reducible (first | refine awp_seq_k fun _ _ => ?_ | refine awp_region [23] ?_ | refine awp_block ?_)
      | go_step)
    refine ⟨⟨4, by omega⟩, by dsimp only; omega, hR _ _ (sub_mk ?_)⟩
    simp only [go_sem, simprocAttr, hF, hw]
    repeat' (first | rfl | exact True.intro | refine ⟨?_, ?_⟩)
  · have hd : decide (((4 : Nat) : Int) < 4) = false := rfl
    repeat (first
      | (with_reducible (first | refine sops_go ?_ | refine headW_end ?_ | refine sops_end ?_ | refine awp_if ?_ | refine awp_skip ?_ | refine awp_ret ?_ | refine awp_exit ?_); simp only [go_sem, simprocAttr, hF, hd])
      | with_reducible (first | refine awp_seq_k fun _ _ => ?_ | refine awp_region [23] ?_ | refine awp_block ?_)
      | go_step)
    all_goals (first | rfl | exact .inr rfl)
/- explain.line, by abstract states. -/
attribute [local go_sem] Pt.row Pt.pv strRow Av.startStC
set_option maxHeartbeats 20000000 in
theorem line_okC (C : World → Prop) (hst : ∀ {w w' : World}, Below w.heap.size w w' → C w → C w') (l : List Pt) (hI : ∀ i, Pt.n i ∈ l → FnOKC Tryz.prog C 88 [iv i] ⟨.v (.string (txtI i)), none⟩) (hll : l.length ≤ 100000) (hlen : lensT l ≤ 1000000) : FnOKC Tryz.prog C 45 [.sl 1 (l.map Pt.row)] ⟨.v (.string (lineT l)), none⟩ := by
  have hjl := joinT_len l
  have hsz : (joinT (l.map Pt.txt) ⟨#[32]⟩).size ≤ 9223372036854775806 := by
    have e1 : (joinT (l.map Pt.txt) ⟨#[32]⟩).size = (Lib.join ((l.map Pt.txt).map (·.data.toList)) [32]).length := List.size_toArray
    omega
  refine fn_okC (C := C) Tryz.func45 (by kernel_rfl) rfl (by rw [Tryz.ntmps45]; exact of_decide_eq_true rfl) (fun F hF => ?_)
  rw [Tryz.ntmps45] at hF
  rw [Tryz.results45]
  repeat (first
    | (with_reducible (first | refine sops_go ?_ | refine headW_end ?_ | refine sops_end ?_ | refine awp_if ?_ | refine awp_skip ?_ | refine awp_ret ?_ | refine awp_exit ?_); simp only [go_sem, simprocAttr, hF])
    | with_reducible (first | refine awp_seq_k fun _ _ => ?_ | refine awp_region [18, 26, 1000015, 1000020, 1000023] ?_ | refine awp_block ?_)
    | go_step)
  refine awp_nil 3 1 9 (by rw [hF]; decide) (by first | rfl | simp only [Av.look]; rfl) ?_
  simp only [go_sem, simprocAttr, hF]
  repeat (first
    | (with_reducible (first | refine sops_go ?_ | refine headW_end ?_ | refine sops_end ?_ | refine awp_if ?_ | refine awp_skip ?_ | refine awp_ret ?_ | refine awp_exit ?_); simp only [go_sem, simprocAttr, hF])
    | with_reducible (first | refine awp_seq_k fun _ _ => ?_ | refine awp_region [18, 26, 1000015, 1000020, 1000023] ?_ | refine awp_block ?_)
    | go_step)
  refine awp_loop_by (ι := {k : Nat // k ≤ l.length}) (fun k σ => ⟨(10, iv (k.1 : Int)) :: (3, .sl 1 (((l.take k.1).map Pt.txt).map strRow)) :: keepS [8, 9] σ.slot, [], [(.s 3, (9, 1))], σ.ext⟩) (fun k => l.length - k.1) ⟨0, by omega⟩ (sub_mk ?_) (fun R hR k => ?_)
  · simp only [go_sem, simprocAttr, hF]
    repeat' (first | rfl | refine ⟨?_, ?_⟩)
  obtain ⟨k, hk⟩ := k
  dsimp only
  simp only [go_sem, simprocAttr, hF]
  by_cases hlt : k < l.length
  case neg =>
    have hd : decide ((k : Int) < (l.length : Int)) = false := decide_eq_false (by omega)
    obtain rfl : k = l.length := by omega
    repeat (first
      | (with_reducible (first | refine sops_go ?_ | refine headW_end ?_ | refine sops_end ?_ | refine awp_if ?_ | refine awp_skip ?_ | refine awp_ret ?_ | refine awp_exit ?_); simp only [go_sem, simprocAttr, hF, hd, List.take_length])
      | with_reducible (first | refine awp_seq_k fun _ _ => ?_ | refine awp_region [18, 26, 1000015, 1000020, 1000023] ?_ | refine awp_block ?_)
      | go_step)
    refine ⟨_, join_ok (l.map Pt.txt) ⟨#[32]⟩ (by rw [List.length_map]; omega) (Nat.le_trans hjl (by omega)), ?_⟩
    simp only [go_sem, simprocAttr, hF, hsz]
    repeat (first
      | (with_reducible (first | refine sops_go ?_ | refine headW_end ?_ | refine sops_end ?_ | refine awp_if ?_ | refine awp_skip ?_ | refine awp_ret ?_ | refine awp_exit ?_); simp only [go_sem, simprocAttr, hF, hsz])
      | with_reducible (first | refine awp_seq_k fun _ _ => ?_ | refine awp_region [18, 26, 1000015, 1000020, 1000023] ?_ | refine awp_block ?_)
      | go_step)
    all_goals (try rfl)
  obtain ⟨p, hdk⟩ := get_of_lt hlt
  have hd : decide ((k : Int) < (l.length : Int)) = true := decide_eq_true (by omega)
  have hw : IntKind.i64.wrap ((k : Int) + 1) = ((k + 1 : Nat) : Int) := by rw [IntKind.wrap_i64]; omega
  have hT : List.take (k + 1) l = List.take k l ++ [p] := by rw [List.take_add_one, hdk]; rfl
  have hL : (List.take k l).length ≤ 99999999 := by rw [List.length_take]; omega
  cases p with
  | n i =>
    repeat (first
      | (with_reducible (first | refine sops_go ?_ | refine headW_end ?_ | refine sops_end ?_ | refine awp_if ?_ | refine awp_skip ?_ | refine awp_ret ?_ | refine awp_exit ?_); simp only [go_sem, simprocAttr, hF, hd, hdk])
      | with_reducible (first | refine awp_seq_k fun _ _ => ?_ | refine awp_region [18, 26, 1000015, 1000020, 1000023] ?_ | refine awp_block ?_)
      | go_step)
    refine hand_assert (d := 15) (T := 20) (U := 3) (t := 3) (u := .int .i64 i) (z := .int .i64 0) rfl rfl (by decide) rfl Tryz.underlying3 (fun _ h => by cases h) Tryz.zr3 rfl rfl ?_
    simp only [go_sem, simprocAttr, hF]
    repeat (first
      | (with_reducible (first | refine sops_go ?_ | refine headW_end ?_ | refine sops_end ?_ | refine awp_if ?_ | refine awp_skip ?_ | refine awp_ret ?_ | refine awp_exit ?_); simp only [go_sem, simprocAttr, hF])
      | with_reducible (first | refine awp_seq_k fun _ _ => ?_ | refine awp_region [18, 26, 1000015, 1000020, 1000023] ?_ | refine awp_block ?_)
      | go_step)
    refine hand_fnC (d := 20) (C := C) hst rfl rfl (by decide) rfl rfl rfl (hI i (List.mem_of_getElem? hdk)) rfl ?_
    simp only [go_sem, simprocAttr, hF, hL]
    repeat (first
      | (with_reducible (first | refine sops_go ?_ | refine headW_end ?_ | refine sops_end ?_ | refine awp_if ?_ | refine awp_skip ?_ | refine awp_ret ?_ | refine awp_exit ?_); simp only [go_sem, simprocAttr, hF, hL])
      | with_reducible (first | refine awp_seq_k fun _ _ => ?_ | refine awp_region [18, 26, 1000015, 1000020, 1000023] ?_ | refine awp_block ?_)
      | go_step)
    refine ⟨⟨k + 1, by omega⟩, by dsimp only; omega, hR _ _ (sub_mk ?_)⟩
    simp only [go_sem, simprocAttr, hF, hw, hT, List.map_append, List.map_cons, List.map_nil, Pt.txt]
  | s t =>
    repeat (first
      | (with_reducible (first | refine sops_go ?_ | refine headW_end ?_ | refine sops_end ?_ | refine awp_if ?_ | refine awp_skip ?_ | refine awp_ret ?_ | refine awp_exit ?_); simp only [go_sem, simprocAttr, hF, hd, hdk])
      | with_reducible (first | refine awp_seq_k fun _ _ => ?_ | refine awp_region [18, 26, 1000015, 1000020, 1000023] ?_ | refine awp_block ?_)
      | go_step)
    refine hand_assert (d := 15) (T := 20) (U := 3) (t := 9) (u := .string t) (z := .int .i64 0) rfl rfl (by decide) rfl Tryz.underlying3 (fun _ h => by cases h) Tryz.zr3 rfl rfl ?_
    simp only [go_sem, simprocAttr, hF]
    repeat (first
      | (with_reducible (first | refine sops_go ?_ | refine headW_end ?_ | refine sops_end ?_ | refine awp_if ?_ | refine awp_skip ?_ | refine awp_ret ?_ | refine awp_exit ?_); simp only [go_sem, simprocAttr, hF])
      | with_reducible (first | refine awp_seq_k fun _ _ => ?_ | refine awp_region [18, 26, 1000015, 1000020, 1000023] ?_ | refine awp_block ?_)
      | go_step)
    refine hand_assert (d := 23) (T := 20) (U := 9) (t := 9) (u := .string t) (z := .string ⟨#[]⟩) rfl rfl (by decide) rfl Tryz.underlying9 (fun _ h => by cases h) Tryz.zr9 rfl rfl ?_
    simp only [go_sem, simprocAttr, hF]
    repeat (first
      | (with_reducible (first | refine sops_go ?_ | refine headW_end ?_ | refine sops_end ?_ | refine awp_if ?_ | refine awp_skip ?_ | refine awp_ret ?_ | refine awp_exit ?_); simp only [go_sem, simprocAttr, hF, hL])
      | with_reducible (first | refine awp_seq_k fun _ _ => ?_ | refine awp_region [18, 26, 1000015, 1000020, 1000023] ?_ | refine awp_block ?_)
      | go_step)
    refine ⟨⟨k + 1, by omega⟩, by dsimp only; omega, hR _ _ (sub_mk ?_)⟩
    simp only [go_sem, simprocAttr, hF, hw, hT, List.map_append, List.map_cons, List.map_nil, Pt.txt]
end Go.Proofs.YticnppnejafhdaaGreatDoor

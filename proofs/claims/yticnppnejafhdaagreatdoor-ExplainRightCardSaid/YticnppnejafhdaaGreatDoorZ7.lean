import Derived.Test.YticnppnejafhdaaGreatDoorZ6
set_option linter.unusedVariables false
set_option linter.unusedSimpArgs false
/- Usable links, by abstract states. -/
namespace Go.Proofs.YticnppnejafhdaaGreatDoor
open Go.RowKit
open Nd Rc Mo
open Av
set_option maxRecDepth 100000
set_option linter.unusedSimpArgs false
attribute [local go_sem] Av.guardB Av.sop Av.hopx Av.hop Av.hopCall Av.hopF Av.hopB Av.evo Av.evos Av.avCells Av.loadK Av.bound Av.abin Av.aun Av.partsC Av.lfill Av.placesB Av.setAt Av.stl Av.takes Av.src Av.bxOf Av.ownOf Av.St.res Av.St.put Av.St.addBox Av.St.putOwn Av.delL Av.delS Av.look Av.lookL Av.storeSt Av.stealSt Av.St.setBox Av.keepL Av.hitB Av.snap Av.snaps Av.snapCaps Av.AV.lit Av.AV.refs Av.capRefs Av.PV.av Av.CV.av Av.startSt Av.steals Av.athen Av.ablock Av.appK Av.AllS Av.AllO Av.AllR Av.keepS Av.St.avAt Av.RetOK Av.retAll Av.retOne Av.intsOf Av.ptrB TypeDesc.isRow List.range_zero Option.some.injEq exists_eq_left' exists_eq_left exists_eq' exists_and_left exists_and_right exists_const true_and and_true and_self false_and and_false or_false false_or or_true true_or if_true if_false Bool.false_eq_true List.zipIdx_cons List.zipIdx_nil List.map_cons List.map_nil List.filter_cons List.filter_nil List.contains_cons List.contains_nil List.drop_succ_cons List.drop_zero List.take_succ_cons List.take_zero List.take_nil List.drop_nil List.length_cons List.length_nil List.cons_append List.nil_append List.append_nil List.getElem?_cons_zero List.getElem?_cons_succ List.getElem?_nil Option.bind_some Option.bind_none Option.map_some Option.map_none Option.isNone_none Option.isNone_some Option.isSome_some Option.isSome_none Bool.and_true Bool.true_and Bool.and_false Bool.false_and Bool.or_false Bool.false_or Bool.not_true Bool.not_false beq_true beq_false Bool.true_beq Bool.false_beq Loc.s.injEq Loc.b.injEq decide_true decide_false beq_self_eq_true Nat.zero_add Nat.add_zero List.getElem?_toArray List.toList_toArray List.size_toArray Value.oneCell' List.all_cons List.all_nil Value.int.injEq AV.v.injEq AV.sl.injEq AV.agg.injEq AV.ref.injEq AV.ept.injEq AV.tup.injEq Value.bool.injEq PV.v.injEq PV.sl.injEq List.isEmpty_nil List.isEmpty_cons forall_const not_true_eq_false not_false_eq_true true_implies false_implies Value.string.injEq List.length_map List.getElem?_map Int.toNat_natCast Int.natCast_nonneg List.length_append Value.cells implies_true TypeDesc.struct.injEq TypeDesc.slice.injEq TypeDesc.array.injEq List.getElem?_toArray Prod.mk.injEq and_assoc exists_false List.cons.injEq Operand.tmp.injEq ite_self AV.fnv.injEq AV.clo.injEq ne_eq eq_self Tryz.sz3 Tryz.zr3 Tryz.by3 Tryz.pl3 Tryz.is3 Tryz.underlying3 Tryz.sz4 Tryz.zr4 Tryz.by4 Tryz.pl4 Tryz.is4 Tryz.underlying4 Tryz.sz43 Tryz.zr43 Tryz.by43 Tryz.pl43 Tryz.is43 Tryz.underlying43 Tryz.sz35 Tryz.zr35 Tryz.by35 Tryz.pl35 Tryz.is35 Tryz.underlying35 Tryz.sz33 Tryz.zr33 Tryz.by33 Tryz.pl33 Tryz.is33 Tryz.underlying33 Tryz.sz28 Tryz.zr28 Tryz.by28 Tryz.pl28 Tryz.is28 Tryz.underlying28 Tryz.sz39 Tryz.zr39 Tryz.by39 Tryz.pl39 Tryz.is39 Tryz.underlying39 Tryz.sz57 Tryz.zr57 Tryz.by57 Tryz.pl57 Tryz.is57 Tryz.underlying57 Tryz.sz137 Tryz.zr137 Tryz.by137 Tryz.pl137 Tryz.is137 Tryz.underlying137 Tryz.sz66 Tryz.zr66 Tryz.by66 Tryz.pl66 Tryz.is66 Tryz.underlying66 Tryz.sz64 Tryz.zr64 Tryz.by64 Tryz.pl64 Tryz.is64 Tryz.underlying64 Tryz.sz60 Tryz.zr60 Tryz.by60 Tryz.pl60 Tryz.is60 Tryz.underlying60 Tryz.sz100 Tryz.zr100 Tryz.by100 Tryz.pl100 Tryz.is100 Tryz.underlying100 Tryz.sz103 Tryz.zr103 Tryz.by103 Tryz.pl103 Tryz.is103 Tryz.underlying103 Tryz.sz26 Tryz.zr26 Tryz.by26 Tryz.pl26 Tryz.is26 Tryz.underlying26 Tryz.sz120 Tryz.zr120 Tryz.by120 Tryz.pl120 Tryz.is120 Tryz.underlying120 Tryz.sz117 Tryz.zr117 Tryz.by117 Tryz.pl117 Tryz.is117 Tryz.underlying117 Tryz.sz30 Tryz.zr30 Tryz.by30 Tryz.pl30 Tryz.is30 Tryz.underlying30 Tryz.sz31 Tryz.zr31 Tryz.by31 Tryz.pl31 Tryz.is31 Tryz.underlying31 Tryz.sz40 Tryz.zr40 Tryz.by40 Tryz.pl40 Tryz.is40 Tryz.underlying40 Tryz.sz23 Tryz.zr23 Tryz.by23 Tryz.pl23 Tryz.is23 Tryz.underlying23 Tryz.sz24 Tryz.zr24 Tryz.by24 Tryz.pl24 Tryz.is24 Tryz.underlying24 Tryz.sz22 Tryz.zr22 Tryz.by22 Tryz.pl22 Tryz.is22 Tryz.underlying22 Tryz.sz141 Tryz.zr141 Tryz.by141 Tryz.pl141 Tryz.is141 Tryz.underlying141 Tryz.sz42 Tryz.zr42 Tryz.by42 Tryz.pl42 Tryz.is42 Tryz.underlying42 Tryz.sz29 Tryz.zr29 Tryz.by29 Tryz.pl29 Tryz.is29 Tryz.underlying29 Tryz.sz83 Tryz.zr83 Tryz.by83 Tryz.pl83 Tryz.is83 Tryz.underlying83 Tryz.it39 Tryz.eg39 Tryz.it137 Tryz.eg137 Tryz.it66 Tryz.eg66 Tryz.it28 Tryz.eg28 Tryz.it60 Tryz.eg60 all_arr loc_ss loc_sb loc_bs loc_bb arr_two arr_one rg1 rg2 rg3 rg4 rg5 rg6 rg7 rg8 ResultVar.tmp.injEq Bool.not_true Bool.not_false undef Rc.Rec.pv Nd.Fl.pv Rc.Dlv.pv Rc.Att.pv Mo.Lt.pv Fn.func.injEq Mo.Net.pv Mo.Lk.pv prow_pv irow_pv Br.pv
structure SmallN (n : Net) : Prop where
  pow : n.pow.length ≤ 1000000
  rows : ∀ l ∈ n.pow, l.length ≤ 1000000
  lk : n.lk.length ≤ 1000000
  mg : n.mg.length ≤ 1000000
theorem idxL_cases (n : Net) (a b : Int) : idxL n a b = -1 ∨ ∃ (i : Nat) (x : Lk), n.lk[i]? = some x ∧ x.fr = a ∧ x.tt = b ∧ idxL n a b = (i : Int) := by
  rcases idxP_spec (lkP a b) n.lk 0 with ⟨h, _⟩ | ⟨i, x, h1, h2, h3, _⟩
  · exact .inl h
  · rw [lkP_iff] at h2
    exact .inr ⟨i, x, h1, h2.1, h2.2, by unfold idxL; rw [h3]; omega⟩
theorem heard_nums {n : Net} (hN : NetOK n) {s : Int} (h0 : 0 ≤ s) (h1 : s ≤ 68719476736) : IntKind.i64.wrap (s * 1000) = s * 1000 ∧ IntKind.i64.wrap (n.noise + 0) = n.noise + 0 ∧ IntKind.i64.wrap (n.thr * (n.noise + 0)) = n.thr * (n.noise + 0) := by
  obtain ⟨a0, a1⟩ := hN.noise
  obtain ⟨b0, b1⟩ := hN.thr
  have m1 : n.thr * (n.noise + 0) ≤ 100000 * 68719476736 := Int.mul_le_mul b1 (by omega) (by omega) (by omega)
  have m2 : 0 ≤ n.thr * (n.noise + 0) := Int.mul_nonneg (by omega) (by omega)
  refine ⟨?_, ?_, ?_⟩ <;> rw [IntKind.wrap_i64] <;> omega

set_option maxHeartbeats 2000000 in
theorem nfindP_ok (n : Net) (a b : Int) (hN : NetOK n) : FnOK Tryz.prog 82 [.agg n.pv, iv a, iv b] ⟨iv (idxL n a b), none⟩ := by
  have hx : idxL n a b = if bsB n.lk a b = true then 0 + (bsN n.lk a b : Int) else -1 := idx_bs (a := a) (b := b) (l := n.lk) 0 hN.sorted
  have hlen := hN.lk
  refine fn_ok Tryz.func82 (by kernel_rfl) rfl (by rw [Tryz.ntmps82]; exact of_decide_eq_true rfl) (fun F hF => ?_)
  rw [Tryz.ntmps82] at hF
  rw [Tryz.results82]
  repeat (first
    | (with_reducible (first | refine sops_go ?_ | refine headW_end ?_ | refine sops_end ?_ | refine awp_if ?_ | refine awp_skip ?_ | refine awp_ret ?_ | refine awp_exit ?_); simp only [go_sem, simprocAttr, hF])
    | with_reducible (first | refine awp_seq_k fun _ _ => ?_ | refine awp_region [] ?_ | refine awp_block ?_)
    | go_step)
  refine ⟨_, bs_ok n.lk a b hN.sorted (by omega), ?_⟩
  simp only [go_sem, simprocAttr, hF]
  cases hB : bsB n.lk a b with
  | false =>
    try simp only [go_sem, simprocAttr, hF, hB]
    repeat (first
      | (with_reducible (first | refine sops_go ?_ | refine headW_end ?_ | refine sops_end ?_ | refine awp_if ?_ | refine awp_skip ?_ | refine awp_ret ?_ | refine awp_exit ?_); simp only [go_sem, simprocAttr, hF, hB])
      | with_reducible (first | refine awp_seq_k fun _ _ => ?_ | refine awp_region [] ?_ | refine awp_block ?_)
      | go_step)
    rw [hx, hB, if_neg (by decide)]
  | true =>
    try simp only [go_sem, simprocAttr, hF, hB]
    repeat (first
      | (with_reducible (first | refine sops_go ?_ | refine headW_end ?_ | refine sops_end ?_ | refine awp_if ?_ | refine awp_skip ?_ | refine awp_ret ?_ | refine awp_exit ?_); simp only [go_sem, simprocAttr, hF, hB])
      | with_reducible (first | refine awp_seq_k fun _ _ => ?_ | refine awp_region [] ?_ | refine awp_block ?_)
      | go_step)
    rw [hx, hB, if_pos rfl, Int.zero_add]

set_option maxHeartbeats 2000000 in
theorem nindex_ok (n : Net) (a b : Int) (hS : SmallN n) (hc : chkN n = 0) : FnOK Tryz.prog 41 [.agg n.pv, iv a, iv b] ⟨iv (idxL n a b), none⟩ := by
  have hN := netOK hc
  have he : (chkN n != 0) = false := by rw [hc]; rfl
  refine fn_ok Tryz.func41 (by kernel_rfl) rfl (by rw [Tryz.ntmps41]; exact of_decide_eq_true rfl) (fun F hF => ?_)
  rw [Tryz.ntmps41] at hF
  rw [Tryz.results41]
  repeat (first
    | (with_reducible (first | refine sops_go ?_ | refine headW_end ?_ | refine sops_end ?_ | refine awp_if ?_ | refine awp_skip ?_ | refine awp_ret ?_ | refine awp_exit ?_); simp only [go_sem, simprocAttr, hF])
    | with_reducible (first | refine awp_seq_k fun _ _ => ?_ | refine awp_region [] ?_ | refine awp_block ?_)
    | go_step)
  refine ⟨_, ncheck_ok n hS.pow hS.rows hS.lk hS.mg, ?_⟩
  simp only [go_sem, simprocAttr, hF, he]
  repeat (first
    | (with_reducible (first | refine sops_go ?_ | refine headW_end ?_ | refine sops_end ?_ | refine awp_if ?_ | refine awp_skip ?_ | refine awp_ret ?_ | refine awp_exit ?_); simp only [go_sem, simprocAttr, hF, he])
    | with_reducible (first | refine awp_seq_k fun _ _ => ?_ | refine awp_region [] ?_ | refine awp_block ?_)
    | go_step)
  refine ⟨_, nfindP_ok n a b hN, ?_⟩
  simp only [go_sem, simprocAttr, hF]
  repeat (first
    | (with_reducible (first | refine sops_go ?_ | refine headW_end ?_ | refine sops_end ?_ | refine awp_if ?_ | refine awp_skip ?_ | refine awp_ret ?_ | refine awp_exit ?_); simp only [go_sem, simprocAttr, hF])
    | with_reducible (first | refine awp_seq_k fun _ _ => ?_ | refine awp_region [] ?_ | refine awp_block ?_)
    | go_step)
  all_goals (try rfl)

set_option maxHeartbeats 2000000 in
theorem hears_ok (n : Net) (s : Int) (hN : NetOK n) (h0 : 0 ≤ s) (h1 : s ≤ 68719476736) : FnOK Tryz.prog 178 [.agg n.pv, iv s, iv 0] ⟨bv (heardB n s), none⟩ := by
  obtain ⟨w1, w2, w3⟩ := heard_nums hN h0 h1
  unfold heardB
  refine fn_ok Tryz.func178 (by kernel_rfl) rfl (by rw [Tryz.ntmps178]; exact of_decide_eq_true rfl) (fun F hF => ?_)
  rw [Tryz.ntmps178] at hF
  rw [Tryz.results178]
  repeat (first
    | (with_reducible (first | refine sops_go ?_ | refine headW_end ?_ | refine sops_end ?_ | refine awp_if ?_ | refine awp_skip ?_ | refine awp_ret ?_ | refine awp_exit ?_); simp only [go_sem, simprocAttr, hF, w1, w2, w3])
    | with_reducible (first | refine awp_seq_k fun _ _ => ?_ | refine awp_region [] ?_ | refine awp_block ?_)
    | go_step)
  all_goals (try rfl)

set_option maxHeartbeats 20000000 in
theorem usable_ok (n : Net) (i : Nat) (x : Lk) (m : Int) (hN : NetOK n) (hx : n.lk[i]? = some x) (hm : n.mg[i]? = some m) : FnOK Tryz.prog 169 [.agg n.pv, iv (i : Int)] ⟨bv (decide (0 ≤ idxL n x.tt x.fr) && (heardB n m && heardB n (n.mg.getD (idxL n x.tt x.fr).toNat 0))), none⟩ := by
  obtain ⟨hm0, hm1⟩ := hN.mgb i m hm
  have hgd : n.mg.getD i 0 = m := by rw [List.getD_eq_getElem?_getD, hm]; rfl
  refine fn_ok Tryz.func169 (by kernel_rfl) rfl (by rw [Tryz.ntmps169]; exact of_decide_eq_true rfl) (fun F hF => ?_)
  rw [Tryz.ntmps169] at hF
  rw [Tryz.results169]
  repeat (first
    | (with_reducible (first | refine sops_go ?_ | refine headW_end ?_ | refine sops_end ?_ | refine awp_if ?_ | refine awp_skip ?_ | refine awp_ret ?_ | refine awp_exit ?_); simp only [go_sem, simprocAttr, hF, hx])
    | ((with_reducible refine headW_go ?_); simp only [go_sem, simprocAttr, hF, hx, hbx])
    | with_reducible refine awp_seq_k fun _ _ => ?_
    | (refine awp_draw' (id := 1) [] 14 (by kernel_rfl) (by kernel_rfl) rfl rfl (fun bx0 hbx => ?_); try dsimp only [List.take, List.drop])
    | (refine awp_draw' (id := 2) [] 20 (by kernel_rfl) (by kernel_rfl) rfl rfl (fun bx0 hbx => ?_); try dsimp only [List.take, List.drop])
    | with_reducible (first | refine awp_region [] ?_ | refine awp_block ?_)
    | go_step)
  refine ⟨_, nfindP_ok n x.tt x.fr hN, ?_⟩
  simp only [go_sem, simprocAttr, hF]
  rcases idxL_cases n x.tt x.fr with hk | ⟨k, y, hy, _, _, hk⟩
  · have e0 : decide ((0 : Int) ≤ -1) = false := rfl
    rw [hk]
    try simp only [go_sem, simprocAttr, hF, hk, e0]
    repeat (first
      | (with_reducible (first | refine sops_go ?_ | refine headW_end ?_ | refine sops_end ?_ | refine awp_if ?_ | refine awp_skip ?_ | refine awp_ret ?_ | refine awp_exit ?_); simp only [go_sem, simprocAttr, hF, hk, e0])
      | ((with_reducible refine headW_go ?_); simp only [go_sem, simprocAttr, hF, hk, e0, hbx])
      | with_reducible refine awp_seq_k fun _ _ => ?_
      | (refine awp_draw' (id := 1) [] 14 (by kernel_rfl) (by kernel_rfl) rfl rfl (fun bx0 hbx => ?_); try dsimp only [List.take, List.drop])
      | (refine awp_draw' (id := 2) [] 20 (by kernel_rfl) (by kernel_rfl) rfl rfl (fun bx0 hbx => ?_); try dsimp only [List.take, List.drop])
      | with_reducible (first | refine awp_region [] ?_ | refine awp_block ?_)
      | go_step)
    try rfl
  have e0 : decide ((0 : Int) ≤ (k : Int)) = true := decide_eq_true (by omega)
  have hkl := (List.getElem?_eq_some_iff.1 hy).1
  obtain ⟨m2, hm2⟩ := get_of_lt (l := n.mg) (k := k) (by rw [hN.mg]; exact hkl)
  obtain ⟨hp0, hp1⟩ := hN.mgb k m2 hm2
  have hgd2 : n.mg.getD (k : Int).toNat 0 = m2 := by rw [Int.toNat_natCast, List.getD_eq_getElem?_getD, hm2]; rfl
  rw [hk, hgd2]
  try simp only [go_sem, simprocAttr, hF, hk, e0, hm]
  repeat (first
    | (with_reducible (first | refine sops_go ?_ | refine headW_end ?_ | refine sops_end ?_ | refine awp_if ?_ | refine awp_skip ?_ | refine awp_ret ?_ | refine awp_exit ?_); simp only [go_sem, simprocAttr, hF, hk, e0, hm])
    | ((with_reducible refine headW_go ?_); simp only [go_sem, simprocAttr, hF, hk, e0, hm, hbx])
    | with_reducible refine awp_seq_k fun _ _ => ?_
    | (refine awp_draw' (id := 1) [] 14 (by kernel_rfl) (by kernel_rfl) rfl rfl (fun bx0 hbx => ?_); try dsimp only [List.take, List.drop])
    | (refine awp_draw' (id := 2) [] 20 (by kernel_rfl) (by kernel_rfl) rfl rfl (fun bx0 hbx => ?_); try dsimp only [List.take, List.drop])
    | with_reducible (first | refine awp_region [] ?_ | refine awp_block ?_)
    | go_step)
  refine ⟨_, hears_ok n m hN hm0 hm1, ?_⟩
  simp only [go_sem, simprocAttr, hF]
  cases e1 : heardB n m with
  | false =>
    try simp only [go_sem, simprocAttr, hF, e1]
    repeat (first
      | (with_reducible (first | refine sops_go ?_ | refine headW_end ?_ | refine sops_end ?_ | refine awp_if ?_ | refine awp_skip ?_ | refine awp_ret ?_ | refine awp_exit ?_); simp only [go_sem, simprocAttr, hF, e1])
      | ((with_reducible refine headW_go ?_); simp only [go_sem, simprocAttr, hF, e1, hbx])
      | with_reducible refine awp_seq_k fun _ _ => ?_
      | (refine awp_draw' (id := 1) [] 14 (by kernel_rfl) (by kernel_rfl) rfl rfl (fun bx0 hbx => ?_); try dsimp only [List.take, List.drop])
      | (refine awp_draw' (id := 2) [] 20 (by kernel_rfl) (by kernel_rfl) rfl rfl (fun bx0 hbx => ?_); try dsimp only [List.take, List.drop])
      | with_reducible (first | refine awp_region [] ?_ | refine awp_block ?_)
      | go_step)
    try (rw [hk, e0])
    try rfl
  | true =>
    try simp only [go_sem, simprocAttr, hF, e1, hm2]
    repeat (first
      | (with_reducible (first | refine sops_go ?_ | refine headW_end ?_ | refine sops_end ?_ | refine awp_if ?_ | refine awp_skip ?_ | refine awp_ret ?_ | refine awp_exit ?_); simp only [go_sem, simprocAttr, hF, e1, hm2])
      | ((with_reducible refine headW_go ?_); simp only [go_sem, simprocAttr, hF, e1, hm2, hbx])
      | with_reducible refine awp_seq_k fun _ _ => ?_
      | (refine awp_draw' (id := 1) [] 14 (by kernel_rfl) (by kernel_rfl) rfl rfl (fun bx0 hbx => ?_); try dsimp only [List.take, List.drop])
      | (refine awp_draw' (id := 2) [] 20 (by kernel_rfl) (by kernel_rfl) rfl rfl (fun bx0 hbx => ?_); try dsimp only [List.take, List.drop])
      | with_reducible (first | refine awp_region [] ?_ | refine awp_block ?_)
      | go_step)
    refine ⟨_, hears_ok n m2 hN hp0 hp1, ?_⟩
    simp only [go_sem, simprocAttr, hF]
    repeat (first
      | (with_reducible (first | refine sops_go ?_ | refine headW_end ?_ | refine sops_end ?_ | refine awp_if ?_ | refine awp_skip ?_ | refine awp_ret ?_ | refine awp_exit ?_); simp only [go_sem, simprocAttr, hF, e0])
      | ((with_reducible refine headW_go ?_); simp only [go_sem, simprocAttr, hF, e0, hbx])
      | with_reducible refine awp_seq_k fun _ _ => ?_
      | (refine awp_draw' (id := 1) [] 14 (by kernel_rfl) (by kernel_rfl) rfl rfl (fun bx0 hbx => ?_); try dsimp only [List.take, List.drop])
      | (refine awp_draw' (id := 2) [] 20 (by kernel_rfl) (by kernel_rfl) rfl rfl (fun bx0 hbx => ?_); try dsimp only [List.take, List.drop])
      | with_reducible (first | refine awp_region [] ?_ | refine awp_block ?_)
      | go_step)
    rw [hk, hgd2, e1, e0]
    try rfl

set_option maxHeartbeats 20000000 in
theorem Usable_ok (n : Net) (a b : Int) (hS : SmallN n) (hc : chkN n = 0) : FnOK Tryz.prog 151 [.agg n.pv, iv (idxL n a b)] ⟨bv (goodL n a b), none⟩ := by
  have hN := netOK hc
  have he : (chkN n == 0) = true := by rw [hc]; rfl
  unfold goodL
  rcases idxL_cases n a b with hk | ⟨k, y, hy, rfl, rfl, hk⟩
  case inl =>
    have e0 : decide ((0 : Int) ≤ -1) = false := rfl
    rw [hk]
    refine fn_ok Tryz.func151 (by kernel_rfl) rfl (by rw [Tryz.ntmps151]; exact of_decide_eq_true rfl) (fun F hF => ?_)
    rw [Tryz.ntmps151] at hF
    rw [Tryz.results151]
    repeat (first
      | (with_reducible (first | refine sops_go ?_ | refine headW_end ?_ | refine sops_end ?_ | refine awp_if ?_ | refine awp_skip ?_ | refine awp_ret ?_ | refine awp_exit ?_); simp only [go_sem, simprocAttr, hF])
      | with_reducible (first | refine awp_seq_k fun _ _ => ?_ | refine awp_region [] ?_ | refine awp_block ?_)
      | go_step)
    refine ⟨_, ncheck_ok n hS.pow hS.rows hS.lk hS.mg, ?_⟩
    simp only [go_sem, simprocAttr, hF, he]
    repeat (first
      | (with_reducible (first | refine sops_go ?_ | refine headW_end ?_ | refine sops_end ?_ | refine awp_if ?_ | refine awp_skip ?_ | refine awp_ret ?_ | refine awp_exit ?_); simp only [go_sem, simprocAttr, hF, he, e0])
      | with_reducible (first | refine awp_seq_k fun _ _ => ?_ | refine awp_region [] ?_ | refine awp_block ?_)
      | go_step)
    try rfl
  have e0 : decide ((0 : Int) ≤ (k : Int)) = true := decide_eq_true (by omega)
  have hkl := (List.getElem?_eq_some_iff.1 hy).1
  have e1 : decide ((k : Int) < (n.lk.length : Int)) = true := decide_eq_true (by omega)
  obtain ⟨m, hm⟩ := get_of_lt (l := n.mg) (k := k) (by rw [hN.mg]; exact hkl)
  have hgd : n.mg.getD (k : Int).toNat 0 = m := by rw [Int.toNat_natCast, List.getD_eq_getElem?_getD, hm]; rfl
  rw [hk, hgd]
  generalize hG : (decide (0 ≤ idxL n y.tt y.fr) && (heardB n m && heardB n (n.mg.getD (idxL n y.tt y.fr).toNat 0))) = G
  have hus := usable_ok n k y m hN hy hm
  rw [hG] at hus
  refine fn_ok Tryz.func151 (by kernel_rfl) rfl (by rw [Tryz.ntmps151]; exact of_decide_eq_true rfl) (fun F hF => ?_)
  rw [Tryz.ntmps151] at hF
  rw [Tryz.results151]
  repeat (first
    | (with_reducible (first | refine sops_go ?_ | refine headW_end ?_ | refine sops_end ?_ | refine awp_if ?_ | refine awp_skip ?_ | refine awp_ret ?_ | refine awp_exit ?_); simp only [go_sem, simprocAttr, hF])
    | with_reducible (first | refine awp_seq_k fun _ _ => ?_ | refine awp_region [] ?_ | refine awp_block ?_)
    | go_step)
  refine ⟨_, ncheck_ok n hS.pow hS.rows hS.lk hS.mg, ?_⟩
  simp only [go_sem, simprocAttr, hF, he]
  repeat (first
    | (with_reducible (first | refine sops_go ?_ | refine headW_end ?_ | refine sops_end ?_ | refine awp_if ?_ | refine awp_skip ?_ | refine awp_ret ?_ | refine awp_exit ?_); simp only [go_sem, simprocAttr, hF, he, e0, e1])
    | with_reducible (first | refine awp_seq_k fun _ _ => ?_ | refine awp_region [] ?_ | refine awp_block ?_)
    | go_step)
  refine ⟨_, hus, ?_⟩
  simp only [go_sem, simprocAttr, hF]
  repeat (first
    | (with_reducible (first | refine sops_go ?_ | refine headW_end ?_ | refine sops_end ?_ | refine awp_if ?_ | refine awp_skip ?_ | refine awp_ret ?_ | refine awp_exit ?_); simp only [go_sem, simprocAttr, hF])
    | with_reducible (first | refine awp_seq_k fun _ _ => ?_ | refine awp_region [] ?_ | refine awp_block ?_)
    | go_step)
end Go.Proofs.YticnppnejafhdaaGreatDoor
/- What an explanation names: plain. -/
namespace Go.Proofs.YticnppnejafhdaaGreatDoor
open Go.RowKit
open Nd Rc Mo
open Av
set_option maxRecDepth 100000
set_option linter.unusedSimpArgs false

theorem mem_onLk {al : List Att} {fl fr a b : Int} {x : Att} (h : x ∈ onLk al fl fr a b) : x ∈ al ∧ x.cl = fl ∧ x.f = fr ∧ x.cf = a ∧ x.ct = b := by
  unfold onLk ofFrame at h
  rw [List.mem_filter, List.mem_filter] at h
  simp only [Bool.and_eq_true, beq_iff_eq] at h
  exact ⟨h.1.1, h.1.2.1, h.1.2.2, h.2.1, h.2.2⟩
theorem causes_slots {n : Net} {f : Fl} {r : Rec} {fr a b : Int} {y : Br} (h : y ∈ causesX n f r fr a b) : y.sl.length = (lossL n a b).toNat + 1 ∧ ∀ s ∈ y.sl, ∃ x ∈ onLk r.al f.id fr a b, x.s = s ∧ x.o ≠ 1 := by
  unfold causesX causesK at h
  obtain ⟨i, hi, h⟩ := List.mem_flatMap.1 h
  have hi' := List.mem_range.1 hi
  unfold causeAt at h
  split at h
  · rename_i hall
    rw [List.mem_singleton.1 h]
    refine ⟨?_, fun s hs => ?_⟩
    · simp only [List.length_map, List.length_take, List.length_drop]
      omega
    · obtain ⟨x, hx, hxs⟩ := List.mem_map.1 hs
      have h1 := List.all_eq_true.1 hall x hx
      refine ⟨x, List.mem_of_mem_drop (List.mem_of_mem_take hx), hxs, ?_⟩
      unfold failB at h1
      simp only [Bool.and_eq_true, Bool.not_eq_true', beq_eq_false_iff_ne] at h1
      exact h1.1
  · cases h
end Go.Proofs.YticnppnejafhdaaGreatDoor
/- What is found is small: plain. -/
namespace Go.Proofs.YticnppnejafhdaaGreatDoor
open Go.RowKit
open Nd Rc Mo
open Av
set_option maxRecDepth 100000
set_option linter.unusedSimpArgs false

theorem firstC_mem {n : Net} {f : Fl} {r : Rec} {fr : Int} : ∀ {p : List Int} {c : Br}, firstC n f r fr p = some c → ∃ a b, c ∈ causesX n f r fr a b
  | [], c, h => by cases h
  | [x], c, h => by cases h
  | x :: y :: p, c, h => by
    rw [firstC] at h
    cases hq : (causesX n f r fr x y).head? with
    | none => rw [hq] at h; exact firstC_mem h
    | some d =>
      rw [hq] at h
      cases h
      exact ⟨x, y, List.mem_of_mem_head? (by rw [hq]; rfl)⟩
theorem findX_small (n : Net) (f : Fl) (ps : List (List Int)) (r : Rec) (fr : Int) (hps : ps.length ≤ 1000000) (hla : r.al.length ≤ 1000000) : (findX n f ps r fr).1.ca.length ≤ 1000000 ∧ ∀ c ∈ (findX n f ps r fr).1.ca, c.sl.length ≤ 1000000 := by
  unfold findX
  split
  · exact ⟨Nat.zero_le _, fun c hc => by cases hc⟩
  split
  · exact ⟨Nat.zero_le _, fun c hc => by cases hc⟩
  · refine ⟨Nat.le_trans (List.length_filterMap_le _ _) hps, fun c hc => ?_⟩
    obtain ⟨p, _, hp⟩ := List.mem_filterMap.1 hc
    obtain ⟨a, b, hm⟩ := firstC_mem hp
    exact Nat.le_trans (sl_len hm) hla
end Go.Proofs.YticnppnejafhdaaGreatDoor
/- What is found is right: plain. -/
namespace Go.Proofs.YticnppnejafhdaaGreatDoor
open Go.RowKit
open Nd Rc Mo
open Av
set_option maxRecDepth 100000
set_option linter.unusedSimpArgs false

theorem firstC_on {n : Net} {f : Fl} {r : Rec} {fr : Int} : ∀ {p : List Int} {c : Br}, firstC n f r fr p = some c → onB p c.fm c.tt = true ∧ c ∈ causesX n f r fr c.fm c.tt
  | [], c, h => by cases h
  | [x], c, h => by cases h
  | x :: y :: p, c, h => by
    rw [firstC] at h
    cases hq : (causesX n f r fr x y).head? with
    | none =>
      rw [hq] at h
      obtain ⟨h1, h2⟩ := firstC_on h
      exact ⟨by rw [onB, h1, Bool.or_true], h2⟩
    | some d =>
      rw [hq] at h
      cases h
      have hm : c ∈ causesX n f r fr x y := List.mem_of_mem_head? (by rw [hq]; rfl)
      have he := mem_causesX hm
      have e1 : c.fm = x := by rw [he]
      have e2 : c.tt = y := by rw [he]
      exact ⟨by rw [onB, e1, e2]; simp, by rw [e1, e2]; exact hm⟩
theorem fm_all {α β : Type} {g : α → Option β} : ∀ {l : List α}, l.any (fun p => (g p).isNone) = false → (l.filterMap g).length = l.length ∧ ∀ (j : Nat) (x : α) (y : β), l[j]? = some x → (l.filterMap g)[j]? = some y → g x = some y
  | [], _ => ⟨rfl, fun j x y h => by cases h⟩
  | a :: l, h => by
    rw [List.any_cons, Bool.or_eq_false_iff] at h
    obtain ⟨h1, h2⟩ := fm_all h.2
    cases ha : g a with
    | none => rw [ha] at h; cases h.1
    | some b =>
      rw [List.filterMap_cons_some ha]
      refine ⟨by rw [List.length_cons, List.length_cons, h1], fun j x y hx hy => ?_⟩
      cases j with
      | zero => simp at hx hy; subst hx; subst hy; exact ha
      | succ j => exact h2 j x y (by simpa using hx) (by simpa using hy)
theorem attsGo_allX {slots : Int} : ∀ {l : List Att} {p : Option Att} {S : List Int} {x : Int}, attsGo slots p S x l = true → ∀ a ∈ l, attB a slots = true
  | [], _, _, _, _, a, ha => by cases ha
  | y :: l, p, S, x, h, a, ha => by
    unfold attsGo at h
    split at h
    · cases h
    · rename_i h0
      have hy : attB y slots = true := by
        cases hb : attB y slots with
        | true => rfl
        | false => exact absurd (by simp [hb]) h0
      rcases List.mem_cons.1 ha with rfl | ha
      · exact hy
      · split at h
        · split at h
          · cases h
          · exact attsGo_allX h a ha
        · exact attsGo_allX h a ha
theorem dlvsGo_allX {slots : Int} : ∀ {l : List Dlv} {p : Option Dlv}, dlvsGo slots p l = true → ∀ d ∈ l, dlvB d slots = true
  | [], _, _, d, hd => by cases hd
  | y :: l, p, h, d, hd => by
    unfold dlvsGo at h
    split at h
    · cases h
    · rename_i h0
      split at h
      · cases h
      · rcases List.mem_cons.1 hd with rfl | hd
        · simpa using h0
        · exact dlvsGo_allX h d hd
theorem good_bounds {r : Rec} (h : good r = true) : (∀ a ∈ r.al, 0 ≤ a.s ∧ a.s < 4096) ∧ (∀ d ∈ r.dl, 0 ≤ d.sl ∧ d.sl < 4096) := by
  unfold good at h
  simp only [Bool.and_eq_true, decide_eq_true_eq] at h
  obtain ⟨h0, h1, _, _, h4, h5⟩ := h
  refine ⟨fun a ha => ?_, fun d hd => ?_⟩
  · have := attsGo_allX h4 a ha
    unfold attB belowB at this
    simp only [Bool.and_eq_true, decide_eq_true_eq] at this
    omega
  · have := dlvsGo_allX h5 d hd
    unfold dlvB belowB at this
    simp only [Bool.and_eq_true, decide_eq_true_eq] at this
    omega
theorem arrGo_le {a b c : Int} : ∀ {l : List Int} {t : Int}, (∀ s ∈ l, s ≤ 4096) → t ≤ 4096 → (arrGo a b c l t).1 ≤ 4096
  | [], t, _, ht => ht
  | s :: l, t, hl, ht => by
    have h1 := hl s List.mem_cons_self
    have h2 : ∀ s ∈ l, s ≤ 4096 := fun x hx => hl x (List.mem_cons_of_mem _ hx)
    unfold arrGo
    split
    · exact h1
    · split
      · exact arrGo_le h2 h1
      · exact arrGo_le h2 ht
theorem late_sl {f : Fl} {r : Rec} {x : Lt} (hx : x ∈ (late [f] r).1) : x.sl ≤ 4096 := by
  unfold late at hx
  split at hx
  · rename_i h
    have hg : good r = true := by
      simp only [right, Bool.and_eq_true] at h
      exact h.2
    obtain ⟨g, hg1, hx1⟩ := List.mem_flatMap.1 hx
    obtain ⟨n, hn, hx2⟩ := List.mem_flatMap.1 hx1
    unfold lateN at hx2
    split at hx2
    · cases hx2
    · rw [List.mem_singleton.1 hx2]
      refine arrGo_le (fun s hs => ?_) (by omega)
      obtain ⟨d, hd, rfl⟩ := List.mem_map.1 hs
      have := (good_bounds hg).2 d (List.mem_filter.1 hd).1
      omega
  · cases hx
structure RightX (n : Net) (f : Fl) (ps : List (List Int)) (r : Rec) (fr : Int) (x : Ex) : Prop where
  ck : checkX n f ps r x = 0
  fr : x.lt.fr = fr
  fl : x.lt.fl = f.id
  len : x.ca.length = ps.length
  ok : ∀ c ∈ x.ca, badC c = false
  hd : [x.lt.fl, x.lt.fr, m0 x.lt.sl].any wrongB = false
theorem wrongB_of {x : Int} (h : 0 ≤ x ∧ x ≤ 1073741824) : wrongB x = false := by
  unfold wrongB
  rw [decide_eq_false (by omega), decide_eq_false (by omega)]
  rfl
theorem findX_right {n : Net} {f : Fl} {ps : List (List Int)} {r : Rec} {fr : Int} (h : (findX n f ps r fr).2 = 0) : RightX n f ps r fr (findX n f ps r fr).1 := by
  have key : ∀ X : Ex × Int, X = findX n f ps r fr → X.2 = 0 → RightX n f ps r fr X.1 := by
    intro X hX h0
    unfold findX at hX
    split at hX
    · rename_i h1
      subst hX
      exact absurd h0 h1
    rename_i h1
    split at hX
    · subst hX; cases h0
    rename_i h2
    have hL : (lateX n f ps r fr).2 = 0 := Classical.byContradiction h1
    have LO := lateX_ok hL
    obtain ⟨hc, hg, hn, hfN, hf⟩ := basicB_inv LO.base
    have hN := netOK hc
    have h2' : ps.any (fun p => (firstC n f r fr p).isNone) = false := by simpa using h2
    obtain ⟨m1, m2⟩ := fm_all h2'
    subst hX
    dsimp only
    have hcm : ∀ c ∈ ps.filterMap (firstC n f r fr), ∃ p ∈ ps, firstC n f r fr p = some c := fun c hc => by
      obtain ⟨p, hp, hq⟩ := List.mem_filterMap.1 hc
      exact ⟨p, hp, hq⟩
    have hfid : 0 ≤ f.id ∧ f.id ≤ 255 := by
      unfold faultN at hfN
      split at hfN
      · cases hfN
      · omega
    refine ⟨?_, LO.num, LO.id, m1, fun c hc' => ?_, ?_⟩
    · unfold checkX
      dsimp only
      rw [LO.num, if_neg (fun h => h hL), if_neg (by rintro (h | h); exact h rfl; exact h m1), if_pos]
      refine zip_all fun j p c hp hcj => ?_
      obtain ⟨o1, o2⟩ := firstC_on (m2 j p c hp hcj)
      unfold okC
      rw [o1, Bool.true_and, List.contains_iff_mem]
      exact o2
    · obtain ⟨p, hp, hq⟩ := hcm c hc'
      obtain ⟨o1, o2⟩ := firstC_on hq
      have he := mem_causesX o2
      obtain ⟨i, g1, g2⟩ := onB_iff.1 o1
      have hix := (route_inv (LO.rt p hp)).2.2 i _ _ g1 g2
      rcases idxL_cases n c.fm c.tt with hk | ⟨k, l, hl, lf, lt, hk⟩
      · omega
      have hb := hN.lkb l (List.mem_of_getElem? hl)
      simp only [lkB, Nd.inB, Bool.and_eq_true, decide_eq_true_eq] at hb
      obtain ⟨c1, c2⟩ := causes_slots o2
      have hls : lossL n c.fm c.tt = l.ls := by unfold lossL; rw [hk, Int.toNat_natCast, List.getD_eq_getElem?_getD, hl]; rfl
      rw [hls] at c1
      have e1 : c.fl = f.id := by rw [he]
      have e2 : c.fr = fr := by rw [he]
      have w1 : c.sl.any wrongB = false := by
        rw [Bool.eq_false_iff]
        intro hany
        obtain ⟨s, hs, hw⟩ := List.any_eq_true.1 hany
        obtain ⟨a, ha, has, _⟩ := c2 s hs
        have := (good_bounds hg).1 a (mem_onLk ha).1
        rw [wrongB_of (by omega)] at hw
        cases hw
      unfold badC
      simp only [List.any_cons, List.any_nil, Bool.or_false]
      rw [wrongB_of (x := c.fl) (by omega), wrongB_of (x := c.fr) (by have := LO.fr0; have := LO.fr1; omega), wrongB_of (x := c.fm) (by omega), wrongB_of (x := c.tt) (by omega), w1, decide_eq_false (by omega), decide_eq_false (by omega)]
      rfl
    · have s1 := late_sl LO.mem
      have := LO.fr0
      have := LO.fr1
      simp only [List.any_cons, List.any_nil, Bool.or_false]
      rw [LO.id, LO.num, wrongB_of (by omega), wrongB_of (by omega), wrongB_of (by unfold m0; split <;> omega)]
      rfl
  exact key _ rfl h
theorem dec_count : ∀ (u : Nat), (Lib.decDigits u).count 10 = 0 := by
  intro u
  induction u using Nat.strongRecOn with
  | _ u ih =>
    have h48 : ∀ k : Fin 10, UInt8.ofNat (48 + k.val) ≠ 10 := by decide
    rw [Lib.decDigits]
    split
    · rename_i h
      rw [List.count_cons_of_ne (h48 ⟨u, h⟩), List.count_nil]
    · rename_i h
      rw [List.count_append, ih (u / 10) (by omega), List.count_cons_of_ne (h48 ⟨u % 10, by omega⟩), List.count_nil]
theorem txt_count {x : Int} (h : 0 ≤ x) : (txtI x).data.toList.count 10 = 0 := by
  obtain ⟨n, rfl⟩ := Int.eq_ofNat_of_zero_le h
  show (Lib.itoa (n : Int)).count 10 = 0
  rw [Lib.itoa_nonneg]
  exact dec_count n
theorem flat_count : ∀ {l : List Pt}, (∀ q ∈ l, q.txt.data.toList.count 10 = 0) → (l.flatMap fun q => [32] ++ q.txt.data.toList).count 10 = 0
  | [], _ => rfl
  | q :: l, h => by
    rw [List.flatMap_cons, List.count_append, List.count_append, h q List.mem_cons_self, flat_count (fun x hx => h x (List.mem_cons_of_mem _ hx))]
    rfl
theorem lineT_count {p : Pt} {l : List Pt} (h : ∀ q ∈ p :: l, q.txt.data.toList.count 10 = 0) : (lineT (p :: l)).data.toList.count 10 = 1 := by
  rw [lineT_list, List.count_append, List.count_append, h p List.mem_cons_self, flat_count (fun x hx => h x (List.mem_cons_of_mem _ hx))]
  rfl
theorem cause_count {c : Br} (h : badC c = false) : (lineT (causeL c)).data.toList.count 10 = 1 := by
  obtain ⟨⟨_, h1, _⟩, h3, h4⟩ := badC_f h
  refine lineT_count fun q hq => ?_
  rcases List.mem_append.1 (show q ∈ causeP c ++ c.sl.map Pt.n from hq) with hq | hq
  · simp only [causeP, List.mem_cons, List.not_mem_nil, or_false] at hq
    rcases hq with rfl | rfl | rfl | rfl | rfl
    · rfl
    · exact txt_count h3.1
    · rfl
    · exact txt_count h4.1
    · rfl
  · obtain ⟨s, hs, rfl⟩ := List.mem_map.1 hq
    refine txt_count ?_
    have : wrongB s = false := by
      cases hw : wrongB s with
      | false => rfl
      | true => rw [List.any_eq_true.2 ⟨s, hs, hw⟩] at h1; cases h1
    exact (wrongB_f this).1
theorem head_count {x : Lt} (h1 : 0 ≤ x.fl) (h2 : 0 ≤ x.fr) : (lineT (headL x)).data.toList.count 10 = 1 := by
  unfold headL
  split
  · rename_i hs
    refine lineT_count fun q hq => ?_
    simp only [List.mem_cons, List.not_mem_nil, or_false] at hq
    rcases hq with rfl | rfl | rfl | rfl | rfl | rfl
    · rfl
    · exact txt_count h1
    · rfl
    · exact txt_count h2
    · rfl
    · exact txt_count hs
  · refine lineT_count fun q hq => ?_
    simp only [List.mem_cons, List.not_mem_nil, or_false] at hq
    rcases hq with rfl | rfl | rfl | rfl | rfl
    · rfl
    · exact txt_count h1
    · rfl
    · exact txt_count h2
    · rfl
theorem outT_count : ∀ {l : List Br} {h : ByteArray}, (∀ c ∈ l, badC c = false) → (outT h l).data.toList.count 10 = h.data.toList.count 10 + l.length
  | [], h, _ => rfl
  | c :: l, h, hb => by
    show (outT (h ++ lineT (causeL c)) l).data.toList.count 10 = _
    rw [outT_count (fun x hx => hb x (List.mem_cons_of_mem _ hx)), ba_app, List.count_append, cause_count (hb c List.mem_cons_self), List.length_cons]
    omega
theorem fmtX_right {n : Net} {f : Fl} {ps : List (List Int)} {r : Rec} {fr : Int} {x : Ex} (h : RightX n f ps r fr x) (hl : ps.length ≤ 4) : (fmtX x).2 = 0 ∧ (fmtX x).1.data.toList.count 10 = ps.length + 1 := by
  have hany : x.ca.any badC = false := by
    rw [Bool.eq_false_iff]
    intro hq
    obtain ⟨c, hc, hb⟩ := List.any_eq_true.1 hq
    rw [h.ok c hc] at hb
    cases hb
  have hlen := h.len
  have hX : fmtX x = (outT (lineT (headL x.lt)) x.ca, 0) := by
    unfold fmtX
    rw [h.hd, decide_eq_false (by omega), if_neg (by decide), if_neg (by rw [hany]; decide)]
  have hh := h.hd
  simp only [List.any_cons, Bool.or_eq_false_iff] at hh
  rw [hX]
  exact ⟨rfl, by dsimp only; rw [outT_count h.ok, head_count (wrongB_f hh.1).1 (wrongB_f hh.2.1).1, hlen]; omega⟩
end Go.Proofs.YticnppnejafhdaaGreatDoor
/- The check of a route, by abstract states. -/
namespace Go.Proofs.YticnppnejafhdaaGreatDoor
open Go.RowKit
open Nd Rc Mo
open Av
set_option maxRecDepth 100000
set_option linter.unusedSimpArgs false
attribute [local go_sem] Av.guardB Av.sop Av.hopx Av.hop Av.hopCall Av.hopF Av.hopB Av.evo Av.evos Av.avCells Av.loadK Av.bound Av.abin Av.aun Av.partsC Av.lfill Av.placesB Av.setAt Av.stl Av.takes Av.src Av.bxOf Av.ownOf Av.St.res Av.St.put Av.St.addBox Av.St.putOwn Av.delL Av.delS Av.look Av.lookL Av.storeSt Av.stealSt Av.St.setBox Av.keepL Av.hitB Av.snap Av.snaps Av.snapCaps Av.AV.lit Av.AV.refs Av.capRefs Av.PV.av Av.CV.av Av.startSt Av.steals Av.athen Av.ablock Av.appK Av.AllS Av.AllO Av.AllR Av.keepS Av.St.avAt Av.RetOK Av.retAll Av.retOne Av.intsOf Av.ptrB TypeDesc.isRow List.range_zero Option.some.injEq exists_eq_left' exists_eq_left exists_eq' exists_and_left exists_and_right exists_const true_and and_true and_self false_and and_false or_false false_or or_true true_or if_true if_false Bool.false_eq_true List.zipIdx_cons List.zipIdx_nil List.map_cons List.map_nil List.filter_cons List.filter_nil List.contains_cons List.contains_nil List.drop_succ_cons List.drop_zero List.take_succ_cons List.take_zero List.take_nil List.drop_nil List.length_cons List.length_nil List.cons_append List.nil_append List.append_nil List.getElem?_cons_zero List.getElem?_cons_succ List.getElem?_nil Option.bind_some Option.bind_none Option.map_some Option.map_none Option.isNone_none Option.isNone_some Option.isSome_some Option.isSome_none Bool.and_true Bool.true_and Bool.and_false Bool.false_and Bool.or_false Bool.false_or Bool.not_true Bool.not_false beq_true beq_false Bool.true_beq Bool.false_beq Loc.s.injEq Loc.b.injEq decide_true decide_false beq_self_eq_true Nat.zero_add Nat.add_zero List.getElem?_toArray List.toList_toArray List.size_toArray Value.oneCell' List.all_cons List.all_nil Value.int.injEq AV.v.injEq AV.sl.injEq AV.agg.injEq AV.ref.injEq AV.ept.injEq AV.tup.injEq Value.bool.injEq PV.v.injEq PV.sl.injEq List.isEmpty_nil List.isEmpty_cons forall_const not_true_eq_false not_false_eq_true true_implies false_implies Value.string.injEq List.length_map List.getElem?_map Int.toNat_natCast Int.natCast_nonneg List.length_append Value.cells implies_true TypeDesc.struct.injEq TypeDesc.slice.injEq TypeDesc.array.injEq List.getElem?_toArray Prod.mk.injEq and_assoc exists_false List.cons.injEq Operand.tmp.injEq ite_self AV.fnv.injEq AV.clo.injEq ne_eq eq_self Tryz.sz3 Tryz.zr3 Tryz.by3 Tryz.pl3 Tryz.is3 Tryz.underlying3 Tryz.sz4 Tryz.zr4 Tryz.by4 Tryz.pl4 Tryz.is4 Tryz.underlying4 Tryz.sz43 Tryz.zr43 Tryz.by43 Tryz.pl43 Tryz.is43 Tryz.underlying43 Tryz.sz35 Tryz.zr35 Tryz.by35 Tryz.pl35 Tryz.is35 Tryz.underlying35 Tryz.sz33 Tryz.zr33 Tryz.by33 Tryz.pl33 Tryz.is33 Tryz.underlying33 Tryz.sz28 Tryz.zr28 Tryz.by28 Tryz.pl28 Tryz.is28 Tryz.underlying28 Tryz.sz39 Tryz.zr39 Tryz.by39 Tryz.pl39 Tryz.is39 Tryz.underlying39 Tryz.sz57 Tryz.zr57 Tryz.by57 Tryz.pl57 Tryz.is57 Tryz.underlying57 Tryz.sz137 Tryz.zr137 Tryz.by137 Tryz.pl137 Tryz.is137 Tryz.underlying137 Tryz.sz66 Tryz.zr66 Tryz.by66 Tryz.pl66 Tryz.is66 Tryz.underlying66 Tryz.sz64 Tryz.zr64 Tryz.by64 Tryz.pl64 Tryz.is64 Tryz.underlying64 Tryz.sz60 Tryz.zr60 Tryz.by60 Tryz.pl60 Tryz.is60 Tryz.underlying60 Tryz.sz100 Tryz.zr100 Tryz.by100 Tryz.pl100 Tryz.is100 Tryz.underlying100 Tryz.sz103 Tryz.zr103 Tryz.by103 Tryz.pl103 Tryz.is103 Tryz.underlying103 Tryz.sz26 Tryz.zr26 Tryz.by26 Tryz.pl26 Tryz.is26 Tryz.underlying26 Tryz.sz120 Tryz.zr120 Tryz.by120 Tryz.pl120 Tryz.is120 Tryz.underlying120 Tryz.sz117 Tryz.zr117 Tryz.by117 Tryz.pl117 Tryz.is117 Tryz.underlying117 Tryz.sz30 Tryz.zr30 Tryz.by30 Tryz.pl30 Tryz.is30 Tryz.underlying30 Tryz.sz31 Tryz.zr31 Tryz.by31 Tryz.pl31 Tryz.is31 Tryz.underlying31 Tryz.sz40 Tryz.zr40 Tryz.by40 Tryz.pl40 Tryz.is40 Tryz.underlying40 Tryz.sz23 Tryz.zr23 Tryz.by23 Tryz.pl23 Tryz.is23 Tryz.underlying23 Tryz.sz24 Tryz.zr24 Tryz.by24 Tryz.pl24 Tryz.is24 Tryz.underlying24 Tryz.sz22 Tryz.zr22 Tryz.by22 Tryz.pl22 Tryz.is22 Tryz.underlying22 Tryz.sz141 Tryz.zr141 Tryz.by141 Tryz.pl141 Tryz.is141 Tryz.underlying141 Tryz.sz42 Tryz.zr42 Tryz.by42 Tryz.pl42 Tryz.is42 Tryz.underlying42 Tryz.sz29 Tryz.zr29 Tryz.by29 Tryz.pl29 Tryz.is29 Tryz.underlying29 Tryz.sz83 Tryz.zr83 Tryz.by83 Tryz.pl83 Tryz.is83 Tryz.underlying83 Tryz.it39 Tryz.eg39 Tryz.it137 Tryz.eg137 Tryz.it66 Tryz.eg66 Tryz.it28 Tryz.eg28 Tryz.it60 Tryz.eg60 all_arr loc_ss loc_sb loc_bs loc_bb arr_two arr_one rg1 rg2 rg3 rg4 rg5 rg6 rg7 rg8 ResultVar.tmp.injEq Bool.not_true Bool.not_false undef Rc.Rec.pv Nd.Fl.pv Rc.Dlv.pv Rc.Att.pv Mo.Lt.pv Fn.func.injEq Mo.Net.pv Mo.Lk.pv prow_pv irow_pv Br.pv
set_option maxHeartbeats 2000000 in
theorem sidx_ok (l : List Int) (v : Int) (hl : l.length ≤ 1000000) : FnOK Tryz.prog 48 [.sl 1 (l.map irow_pv), iv v] ⟨iv (idxP (fun y => v == y) l 0), none⟩ := by
  refine fn_ok Tryz.func48 (by kernel_rfl) rfl (by rw [Tryz.ntmps48]; exact of_decide_eq_true rfl) (fun F hF => ?_)
  rw [Tryz.ntmps48] at hF
  rw [Tryz.results48]
  repeat (first
    | (with_reducible (first | refine sops_go ?_ | refine headW_end ?_ | refine sops_end ?_ | refine awp_if ?_ | refine awp_skip ?_ | refine awp_ret ?_ | refine awp_exit ?_); simp only [go_sem, simprocAttr, hF])
    | with_reducible (first | refine awp_seq_k fun _ _ => ?_ | refine awp_region [] ?_ | refine awp_block ?_)
    | go_step)
  refine awp_loop_by (ι := {k : Nat // k ≤ l.length ∧ idxP (fun y => v == y) l 0 = idxP (fun y => v == y) (l.drop k) (k : Int)}) (fun k σ => ⟨(8, iv (k.1 : Int)) :: keepS [0, 1, 4, 7] σ.slot, σ.box, [], σ.ext⟩) (fun k => l.length - k.1) ⟨0, by omega, rfl⟩ (sub_mk ?_) (fun R hR k => ?_)
  · simp only [go_sem, simprocAttr, hF]
    repeat' (first | rfl | refine ⟨?_, ?_⟩)
  obtain ⟨k, hk, hT⟩ := k
  dsimp only
  simp only [go_sem, simprocAttr, hF]
  by_cases hlt : k < l.length
  case neg =>
    have hd : decide ((k : Int) < (l.length : Int)) = false := decide_eq_false (by omega)
    repeat (first
      | (with_reducible (first | refine sops_go ?_ | refine headW_end ?_ | refine sops_end ?_ | refine awp_if ?_ | refine awp_skip ?_ | refine awp_ret ?_ | refine awp_exit ?_); simp only [go_sem, simprocAttr, hF, hd])
      | with_reducible (first | refine awp_seq_k fun _ _ => ?_ | refine awp_region [] ?_ | refine awp_block ?_)
      | go_step)
    rw [hT, List.drop_of_length_le (by omega)]
    rfl
  obtain ⟨y, hyk⟩ := get_of_lt hlt
  have hd : decide ((k : Int) < (l.length : Int)) = true := decide_eq_true (by omega)
  have hw : IntKind.i64.wrap ((k : Int) + 1) = ((k + 1 : Nat) : Int) := by rw [IntKind.wrap_i64]; omega
  have hT' : idxP (fun y => v == y) l 0 = if (v == y) = true then (k : Int) else idxP (fun y => v == y) (l.drop (k + 1)) ((k + 1 : Nat) : Int) := by rw [hT, drop_of_get hyk, idxP]; rfl
  cases he : (v == y) with
  | true =>
    repeat (first
      | (with_reducible (first | refine sops_go ?_ | refine headW_end ?_ | refine sops_end ?_ | refine awp_if ?_ | refine awp_skip ?_ | refine awp_ret ?_ | refine awp_exit ?_); simp only [go_sem, simprocAttr, hF, hd, hyk, he])
      | with_reducible (first | refine awp_seq_k fun _ _ => ?_ | refine awp_region [] ?_ | refine awp_block ?_)
      | go_step)
    rw [hT', if_pos he]
  | false =>
    repeat (first
      | (with_reducible (first | refine sops_go ?_ | refine headW_end ?_ | refine sops_end ?_ | refine awp_if ?_ | refine awp_skip ?_ | refine awp_ret ?_ | refine awp_exit ?_); simp only [go_sem, simprocAttr, hF, hd, hyk, he])
      | with_reducible (first | refine awp_seq_k fun _ _ => ?_ | refine awp_region [] ?_ | refine awp_block ?_)
      | go_step)
    refine ⟨⟨k + 1, by omega, by rw [hT', if_neg (by rw [he]; decide)]⟩, by dsimp only; omega, hR _ _ (sub_mk ?_)⟩
    simp only [go_sem, simprocAttr, hF, hw]

set_option maxHeartbeats 2000000 in
theorem scont_ok (l : List Int) (v : Int) (hl : l.length ≤ 1000000) : FnOK Tryz.prog 150 [.sl 1 (l.map irow_pv), iv v] ⟨bv (l.any (fun y => v == y)), none⟩ := by
  have hx := idx_any (fun y => v == y) l
  refine fn_ok Tryz.func150 (by kernel_rfl) rfl (by rw [Tryz.ntmps150]; exact of_decide_eq_true rfl) (fun F hF => ?_)
  rw [Tryz.ntmps150] at hF
  rw [Tryz.results150]
  repeat (first
    | (with_reducible (first | refine sops_go ?_ | refine headW_end ?_ | refine sops_end ?_ | refine awp_if ?_ | refine awp_skip ?_ | refine awp_ret ?_ | refine awp_exit ?_); simp only [go_sem, simprocAttr, hF])
    | with_reducible (first | refine awp_seq_k fun _ _ => ?_ | refine awp_region [] ?_ | refine awp_block ?_)
    | go_step)
  refine ⟨_, sidx_ok l v hl, ?_⟩
  simp only [go_sem, simprocAttr, hF]
  repeat (first
    | (with_reducible (first | refine sops_go ?_ | refine headW_end ?_ | refine sops_end ?_ | refine awp_if ?_ | refine awp_skip ?_ | refine awp_ret ?_ | refine awp_exit ?_); simp only [go_sem, simprocAttr, hF, hx])
    | with_reducible (first | refine awp_seq_k fun _ _ => ?_ | refine awp_region [] ?_ | refine awp_block ?_)
    | go_step)
  all_goals (try rfl)

set_option maxHeartbeats 2000000 in
theorem rends_ok (n : Net) (a b : Int) (hS : SmallN n) (hc : chkN n = 0) (ha : 0 ≤ a ∧ a < n.nodes) (hb : 0 ≤ b ∧ b < n.nodes) (hab : a ≠ b) : FnOK Tryz.prog 100 [.agg n.pv, iv a, iv b] ⟨iv 0, none⟩ := by
  have he : (chkN n != 0) = false := by rw [hc]; rfl
  have h1 : decide ((if b < a then b else a) < 0) = false := decide_eq_false (by split <;> omega)
  have h2 : decide (n.nodes ≤ (if a < b then b else a)) = false := decide_eq_false (by split <;> omega)
  have h3 : (a == b) = false := by simpa using hab
  refine fn_ok Tryz.func100 (by kernel_rfl) rfl (by rw [Tryz.ntmps100]; exact of_decide_eq_true rfl) (fun F hF => ?_)
  rw [Tryz.ntmps100] at hF
  rw [Tryz.results100]
  repeat (first
    | (with_reducible (first | refine sops_go ?_ | refine headW_end ?_ | refine sops_end ?_ | refine awp_if ?_ | refine awp_skip ?_ | refine awp_ret ?_ | refine awp_exit ?_); simp only [go_sem, simprocAttr, hF])
    | with_reducible (first | refine awp_seq_k fun _ _ => ?_ | refine awp_region [] ?_ | refine awp_block ?_)
    | go_step)
  refine ⟨_, ncheck_ok n hS.pow hS.rows hS.lk hS.mg, ?_⟩
  simp only [go_sem, simprocAttr, hF, he]
  repeat (first
    | (with_reducible (first | refine sops_go ?_ | refine headW_end ?_ | refine sops_end ?_ | refine awp_if ?_ | refine awp_skip ?_ | refine awp_ret ?_ | refine awp_exit ?_); simp only [go_sem, simprocAttr, hF, he, h1, h2, h3])
    | with_reducible (first | refine awp_seq_k fun _ _ => ?_ | refine awp_region [] ?_ | refine awp_block ?_)
    | go_step)

set_option maxHeartbeats 2000000 in
theorem rfault1_ok (n : Net) (x : Int) : FnOK Tryz.prog 149 [iv x, .ept n.pv] ⟨bv (outN n x), none⟩ := by
  refine fn_ok Tryz.func149 (by kernel_rfl) rfl (by rw [Tryz.ntmps149]; exact of_decide_eq_true rfl) (fun F hF => ?_)
  rw [Tryz.ntmps149] at hF
  rw [Tryz.results149]
  unfold outN
  cases h1 : decide (x < 0) <;> cases h2 : decide (n.nodes ≤ x)
  · repeat (first
      | (with_reducible (first | refine sops_go ?_ | refine headW_end ?_ | refine sops_end ?_ | refine awp_if ?_ | refine awp_skip ?_ | refine awp_ret ?_ | refine awp_exit ?_); simp only [go_sem, simprocAttr, hF, h1, h2])
      | with_reducible (first | refine awp_seq_k fun _ _ => ?_ | refine awp_region [] ?_ | refine awp_block ?_)
      | go_step)
    all_goals (try rfl)
  · repeat (first
      | (with_reducible (first | refine sops_go ?_ | refine headW_end ?_ | refine sops_end ?_ | refine awp_if ?_ | refine awp_skip ?_ | refine awp_ret ?_ | refine awp_exit ?_); simp only [go_sem, simprocAttr, hF, h1, h2])
      | with_reducible (first | refine awp_seq_k fun _ _ => ?_ | refine awp_region [] ?_ | refine awp_block ?_)
      | go_step)
    all_goals (try rfl)
  · repeat (first
      | (with_reducible (first | refine sops_go ?_ | refine headW_end ?_ | refine sops_end ?_ | refine awp_if ?_ | refine awp_skip ?_ | refine awp_ret ?_ | refine awp_exit ?_); simp only [go_sem, simprocAttr, hF, h1, h2])
      | with_reducible (first | refine awp_seq_k fun _ _ => ?_ | refine awp_region [] ?_ | refine awp_block ?_)
      | go_step)
    all_goals (try rfl)
  · repeat (first
      | (with_reducible (first | refine sops_go ?_ | refine headW_end ?_ | refine sops_end ?_ | refine awp_if ?_ | refine awp_skip ?_ | refine awp_ret ?_ | refine awp_exit ?_); simp only [go_sem, simprocAttr, hF, h1, h2])
      | with_reducible (first | refine awp_seq_k fun _ _ => ?_ | refine awp_region [] ?_ | refine awp_block ?_)
      | go_step)
    all_goals (try rfl)

set_option maxHeartbeats 20000000 in
theorem rfault_ok (n : Net) (a b : Int) (p : List Int) (hS : SmallN n) (hc : chkN n = 0) (hl : p.length ≤ 1000000) : FnOK Tryz.prog 101 [.agg n.pv, iv a, iv b, .sl 1 (p.map irow_pv)] ⟨iv (routeE n a b p), none⟩ := by
  have hlen : p.length ≤ 1000000 := hl
  refine fn_ok Tryz.func101 (by kernel_rfl) rfl (by rw [Tryz.ntmps101]; exact of_decide_eq_true rfl) (fun F hF => ?_)
  rw [Tryz.ntmps101] at hF
  rw [Tryz.results101]
  by_cases c1 : p.length < 2
  case pos =>
    have e1 : decide ((p.length : Int) < 2) = true := by first | exact decide_eq_true (by omega) | simpa using c1
    repeat (first
      | (with_reducible (first | refine sops_go ?_ | refine headW_end ?_ | refine sops_end ?_ | refine awp_if ?_ | refine awp_skip ?_ | refine awp_ret ?_ | refine awp_exit ?_); simp only [go_sem, simprocAttr, hF, e1])
      | ((with_reducible refine headW_go ?_); simp only [go_sem, simprocAttr, hF, e1, hbx])
      | with_reducible refine awp_seq_k fun _ _ => ?_
      | (refine awp_draw' (id := 18) [] 10 (by kernel_rfl) (by kernel_rfl) rfl rfl (fun bx0 hbx => ?_); try dsimp only [List.take, List.drop])
      | with_reducible (first | refine awp_region [] ?_ | refine awp_block ?_)
      | go_step)
    rw [routeE, if_pos c1]
  have e1 : decide ((p.length : Int) < 2) = false := by first | exact decide_eq_false (by omega) | simpa using c1
  by_cases c2 : 9 < p.length
  case pos =>
    have e2 : decide ((9 : Int) < (p.length : Int)) = true := by first | exact decide_eq_true (by omega) | simpa using c2
    repeat (first
      | (with_reducible (first | refine sops_go ?_ | refine headW_end ?_ | refine sops_end ?_ | refine awp_if ?_ | refine awp_skip ?_ | refine awp_ret ?_ | refine awp_exit ?_); simp only [go_sem, simprocAttr, hF, e1, e2])
      | ((with_reducible refine headW_go ?_); simp only [go_sem, simprocAttr, hF, e1, e2, hbx])
      | with_reducible refine awp_seq_k fun _ _ => ?_
      | (refine awp_draw' (id := 18) [] 10 (by kernel_rfl) (by kernel_rfl) rfl rfl (fun bx0 hbx => ?_); try dsimp only [List.take, List.drop])
      | with_reducible (first | refine awp_region [] ?_ | refine awp_block ?_)
      | go_step)
    rw [routeE, if_neg c1, if_pos c2]
  have e2 : decide ((9 : Int) < (p.length : Int)) = false := by first | exact decide_eq_false (by omega) | simpa using c2
  repeat (first
    | (with_reducible (first | refine sops_go ?_ | refine headW_end ?_ | refine sops_end ?_ | refine awp_if ?_ | refine awp_skip ?_ | refine awp_ret ?_ | refine awp_exit ?_); simp only [go_sem, simprocAttr, hF, e1, e2])
    | ((with_reducible refine headW_go ?_); simp only [go_sem, simprocAttr, hF, e1, e2, hbx])
    | with_reducible refine awp_seq_k fun _ _ => ?_
    | (refine awp_draw' (id := 18) [] 10 (by kernel_rfl) (by kernel_rfl) rfl rfl (fun bx0 hbx => ?_); try dsimp only [List.take, List.drop])
    | with_reducible (first | refine awp_region [] ?_ | refine awp_block ?_)
    | go_step)
  refine ⟨_, contI_ok _ [n.pv] (outN n) p hlen (fun y _ => rfault1_ok n y), ?_⟩
  simp only [go_sem, simprocAttr, hF]
  cases e3 : p.any (outN n) with
  | true =>
    try simp only [go_sem, simprocAttr, hF, e3]
    repeat (first
      | (with_reducible (first | refine sops_go ?_ | refine headW_end ?_ | refine sops_end ?_ | refine awp_if ?_ | refine awp_skip ?_ | refine awp_ret ?_ | refine awp_exit ?_); simp only [go_sem, simprocAttr, hF, e3])
      | ((with_reducible refine headW_go ?_); simp only [go_sem, simprocAttr, hF, e3, hbx])
      | with_reducible refine awp_seq_k fun _ _ => ?_
      | (refine awp_draw' (id := 18) [] 10 (by kernel_rfl) (by kernel_rfl) rfl rfl (fun bx0 hbx => ?_); try dsimp only [List.take, List.drop])
      | with_reducible (first | refine awp_region [] ?_ | refine awp_block ?_)
      | go_step)
    rw [routeE, if_neg c1, if_neg c2, if_pos e3]
  | false =>
    have hne3 : ¬ p.any (outN n) = true := by rw [e3]; decide
    obtain ⟨x0, hx0⟩ := get_of_lt (l := p) (k := 0) (by omega)
    obtain ⟨x1, hx1⟩ := get_of_lt (l := p) (k := p.length - 1) (by omega)
    have q0 : p.getD 0 0 = x0 := by rw [List.getD_eq_getElem?_getD, hx0]; rfl
    have q1 : p.getD (p.length - 1) 0 = x1 := by rw [List.getD_eq_getElem?_getD, hx1]; rfl
    have z0 : Int.toNat 0 = 0 := rfl
    have w1 : IntKind.i64.wrap ((p.length : Int) - 1) = ((p.length - 1 : Nat) : Int) := by rw [IntKind.wrap_i64]; omega
    by_cases h4 : x0 = a
    case neg =>
      have e4 : (x0 != a) = true := by simpa using h4
      try simp only [go_sem, simprocAttr, hF, e3, z0, hx0, e4]
      repeat (first
        | (with_reducible (first | refine sops_go ?_ | refine headW_end ?_ | refine sops_end ?_ | refine awp_if ?_ | refine awp_skip ?_ | refine awp_ret ?_ | refine awp_exit ?_); simp only [go_sem, simprocAttr, hF, e3, z0, hx0, e4])
        | ((with_reducible refine headW_go ?_); simp only [go_sem, simprocAttr, hF, e3, z0, hx0, e4, hbx])
        | with_reducible refine awp_seq_k fun _ _ => ?_
        | (refine awp_draw' (id := 18) [] 10 (by kernel_rfl) (by kernel_rfl) rfl rfl (fun bx0 hbx => ?_); try dsimp only [List.take, List.drop])
        | with_reducible (first | refine awp_region [] ?_ | refine awp_block ?_)
        | go_step)
      rw [routeE, if_neg c1, if_neg c2, if_neg hne3, if_pos (.inl (by rw [q0]; exact h4))]
    have e4 : (x0 != a) = false := by simpa using h4
    by_cases h5 : x1 = b
    case neg =>
      have e5 : (x1 != b) = true := by simpa using h5
      try simp only [go_sem, simprocAttr, hF, e3, z0, hx0, e4, w1, hx1, e5]
      repeat (first
        | (with_reducible (first | refine sops_go ?_ | refine headW_end ?_ | refine sops_end ?_ | refine awp_if ?_ | refine awp_skip ?_ | refine awp_ret ?_ | refine awp_exit ?_); simp only [go_sem, simprocAttr, hF, e3, z0, hx0, e4, w1, hx1, e5])
        | ((with_reducible refine headW_go ?_); simp only [go_sem, simprocAttr, hF, e3, z0, hx0, e4, w1, hx1, e5, hbx])
        | with_reducible refine awp_seq_k fun _ _ => ?_
        | (refine awp_draw' (id := 18) [] 10 (by kernel_rfl) (by kernel_rfl) rfl rfl (fun bx0 hbx => ?_); try dsimp only [List.take, List.drop])
        | with_reducible (first | refine awp_region [] ?_ | refine awp_block ?_)
        | go_step)
      rw [routeE, if_neg c1, if_neg c2, if_neg hne3, if_pos (.inr (by rw [q1]; exact h5))]
    have e5 : (x1 != b) = false := by simpa using h5
    have hne4 : ¬ (p.getD 0 0 ≠ a ∨ p.getD (p.length - 1) 0 ≠ b) := by rw [q0, q1]; rintro (h | h); exact h h4; exact h h5
    have hRt : routeE n a b p = if dupB p = true then 6 else if gapB n p = true then 17 else 0 := by rw [routeE, if_neg c1, if_neg c2, if_neg hne3, if_neg hne4]
    try simp only [go_sem, simprocAttr, hF, e3, z0, hx0, e4, w1, hx1, e5]
    repeat (first
      | (with_reducible (first | refine sops_go ?_ | refine headW_end ?_ | refine sops_end ?_ | refine awp_if ?_ | refine awp_skip ?_ | refine awp_ret ?_ | refine awp_exit ?_); simp only [go_sem, simprocAttr, hF, e3, z0, hx0, e4, w1, hx1, e5])
      | ((with_reducible refine headW_go ?_); simp only [go_sem, simprocAttr, hF, e3, z0, hx0, e4, w1, hx1, e5, hbx])
      | with_reducible refine awp_seq_k fun _ _ => ?_
      | (refine awp_draw' (id := 18) [] 10 (by kernel_rfl) (by kernel_rfl) rfl rfl (fun bx0 hbx => ?_); try dsimp only [List.take, List.drop])
      | with_reducible (first | refine awp_region [] ?_ | refine awp_block ?_)
      | go_step)
    refine awp_loop_by (ι := {k : Nat // k ≤ p.length ∧ (List.range k).any (dupAt p) = false}) (fun k σ => ⟨(43, iv (k.1 : Int)) :: keepS [3, 4, 8, 41, 42] σ.slot, σ.box, [], σ.ext⟩) (fun k => p.length - k.1) ⟨0, by omega, rfl⟩ (sub_mk ?_) (fun R hR k => ?_)
    · simp only [go_sem, simprocAttr, hF]
      repeat' (first | rfl | refine ⟨?_, ?_⟩)
    obtain ⟨k, hk, hT⟩ := k
    dsimp only
    simp only [go_sem, simprocAttr, hF]
    by_cases hlt : k < p.length
    case neg =>
      have hd : decide ((k : Int) < (p.length : Int)) = false := decide_eq_false (by omega)
      obtain rfl : k = p.length := by omega
      have hdup : ¬ dupB p = true := by unfold dupB; rw [hT]; decide
      have o1 : Int.toNat 1 = 1 := rfl
      have hp1 : 1 ≤ p.length := by omega
      have hmd : List.drop 1 (List.take p.length (List.map irow_pv p)) = List.map irow_pv (p.drop 1) := by rw [List.take_of_length_le (by rw [List.length_map]; exact Nat.le_refl _), List.map_drop]
      have hmn : (p.drop 1).length = p.length - 1 := List.length_drop
      repeat (first
        | (with_reducible (first | refine sops_go ?_ | refine headW_end ?_ | refine sops_end ?_ | refine awp_if ?_ | refine awp_skip ?_ | refine awp_ret ?_ | refine awp_exit ?_); simp only [go_sem, simprocAttr, hF, hd, o1, hp1, Nat.le_refl, hmd, hmn])
        | ((with_reducible refine headW_go ?_); simp only [go_sem, simprocAttr, hF, hd, o1, hp1, Nat.le_refl, hmd, hmn, hbx])
        | with_reducible refine awp_seq_k fun _ _ => ?_
        | (refine awp_draw' (id := 18) [] 10 (by kernel_rfl) (by kernel_rfl) rfl rfl (fun bx0 hbx => ?_); try dsimp only [List.take, List.drop])
        | with_reducible (first | refine awp_region [] ?_ | refine awp_block ?_)
        | go_step)
      refine awp_loop_by (ι := {i : Nat // i ≤ p.length - 1 ∧ (List.range i).any (gapAt n p) = false}) (fun i σ => ⟨(57, iv (i.1 : Int)) :: keepS [3, 4, 8, 55, 56] σ.slot, σ.box, [], σ.ext⟩) (fun i => (p.length - 1) - i.1) ⟨0, by omega, rfl⟩ (sub_mk ?_) (fun R2 hR2 i => ?_)
      · simp only [go_sem, simprocAttr, hF]
        repeat' (first | rfl | refine ⟨?_, ?_⟩)
      obtain ⟨i, hi, hU⟩ := i
      dsimp only
      simp only [go_sem, simprocAttr, hF]
      by_cases hit : i < p.length - 1
      case neg =>
        have hdi : decide ((i : Int) < ((p.length - 1 : Nat) : Int)) = false := decide_eq_false (by omega)
        obtain rfl : i = p.length - 1 := by omega
        have hgap : ¬ gapB n p = true := by unfold gapB; rw [hU]; decide
        repeat (first
          | (with_reducible (first | refine sops_go ?_ | refine headW_end ?_ | refine sops_end ?_ | refine awp_if ?_ | refine awp_skip ?_ | refine awp_ret ?_ | refine awp_exit ?_); simp only [go_sem, simprocAttr, hF, hdi])
          | ((with_reducible refine headW_go ?_); simp only [go_sem, simprocAttr, hF, hdi, hbx])
          | with_reducible refine awp_seq_k fun _ _ => ?_
          | (refine awp_draw' (id := 18) [] 10 (by kernel_rfl) (by kernel_rfl) rfl rfl (fun bx0 hbx => ?_); try dsimp only [List.take, List.drop])
          | with_reducible (first | refine awp_region [] ?_ | refine awp_block ?_)
          | go_step)
        rw [hRt, if_neg hdup, if_neg hgap]
      have hdi : decide ((i : Int) < ((p.length - 1 : Nat) : Int)) = true := decide_eq_true (by omega)
      have hwi : IntKind.i64.wrap ((i : Int) + 1) = ((i + 1 : Nat) : Int) := by rw [IntKind.wrap_i64]; omega
      obtain ⟨x, hx⟩ := get_of_lt (l := p) (k := i) (by omega)
      obtain ⟨y, hy⟩ := get_of_lt (l := p) (k := 1 + i) (by omega)
      have hG : gapAt n p i = !goodL n x y := by unfold gapAt; rw [List.getD_eq_getElem?_getD, List.getD_eq_getElem?_getD, hx, show i + 1 = 1 + i by omega, hy]; rfl
      repeat (first
        | (with_reducible (first | refine sops_go ?_ | refine headW_end ?_ | refine sops_end ?_ | refine awp_if ?_ | refine awp_skip ?_ | refine awp_ret ?_ | refine awp_exit ?_); simp only [go_sem, simprocAttr, hF, hdi, hx, hy, List.getElem?_drop])
        | ((with_reducible refine headW_go ?_); simp only [go_sem, simprocAttr, hF, hdi, hx, hy, List.getElem?_drop, hbx])
        | with_reducible refine awp_seq_k fun _ _ => ?_
        | (refine awp_draw' (id := 18) [] 10 (by kernel_rfl) (by kernel_rfl) rfl rfl (fun bx0 hbx => ?_); try dsimp only [List.take, List.drop])
        | with_reducible (first | refine awp_region [] ?_ | refine awp_block ?_)
        | go_step)
      refine ⟨_, nindex_ok n x y hS hc, ?_⟩
      simp only [go_sem, simprocAttr, hF]
      repeat (first
        | (with_reducible (first | refine sops_go ?_ | refine headW_end ?_ | refine sops_end ?_ | refine awp_if ?_ | refine awp_skip ?_ | refine awp_ret ?_ | refine awp_exit ?_); simp only [go_sem, simprocAttr, hF])
        | ((with_reducible refine headW_go ?_); simp only [go_sem, simprocAttr, hF, hbx])
        | with_reducible refine awp_seq_k fun _ _ => ?_
        | (refine awp_draw' (id := 18) [] 10 (by kernel_rfl) (by kernel_rfl) rfl rfl (fun bx0 hbx => ?_); try dsimp only [List.take, List.drop])
        | with_reducible (first | refine awp_region [] ?_ | refine awp_block ?_)
        | go_step)
      refine ⟨_, Usable_ok n x y hS hc, ?_⟩
      simp only [go_sem, simprocAttr, hF]
      cases eg : goodL n x y with
      | false =>
        have hgap : gapB n p = true := List.any_eq_true.2 ⟨i, List.mem_range.2 hit, by rw [hG, eg]; rfl⟩
        try simp only [go_sem, simprocAttr, hF, eg]
        repeat (first
          | (with_reducible (first | refine sops_go ?_ | refine headW_end ?_ | refine sops_end ?_ | refine awp_if ?_ | refine awp_skip ?_ | refine awp_ret ?_ | refine awp_exit ?_); simp only [go_sem, simprocAttr, hF, eg])
          | ((with_reducible refine headW_go ?_); simp only [go_sem, simprocAttr, hF, eg, hbx])
          | with_reducible refine awp_seq_k fun _ _ => ?_
          | (refine awp_draw' (id := 18) [] 10 (by kernel_rfl) (by kernel_rfl) rfl rfl (fun bx0 hbx => ?_); try dsimp only [List.take, List.drop])
          | with_reducible (first | refine awp_region [] ?_ | refine awp_block ?_)
          | go_step)
        rw [hRt, if_neg hdup, if_pos hgap]
      | true =>
        try simp only [go_sem, simprocAttr, hF, eg]
        repeat (first
          | (with_reducible (first | refine sops_go ?_ | refine headW_end ?_ | refine sops_end ?_ | refine awp_if ?_ | refine awp_skip ?_ | refine awp_ret ?_ | refine awp_exit ?_); simp only [go_sem, simprocAttr, hF, eg])
          | ((with_reducible refine headW_go ?_); simp only [go_sem, simprocAttr, hF, eg, hbx])
          | with_reducible refine awp_seq_k fun _ _ => ?_
          | (refine awp_draw' (id := 18) [] 10 (by kernel_rfl) (by kernel_rfl) rfl rfl (fun bx0 hbx => ?_); try dsimp only [List.take, List.drop])
          | with_reducible (first | refine awp_region [] ?_ | refine awp_block ?_)
          | go_step)
        refine ⟨⟨i + 1, by omega, by rw [List.range_succ, List.any_append, hU, List.any_cons, hG, eg]; rfl⟩, by dsimp only; omega, hR2 _ _ (sub_mk ?_)⟩
        simp only [go_sem, simprocAttr, hF, hwi]
    obtain ⟨x, hx⟩ := get_of_lt hlt
    have hd : decide ((k : Int) < (p.length : Int)) = true := decide_eq_true (by omega)
    have hw : IntKind.i64.wrap ((k : Int) + 1) = ((k + 1 : Nat) : Int) := by rw [IntKind.wrap_i64]; omega
    have hmt : List.take k (List.map irow_pv p) = List.map irow_pv (p.take k) := List.map_take.symm
    have hD : dupAt p k = (p.take k).any (fun y => x == y) := by unfold dupAt; rw [List.getD_eq_getElem?_getD, hx]; rfl
    repeat (first
      | (with_reducible (first | refine sops_go ?_ | refine headW_end ?_ | refine sops_end ?_ | refine awp_if ?_ | refine awp_skip ?_ | refine awp_ret ?_ | refine awp_exit ?_); simp only [go_sem, simprocAttr, hF, hd, hx, hk, Nat.zero_le, hmt])
      | ((with_reducible refine headW_go ?_); simp only [go_sem, simprocAttr, hF, hd, hx, hk, Nat.zero_le, hmt, hbx])
      | with_reducible refine awp_seq_k fun _ _ => ?_
      | (refine awp_draw' (id := 18) [] 10 (by kernel_rfl) (by kernel_rfl) rfl rfl (fun bx0 hbx => ?_); try dsimp only [List.take, List.drop])
      | with_reducible (first | refine awp_region [] ?_ | refine awp_block ?_)
      | go_step)
    refine ⟨_, scont_ok (p.take k) x (by rw [List.length_take]; omega), ?_⟩
    simp only [go_sem, simprocAttr, hF]
    cases e6 : (p.take k).any (fun y => x == y) with
    | true =>
      have hdup : dupB p = true := List.any_eq_true.2 ⟨k, List.mem_range.2 hlt, by rw [hD, e6]⟩
      try simp only [go_sem, simprocAttr, hF, e6]
      repeat (first
        | (with_reducible (first | refine sops_go ?_ | refine headW_end ?_ | refine sops_end ?_ | refine awp_if ?_ | refine awp_skip ?_ | refine awp_ret ?_ | refine awp_exit ?_); simp only [go_sem, simprocAttr, hF, e6])
        | ((with_reducible refine headW_go ?_); simp only [go_sem, simprocAttr, hF, e6, hbx])
        | with_reducible refine awp_seq_k fun _ _ => ?_
        | (refine awp_draw' (id := 18) [] 10 (by kernel_rfl) (by kernel_rfl) rfl rfl (fun bx0 hbx => ?_); try dsimp only [List.take, List.drop])
        | with_reducible (first | refine awp_region [] ?_ | refine awp_block ?_)
        | go_step)
      rw [hRt, if_pos hdup]
    | false =>
      try simp only [go_sem, simprocAttr, hF, e6]
      repeat (first
        | (with_reducible (first | refine sops_go ?_ | refine headW_end ?_ | refine sops_end ?_ | refine awp_if ?_ | refine awp_skip ?_ | refine awp_ret ?_ | refine awp_exit ?_); simp only [go_sem, simprocAttr, hF, e6])
        | ((with_reducible refine headW_go ?_); simp only [go_sem, simprocAttr, hF, e6, hbx])
        | with_reducible refine awp_seq_k fun _ _ => ?_
        | (refine awp_draw' (id := 18) [] 10 (by kernel_rfl) (by kernel_rfl) rfl rfl (fun bx0 hbx => ?_); try dsimp only [List.take, List.drop])
        | with_reducible (first | refine awp_region [] ?_ | refine awp_block ?_)
        | go_step)
      refine ⟨⟨k + 1, by omega, by rw [List.range_succ, List.any_append, hT, List.any_cons, hD, e6]; rfl⟩, by dsimp only; omega, hR _ _ (sub_mk ?_)⟩
      simp only [go_sem, simprocAttr, hF, hw]

set_option maxHeartbeats 2000000 in
theorem rcheckP_ok (n : Net) (a b : Int) (p : List Int) (hS : SmallN n) (hc : chkN n = 0) (ha : 0 ≤ a ∧ a < n.nodes) (hb : 0 ≤ b ∧ b < n.nodes) (hab : a ≠ b) (hl : p.length ≤ 1000000) : FnOK Tryz.prog 66 [.agg n.pv, iv a, iv b, .sl 1 (p.map irow_pv)] ⟨iv (routeE n a b p), none⟩ := by
  have h0 : ((0 : Int) != 0) = false := rfl
  refine fn_ok Tryz.func66 (by kernel_rfl) rfl (by rw [Tryz.ntmps66]; exact of_decide_eq_true rfl) (fun F hF => ?_)
  rw [Tryz.ntmps66] at hF
  rw [Tryz.results66]
  repeat (first
    | (with_reducible (first | refine sops_go ?_ | refine headW_end ?_ | refine sops_end ?_ | refine awp_if ?_ | refine awp_skip ?_ | refine awp_ret ?_ | refine awp_exit ?_); simp only [go_sem, simprocAttr, hF])
    | with_reducible (first | refine awp_seq_k fun _ _ => ?_ | refine awp_region [] ?_ | refine awp_block ?_)
    | go_step)
  refine ⟨_, rends_ok n a b hS hc ha hb hab, ?_⟩
  simp only [go_sem, simprocAttr, hF, h0]
  repeat (first
    | (with_reducible (first | refine sops_go ?_ | refine headW_end ?_ | refine sops_end ?_ | refine awp_if ?_ | refine awp_skip ?_ | refine awp_ret ?_ | refine awp_exit ?_); simp only [go_sem, simprocAttr, hF, h0])
    | with_reducible (first | refine awp_seq_k fun _ _ => ?_ | refine awp_region [] ?_ | refine awp_block ?_)
    | go_step)
  refine ⟨_, rfault_ok n a b p hS hc hl, ?_⟩
  simp only [go_sem, simprocAttr, hF]
  repeat (first
    | (with_reducible (first | refine sops_go ?_ | refine headW_end ?_ | refine sops_end ?_ | refine awp_if ?_ | refine awp_skip ?_ | refine awp_ret ?_ | refine awp_exit ?_); simp only [go_sem, simprocAttr, hF])
    | with_reducible (first | refine awp_seq_k fun _ _ => ?_ | refine awp_region [] ?_ | refine awp_block ?_)
    | go_step)
  all_goals (try rfl)
/- The check of a flow, by abstract states. -/
def nodeB (nodes x : Int) : Bool := decide (0 ≤ x) && decide (x < nodes)
theorem nodeB_f {nodes x : Int} (h : x < 0 ∨ nodes ≤ x) : nodeB nodes x = false := by
  unfold nodeB
  rw [Bool.and_eq_false_iff, decide_eq_false_iff_not, decide_eq_false_iff_not]
  omega
theorem nodeB_t {nodes x : Int} (h : ¬ (x < 0 ∨ nodes ≤ x)) : nodeB nodes x = true := by
  unfold nodeB
  rw [Bool.and_eq_true, decide_eq_true_eq, decide_eq_true_eq]
  omega
set_option maxHeartbeats 2000000 in
theorem fnode_ok (nodes x : Int) : FnOK Tryz.prog 155 [iv x, .ept [ip nodes]] ⟨bv (nodeB nodes x), none⟩ := by
  refine fn_ok Tryz.func155 (by kernel_rfl) rfl (by rw [Tryz.ntmps155]; exact of_decide_eq_true rfl) (fun F hF => ?_)
  rw [Tryz.ntmps155] at hF
  rw [Tryz.results155]
  unfold nodeB
  cases h1 : decide (0 ≤ x) <;> cases h2 : decide (x < nodes)
  · repeat (first
      | (with_reducible (first | refine sops_go ?_ | refine headW_end ?_ | refine sops_end ?_ | refine awp_if ?_ | refine awp_skip ?_ | refine awp_ret ?_ | refine awp_exit ?_); simp only [go_sem, simprocAttr, hF, h1, h2])
      | with_reducible (first | refine awp_seq_k fun _ _ => ?_ | refine awp_region [] ?_ | refine awp_block ?_)
      | go_step)
    all_goals (try rfl)
  · repeat (first
      | (with_reducible (first | refine sops_go ?_ | refine headW_end ?_ | refine sops_end ?_ | refine awp_if ?_ | refine awp_skip ?_ | refine awp_ret ?_ | refine awp_exit ?_); simp only [go_sem, simprocAttr, hF, h1, h2])
      | with_reducible (first | refine awp_seq_k fun _ _ => ?_ | refine awp_region [] ?_ | refine awp_block ?_)
      | go_step)
    all_goals (try rfl)
  · repeat (first
      | (with_reducible (first | refine sops_go ?_ | refine headW_end ?_ | refine sops_end ?_ | refine awp_if ?_ | refine awp_skip ?_ | refine awp_ret ?_ | refine awp_exit ?_); simp only [go_sem, simprocAttr, hF, h1, h2])
      | with_reducible (first | refine awp_seq_k fun _ _ => ?_ | refine awp_region [] ?_ | refine awp_block ?_)
      | go_step)
    all_goals (try rfl)
  · repeat (first
      | (with_reducible (first | refine sops_go ?_ | refine headW_end ?_ | refine sops_end ?_ | refine awp_if ?_ | refine awp_skip ?_ | refine awp_ret ?_ | refine awp_exit ?_); simp only [go_sem, simprocAttr, hF, h1, h2])
      | with_reducible (first | refine awp_seq_k fun _ _ => ?_ | refine awp_region [] ?_ | refine awp_block ?_)
      | go_step)
    all_goals (try rfl)

set_option maxHeartbeats 20000000 in
theorem fcheck_ok (nodes : Int) (f : Fl) : FnOK Tryz.prog 111 [iv nodes, .agg f.pv] ⟨iv (faultN nodes f), none⟩ := by
  refine fn_ok Tryz.func111 (by kernel_rfl) rfl (by rw [Tryz.ntmps111]; exact of_decide_eq_true rfl) (fun F hF => ?_)
  rw [Tryz.ntmps111] at hF
  rw [Tryz.results111]
  by_cases h0 : f.id < 0
  case pos =>
    have e0 : decide (f.id < 0) = true := decide_eq_true (by omega)
    repeat (first
      | (with_reducible (first | refine sops_go ?_ | refine headW_end ?_ | refine sops_end ?_ | refine awp_if ?_ | refine awp_skip ?_ | refine awp_ret ?_ | refine awp_exit ?_); simp only [go_sem, simprocAttr, hF, e0])
      | with_reducible (first | refine awp_seq_k fun _ _ => ?_ | refine awp_region [] ?_ | refine awp_block ?_)
      | go_step)
    rw [faultN, if_pos (by omega)]
  have e0 : decide (f.id < 0) = false := decide_eq_false (by omega)
  by_cases h1 : 255 < f.id
  case pos =>
    have e1 : decide (255 < f.id) = true := decide_eq_true (by omega)
    repeat (first
      | (with_reducible (first | refine sops_go ?_ | refine headW_end ?_ | refine sops_end ?_ | refine awp_if ?_ | refine awp_skip ?_ | refine awp_ret ?_ | refine awp_exit ?_); simp only [go_sem, simprocAttr, hF, e0, e1])
      | with_reducible (first | refine awp_seq_k fun _ _ => ?_ | refine awp_region [] ?_ | refine awp_block ?_)
      | go_step)
    rw [faultN, if_pos (by omega)]
  have e1 : decide (255 < f.id) = false := decide_eq_false (by omega)
  by_cases h2 : f.fr < 0 ∨ nodes ≤ f.fr
  case pos =>
    have e2 : nodeB nodes f.fr = false := nodeB_f h2
    repeat (first
      | (with_reducible (first | refine sops_go ?_ | refine headW_end ?_ | refine sops_end ?_ | refine awp_if ?_ | refine awp_skip ?_ | refine awp_ret ?_ | refine awp_exit ?_); simp only [go_sem, simprocAttr, hF, e0, e1, e2])
      | with_reducible (first | refine awp_seq_k fun _ _ => ?_ | refine awp_region [] ?_ | refine awp_block ?_)
      | go_step)
    refine ⟨_, fnode_ok nodes f.fr, ?_⟩
    simp only [go_sem, simprocAttr, hF, e0, e1, e2]
    repeat (first
      | (with_reducible (first | refine sops_go ?_ | refine headW_end ?_ | refine sops_end ?_ | refine awp_if ?_ | refine awp_skip ?_ | refine awp_ret ?_ | refine awp_exit ?_); simp only [go_sem, simprocAttr, hF, e0, e1, e2])
      | with_reducible (first | refine awp_seq_k fun _ _ => ?_ | refine awp_region [] ?_ | refine awp_block ?_)
      | go_step)
    rw [faultN, if_pos (by omega)]
  have e2 : nodeB nodes f.fr = true := nodeB_t h2
  by_cases h3 : f.tn < 0 ∨ nodes ≤ f.tn
  case pos =>
    have e3 : nodeB nodes f.tn = false := nodeB_f h3
    repeat (first
      | (with_reducible (first | refine sops_go ?_ | refine headW_end ?_ | refine sops_end ?_ | refine awp_if ?_ | refine awp_skip ?_ | refine awp_ret ?_ | refine awp_exit ?_); simp only [go_sem, simprocAttr, hF, e0, e1, e2, e3])
      | with_reducible (first | refine awp_seq_k fun _ _ => ?_ | refine awp_region [] ?_ | refine awp_block ?_)
      | go_step)
    refine ⟨_, fnode_ok nodes f.fr, ?_⟩
    simp only [go_sem, simprocAttr, hF, e0, e1, e2, e3]
    repeat (first
      | (with_reducible (first | refine sops_go ?_ | refine headW_end ?_ | refine sops_end ?_ | refine awp_if ?_ | refine awp_skip ?_ | refine awp_ret ?_ | refine awp_exit ?_); simp only [go_sem, simprocAttr, hF, e0, e1, e2, e3])
      | with_reducible (first | refine awp_seq_k fun _ _ => ?_ | refine awp_region [] ?_ | refine awp_block ?_)
      | go_step)
    refine ⟨_, fnode_ok nodes f.tn, ?_⟩
    simp only [go_sem, simprocAttr, hF, e0, e1, e2, e3]
    repeat (first
      | (with_reducible (first | refine sops_go ?_ | refine headW_end ?_ | refine sops_end ?_ | refine awp_if ?_ | refine awp_skip ?_ | refine awp_ret ?_ | refine awp_exit ?_); simp only [go_sem, simprocAttr, hF, e0, e1, e2, e3])
      | with_reducible (first | refine awp_seq_k fun _ _ => ?_ | refine awp_region [] ?_ | refine awp_block ?_)
      | go_step)
    rw [faultN, if_pos (by omega)]
  have e3 : nodeB nodes f.tn = true := nodeB_t h3
  by_cases h4 : f.pe < 1
  case pos =>
    have e4 : decide (f.pe < 1) = true := decide_eq_true (by omega)
    repeat (first
      | (with_reducible (first | refine sops_go ?_ | refine headW_end ?_ | refine sops_end ?_ | refine awp_if ?_ | refine awp_skip ?_ | refine awp_ret ?_ | refine awp_exit ?_); simp only [go_sem, simprocAttr, hF, e0, e1, e2, e3, e4])
      | with_reducible (first | refine awp_seq_k fun _ _ => ?_ | refine awp_region [] ?_ | refine awp_block ?_)
      | go_step)
    refine ⟨_, fnode_ok nodes f.fr, ?_⟩
    simp only [go_sem, simprocAttr, hF, e0, e1, e2, e3, e4]
    repeat (first
      | (with_reducible (first | refine sops_go ?_ | refine headW_end ?_ | refine sops_end ?_ | refine awp_if ?_ | refine awp_skip ?_ | refine awp_ret ?_ | refine awp_exit ?_); simp only [go_sem, simprocAttr, hF, e0, e1, e2, e3, e4])
      | with_reducible (first | refine awp_seq_k fun _ _ => ?_ | refine awp_region [] ?_ | refine awp_block ?_)
      | go_step)
    refine ⟨_, fnode_ok nodes f.tn, ?_⟩
    simp only [go_sem, simprocAttr, hF, e0, e1, e2, e3, e4]
    repeat (first
      | (with_reducible (first | refine sops_go ?_ | refine headW_end ?_ | refine sops_end ?_ | refine awp_if ?_ | refine awp_skip ?_ | refine awp_ret ?_ | refine awp_exit ?_); simp only [go_sem, simprocAttr, hF, e0, e1, e2, e3, e4])
      | with_reducible (first | refine awp_seq_k fun _ _ => ?_ | refine awp_region [] ?_ | refine awp_block ?_)
      | go_step)
    rw [faultN, if_pos (by omega)]
  have e4 : decide (f.pe < 1) = false := decide_eq_false (by omega)
  by_cases h5 : 512 < f.pe
  case pos =>
    have e5 : decide (512 < f.pe) = true := decide_eq_true (by omega)
    repeat (first
      | (with_reducible (first | refine sops_go ?_ | refine headW_end ?_ | refine sops_end ?_ | refine awp_if ?_ | refine awp_skip ?_ | refine awp_ret ?_ | refine awp_exit ?_); simp only [go_sem, simprocAttr, hF, e0, e1, e2, e3, e4, e5])
      | with_reducible (first | refine awp_seq_k fun _ _ => ?_ | refine awp_region [] ?_ | refine awp_block ?_)
      | go_step)
    refine ⟨_, fnode_ok nodes f.fr, ?_⟩
    simp only [go_sem, simprocAttr, hF, e0, e1, e2, e3, e4, e5]
    repeat (first
      | (with_reducible (first | refine sops_go ?_ | refine headW_end ?_ | refine sops_end ?_ | refine awp_if ?_ | refine awp_skip ?_ | refine awp_ret ?_ | refine awp_exit ?_); simp only [go_sem, simprocAttr, hF, e0, e1, e2, e3, e4, e5])
      | with_reducible (first | refine awp_seq_k fun _ _ => ?_ | refine awp_region [] ?_ | refine awp_block ?_)
      | go_step)
    refine ⟨_, fnode_ok nodes f.tn, ?_⟩
    simp only [go_sem, simprocAttr, hF, e0, e1, e2, e3, e4, e5]
    repeat (first
      | (with_reducible (first | refine sops_go ?_ | refine headW_end ?_ | refine sops_end ?_ | refine awp_if ?_ | refine awp_skip ?_ | refine awp_ret ?_ | refine awp_exit ?_); simp only [go_sem, simprocAttr, hF, e0, e1, e2, e3, e4, e5])
      | with_reducible (first | refine awp_seq_k fun _ _ => ?_ | refine awp_region [] ?_ | refine awp_block ?_)
      | go_step)
    rw [faultN, if_pos (by omega)]
  have e5 : decide (512 < f.pe) = false := decide_eq_false (by omega)
  by_cases h6 : f.ph < 0
  case pos =>
    have e6 : decide (f.ph < 0) = true := decide_eq_true (by omega)
    repeat (first
      | (with_reducible (first | refine sops_go ?_ | refine headW_end ?_ | refine sops_end ?_ | refine awp_if ?_ | refine awp_skip ?_ | refine awp_ret ?_ | refine awp_exit ?_); simp only [go_sem, simprocAttr, hF, e0, e1, e2, e3, e4, e5, e6])
      | with_reducible (first | refine awp_seq_k fun _ _ => ?_ | refine awp_region [] ?_ | refine awp_block ?_)
      | go_step)
    refine ⟨_, fnode_ok nodes f.fr, ?_⟩
    simp only [go_sem, simprocAttr, hF, e0, e1, e2, e3, e4, e5, e6]
    repeat (first
      | (with_reducible (first | refine sops_go ?_ | refine headW_end ?_ | refine sops_end ?_ | refine awp_if ?_ | refine awp_skip ?_ | refine awp_ret ?_ | refine awp_exit ?_); simp only [go_sem, simprocAttr, hF, e0, e1, e2, e3, e4, e5, e6])
      | with_reducible (first | refine awp_seq_k fun _ _ => ?_ | refine awp_region [] ?_ | refine awp_block ?_)
      | go_step)
    refine ⟨_, fnode_ok nodes f.tn, ?_⟩
    simp only [go_sem, simprocAttr, hF, e0, e1, e2, e3, e4, e5, e6]
    repeat (first
      | (with_reducible (first | refine sops_go ?_ | refine headW_end ?_ | refine sops_end ?_ | refine awp_if ?_ | refine awp_skip ?_ | refine awp_ret ?_ | refine awp_exit ?_); simp only [go_sem, simprocAttr, hF, e0, e1, e2, e3, e4, e5, e6])
      | with_reducible (first | refine awp_seq_k fun _ _ => ?_ | refine awp_region [] ?_ | refine awp_block ?_)
      | go_step)
    rw [faultN, if_pos (by omega)]
  have e6 : decide (f.ph < 0) = false := decide_eq_false (by omega)
  by_cases h7 : f.pe ≤ f.ph
  case pos =>
    have e7 : decide (f.pe ≤ f.ph) = true := decide_eq_true (by omega)
    repeat (first
      | (with_reducible (first | refine sops_go ?_ | refine headW_end ?_ | refine sops_end ?_ | refine awp_if ?_ | refine awp_skip ?_ | refine awp_ret ?_ | refine awp_exit ?_); simp only [go_sem, simprocAttr, hF, e0, e1, e2, e3, e4, e5, e6, e7])
      | with_reducible (first | refine awp_seq_k fun _ _ => ?_ | refine awp_region [] ?_ | refine awp_block ?_)
      | go_step)
    refine ⟨_, fnode_ok nodes f.fr, ?_⟩
    simp only [go_sem, simprocAttr, hF, e0, e1, e2, e3, e4, e5, e6, e7]
    repeat (first
      | (with_reducible (first | refine sops_go ?_ | refine headW_end ?_ | refine sops_end ?_ | refine awp_if ?_ | refine awp_skip ?_ | refine awp_ret ?_ | refine awp_exit ?_); simp only [go_sem, simprocAttr, hF, e0, e1, e2, e3, e4, e5, e6, e7])
      | with_reducible (first | refine awp_seq_k fun _ _ => ?_ | refine awp_region [] ?_ | refine awp_block ?_)
      | go_step)
    refine ⟨_, fnode_ok nodes f.tn, ?_⟩
    simp only [go_sem, simprocAttr, hF, e0, e1, e2, e3, e4, e5, e6, e7]
    repeat (first
      | (with_reducible (first | refine sops_go ?_ | refine headW_end ?_ | refine sops_end ?_ | refine awp_if ?_ | refine awp_skip ?_ | refine awp_ret ?_ | refine awp_exit ?_); simp only [go_sem, simprocAttr, hF, e0, e1, e2, e3, e4, e5, e6, e7])
      | with_reducible (first | refine awp_seq_k fun _ _ => ?_ | refine awp_region [] ?_ | refine awp_block ?_)
      | go_step)
    rw [faultN, if_pos (by omega)]
  have e7 : decide (f.pe ≤ f.ph) = false := decide_eq_false (by omega)
  by_cases h8 : f.dl < 1
  case pos =>
    have e8 : decide (f.dl < 1) = true := decide_eq_true (by omega)
    repeat (first
      | (with_reducible (first | refine sops_go ?_ | refine headW_end ?_ | refine sops_end ?_ | refine awp_if ?_ | refine awp_skip ?_ | refine awp_ret ?_ | refine awp_exit ?_); simp only [go_sem, simprocAttr, hF, e0, e1, e2, e3, e4, e5, e6, e7, e8])
      | with_reducible (first | refine awp_seq_k fun _ _ => ?_ | refine awp_region [] ?_ | refine awp_block ?_)
      | go_step)
    refine ⟨_, fnode_ok nodes f.fr, ?_⟩
    simp only [go_sem, simprocAttr, hF, e0, e1, e2, e3, e4, e5, e6, e7, e8]
    repeat (first
      | (with_reducible (first | refine sops_go ?_ | refine headW_end ?_ | refine sops_end ?_ | refine awp_if ?_ | refine awp_skip ?_ | refine awp_ret ?_ | refine awp_exit ?_); simp only [go_sem, simprocAttr, hF, e0, e1, e2, e3, e4, e5, e6, e7, e8])
      | with_reducible (first | refine awp_seq_k fun _ _ => ?_ | refine awp_region [] ?_ | refine awp_block ?_)
      | go_step)
    refine ⟨_, fnode_ok nodes f.tn, ?_⟩
    simp only [go_sem, simprocAttr, hF, e0, e1, e2, e3, e4, e5, e6, e7, e8]
    repeat (first
      | (with_reducible (first | refine sops_go ?_ | refine headW_end ?_ | refine sops_end ?_ | refine awp_if ?_ | refine awp_skip ?_ | refine awp_ret ?_ | refine awp_exit ?_); simp only [go_sem, simprocAttr, hF, e0, e1, e2, e3, e4, e5, e6, e7, e8])
      | with_reducible (first | refine awp_seq_k fun _ _ => ?_ | refine awp_region [] ?_ | refine awp_block ?_)
      | go_step)
    rw [faultN, if_pos (by omega)]
  have e8 : decide (f.dl < 1) = false := decide_eq_false (by omega)
  by_cases h9 : f.pe < f.dl
  case pos =>
    have e9 : decide (f.pe < f.dl) = true := decide_eq_true (by omega)
    repeat (first
      | (with_reducible (first | refine sops_go ?_ | refine headW_end ?_ | refine sops_end ?_ | refine awp_if ?_ | refine awp_skip ?_ | refine awp_ret ?_ | refine awp_exit ?_); simp only [go_sem, simprocAttr, hF, e0, e1, e2, e3, e4, e5, e6, e7, e8, e9])
      | with_reducible (first | refine awp_seq_k fun _ _ => ?_ | refine awp_region [] ?_ | refine awp_block ?_)
      | go_step)
    refine ⟨_, fnode_ok nodes f.fr, ?_⟩
    simp only [go_sem, simprocAttr, hF, e0, e1, e2, e3, e4, e5, e6, e7, e8, e9]
    repeat (first
      | (with_reducible (first | refine sops_go ?_ | refine headW_end ?_ | refine sops_end ?_ | refine awp_if ?_ | refine awp_skip ?_ | refine awp_ret ?_ | refine awp_exit ?_); simp only [go_sem, simprocAttr, hF, e0, e1, e2, e3, e4, e5, e6, e7, e8, e9])
      | with_reducible (first | refine awp_seq_k fun _ _ => ?_ | refine awp_region [] ?_ | refine awp_block ?_)
      | go_step)
    refine ⟨_, fnode_ok nodes f.tn, ?_⟩
    simp only [go_sem, simprocAttr, hF, e0, e1, e2, e3, e4, e5, e6, e7, e8, e9]
    repeat (first
      | (with_reducible (first | refine sops_go ?_ | refine headW_end ?_ | refine sops_end ?_ | refine awp_if ?_ | refine awp_skip ?_ | refine awp_ret ?_ | refine awp_exit ?_); simp only [go_sem, simprocAttr, hF, e0, e1, e2, e3, e4, e5, e6, e7, e8, e9])
      | with_reducible (first | refine awp_seq_k fun _ _ => ?_ | refine awp_region [] ?_ | refine awp_block ?_)
      | go_step)
    rw [faultN, if_pos (by omega)]
  have e9 : decide (f.pe < f.dl) = false := decide_eq_false (by omega)
  by_cases h10 : f.fr = f.tn
  case pos =>
    have e10 : (f.fr == f.tn) = true := by simpa using h10
    repeat (first
      | (with_reducible (first | refine sops_go ?_ | refine headW_end ?_ | refine sops_end ?_ | refine awp_if ?_ | refine awp_skip ?_ | refine awp_ret ?_ | refine awp_exit ?_); simp only [go_sem, simprocAttr, hF, e0, e1, e2, e3, e4, e5, e6, e7, e8, e9, e10])
      | with_reducible (first | refine awp_seq_k fun _ _ => ?_ | refine awp_region [] ?_ | refine awp_block ?_)
      | go_step)
    refine ⟨_, fnode_ok nodes f.fr, ?_⟩
    simp only [go_sem, simprocAttr, hF, e0, e1, e2, e3, e4, e5, e6, e7, e8, e9, e10]
    repeat (first
      | (with_reducible (first | refine sops_go ?_ | refine headW_end ?_ | refine sops_end ?_ | refine awp_if ?_ | refine awp_skip ?_ | refine awp_ret ?_ | refine awp_exit ?_); simp only [go_sem, simprocAttr, hF, e0, e1, e2, e3, e4, e5, e6, e7, e8, e9, e10])
      | with_reducible (first | refine awp_seq_k fun _ _ => ?_ | refine awp_region [] ?_ | refine awp_block ?_)
      | go_step)
    refine ⟨_, fnode_ok nodes f.tn, ?_⟩
    simp only [go_sem, simprocAttr, hF, e0, e1, e2, e3, e4, e5, e6, e7, e8, e9, e10]
    repeat (first
      | (with_reducible (first | refine sops_go ?_ | refine headW_end ?_ | refine sops_end ?_ | refine awp_if ?_ | refine awp_skip ?_ | refine awp_ret ?_ | refine awp_exit ?_); simp only [go_sem, simprocAttr, hF, e0, e1, e2, e3, e4, e5, e6, e7, e8, e9, e10])
      | with_reducible (first | refine awp_seq_k fun _ _ => ?_ | refine awp_region [] ?_ | refine awp_block ?_)
      | go_step)
    rw [faultN, if_neg (by omega), if_pos h10]
  have e10 : (f.fr == f.tn) = false := by simpa using h10
  repeat (first
    | (with_reducible (first | refine sops_go ?_ | refine headW_end ?_ | refine sops_end ?_ | refine awp_if ?_ | refine awp_skip ?_ | refine awp_ret ?_ | refine awp_exit ?_); simp only [go_sem, simprocAttr, hF, e0, e1, e2, e3, e4, e5, e6, e7, e8, e9, e10])
    | with_reducible (first | refine awp_seq_k fun _ _ => ?_ | refine awp_region [] ?_ | refine awp_block ?_)
    | go_step)
  refine ⟨_, fnode_ok nodes f.fr, ?_⟩
  simp only [go_sem, simprocAttr, hF, e0, e1, e2, e3, e4, e5, e6, e7, e8, e9, e10]
  repeat (first
    | (with_reducible (first | refine sops_go ?_ | refine headW_end ?_ | refine sops_end ?_ | refine awp_if ?_ | refine awp_skip ?_ | refine awp_ret ?_ | refine awp_exit ?_); simp only [go_sem, simprocAttr, hF, e0, e1, e2, e3, e4, e5, e6, e7, e8, e9, e10])
    | with_reducible (first | refine awp_seq_k fun _ _ => ?_ | refine awp_region [] ?_ | refine awp_block ?_)
    | go_step)
  refine ⟨_, fnode_ok nodes f.tn, ?_⟩
  simp only [go_sem, simprocAttr, hF, e0, e1, e2, e3, e4, e5, e6, e7, e8, e9, e10]
  repeat (first
    | (with_reducible (first | refine sops_go ?_ | refine headW_end ?_ | refine sops_end ?_ | refine awp_if ?_ | refine awp_skip ?_ | refine awp_ret ?_ | refine awp_exit ?_); simp only [go_sem, simprocAttr, hF, e0, e1, e2, e3, e4, e5, e6, e7, e8, e9, e10])
    | with_reducible (first | refine awp_seq_k fun _ _ => ?_ | refine awp_region [] ?_ | refine awp_block ?_)
    | go_step)
  rw [faultN, if_neg (by omega), if_neg h10]

theorem c11 : ((1 : Nat) : Int) = 1 := rfl
theorem c00 : ((0 : Nat) : Int) = 0 := rfl
theorem c01 : decide ((0 : Int) < 0) = false := rfl

set_option maxHeartbeats 20000000 in
theorem fCheck_ok (nodes : Int) (f : Fl) : FnOK Tryz.prog 81 [iv nodes, .sl 6 [f.pv]] ⟨.tup [.c (ip (chkF1 nodes f).1), .c (ip (chkF1 nodes f).2)], none⟩ := by
  refine fn_ok Tryz.func81 (by kernel_rfl) rfl (by rw [Tryz.ntmps81]; exact of_decide_eq_true rfl) (fun F hF => ?_)
  rw [Tryz.ntmps81] at hF
  rw [Tryz.results81]
  by_cases h0 : nodes < 2
  case pos =>
    have e0 : decide (nodes < 2) = true := decide_eq_true (by omega)
    repeat (first
      | (with_reducible (first | refine sops_go ?_ | refine headW_end ?_ | refine sops_end ?_ | refine awp_if ?_ | refine awp_skip ?_ | refine awp_ret ?_ | refine awp_exit ?_); simp only [go_sem, simprocAttr, hF, e0])
      | ((with_reducible refine headW_go ?_); simp only [go_sem, simprocAttr, hF, e0, hbx])
      | with_reducible refine awp_seq_k fun _ _ => ?_
      | (refine awp_draw' (id := 11) [] 13 (by kernel_rfl) (by kernel_rfl) rfl rfl (fun bx0 hbx => ?_); try dsimp only [List.take, List.drop])
      | with_reducible (first | refine awp_region [] ?_ | refine awp_block ?_)
      | go_step)
    rw [chkF1, if_pos (by omega)]
  have e0 : decide (nodes < 2) = false := decide_eq_false (by omega)
  by_cases h1 : 32 < nodes
  case pos =>
    have e1 : decide (32 < nodes) = true := decide_eq_true (by omega)
    repeat (first
      | (with_reducible (first | refine sops_go ?_ | refine headW_end ?_ | refine sops_end ?_ | refine awp_if ?_ | refine awp_skip ?_ | refine awp_ret ?_ | refine awp_exit ?_); simp only [go_sem, simprocAttr, hF, e0, e1])
      | ((with_reducible refine headW_go ?_); simp only [go_sem, simprocAttr, hF, e0, e1, hbx])
      | with_reducible refine awp_seq_k fun _ _ => ?_
      | (refine awp_draw' (id := 11) [] 13 (by kernel_rfl) (by kernel_rfl) rfl rfl (fun bx0 hbx => ?_); try dsimp only [List.take, List.drop])
      | with_reducible (first | refine awp_region [] ?_ | refine awp_block ?_)
      | go_step)
    rw [chkF1, if_pos (by omega)]
  have e1 : decide (32 < nodes) = false := decide_eq_false (by omega)
  repeat (first
    | (with_reducible (first | refine sops_go ?_ | refine headW_end ?_ | refine sops_end ?_ | refine awp_if ?_ | refine awp_skip ?_ | refine awp_ret ?_ | refine awp_exit ?_); simp only [go_sem, simprocAttr, hF, e0, e1])
    | ((with_reducible refine headW_go ?_); simp only [go_sem, simprocAttr, hF, e0, e1, hbx])
    | with_reducible refine awp_seq_k fun _ _ => ?_
    | (refine awp_draw' (id := 11) [] 13 (by kernel_rfl) (by kernel_rfl) rfl rfl (fun bx0 hbx => ?_); try dsimp only [List.take, List.drop])
    | with_reducible (first | refine awp_region [] ?_ | refine awp_block ?_)
    | go_step)
  refine awp_loop_by (ι := {k : Nat // k ≤ 1 ∧ (k = 1 → faultN nodes f = 0)}) (fun k σ => ⟨(20, iv (k.1 : Int)) :: keepS [0, 1, 4, 5, 18, 19] σ.slot, [], [], σ.ext⟩) (fun k => 1 - k.1) ⟨0, by omega, by omega⟩ (sub_mk ?_) (fun R hR k => ?_)
  · simp only [go_sem, simprocAttr, hF]
    repeat' (first | rfl | refine ⟨?_, ?_⟩)
  obtain ⟨k, hk, hT⟩ := k
  dsimp only
  simp only [go_sem, simprocAttr, hF]
  by_cases hlt : k < 1
  case neg =>
    obtain rfl : k = 1 := by omega
    have hd : decide (((1 : Nat) : Int) < 1) = false := rfl
    repeat (first
      | (with_reducible (first | refine sops_go ?_ | refine headW_end ?_ | refine sops_end ?_ | refine awp_if ?_ | refine awp_skip ?_ | refine awp_ret ?_ | refine awp_exit ?_); simp only [go_sem, simprocAttr, hF, hd, c11])
      | ((with_reducible refine headW_go ?_); simp only [go_sem, simprocAttr, hF, hd, c11, hbx])
      | with_reducible refine awp_seq_k fun _ _ => ?_
      | (refine awp_draw' (id := 11) [] 13 (by kernel_rfl) (by kernel_rfl) rfl rfl (fun bx0 hbx => ?_); try dsimp only [List.take, List.drop])
      | with_reducible (first | refine awp_region [] ?_ | refine awp_block ?_)
      | go_step)
    rw [chkF1, if_neg (by omega), if_pos (hT rfl)]
  obtain rfl : k = 0 := by omega
  have hd : decide (((0 : Nat) : Int) < 1) = true := rfl
  have hw : IntKind.i64.wrap (((0 : Nat) : Int) + 1) = ((1 : Nat) : Int) := rfl
  repeat (first
    | (with_reducible (first | refine sops_go ?_ | refine headW_end ?_ | refine sops_end ?_ | refine awp_if ?_ | refine awp_skip ?_ | refine awp_ret ?_ | refine awp_exit ?_); simp only [go_sem, simprocAttr, hF, hd, c11, c00, c01])
    | ((with_reducible refine headW_go ?_); simp only [go_sem, simprocAttr, hF, hd, c11, c00, c01, hbx])
    | with_reducible refine awp_seq_k fun _ _ => ?_
    | (refine awp_draw' (id := 11) [] 13 (by kernel_rfl) (by kernel_rfl) rfl rfl (fun bx0 hbx => ?_); try dsimp only [List.take, List.drop])
    | with_reducible (first | refine awp_region [] ?_ | refine awp_block ?_)
    | go_step)
  refine ⟨_, fcheck_ok nodes f, ?_⟩
  simp only [go_sem, simprocAttr, hF]
  by_cases h3 : faultN nodes f = 0
  case neg =>
    have e3 : (faultN nodes f != 0) = true := by simpa using h3
    try simp only [go_sem, simprocAttr, hF, e3]
    repeat (first
      | (with_reducible (first | refine sops_go ?_ | refine headW_end ?_ | refine sops_end ?_ | refine awp_if ?_ | refine awp_skip ?_ | refine awp_ret ?_ | refine awp_exit ?_); simp only [go_sem, simprocAttr, hF, e3])
      | ((with_reducible refine headW_go ?_); simp only [go_sem, simprocAttr, hF, e3, hbx])
      | with_reducible refine awp_seq_k fun _ _ => ?_
      | (refine awp_draw' (id := 11) [] 13 (by kernel_rfl) (by kernel_rfl) rfl rfl (fun bx0 hbx => ?_); try dsimp only [List.take, List.drop])
      | with_reducible (first | refine awp_region [] ?_ | refine awp_block ?_)
      | go_step)
    rw [chkF1, if_neg (by omega), if_neg h3]
  have e3 : (faultN nodes f != 0) = false := by simpa using h3
  try simp only [go_sem, simprocAttr, hF, e3, c01, c00]
  repeat (first
    | (with_reducible (first | refine sops_go ?_ | refine headW_end ?_ | refine sops_end ?_ | refine awp_if ?_ | refine awp_skip ?_ | refine awp_ret ?_ | refine awp_exit ?_); simp only [go_sem, simprocAttr, hF, e3, c01, c00])
    | ((with_reducible refine headW_go ?_); simp only [go_sem, simprocAttr, hF, e3, c01, c00, hbx])
    | with_reducible refine awp_seq_k fun _ _ => ?_
    | (refine awp_draw' (id := 11) [] 13 (by kernel_rfl) (by kernel_rfl) rfl rfl (fun bx0 hbx => ?_); try dsimp only [List.take, List.drop])
    | with_reducible (first | refine awp_region [] ?_ | refine awp_block ?_)
    | go_step)
  refine ⟨⟨1, by omega, fun _ => h3⟩, by dsimp only; omega, hR _ _ (sub_mk ?_)⟩
  simp only [go_sem, simprocAttr, hF, hw]
  all_goals rfl
/- explain.base and check, by abstract states. -/
attribute [local go_sem] Tryz.sz67 Tryz.zr67 Tryz.by67 Tryz.pl67 Tryz.is67 Tryz.underlying67
set_option maxHeartbeats 20000000 in
theorem base_ok (n : Net) (f : Fl) (r : Rec) (hS : SmallN n) (hla : r.al.length ≤ 1000000) (hld : r.dl.length ≤ 1000000) : FnOK Tryz.prog 40 [.agg n.pv, .agg f.pv, .agg r.pv] ⟨bv (basicB n f r), none⟩ := by
  refine fn_ok Tryz.func40 (by kernel_rfl) rfl (by rw [Tryz.ntmps40]; exact of_decide_eq_true rfl) (fun F hF => ?_)
  rw [Tryz.ntmps40] at hF
  rw [Tryz.results40]
  by_cases h1 : chkN n = 0
  case neg =>
    have e1 : (chkN n != 0) = true := by simpa using h1
    have hB : basicB n f r = false := by unfold basicB; rw [decide_eq_false h1]; rfl
    rw [hB]
    repeat (first
      | (with_reducible (first | refine sops_go ?_ | refine headW_end ?_ | refine sops_end ?_ | refine awp_if ?_ | refine awp_skip ?_ | refine awp_ret ?_ | refine awp_exit ?_); simp only [go_sem, simprocAttr, hF, e1])
      | with_reducible (first | refine awp_seq_k fun _ _ => ?_ | refine awp_region [] ?_ | refine awp_block ?_)
      | go_step)
    refine ⟨_, ncheck_ok n hS.pow hS.rows hS.lk hS.mg, ?_⟩
    simp only [go_sem, simprocAttr, hF, e1]
    repeat (first
      | (with_reducible (first | refine sops_go ?_ | refine headW_end ?_ | refine sops_end ?_ | refine awp_if ?_ | refine awp_skip ?_ | refine awp_ret ?_ | refine awp_exit ?_); simp only [go_sem, simprocAttr, hF, e1])
      | with_reducible (first | refine awp_seq_k fun _ _ => ?_ | refine awp_region [] ?_ | refine awp_block ?_)
      | go_step)
    all_goals (try rfl)
  have e1 : (chkN n != 0) = false := by simpa using h1
  cases hg : good r with
  | false =>
    have hr : checkE r = 1 := by rw [checkE, hg]; rfl
    have e2 : ((checkE r) != 0) = true := by rw [hr]; rfl
    have hB : basicB n f r = false := by unfold basicB; rw [hg, decide_eq_true h1]; rfl
    rw [hB]
    repeat (first
      | (with_reducible (first | refine sops_go ?_ | refine headW_end ?_ | refine sops_end ?_ | refine awp_if ?_ | refine awp_skip ?_ | refine awp_ret ?_ | refine awp_exit ?_); simp only [go_sem, simprocAttr, hF, e1, e2])
      | with_reducible (first | refine awp_seq_k fun _ _ => ?_ | refine awp_region [] ?_ | refine awp_block ?_)
      | go_step)
    refine ⟨_, ncheck_ok n hS.pow hS.rows hS.lk hS.mg, ?_⟩
    simp only [go_sem, simprocAttr, hF, e1]
    repeat (first
      | (with_reducible (first | refine sops_go ?_ | refine headW_end ?_ | refine sops_end ?_ | refine awp_if ?_ | refine awp_skip ?_ | refine awp_ret ?_ | refine awp_exit ?_); simp only [go_sem, simprocAttr, hF, e1, e2])
      | with_reducible (first | refine awp_seq_k fun _ _ => ?_ | refine awp_region [] ?_ | refine awp_block ?_)
      | go_step)
    refine ⟨_, check_ok r hla hld, ?_⟩
    simp only [go_sem, simprocAttr, hF, e2]
    repeat (first
      | (with_reducible (first | refine sops_go ?_ | refine headW_end ?_ | refine sops_end ?_ | refine awp_if ?_ | refine awp_skip ?_ | refine awp_ret ?_ | refine awp_exit ?_); simp only [go_sem, simprocAttr, hF, e1, e2])
      | with_reducible (first | refine awp_seq_k fun _ _ => ?_ | refine awp_region [] ?_ | refine awp_block ?_)
      | go_step)
    all_goals (try rfl)
  | true =>
    have hr : checkE r = 0 := by rw [checkE, hg]; rfl
    have e2 : ((checkE r) != 0) = false := by rw [hr]; rfl
    have hB : basicB n f r = ((chkF1 n.nodes f).2 == 0) := by unfold basicB; rw [hg, decide_eq_true h1, Bool.true_and, Bool.true_and]; exact (Bool.beq_eq_decide_eq _ _).symm
    rw [hB]
    repeat (first
      | (with_reducible (first | refine sops_go ?_ | refine headW_end ?_ | refine sops_end ?_ | refine awp_if ?_ | refine awp_skip ?_ | refine awp_ret ?_ | refine awp_exit ?_); simp only [go_sem, simprocAttr, hF, e1, e2])
      | with_reducible (first | refine awp_seq_k fun _ _ => ?_ | refine awp_region [] ?_ | refine awp_block ?_)
      | go_step)
    refine ⟨_, ncheck_ok n hS.pow hS.rows hS.lk hS.mg, ?_⟩
    simp only [go_sem, simprocAttr, hF, e1]
    repeat (first
      | (with_reducible (first | refine sops_go ?_ | refine headW_end ?_ | refine sops_end ?_ | refine awp_if ?_ | refine awp_skip ?_ | refine awp_ret ?_ | refine awp_exit ?_); simp only [go_sem, simprocAttr, hF, e1, e2])
      | with_reducible (first | refine awp_seq_k fun _ _ => ?_ | refine awp_region [] ?_ | refine awp_block ?_)
      | go_step)
    refine ⟨_, check_ok r hla hld, ?_⟩
    simp only [go_sem, simprocAttr, hF, e2]
    repeat (first
      | (with_reducible (first | refine sops_go ?_ | refine headW_end ?_ | refine sops_end ?_ | refine awp_if ?_ | refine awp_skip ?_ | refine awp_ret ?_ | refine awp_exit ?_); simp only [go_sem, simprocAttr, hF, e1, e2])
      | with_reducible (first | refine awp_seq_k fun _ _ => ?_ | refine awp_region [] ?_ | refine awp_block ?_)
      | go_step)
    refine ⟨_, fCheck_ok n.nodes f, ?_⟩
    simp only [go_sem, simprocAttr, hF]
    repeat (first
      | (with_reducible (first | refine sops_go ?_ | refine headW_end ?_ | refine sops_end ?_ | refine awp_if ?_ | refine awp_skip ?_ | refine awp_ret ?_ | refine awp_exit ?_); simp only [go_sem, simprocAttr, hF])
      | with_reducible (first | refine awp_seq_k fun _ _ => ?_ | refine awp_region [] ?_ | refine awp_block ?_)
      | go_step)
    all_goals (try rfl)

set_option maxHeartbeats 2000000 in
theorem check1_ok (n : Net) (f : Fl) (p : List Int) (hS : SmallN n) (hc : chkN n = 0) (hfr : 0 ≤ f.fr ∧ f.fr < n.nodes) (htn : 0 ≤ f.tn ∧ f.tn < n.nodes) (hne : f.fr ≠ f.tn) (hl : p.length ≤ 1000000) : FnOK Tryz.prog 65 [.sl 1 (p.map irow_pv), .ept n.pv, .ept f.pv] ⟨bv (!(routeE n f.fr f.tn p == 0)), none⟩ := by
  refine fn_ok Tryz.func65 (by kernel_rfl) rfl (by rw [Tryz.ntmps65]; exact of_decide_eq_true rfl) (fun F hF => ?_)
  rw [Tryz.ntmps65] at hF
  rw [Tryz.results65]
  repeat (first
    | (with_reducible (first | refine sops_go ?_ | refine headW_end ?_ | refine sops_end ?_ | refine awp_if ?_ | refine awp_skip ?_ | refine awp_ret ?_ | refine awp_exit ?_); simp only [go_sem, simprocAttr, hF])
    | with_reducible (first | refine awp_seq_k fun _ _ => ?_ | refine awp_region [] ?_ | refine awp_block ?_)
    | go_step)
  refine ⟨_, rcheckP_ok n f.fr f.tn p hS hc hfr htn hne hl, ?_⟩
  simp only [go_sem, simprocAttr, hF]
  repeat (first
    | (with_reducible (first | refine sops_go ?_ | refine headW_end ?_ | refine sops_end ?_ | refine awp_if ?_ | refine awp_skip ?_ | refine awp_ret ?_ | refine awp_exit ?_); simp only [go_sem, simprocAttr, hF])
    | with_reducible (first | refine awp_seq_k fun _ _ => ?_ | refine awp_region [] ?_ | refine awp_block ?_)
    | go_step)
  all_goals (try rfl)

set_option maxHeartbeats 2000000 in
theorem check2_ok (x : Lt) (fr : Int) : FnOK Tryz.prog 69 [.agg x.pv, .ept [ip fr]] ⟨bv (x.fr == fr), none⟩ := by
  refine fn_ok Tryz.func69 (by kernel_rfl) rfl (by rw [Tryz.ntmps69]; exact of_decide_eq_true rfl) (fun F hF => ?_)
  rw [Tryz.ntmps69] at hF
  rw [Tryz.results69]
  repeat (first
    | (with_reducible (first | refine sops_go ?_ | refine headW_end ?_ | refine sops_end ?_ | refine awp_if ?_ | refine awp_skip ?_ | refine awp_ret ?_ | refine awp_exit ?_); simp only [go_sem, simprocAttr, hF])
    | with_reducible (first | refine awp_seq_k fun _ _ => ?_ | refine awp_region [] ?_ | refine awp_block ?_)
    | go_step)
  all_goals (try rfl)

set_option maxHeartbeats 20000000 in
theorem checkL_ok (n : Net) (f : Fl) (ps : List (List Int)) (r : Rec) (fr : Int) (hS : SmallN n) (hla : r.al.length ≤ 1000000) (hld : r.dl.length ≤ 1000000) (hps : ps.length ≤ 1000000) (hpl : ∀ p ∈ ps, p.length ≤ 1000000) : FnOK Tryz.prog 36 [.agg n.pv, .agg f.pv, .sl 1 (ps.map prow_pv), .agg r.pv, iv fr] ⟨.tup [.g (lateX n f ps r fr).1.pv, .c (ip (lateX n f ps r fr).2)], none⟩ := by
  refine fn_ok Tryz.func36 (by kernel_rfl) rfl (by rw [Tryz.ntmps36]; exact of_decide_eq_true rfl) (fun F hF => ?_)
  rw [Tryz.ntmps36] at hF
  rw [Tryz.results36]
  cases hB : basicB n f r with
  | false =>
    repeat (first
      | (with_reducible (first | refine sops_go ?_ | refine headW_end ?_ | refine sops_end ?_ | refine awp_if ?_ | refine awp_skip ?_ | refine awp_ret ?_ | refine awp_exit ?_); simp only [go_sem, simprocAttr, hF, hB])
      | with_reducible (first | refine awp_seq_k fun _ _ => ?_ | refine awp_region [] ?_ | refine awp_block ?_)
      | go_step)
    refine ⟨_, base_ok n f r hS hla hld, ?_⟩
    simp only [go_sem, simprocAttr, hF, hB]
    repeat (first
      | (with_reducible (first | refine sops_go ?_ | refine headW_end ?_ | refine sops_end ?_ | refine awp_if ?_ | refine awp_skip ?_ | refine awp_ret ?_ | refine awp_exit ?_); simp only [go_sem, simprocAttr, hF, hB])
      | with_reducible (first | refine awp_seq_k fun _ _ => ?_ | refine awp_region [] ?_ | refine awp_block ?_)
      | go_step)
    rw [show lateX n f ps r fr = (lt0, 1) from by unfold lateX; rw [if_pos (.inl hB)]]
    all_goals (try rfl)
  | true =>
    obtain ⟨hc, hg, hn, hfN, hf⟩ := basicB_inv hB
    obtain ⟨_, f1, f2, f3, f4, f5⟩ := fault_of_N hn.2 hfN
    by_cases c1 : ps.length < 1
    case pos =>
      have e1 : decide ((ps.length : Int) < 1) = true := decide_eq_true (by omega)
      repeat (first
        | (with_reducible (first | refine sops_go ?_ | refine headW_end ?_ | refine sops_end ?_ | refine awp_if ?_ | refine awp_skip ?_ | refine awp_ret ?_ | refine awp_exit ?_); simp only [go_sem, simprocAttr, hF, hB, e1])
        | with_reducible (first | refine awp_seq_k fun _ _ => ?_ | refine awp_region [] ?_ | refine awp_block ?_)
        | go_step)
      refine ⟨_, base_ok n f r hS hla hld, ?_⟩
      simp only [go_sem, simprocAttr, hF, hB, e1]
      repeat (first
        | (with_reducible (first | refine sops_go ?_ | refine headW_end ?_ | refine sops_end ?_ | refine awp_if ?_ | refine awp_skip ?_ | refine awp_ret ?_ | refine awp_exit ?_); simp only [go_sem, simprocAttr, hF, hB, e1])
        | with_reducible (first | refine awp_seq_k fun _ _ => ?_ | refine awp_region [] ?_ | refine awp_block ?_)
        | go_step)
      rw [show lateX n f ps r fr = (lt0, 1) from by unfold lateX; rw [if_pos (.inr (.inl c1))]]
      all_goals (try rfl)
    have e1 : decide ((ps.length : Int) < 1) = false := decide_eq_false (by omega)
    by_cases c2 : 2 < ps.length
    case pos =>
      have e2 : decide ((2 : Int) < (ps.length : Int)) = true := decide_eq_true (by omega)
      repeat (first
        | (with_reducible (first | refine sops_go ?_ | refine headW_end ?_ | refine sops_end ?_ | refine awp_if ?_ | refine awp_skip ?_ | refine awp_ret ?_ | refine awp_exit ?_); simp only [go_sem, simprocAttr, hF, hB, e1, e2])
        | with_reducible (first | refine awp_seq_k fun _ _ => ?_ | refine awp_region [] ?_ | refine awp_block ?_)
        | go_step)
      refine ⟨_, base_ok n f r hS hla hld, ?_⟩
      simp only [go_sem, simprocAttr, hF, hB, e1, e2]
      repeat (first
        | (with_reducible (first | refine sops_go ?_ | refine headW_end ?_ | refine sops_end ?_ | refine awp_if ?_ | refine awp_skip ?_ | refine awp_ret ?_ | refine awp_exit ?_); simp only [go_sem, simprocAttr, hF, hB, e1, e2])
        | with_reducible (first | refine awp_seq_k fun _ _ => ?_ | refine awp_region [] ?_ | refine awp_block ?_)
        | go_step)
      rw [show lateX n f ps r fr = (lt0, 1) from by unfold lateX; rw [if_pos (.inr (.inr c2))]]
      all_goals (try rfl)
    have e2 : decide ((2 : Int) < (ps.length : Int)) = false := decide_eq_false (by omega)
    have c3 : ¬ (basicB n f r = false ∨ ps.length < 1 ∨ 2 < ps.length) := fun h => by
      rcases h with h | h | h
      · rw [hB] at h; cases h
      · exact c1 h
      · exact c2 h
    cases hr : ps.any (fun p => !(routeE n f.fr f.tn p == 0)) with
    | true =>
      repeat (first
        | (with_reducible (first | refine sops_go ?_ | refine headW_end ?_ | refine sops_end ?_ | refine awp_if ?_ | refine awp_skip ?_ | refine awp_ret ?_ | refine awp_exit ?_); simp only [go_sem, simprocAttr, hF, hB, e1, e2])
        | with_reducible (first | refine awp_seq_k fun _ _ => ?_ | refine awp_region [] ?_ | refine awp_block ?_)
        | go_step)
      refine ⟨_, base_ok n f r hS hla hld, ?_⟩
      simp only [go_sem, simprocAttr, hF, hB, e1, e2]
      repeat (first
        | (with_reducible (first | refine sops_go ?_ | refine headW_end ?_ | refine sops_end ?_ | refine awp_if ?_ | refine awp_skip ?_ | refine awp_ret ?_ | refine awp_exit ?_); simp only [go_sem, simprocAttr, hF, hB, e1, e2])
        | with_reducible (first | refine awp_seq_k fun _ _ => ?_ | refine awp_region [] ?_ | refine awp_block ?_)
        | go_step)
      refine ⟨_, contR_ok _ [n.pv, f.pv] (fun p => !(routeE n f.fr f.tn p == 0)) ps hps (fun y hy => check1_ok n f y hS hc ⟨f1, f2⟩ ⟨f3, f4⟩ f5 (hpl y hy)), ?_⟩
      simp only [go_sem, simprocAttr, hF]
      try simp only [go_sem, simprocAttr, hF, hB, e1, e2, hr]
      repeat (first
        | (with_reducible (first | refine sops_go ?_ | refine headW_end ?_ | refine sops_end ?_ | refine awp_if ?_ | refine awp_skip ?_ | refine awp_ret ?_ | refine awp_exit ?_); simp only [go_sem, simprocAttr, hF, hB, e1, e2, hr])
        | with_reducible (first | refine awp_seq_k fun _ _ => ?_ | refine awp_region [] ?_ | refine awp_block ?_)
        | go_step)
      rw [show lateX n f ps r fr = (lt0, 1) from by unfold lateX; rw [if_neg c3, if_pos hr]]
      all_goals (try rfl)
    | false =>
      have hr' : ¬ ps.any (fun p => !(routeE n f.fr f.tn p == 0)) = true := by rw [hr]; decide
      repeat (first
        | (with_reducible (first | refine sops_go ?_ | refine headW_end ?_ | refine sops_end ?_ | refine awp_if ?_ | refine awp_skip ?_ | refine awp_ret ?_ | refine awp_exit ?_); simp only [go_sem, simprocAttr, hF, hB, e1, e2])
        | with_reducible (first | refine awp_seq_k fun _ _ => ?_ | refine awp_region [] ?_ | refine awp_block ?_)
        | go_step)
      refine ⟨_, base_ok n f r hS hla hld, ?_⟩
      simp only [go_sem, simprocAttr, hF, hB, e1, e2]
      repeat (first
        | (with_reducible (first | refine sops_go ?_ | refine headW_end ?_ | refine sops_end ?_ | refine awp_if ?_ | refine awp_skip ?_ | refine awp_ret ?_ | refine awp_exit ?_); simp only [go_sem, simprocAttr, hF, hB, e1, e2])
        | with_reducible (first | refine awp_seq_k fun _ _ => ?_ | refine awp_region [] ?_ | refine awp_block ?_)
        | go_step)
      refine ⟨_, contR_ok _ [n.pv, f.pv] (fun p => !(routeE n f.fr f.tn p == 0)) ps hps (fun y hy => check1_ok n f y hS hc ⟨f1, f2⟩ ⟨f3, f4⟩ f5 (hpl y hy)), ?_⟩
      simp only [go_sem, simprocAttr, hF]
      try simp only [go_sem, simprocAttr, hF, hB, e1, e2, hr]
      repeat (first
        | (with_reducible (first | refine sops_go ?_ | refine headW_end ?_ | refine sops_end ?_ | refine awp_if ?_ | refine awp_skip ?_ | refine awp_ret ?_ | refine awp_exit ?_); simp only [go_sem, simprocAttr, hF, hB, e1, e2, hr])
        | with_reducible (first | refine awp_seq_k fun _ _ => ?_ | refine awp_region [] ?_ | refine awp_block ?_)
        | go_step)
      refine ⟨_, late_ok [f] r (by simp) hla hld, ?_⟩
      simp only [go_sem, simprocAttr, hF, hr]
      repeat (first
        | (with_reducible (first | refine sops_go ?_ | refine headW_end ?_ | refine sops_end ?_ | refine awp_if ?_ | refine awp_skip ?_ | refine awp_ret ?_ | refine awp_exit ?_); simp only [go_sem, simprocAttr, hF])
        | with_reducible (first | refine awp_seq_k fun _ _ => ?_ | refine awp_region [] ?_ | refine awp_block ?_)
        | go_step)
      refine ⟨_, idxT_ok _ [[ip fr]] (fun x => x.fr == fr) (late [f] r).1 (late_boundX [f] r) (fun y _ => check2_ok y fr), ?_⟩
      simp only [go_sem, simprocAttr, hF]
      rcases find_idx (fun x : Lt => x.fr == fr) (late [f] r).1 0 with ⟨q1, q2⟩ | ⟨i, x, q0, q1, q2, q3⟩
      · have e3 : decide ((-1 : Int) < 0) = true := rfl
        have hL : lateX n f ps r fr = (lt0, 12) := by unfold lateX; rw [if_neg c3, if_neg hr', q1]
        try simp only [go_sem, simprocAttr, hF, q2, e3]
        repeat (first
          | (with_reducible (first | refine sops_go ?_ | refine headW_end ?_ | refine sops_end ?_ | refine awp_if ?_ | refine awp_skip ?_ | refine awp_ret ?_ | refine awp_exit ?_); simp only [go_sem, simprocAttr, hF, q2, e3])
          | with_reducible (first | refine awp_seq_k fun _ _ => ?_ | refine awp_region [] ?_ | refine awp_block ?_)
          | go_step)
        all_goals (try rw [hL])
        all_goals (try rfl)
      · have e3 : decide ((i : Int) < 0) = false := decide_eq_false (by omega)
        rw [Int.zero_add] at q2
        have hL : lateX n f ps r fr = (x, 0) := by unfold lateX; rw [if_neg c3, if_neg hr', q1]
        try simp only [go_sem, simprocAttr, hF, q2, e3, q0]
        repeat (first
          | (with_reducible (first | refine sops_go ?_ | refine headW_end ?_ | refine sops_end ?_ | refine awp_if ?_ | refine awp_skip ?_ | refine awp_ret ?_ | refine awp_exit ?_); simp only [go_sem, simprocAttr, hF, q2, e3, q0])
          | with_reducible (first | refine awp_seq_k fun _ _ => ?_ | refine awp_region [] ?_ | refine awp_block ?_)
          | go_step)
        all_goals (try rw [hL])
        all_goals (try rfl)
end Go.Proofs.YticnppnejafhdaaGreatDoor

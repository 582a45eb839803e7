import Derived.Test.YticnppnejafhdaaGreatDoorZ6
set_option linter.unusedVariables false
set_option linter.unusedSimpArgs false
/- The reference of routes, by abstract states. -/
namespace Go.Proofs.YticnppnejafhdaaGreatDoor
open Go.RowKit
open Nd Rc Mo
open Av
set_option maxRecDepth 100000
set_option linter.unusedSimpArgs false
attribute [local go_sem] Av.guardB Av.sop Av.hopx Av.hop Av.hopCall Av.hopF Av.hopB Av.evo Av.evos Av.avCells Av.loadK Av.bound Av.abin Av.aun Av.partsC Av.lfill Av.placesB Av.setAt Av.stl Av.takes Av.src Av.bxOf Av.ownOf Av.St.res Av.St.put Av.St.addBox Av.St.putOwn Av.delL Av.delS Av.look Av.lookL Av.storeSt Av.stealSt Av.St.setBox Av.keepL Av.hitB Av.snap Av.snaps Av.snapCaps Av.AV.lit Av.AV.refs Av.capRefs Av.PV.av Av.CV.av Av.startSt Av.steals Av.athen Av.ablock Av.appK Av.AllS Av.AllO Av.AllR Av.keepS Av.St.avAt Av.RetOK Av.retAll Av.retOne Av.intsOf Av.ptrB TypeDesc.isRow List.range_zero Option.some.injEq exists_eq_left' exists_eq_left exists_eq' exists_and_left exists_and_right exists_const true_and and_true and_self false_and and_false or_false false_or or_true true_or if_true if_false Bool.false_eq_true List.zipIdx_cons List.zipIdx_nil List.map_cons List.map_nil List.filter_cons List.filter_nil List.contains_cons List.contains_nil List.drop_succ_cons List.drop_zero List.take_succ_cons List.take_zero List.take_nil List.drop_nil List.length_cons List.length_nil List.cons_append List.nil_append List.append_nil List.getElem?_cons_zero List.getElem?_cons_succ List.getElem?_nil Option.bind_some Option.bind_none Option.map_some Option.map_none Option.isNone_none Option.isNone_some Option.isSome_some Option.isSome_none Bool.and_true Bool.true_and Bool.and_false Bool.false_and Bool.or_false Bool.false_or Bool.not_true Bool.not_false beq_true beq_false Bool.true_beq Bool.false_beq Loc.s.injEq Loc.b.injEq decide_true decide_false beq_self_eq_true Nat.zero_add Nat.add_zero List.getElem?_toArray List.toList_toArray List.size_toArray Value.oneCell' List.all_cons List.all_nil Value.int.injEq AV.v.injEq AV.sl.injEq AV.agg.injEq AV.ref.injEq AV.ept.injEq AV.tup.injEq Value.bool.injEq PV.v.injEq PV.sl.injEq List.isEmpty_nil List.isEmpty_cons forall_const not_true_eq_false not_false_eq_true true_implies false_implies Value.string.injEq List.length_map List.getElem?_map Int.toNat_natCast Int.natCast_nonneg List.length_append Value.cells implies_true TypeDesc.struct.injEq TypeDesc.slice.injEq TypeDesc.array.injEq List.getElem?_toArray Prod.mk.injEq and_assoc exists_false List.cons.injEq Operand.tmp.injEq ite_self AV.fnv.injEq AV.clo.injEq ne_eq eq_self Tryz.sz3 Tryz.zr3 Tryz.by3 Tryz.pl3 Tryz.is3 Tryz.underlying3 Tryz.sz4 Tryz.zr4 Tryz.by4 Tryz.pl4 Tryz.is4 Tryz.underlying4 Tryz.sz43 Tryz.zr43 Tryz.by43 Tryz.pl43 Tryz.is43 Tryz.underlying43 Tryz.sz35 Tryz.zr35 Tryz.by35 Tryz.pl35 Tryz.is35 Tryz.underlying35 Tryz.sz33 Tryz.zr33 Tryz.by33 Tryz.pl33 Tryz.is33 Tryz.underlying33 Tryz.sz28 Tryz.zr28 Tryz.by28 Tryz.pl28 Tryz.is28 Tryz.underlying28 Tryz.sz39 Tryz.zr39 Tryz.by39 Tryz.pl39 Tryz.is39 Tryz.underlying39 Tryz.sz57 Tryz.zr57 Tryz.by57 Tryz.pl57 Tryz.is57 Tryz.underlying57 Tryz.sz137 Tryz.zr137 Tryz.by137 Tryz.pl137 Tryz.is137 Tryz.underlying137 Tryz.sz66 Tryz.zr66 Tryz.by66 Tryz.pl66 Tryz.is66 Tryz.underlying66 Tryz.sz64 Tryz.zr64 Tryz.by64 Tryz.pl64 Tryz.is64 Tryz.underlying64 Tryz.sz60 Tryz.zr60 Tryz.by60 Tryz.pl60 Tryz.is60 Tryz.underlying60 Tryz.sz100 Tryz.zr100 Tryz.by100 Tryz.pl100 Tryz.is100 Tryz.underlying100 Tryz.sz103 Tryz.zr103 Tryz.by103 Tryz.pl103 Tryz.is103 Tryz.underlying103 Tryz.sz26 Tryz.zr26 Tryz.by26 Tryz.pl26 Tryz.is26 Tryz.underlying26 Tryz.sz120 Tryz.zr120 Tryz.by120 Tryz.pl120 Tryz.is120 Tryz.underlying120 Tryz.sz117 Tryz.zr117 Tryz.by117 Tryz.pl117 Tryz.is117 Tryz.underlying117 Tryz.sz30 Tryz.zr30 Tryz.by30 Tryz.pl30 Tryz.is30 Tryz.underlying30 Tryz.sz31 Tryz.zr31 Tryz.by31 Tryz.pl31 Tryz.is31 Tryz.underlying31 Tryz.sz40 Tryz.zr40 Tryz.by40 Tryz.pl40 Tryz.is40 Tryz.underlying40 Tryz.sz23 Tryz.zr23 Tryz.by23 Tryz.pl23 Tryz.is23 Tryz.underlying23 Tryz.sz24 Tryz.zr24 Tryz.by24 Tryz.pl24 Tryz.is24 Tryz.underlying24 Tryz.sz22 Tryz.zr22 Tryz.by22 Tryz.pl22 Tryz.is22 Tryz.underlying22 Tryz.sz141 Tryz.zr141 Tryz.by141 Tryz.pl141 Tryz.is141 Tryz.underlying141 Tryz.sz42 Tryz.zr42 Tryz.by42 Tryz.pl42 Tryz.is42 Tryz.underlying42 Tryz.sz29 Tryz.zr29 Tryz.by29 Tryz.pl29 Tryz.is29 Tryz.underlying29 Tryz.sz83 Tryz.zr83 Tryz.by83 Tryz.pl83 Tryz.is83 Tryz.underlying83 Tryz.sz67 Tryz.zr67 Tryz.by67 Tryz.pl67 Tryz.is67 Tryz.underlying67 Tryz.sz20 Tryz.zr20 Tryz.by20 Tryz.pl20 Tryz.is20 Tryz.underlying20 Tryz.sz89 Tryz.zr89 Tryz.by89 Tryz.pl89 Tryz.is89 Tryz.underlying89 Tryz.sz132 Tryz.zr132 Tryz.by132 Tryz.pl132 Tryz.is132 Tryz.underlying132 Tryz.sz113 Tryz.zr113 Tryz.by113 Tryz.pl113 Tryz.is113 Tryz.underlying113 Tryz.sz9 Tryz.zr9 Tryz.by9 Tryz.pl9 Tryz.is9 Tryz.underlying9 Tryz.it39 Tryz.eg39 Tryz.it137 Tryz.eg137 Tryz.it66 Tryz.eg66 Tryz.it28 Tryz.eg28 Tryz.it60 Tryz.eg60 all_arr loc_ss loc_sb loc_bs loc_bb arr_two arr_one rg1 rg2 rg3 rg4 rg5 rg6 rg7 rg8 ResultVar.tmp.injEq Bool.not_true Bool.not_false undef Rc.Rec.pv Nd.Fl.pv Rc.Dlv.pv Rc.Att.pv Mo.Lt.pv Fn.func.injEq Mo.Net.pv Mo.Lk.pv prow_pv irow_pv Br.pv
set_option maxHeartbeats 2000000 in
theorem heard_ok (n : Net) (s : Int) (hN : NetOK n) (h0 : 0 ≤ s) (h1 : s ≤ 68719476736) : FnOK Tryz.prog 170 [.agg n.pv, iv s, iv 0] ⟨bv (heardB n s), none⟩ := by
 obtain ⟨w1, w2, w3⟩ := heard_nums hN h0 h1
 unfold heardB
 refine fn_ok Tryz.func170 (by kernel_rfl) rfl (by rw [Tryz.ntmps170]; exact of_decide_eq_true rfl) (fun F hF => ?_)
 rw [Tryz.ntmps170] at hF
 rw [Tryz.results170]
 repeat (first
  | (with_reducible (first | refine sg0 ?_ | refine hw0 ?_ | refine se0 ?_ | refine ai0 ?_ | refine as0 ?_ | refine at0 ?_ | refine ax0 ?_); simp only [go_sem, simprocAttr, hF, w1, w2, w3])
  | with_reducible (first | refine aq0 fun _ _ => ?_ | refine ar0 [] ?_ | refine ab0 ?_)
  | go_step)
 all_goals (try rfl)

set_option maxHeartbeats 2000000 in
theorem rnode_ok (n : Net) (x : Int) : FnOK Tryz.prog 153 [.agg n.pv, iv x] ⟨bv (!outN n x), none⟩ := by
 refine fn_ok Tryz.func153 (by kernel_rfl) rfl (by rw [Tryz.ntmps153]; exact of_decide_eq_true rfl) (fun F hF => ?_)
 rw [Tryz.ntmps153] at hF
 rw [Tryz.results153]
 have g1 : decide (0 ≤ x) = !decide (x < 0) := by rw [Bool.eq_iff_iff]; simp
 have g2 : decide (x < n.nodes) = !decide (n.nodes ≤ x) := by rw [Bool.eq_iff_iff]; simp
 unfold outN
 cases h1 : decide (x < 0) <;> cases h2 : decide (n.nodes ≤ x) <;> rw [h1] at g1 <;> rw [h2] at g2
 · repeat (first
  | (with_reducible (first | refine sg0 ?_ | refine hw0 ?_ | refine se0 ?_ | refine ai0 ?_ | refine as0 ?_ | refine at0 ?_ | refine ax0 ?_); simp only [go_sem, simprocAttr, hF, g1, g2, Bool.not_true, Bool.not_false])
  | with_reducible (first | refine aq0 fun _ _ => ?_ | refine ar0 [] ?_ | refine ab0 ?_)
  | go_step)
   all_goals (try rfl)
 · repeat (first
  | (with_reducible (first | refine sg0 ?_ | refine hw0 ?_ | refine se0 ?_ | refine ai0 ?_ | refine as0 ?_ | refine at0 ?_ | refine ax0 ?_); simp only [go_sem, simprocAttr, hF, g1, g2, Bool.not_true, Bool.not_false])
  | with_reducible (first | refine aq0 fun _ _ => ?_ | refine ar0 [] ?_ | refine ab0 ?_)
  | go_step)
   all_goals (try rfl)
 · repeat (first
  | (with_reducible (first | refine sg0 ?_ | refine hw0 ?_ | refine se0 ?_ | refine ai0 ?_ | refine as0 ?_ | refine at0 ?_ | refine ax0 ?_); simp only [go_sem, simprocAttr, hF, g1, g2, Bool.not_true, Bool.not_false])
  | with_reducible (first | refine aq0 fun _ _ => ?_ | refine ar0 [] ?_ | refine ab0 ?_)
  | go_step)
   all_goals (try rfl)
 · repeat (first
  | (with_reducible (first | refine sg0 ?_ | refine hw0 ?_ | refine se0 ?_ | refine ai0 ?_ | refine as0 ?_ | refine at0 ?_ | refine ax0 ?_); simp only [go_sem, simprocAttr, hF, g1, g2, Bool.not_true, Bool.not_false])
  | with_reducible (first | refine aq0 fun _ _ => ?_ | refine ar0 [] ?_ | refine ab0 ?_)
  | go_step)
   all_goals (try rfl)

set_option maxHeartbeats 20000000 in
theorem rgood_ok (n : Net) (a b : Int) (hS : SmallN n) (hN : NetOK n) : FnOK Tryz.prog 154 [.agg n.pv, iv a, iv b] ⟨bv (goodL n a b), none⟩ := by
 unfold goodL
 have hab : idxP (fun l : Lk => l.fr == a && l.tt == b) n.lk 0 = idxL n a b := rfl
 have hba : idxP (fun l : Lk => l.fr == b && l.tt == a) n.lk 0 = idxL n b a := rfl
 refine fn_ok Tryz.func154 (by kernel_rfl) rfl (by rw [Tryz.ntmps154]; exact of_decide_eq_true rfl) (fun F hF => ?_)
 rw [Tryz.ntmps154] at hF
 rw [Tryz.results154]
 repeat (first
  | (with_reducible (first | refine sg0 ?_ | refine hw0 ?_ | refine se0 ?_ | refine ai0 ?_ | refine as0 ?_ | refine at0 ?_ | refine ax0 ?_); simp only [go_sem, simprocAttr, hF])
  | ((with_reducible refine hg0 ?_); simp only [go_sem, simprocAttr, hF, hbx])
  | with_reducible refine aq0 fun _ _ => ?_
  | (refine awp_draw' (id := 1) [] 10 (by kernel_rfl) (by kernel_rfl) rfl rfl (fun bx0 hbx => ?_); try dsimp only [List.take, List.drop])
  | (refine awp_draw' (id := 2) [] 24 (by kernel_rfl) (by kernel_rfl) rfl rfl (fun bx0 hbx => ?_); try dsimp only [List.take, List.drop])
  | with_reducible (first | refine ar0 [] ?_ | refine ab0 ?_)
  | go_step)
 refine ⟨_, nfind_ok n a b hS.lk, ?_⟩
 simp only [go_sem, simprocAttr, hF, hab]
 repeat (first
  | (with_reducible (first | refine sg0 ?_ | refine hw0 ?_ | refine se0 ?_ | refine ai0 ?_ | refine as0 ?_ | refine at0 ?_ | refine ax0 ?_); simp only [go_sem, simprocAttr, hF, hab])
  | ((with_reducible refine hg0 ?_); simp only [go_sem, simprocAttr, hF, hab, hbx])
  | with_reducible refine aq0 fun _ _ => ?_
  | (refine awp_draw' (id := 1) [] 10 (by kernel_rfl) (by kernel_rfl) rfl rfl (fun bx0 hbx => ?_); try dsimp only [List.take, List.drop])
  | (refine awp_draw' (id := 2) [] 24 (by kernel_rfl) (by kernel_rfl) rfl rfl (fun bx0 hbx => ?_); try dsimp only [List.take, List.drop])
  | with_reducible (first | refine ar0 [] ?_ | refine ab0 ?_)
  | go_step)
 refine ⟨_, nfind_ok n b a hS.lk, ?_⟩
 simp only [go_sem, simprocAttr, hF, hba]
 have dm : decide ((0 : Int) ≤ -1) = false := rfl
 rcases idxL_cases n a b with hk | ⟨k, y, hy, _, _, hk⟩
 · rw [hk]
   try simp only [go_sem, simprocAttr, hF, hab, hba, hk, dm]
   repeat (first
    | (with_reducible (first | refine sg0 ?_ | refine hw0 ?_ | refine se0 ?_ | refine ai0 ?_ | refine as0 ?_ | refine at0 ?_ | refine ax0 ?_); simp only [go_sem, simprocAttr, hF, hab, hba, hk, dm])
    | ((with_reducible refine hg0 ?_); simp only [go_sem, simprocAttr, hF, hab, hba, hk, dm, hbx])
    | with_reducible refine aq0 fun _ _ => ?_
    | (refine awp_draw' (id := 1) [] 10 (by kernel_rfl) (by kernel_rfl) rfl rfl (fun bx0 hbx => ?_); try dsimp only [List.take, List.drop])
    | (refine awp_draw' (id := 2) [] 24 (by kernel_rfl) (by kernel_rfl) rfl rfl (fun bx0 hbx => ?_); try dsimp only [List.take, List.drop])
    | with_reducible (first | refine ar0 [] ?_ | refine ab0 ?_)
    | go_step)
   all_goals (try rfl)
 have dk : decide ((0 : Int) ≤ (k : Int)) = true := decide_eq_true (by omega)
 have hkl := (List.getElem?_eq_some_iff.1 hy).1
 obtain ⟨m1, hm1⟩ := get_of_lt (l := n.mg) (k := k) (by rw [hN.mg]; exact hkl)
 obtain ⟨p0, p1⟩ := hN.mgb k m1 hm1
 have hg1 : n.mg.getD (k : Int).toNat 0 = m1 := by rw [Int.toNat_natCast, List.getD_eq_getElem?_getD, hm1]; rfl
 have hk1 : n.mg.getD k 0 = m1 := by rw [List.getD_eq_getElem?_getD, hm1]; rfl
 rcases idxL_cases n b a with hq | ⟨q, z, hz, _, _, hq⟩
 · rw [hk, hq]
   try simp only [go_sem, simprocAttr, hF, hab, hba, hk, hq, dm, dk]
   repeat (first
    | (with_reducible (first | refine sg0 ?_ | refine hw0 ?_ | refine se0 ?_ | refine ai0 ?_ | refine as0 ?_ | refine at0 ?_ | refine ax0 ?_); simp only [go_sem, simprocAttr, hF, hab, hba, hk, hq, dm, dk])
    | ((with_reducible refine hg0 ?_); simp only [go_sem, simprocAttr, hF, hab, hba, hk, hq, dm, dk, hbx])
    | with_reducible refine aq0 fun _ _ => ?_
    | (refine awp_draw' (id := 1) [] 10 (by kernel_rfl) (by kernel_rfl) rfl rfl (fun bx0 hbx => ?_); try dsimp only [List.take, List.drop])
    | (refine awp_draw' (id := 2) [] 24 (by kernel_rfl) (by kernel_rfl) rfl rfl (fun bx0 hbx => ?_); try dsimp only [List.take, List.drop])
    | with_reducible (first | refine ar0 [] ?_ | refine ab0 ?_)
    | go_step)
   all_goals (try rfl)
 have dq : decide ((0 : Int) ≤ (q : Int)) = true := decide_eq_true (by omega)
 have hql := (List.getElem?_eq_some_iff.1 hz).1
 obtain ⟨m2, hm2⟩ := get_of_lt (l := n.mg) (k := q) (by rw [hN.mg]; exact hql)
 obtain ⟨q0, q1⟩ := hN.mgb q m2 hm2
 have hg2 : n.mg.getD (q : Int).toNat 0 = m2 := by rw [Int.toNat_natCast, List.getD_eq_getElem?_getD, hm2]; rfl
 have hk2 : n.mg.getD q 0 = m2 := by rw [List.getD_eq_getElem?_getD, hm2]; rfl
 rw [hk, hq, hg1, hg2, dk, dq]
 try simp only [go_sem, simprocAttr, hF, hab, hba, hk, hq, dk, dq, hm1, hm2]
 repeat (first
  | (with_reducible (first | refine sg0 ?_ | refine hw0 ?_ | refine se0 ?_ | refine ai0 ?_ | refine as0 ?_ | refine at0 ?_ | refine ax0 ?_); simp only [go_sem, simprocAttr, hF, hab, hba, hk, hq, dk, dq, hm1, hm2])
  | ((with_reducible refine hg0 ?_); simp only [go_sem, simprocAttr, hF, hab, hba, hk, hq, dk, dq, hm1, hm2, hbx])
  | with_reducible refine aq0 fun _ _ => ?_
  | (refine awp_draw' (id := 1) [] 10 (by kernel_rfl) (by kernel_rfl) rfl rfl (fun bx0 hbx => ?_); try dsimp only [List.take, List.drop])
  | (refine awp_draw' (id := 2) [] 24 (by kernel_rfl) (by kernel_rfl) rfl rfl (fun bx0 hbx => ?_); try dsimp only [List.take, List.drop])
  | with_reducible (first | refine ar0 [] ?_ | refine ab0 ?_)
  | go_step)
 refine ⟨_, heard_ok n m1 hN p0 p1, ?_⟩
 simp only [go_sem, simprocAttr, hF, hab, hba, hk, hq, dk, dq, hm1, hm2]
 cases e1 : heardB n m1 with
 | false =>
  try simp only [go_sem, simprocAttr, hF, hab, hba, hk, hq, dk, dq, hm1, hm2, e1]
  repeat (first
   | (with_reducible (first | refine sg0 ?_ | refine hw0 ?_ | refine se0 ?_ | refine ai0 ?_ | refine as0 ?_ | refine at0 ?_ | refine ax0 ?_); simp only [go_sem, simprocAttr, hF, hab, hba, hk, hq, dk, dq, hm1, hm2, e1])
   | ((with_reducible refine hg0 ?_); simp only [go_sem, simprocAttr, hF, hab, hba, hk, hq, dk, dq, hm1, hm2, e1, hbx])
   | with_reducible refine aq0 fun _ _ => ?_
   | (refine awp_draw' (id := 1) [] 10 (by kernel_rfl) (by kernel_rfl) rfl rfl (fun bx0 hbx => ?_); try dsimp only [List.take, List.drop])
   | (refine awp_draw' (id := 2) [] 24 (by kernel_rfl) (by kernel_rfl) rfl rfl (fun bx0 hbx => ?_); try dsimp only [List.take, List.drop])
   | with_reducible (first | refine ar0 [] ?_ | refine ab0 ?_)
   | go_step)
  all_goals (try rw [hk1, hk2, e1])
  all_goals (try rfl)
 | true =>
  try simp only [go_sem, simprocAttr, hF, hab, hba, hk, hq, dk, dq, hm1, hm2, e1]
  repeat (first
   | (with_reducible (first | refine sg0 ?_ | refine hw0 ?_ | refine se0 ?_ | refine ai0 ?_ | refine as0 ?_ | refine at0 ?_ | refine ax0 ?_); simp only [go_sem, simprocAttr, hF, hab, hba, hk, hq, dk, dq, hm1, hm2, e1])
   | ((with_reducible refine hg0 ?_); simp only [go_sem, simprocAttr, hF, hab, hba, hk, hq, dk, dq, hm1, hm2, e1, hbx])
   | with_reducible refine aq0 fun _ _ => ?_
   | (refine awp_draw' (id := 1) [] 10 (by kernel_rfl) (by kernel_rfl) rfl rfl (fun bx0 hbx => ?_); try dsimp only [List.take, List.drop])
   | (refine awp_draw' (id := 2) [] 24 (by kernel_rfl) (by kernel_rfl) rfl rfl (fun bx0 hbx => ?_); try dsimp only [List.take, List.drop])
   | with_reducible (first | refine ar0 [] ?_ | refine ab0 ?_)
   | go_step)
  refine ⟨_, heard_ok n m2 hN q0 q1, ?_⟩
  simp only [go_sem, simprocAttr, hF, hab, hba, hk, hq, dk, dq, hm1, hm2]
  repeat (first
   | (with_reducible (first | refine sg0 ?_ | refine hw0 ?_ | refine se0 ?_ | refine ai0 ?_ | refine as0 ?_ | refine at0 ?_ | refine ax0 ?_); simp only [go_sem, simprocAttr, hF, hab, hba, hk, hq, dk, dq, hm1, hm2])
   | ((with_reducible refine hg0 ?_); simp only [go_sem, simprocAttr, hF, hab, hba, hk, hq, dk, dq, hm1, hm2, hbx])
   | with_reducible refine aq0 fun _ _ => ?_
   | (refine awp_draw' (id := 1) [] 10 (by kernel_rfl) (by kernel_rfl) rfl rfl (fun bx0 hbx => ?_); try dsimp only [List.take, List.drop])
   | (refine awp_draw' (id := 2) [] 24 (by kernel_rfl) (by kernel_rfl) rfl rfl (fun bx0 hbx => ?_); try dsimp only [List.take, List.drop])
   | with_reducible (first | refine ar0 [] ?_ | refine ab0 ?_)
   | go_step)
  all_goals (try rw [hk1, hk2, e1])
  all_goals (try rfl)

set_option maxHeartbeats 2000000 in
theorem rends33_ok (n : Net) (a b : Int) (hS : SmallN n) (hc : chkN n = 0) (ha : 0 ≤ a ∧ a < n.nodes) (hb : 0 ≤ b ∧ b < n.nodes) (hab : a ≠ b) : FnOK Tryz.prog 107 [.agg n.pv, iv a, iv b] ⟨iv 0, none⟩ := by
 have he : (chkN n != 0) = false := by rw [hc]; rfl
 have o1 : outN n a = false := by unfold outN; rw [decide_eq_false (by omega), decide_eq_false (by omega)]; rfl
 have o2 : outN n b = false := by unfold outN; rw [decide_eq_false (by omega), decide_eq_false (by omega)]; rfl
 have h3 : (a == b) = false := by simpa using hab
 refine fn_ok Tryz.func107 (by kernel_rfl) rfl (by rw [Tryz.ntmps107]; exact of_decide_eq_true rfl) (fun F hF => ?_)
 rw [Tryz.ntmps107] at hF
 rw [Tryz.results107]
 repeat (first
  | (with_reducible (first | refine sg0 ?_ | refine hw0 ?_ | refine se0 ?_ | refine ai0 ?_ | refine as0 ?_ | refine at0 ?_ | refine ax0 ?_); simp only [go_sem, simprocAttr, hF])
  | with_reducible (first | refine aq0 fun _ _ => ?_ | refine ar0 [] ?_ | refine ab0 ?_)
  | go_step)
 refine ⟨_, ncheckR_ok n hS.pow hS.rows hS.lk hS.mg, ?_⟩
 simp only [go_sem, simprocAttr, hF, he]
 repeat (first
  | (with_reducible (first | refine sg0 ?_ | refine hw0 ?_ | refine se0 ?_ | refine ai0 ?_ | refine as0 ?_ | refine at0 ?_ | refine ax0 ?_); simp only [go_sem, simprocAttr, hF, he])
  | with_reducible (first | refine aq0 fun _ _ => ?_ | refine ar0 [] ?_ | refine ab0 ?_)
  | go_step)
 refine ⟨_, rnode_ok n a, ?_⟩
 simp only [go_sem, simprocAttr, hF, o1]
 repeat (first
  | (with_reducible (first | refine sg0 ?_ | refine hw0 ?_ | refine se0 ?_ | refine ai0 ?_ | refine as0 ?_ | refine at0 ?_ | refine ax0 ?_); simp only [go_sem, simprocAttr, hF, o1])
  | with_reducible (first | refine aq0 fun _ _ => ?_ | refine ar0 [] ?_ | refine ab0 ?_)
  | go_step)
 refine ⟨_, rnode_ok n b, ?_⟩
 simp only [go_sem, simprocAttr, hF, o2]
 repeat (first
  | (with_reducible (first | refine sg0 ?_ | refine hw0 ?_ | refine se0 ?_ | refine ai0 ?_ | refine as0 ?_ | refine at0 ?_ | refine ax0 ?_); simp only [go_sem, simprocAttr, hF, o2, h3])
  | with_reducible (first | refine aq0 fun _ _ => ?_ | refine ar0 [] ?_ | refine ab0 ?_)
  | go_step)
 all_goals (try rfl)

set_option maxHeartbeats 20000000 in
theorem rfault33_ok (n : Net) (a b : Int) (p : List Int) (hS : SmallN n) (hc : chkN n = 0) (hl : p.length ≤ 1000000) : FnOK Tryz.prog 108 [.agg n.pv, iv a, iv b, .sl 1 (p.map irow_pv)] ⟨iv (routeE n a b p), none⟩ := by
 have hlen : p.length ≤ 1000000 := hl
 have hN := netOK hc
 refine fn_ok Tryz.func108 (by kernel_rfl) rfl (by rw [Tryz.ntmps108]; exact of_decide_eq_true rfl) (fun F hF => ?_)
 rw [Tryz.ntmps108] at hF
 rw [Tryz.results108]
 by_cases c1 : p.length < 2
 case pos =>
  have e1 : decide ((p.length : Int) < 2) = true := by first | exact decide_eq_true (by omega) | simpa using c1
  repeat (first
   | (with_reducible (first | refine sg0 ?_ | refine hw0 ?_ | refine se0 ?_ | refine ai0 ?_ | refine as0 ?_ | refine at0 ?_ | refine ax0 ?_); simp only [go_sem, simprocAttr, hF, e1])
   | ((with_reducible refine hg0 ?_); simp only [go_sem, simprocAttr, hF, e1, hbx])
   | with_reducible refine aq0 fun _ _ => ?_
   | (refine awp_draw' (id := 8) [] 7 (by kernel_rfl) (by kernel_rfl) rfl rfl (fun bx0 hbx => ?_); try dsimp only [List.take, List.drop])
   | (refine awp_draw' (id := 18) [] 9 (by kernel_rfl) (by kernel_rfl) rfl rfl (fun bx0 hbx => ?_); try dsimp only [List.take, List.drop])
   | (refine awp_draw' (id := 23) [] 12 (by kernel_rfl) (by kernel_rfl) rfl rfl (fun bx0 hbx => ?_); try dsimp only [List.take, List.drop])
   | with_reducible (first | refine ar0 [] ?_ | refine ab0 ?_)
   | go_step)
  rw [routeE, if_pos c1]
 have e1 : decide ((p.length : Int) < 2) = false := by first | exact decide_eq_false (by omega) | simpa using c1
 have w1 : IntKind.i64.wrap ((p.length : Int) - 1) = ((p.length - 1 : Nat) : Int) := by rw [IntKind.wrap_i64]; omega
 by_cases c2 : 9 < p.length
 case pos =>
  have e2 : decide ((8 : Int) < ((p.length - 1 : Nat) : Int)) = true := by first | exact decide_eq_true (by omega) | simpa using c2
  repeat (first
   | (with_reducible (first | refine sg0 ?_ | refine hw0 ?_ | refine se0 ?_ | refine ai0 ?_ | refine as0 ?_ | refine at0 ?_ | refine ax0 ?_); simp only [go_sem, simprocAttr, hF, e1, w1, e2])
   | ((with_reducible refine hg0 ?_); simp only [go_sem, simprocAttr, hF, e1, w1, e2, hbx])
   | with_reducible refine aq0 fun _ _ => ?_
   | (refine awp_draw' (id := 8) [] 7 (by kernel_rfl) (by kernel_rfl) rfl rfl (fun bx0 hbx => ?_); try dsimp only [List.take, List.drop])
   | (refine awp_draw' (id := 18) [] 9 (by kernel_rfl) (by kernel_rfl) rfl rfl (fun bx0 hbx => ?_); try dsimp only [List.take, List.drop])
   | (refine awp_draw' (id := 23) [] 12 (by kernel_rfl) (by kernel_rfl) rfl rfl (fun bx0 hbx => ?_); try dsimp only [List.take, List.drop])
   | with_reducible (first | refine ar0 [] ?_ | refine ab0 ?_)
   | go_step)
  rw [routeE, if_neg c1, if_pos c2]
 have e2 : decide ((8 : Int) < ((p.length - 1 : Nat) : Int)) = false := by first | exact decide_eq_false (by omega) | simpa using c2
 repeat (first
  | (with_reducible (first | refine sg0 ?_ | refine hw0 ?_ | refine se0 ?_ | refine ai0 ?_ | refine as0 ?_ | refine at0 ?_ | refine ax0 ?_); simp only [go_sem, simprocAttr, hF, e1, w1, e2])
  | ((with_reducible refine hg0 ?_); simp only [go_sem, simprocAttr, hF, e1, w1, e2, hbx])
  | with_reducible refine aq0 fun _ _ => ?_
  | (refine awp_draw' (id := 8) [] 7 (by kernel_rfl) (by kernel_rfl) rfl rfl (fun bx0 hbx => ?_); try dsimp only [List.take, List.drop])
  | (refine awp_draw' (id := 18) [] 9 (by kernel_rfl) (by kernel_rfl) rfl rfl (fun bx0 hbx => ?_); try dsimp only [List.take, List.drop])
  | (refine awp_draw' (id := 23) [] 12 (by kernel_rfl) (by kernel_rfl) rfl rfl (fun bx0 hbx => ?_); try dsimp only [List.take, List.drop])
  | with_reducible (first | refine ar0 [] ?_ | refine ab0 ?_)
  | go_step)
 refine awp_loop_by (ι := {k : Nat // k ≤ p.length ∧ (p.take k).any (outN n) = false}) (fun k σ => ⟨(9, iv (k.1 : Int)) :: keepS [1, 2, 3, 4] σ.slot, keepS [4] σ.box, [], σ.ext⟩) (fun k => p.length - k.1) ⟨0, by omega, rfl⟩ (sub_mk ?_) (fun R hR k => ?_)
 · simp only [go_sem, simprocAttr, hF]
   repeat' (first | rfl | refine ⟨?_, ?_⟩)
 obtain ⟨k, hk, hT⟩ := k
 dsimp only
 simp only [go_sem, simprocAttr, hF]
 by_cases hlt : k < p.length
 case pos =>
  obtain ⟨d, hdk⟩ := get_of_lt hlt
  have hd : decide ((k : Int) < (p.length : Int)) = true := decide_eq_true (by omega)
  have hw : IntKind.i64.wrap ((k : Int) + 1) = ((k + 1 : Nat) : Int) := by rw [IntKind.wrap_i64]; omega
  repeat (first
   | (with_reducible (first | refine sg0 ?_ | refine hw0 ?_ | refine se0 ?_ | refine ai0 ?_ | refine as0 ?_ | refine at0 ?_ | refine ax0 ?_); simp only [go_sem, simprocAttr, hF, hd, hdk])
   | ((with_reducible refine hg0 ?_); simp only [go_sem, simprocAttr, hF, hd, hdk, hbx])
   | with_reducible refine aq0 fun _ _ => ?_
   | (refine awp_draw' (id := 8) [] 7 (by kernel_rfl) (by kernel_rfl) rfl rfl (fun bx0 hbx => ?_); try dsimp only [List.take, List.drop])
   | (refine awp_draw' (id := 18) [] 9 (by kernel_rfl) (by kernel_rfl) rfl rfl (fun bx0 hbx => ?_); try dsimp only [List.take, List.drop])
   | (refine awp_draw' (id := 23) [] 12 (by kernel_rfl) (by kernel_rfl) rfl rfl (fun bx0 hbx => ?_); try dsimp only [List.take, List.drop])
   | with_reducible (first | refine ar0 [] ?_ | refine ab0 ?_)
   | go_step)
  refine ⟨_, rnode_ok n d, ?_⟩
  simp only [go_sem, simprocAttr, hF]
  cases eo : outN n d with
  | true =>
   have hany : p.any (outN n) = true := List.any_eq_true.2 ⟨d, List.mem_of_getElem? hdk, eo⟩
   try simp only [go_sem, simprocAttr, hF, eo]
   repeat (first
    | (with_reducible (first | refine sg0 ?_ | refine hw0 ?_ | refine se0 ?_ | refine ai0 ?_ | refine as0 ?_ | refine at0 ?_ | refine ax0 ?_); simp only [go_sem, simprocAttr, hF, eo])
    | ((with_reducible refine hg0 ?_); simp only [go_sem, simprocAttr, hF, eo, hbx])
    | with_reducible refine aq0 fun _ _ => ?_
    | (refine awp_draw' (id := 8) [] 7 (by kernel_rfl) (by kernel_rfl) rfl rfl (fun bx0 hbx => ?_); try dsimp only [List.take, List.drop])
    | (refine awp_draw' (id := 18) [] 9 (by kernel_rfl) (by kernel_rfl) rfl rfl (fun bx0 hbx => ?_); try dsimp only [List.take, List.drop])
    | (refine awp_draw' (id := 23) [] 12 (by kernel_rfl) (by kernel_rfl) rfl rfl (fun bx0 hbx => ?_); try dsimp only [List.take, List.drop])
    | with_reducible (first | refine ar0 [] ?_ | refine ab0 ?_)
    | go_step)
   rw [routeE, if_neg c1, if_neg c2, if_pos hany]
  | false =>
   try simp only [go_sem, simprocAttr, hF, eo]
   repeat (first
    | (with_reducible (first | refine sg0 ?_ | refine hw0 ?_ | refine se0 ?_ | refine ai0 ?_ | refine as0 ?_ | refine at0 ?_ | refine ax0 ?_); simp only [go_sem, simprocAttr, hF, eo])
    | ((with_reducible refine hg0 ?_); simp only [go_sem, simprocAttr, hF, eo, hbx])
    | with_reducible refine aq0 fun _ _ => ?_
    | (refine awp_draw' (id := 8) [] 7 (by kernel_rfl) (by kernel_rfl) rfl rfl (fun bx0 hbx => ?_); try dsimp only [List.take, List.drop])
    | (refine awp_draw' (id := 18) [] 9 (by kernel_rfl) (by kernel_rfl) rfl rfl (fun bx0 hbx => ?_); try dsimp only [List.take, List.drop])
    | (refine awp_draw' (id := 23) [] 12 (by kernel_rfl) (by kernel_rfl) rfl rfl (fun bx0 hbx => ?_); try dsimp only [List.take, List.drop])
    | with_reducible (first | refine ar0 [] ?_ | refine ab0 ?_)
    | go_step)
   refine ⟨⟨k + 1, by omega, by rw [List.take_add_one, hdk, List.any_append, hT]; simp [eo]⟩, by dsimp only; omega, hR _ _ (sub_mk ?_)⟩
   simp only [go_sem, simprocAttr, hF, hw]
 have hd : decide ((k : Int) < (p.length : Int)) = false := decide_eq_false (by omega)
 rw [List.take_of_length_le (by omega)] at hT
 have hne3 : ¬ p.any (outN n) = true := by rw [hT]; decide
 obtain ⟨x0, hx0⟩ := get_of_lt (l := p) (k := 0) (by omega)
 obtain ⟨x1, hx1⟩ := get_of_lt (l := p) (k := p.length - 1) (by omega)
 have q0 : p.getD 0 0 = x0 := by rw [List.getD_eq_getElem?_getD, hx0]; rfl
 have q1 : p.getD (p.length - 1) 0 = x1 := by rw [List.getD_eq_getElem?_getD, hx1]; rfl
 have z0 : Int.toNat 0 = 0 := rfl
 by_cases h4 : x0 = a
 case neg =>
  have e4 : (x0 != a) = true := by simpa using h4
  repeat (first
   | (with_reducible (first | refine sg0 ?_ | refine hw0 ?_ | refine se0 ?_ | refine ai0 ?_ | refine as0 ?_ | refine at0 ?_ | refine ax0 ?_); simp only [go_sem, simprocAttr, hF, hd, z0, hx0, e4])
   | ((with_reducible refine hg0 ?_); simp only [go_sem, simprocAttr, hF, hd, z0, hx0, e4, hbx])
   | with_reducible refine aq0 fun _ _ => ?_
   | (refine awp_draw' (id := 8) [] 7 (by kernel_rfl) (by kernel_rfl) rfl rfl (fun bx0 hbx => ?_); try dsimp only [List.take, List.drop])
   | (refine awp_draw' (id := 18) [] 9 (by kernel_rfl) (by kernel_rfl) rfl rfl (fun bx0 hbx => ?_); try dsimp only [List.take, List.drop])
   | (refine awp_draw' (id := 23) [] 12 (by kernel_rfl) (by kernel_rfl) rfl rfl (fun bx0 hbx => ?_); try dsimp only [List.take, List.drop])
   | with_reducible (first | refine ar0 [] ?_ | refine ab0 ?_)
   | go_step)
  rw [routeE, if_neg c1, if_neg c2, if_neg hne3, if_pos (.inl (by rw [q0]; exact h4))]
 have e4 : (x0 != a) = false := by simpa using h4
 by_cases h5 : x1 = b
 case neg =>
  have e5 : (x1 != b) = true := by simpa using h5
  repeat (first
   | (with_reducible (first | refine sg0 ?_ | refine hw0 ?_ | refine se0 ?_ | refine ai0 ?_ | refine as0 ?_ | refine at0 ?_ | refine ax0 ?_); simp only [go_sem, simprocAttr, hF, hd, z0, hx0, e4, w1, hx1, e5])
   | ((with_reducible refine hg0 ?_); simp only [go_sem, simprocAttr, hF, hd, z0, hx0, e4, w1, hx1, e5, hbx])
   | with_reducible refine aq0 fun _ _ => ?_
   | (refine awp_draw' (id := 8) [] 7 (by kernel_rfl) (by kernel_rfl) rfl rfl (fun bx0 hbx => ?_); try dsimp only [List.take, List.drop])
   | (refine awp_draw' (id := 18) [] 9 (by kernel_rfl) (by kernel_rfl) rfl rfl (fun bx0 hbx => ?_); try dsimp only [List.take, List.drop])
   | (refine awp_draw' (id := 23) [] 12 (by kernel_rfl) (by kernel_rfl) rfl rfl (fun bx0 hbx => ?_); try dsimp only [List.take, List.drop])
   | with_reducible (first | refine ar0 [] ?_ | refine ab0 ?_)
   | go_step)
  rw [routeE, if_neg c1, if_neg c2, if_neg hne3, if_pos (.inr (by rw [q1]; exact h5))]
 have e5 : (x1 != b) = false := by simpa using h5
 have hne4 : ¬ (p.getD 0 0 ≠ a ∨ p.getD (p.length - 1) 0 ≠ b) := by rw [q0, q1]; rintro (h | h); exact h h4; exact h h5
 have hRt : routeE n a b p = if dupB p = true then 6 else if gapB n p = true then 17 else 0 := by rw [routeE, if_neg c1, if_neg c2, if_neg hne3, if_neg hne4]
 repeat (first
  | (with_reducible (first | refine sg0 ?_ | refine hw0 ?_ | refine se0 ?_ | refine ai0 ?_ | refine as0 ?_ | refine at0 ?_ | refine ax0 ?_); simp only [go_sem, simprocAttr, hF, hd, z0, hx0, e4, w1, hx1, e5])
  | ((with_reducible refine hg0 ?_); simp only [go_sem, simprocAttr, hF, hd, z0, hx0, e4, w1, hx1, e5, hbx])
  | with_reducible refine aq0 fun _ _ => ?_
  | (refine awp_draw' (id := 8) [] 7 (by kernel_rfl) (by kernel_rfl) rfl rfl (fun bx0 hbx => ?_); try dsimp only [List.take, List.drop])
  | (refine awp_draw' (id := 18) [] 9 (by kernel_rfl) (by kernel_rfl) rfl rfl (fun bx0 hbx => ?_); try dsimp only [List.take, List.drop])
  | (refine awp_draw' (id := 23) [] 12 (by kernel_rfl) (by kernel_rfl) rfl rfl (fun bx0 hbx => ?_); try dsimp only [List.take, List.drop])
  | with_reducible (first | refine ar0 [] ?_ | refine ab0 ?_)
  | go_step)
 refine awp_loop_by (ι := {i : Nat // i ≤ p.length ∧ (List.range i).any (dupAt p) = false}) (fun i σ => ⟨(10, iv (i.1 : Int)) :: keepS [3, 4] σ.slot, keepS [4] σ.box, [], σ.ext⟩) (fun i => p.length - i.1) ⟨0, by omega, rfl⟩ (sub_mk ?_) (fun R2 hR2 i => ?_)
 · simp only [go_sem, simprocAttr, hF]
   repeat' (first | rfl | refine ⟨?_, ?_⟩)
 obtain ⟨i, hi, hU⟩ := i
 dsimp only
 simp only [go_sem, simprocAttr, hF]
 by_cases hit : i < p.length
 case pos =>
  obtain ⟨x, hx⟩ := get_of_lt hit
  have hdi : decide ((i : Int) < (p.length : Int)) = true := decide_eq_true (by omega)
  have hwi : IntKind.i64.wrap ((i : Int) + 1) = ((i + 1 : Nat) : Int) := by rw [IntKind.wrap_i64]; omega
  have hD : dupAt p i = (p.take i).any (fun y => x == y) := by unfold dupAt; rw [List.getD_eq_getElem?_getD, hx]; rfl
  repeat (first
   | (with_reducible (first | refine sg0 ?_ | refine hw0 ?_ | refine se0 ?_ | refine ai0 ?_ | refine as0 ?_ | refine at0 ?_ | refine ax0 ?_); simp only [go_sem, simprocAttr, hF, hdi])
   | ((with_reducible refine hg0 ?_); simp only [go_sem, simprocAttr, hF, hdi, hbx])
   | with_reducible refine aq0 fun _ _ => ?_
   | (refine awp_draw' (id := 8) [] 7 (by kernel_rfl) (by kernel_rfl) rfl rfl (fun bx0 hbx => ?_); try dsimp only [List.take, List.drop])
   | (refine awp_draw' (id := 18) [] 9 (by kernel_rfl) (by kernel_rfl) rfl rfl (fun bx0 hbx => ?_); try dsimp only [List.take, List.drop])
   | (refine awp_draw' (id := 23) [] 12 (by kernel_rfl) (by kernel_rfl) rfl rfl (fun bx0 hbx => ?_); try dsimp only [List.take, List.drop])
   | with_reducible (first | refine ar0 [] ?_ | refine ab0 ?_)
   | go_step)
  refine awp_loop_by (ι := {j : Nat // j ≤ i ∧ (p.take j).any (fun y => x == y) = false}) (fun j σ => ⟨(11, iv (j.1 : Int)) :: keepS [3, 4, 10] σ.slot, keepS [4] σ.box, [], σ.ext⟩) (fun j => i - j.1) ⟨0, by omega, rfl⟩ (sub_mk ?_) (fun R3 hR3 j => ?_)
  · simp only [go_sem, simprocAttr, hF]
    repeat' (first | rfl | refine ⟨?_, ?_⟩)
  obtain ⟨j, hj, hV⟩ := j
  dsimp only
  simp only [go_sem, simprocAttr, hF]
  by_cases hjt : j < i
  case pos =>
   obtain ⟨y, hy⟩ := get_of_lt (l := p) (k := j) (by omega)
   have hdj : decide ((j : Int) < (i : Int)) = true := decide_eq_true (by omega)
   have hwj : IntKind.i64.wrap ((j : Int) + 1) = ((j + 1 : Nat) : Int) := by rw [IntKind.wrap_i64]; omega
   cases exy : (x == y) with
   | true =>
    have hdup : dupB p = true := List.any_eq_true.2 ⟨i, List.mem_range.2 hit, by rw [hD]; exact List.any_eq_true.2 ⟨y, List.mem_of_getElem? (i := j) (by rw [List.getElem?_take_of_lt hjt, hy]), exy⟩⟩
    repeat (first
     | (with_reducible (first | refine sg0 ?_ | refine hw0 ?_ | refine se0 ?_ | refine ai0 ?_ | refine as0 ?_ | refine at0 ?_ | refine ax0 ?_); simp only [go_sem, simprocAttr, hF, hdj, hx, hy, exy])
     | ((with_reducible refine hg0 ?_); simp only [go_sem, simprocAttr, hF, hdj, hx, hy, exy, hbx])
     | with_reducible refine aq0 fun _ _ => ?_
     | (refine awp_draw' (id := 8) [] 7 (by kernel_rfl) (by kernel_rfl) rfl rfl (fun bx0 hbx => ?_); try dsimp only [List.take, List.drop])
     | (refine awp_draw' (id := 18) [] 9 (by kernel_rfl) (by kernel_rfl) rfl rfl (fun bx0 hbx => ?_); try dsimp only [List.take, List.drop])
     | (refine awp_draw' (id := 23) [] 12 (by kernel_rfl) (by kernel_rfl) rfl rfl (fun bx0 hbx => ?_); try dsimp only [List.take, List.drop])
     | with_reducible (first | refine ar0 [] ?_ | refine ab0 ?_)
     | go_step)
    rw [hRt, if_pos hdup]
   | false =>
    repeat (first
     | (with_reducible (first | refine sg0 ?_ | refine hw0 ?_ | refine se0 ?_ | refine ai0 ?_ | refine as0 ?_ | refine at0 ?_ | refine ax0 ?_); simp only [go_sem, simprocAttr, hF, hdj, hx, hy, exy])
     | ((with_reducible refine hg0 ?_); simp only [go_sem, simprocAttr, hF, hdj, hx, hy, exy, hbx])
     | with_reducible refine aq0 fun _ _ => ?_
     | (refine awp_draw' (id := 8) [] 7 (by kernel_rfl) (by kernel_rfl) rfl rfl (fun bx0 hbx => ?_); try dsimp only [List.take, List.drop])
     | (refine awp_draw' (id := 18) [] 9 (by kernel_rfl) (by kernel_rfl) rfl rfl (fun bx0 hbx => ?_); try dsimp only [List.take, List.drop])
     | (refine awp_draw' (id := 23) [] 12 (by kernel_rfl) (by kernel_rfl) rfl rfl (fun bx0 hbx => ?_); try dsimp only [List.take, List.drop])
     | with_reducible (first | refine ar0 [] ?_ | refine ab0 ?_)
     | go_step)
    refine ⟨⟨j + 1, by omega, by rw [List.take_add_one, hy, List.any_append, hV]; simp [exy]⟩, by dsimp only; omega, hR3 _ _ (sub_mk ?_)⟩
    simp only [go_sem, simprocAttr, hF, hwj]
  have hdj : decide ((j : Int) < (i : Int)) = false := decide_eq_false (by omega)
  obtain rfl : j = i := by omega
  repeat (first
   | (with_reducible (first | refine sg0 ?_ | refine hw0 ?_ | refine se0 ?_ | refine ai0 ?_ | refine as0 ?_ | refine at0 ?_ | refine ax0 ?_); simp only [go_sem, simprocAttr, hF, hdj])
   | ((with_reducible refine hg0 ?_); simp only [go_sem, simprocAttr, hF, hdj, hbx])
   | with_reducible refine aq0 fun _ _ => ?_
   | (refine awp_draw' (id := 8) [] 7 (by kernel_rfl) (by kernel_rfl) rfl rfl (fun bx0 hbx => ?_); try dsimp only [List.take, List.drop])
   | (refine awp_draw' (id := 18) [] 9 (by kernel_rfl) (by kernel_rfl) rfl rfl (fun bx0 hbx => ?_); try dsimp only [List.take, List.drop])
   | (refine awp_draw' (id := 23) [] 12 (by kernel_rfl) (by kernel_rfl) rfl rfl (fun bx0 hbx => ?_); try dsimp only [List.take, List.drop])
   | with_reducible (first | refine ar0 [] ?_ | refine ab0 ?_)
   | go_step)
  refine ⟨⟨j + 1, by omega, by rw [List.range_succ, List.any_append, hU, List.any_cons, hD, hV]; rfl⟩, by dsimp only; omega, hR2 _ _ (sub_mk ?_)⟩
  simp only [go_sem, simprocAttr, hF, hwi]
 have hdi : decide ((i : Int) < (p.length : Int)) = false := decide_eq_false (by omega)
 obtain rfl : i = p.length := by omega
 have hdup : ¬ dupB p = true := by unfold dupB; rw [hU]; decide
 repeat (first
  | (with_reducible (first | refine sg0 ?_ | refine hw0 ?_ | refine se0 ?_ | refine ai0 ?_ | refine as0 ?_ | refine at0 ?_ | refine ax0 ?_); simp only [go_sem, simprocAttr, hF, hdi])
  | ((with_reducible refine hg0 ?_); simp only [go_sem, simprocAttr, hF, hdi, hbx])
  | with_reducible refine aq0 fun _ _ => ?_
  | (refine awp_draw' (id := 8) [] 7 (by kernel_rfl) (by kernel_rfl) rfl rfl (fun bx0 hbx => ?_); try dsimp only [List.take, List.drop])
  | (refine awp_draw' (id := 18) [] 9 (by kernel_rfl) (by kernel_rfl) rfl rfl (fun bx0 hbx => ?_); try dsimp only [List.take, List.drop])
  | (refine awp_draw' (id := 23) [] 12 (by kernel_rfl) (by kernel_rfl) rfl rfl (fun bx0 hbx => ?_); try dsimp only [List.take, List.drop])
  | with_reducible (first | refine ar0 [] ?_ | refine ab0 ?_)
  | go_step)
 refine awp_loop_by (ι := {s : Nat // 1 ≤ s ∧ s ≤ p.length ∧ (List.range (s - 1)).any (gapAt n p) = false}) (fun s σ => ⟨(12, iv (s.1 : Int)) :: keepS [3, 4] σ.slot, keepS [4] σ.box, [], σ.ext⟩) (fun s => p.length - s.1) ⟨1, by omega, by omega, rfl⟩ (sub_mk ?_) (fun R4 hR4 s => ?_)
 · simp only [go_sem, simprocAttr, hF]
   repeat' (first | rfl | exact True.intro | refine ⟨?_, ?_⟩)
 obtain ⟨s, hs1, hs, hV⟩ := s
 dsimp only
 simp only [go_sem, simprocAttr, hF]
 by_cases hst : s < p.length
 case neg =>
  have hds : decide ((s : Int) < (p.length : Int)) = false := decide_eq_false (by omega)
  obtain rfl : s = p.length := by omega
  have hgap : ¬ gapB n p = true := by unfold gapB; rw [hV]; decide
  repeat (first
   | (with_reducible (first | refine sg0 ?_ | refine hw0 ?_ | refine se0 ?_ | refine ai0 ?_ | refine as0 ?_ | refine at0 ?_ | refine ax0 ?_); simp only [go_sem, simprocAttr, hF, hds])
   | ((with_reducible refine hg0 ?_); simp only [go_sem, simprocAttr, hF, hds, hbx])
   | with_reducible refine aq0 fun _ _ => ?_
   | (refine awp_draw' (id := 8) [] 7 (by kernel_rfl) (by kernel_rfl) rfl rfl (fun bx0 hbx => ?_); try dsimp only [List.take, List.drop])
   | (refine awp_draw' (id := 18) [] 9 (by kernel_rfl) (by kernel_rfl) rfl rfl (fun bx0 hbx => ?_); try dsimp only [List.take, List.drop])
   | (refine awp_draw' (id := 23) [] 12 (by kernel_rfl) (by kernel_rfl) rfl rfl (fun bx0 hbx => ?_); try dsimp only [List.take, List.drop])
   | with_reducible (first | refine ar0 [] ?_ | refine ab0 ?_)
   | go_step)
  rw [hRt, if_neg hdup, if_neg hgap]
 have hds : decide ((s : Int) < (p.length : Int)) = true := decide_eq_true (by omega)
 have hws : IntKind.i64.wrap ((s : Int) + 1) = ((s + 1 : Nat) : Int) := by rw [IntKind.wrap_i64]; omega
 have wm : IntKind.i64.wrap ((s : Int) - 1) = ((s - 1 : Nat) : Int) := by rw [IntKind.wrap_i64]; omega
 obtain ⟨x, hx⟩ := get_of_lt (l := p) (k := s - 1) (by omega)
 obtain ⟨y, hy⟩ := get_of_lt (l := p) (k := s) hst
 have hG : gapAt n p (s - 1) = !goodL n x y := by unfold gapAt; rw [List.getD_eq_getElem?_getD, List.getD_eq_getElem?_getD, hx, show s - 1 + 1 = s by omega, hy]; rfl
 repeat (first
  | (with_reducible (first | refine sg0 ?_ | refine hw0 ?_ | refine se0 ?_ | refine ai0 ?_ | refine as0 ?_ | refine at0 ?_ | refine ax0 ?_); simp only [go_sem, simprocAttr, hF, hds, wm, hx, hy])
  | ((with_reducible refine hg0 ?_); simp only [go_sem, simprocAttr, hF, hds, wm, hx, hy, hbx])
  | with_reducible refine aq0 fun _ _ => ?_
  | (refine awp_draw' (id := 8) [] 7 (by kernel_rfl) (by kernel_rfl) rfl rfl (fun bx0 hbx => ?_); try dsimp only [List.take, List.drop])
  | (refine awp_draw' (id := 18) [] 9 (by kernel_rfl) (by kernel_rfl) rfl rfl (fun bx0 hbx => ?_); try dsimp only [List.take, List.drop])
  | (refine awp_draw' (id := 23) [] 12 (by kernel_rfl) (by kernel_rfl) rfl rfl (fun bx0 hbx => ?_); try dsimp only [List.take, List.drop])
  | with_reducible (first | refine ar0 [] ?_ | refine ab0 ?_)
  | go_step)
 refine ⟨_, rgood_ok n x y hS hN, ?_⟩
 simp only [go_sem, simprocAttr, hF]
 cases eg : goodL n x y with
 | false =>
  have hgap : gapB n p = true := List.any_eq_true.2 ⟨s - 1, List.mem_range.2 (by omega), by rw [hG, eg]; rfl⟩
  try simp only [go_sem, simprocAttr, hF, eg]
  repeat (first
   | (with_reducible (first | refine sg0 ?_ | refine hw0 ?_ | refine se0 ?_ | refine ai0 ?_ | refine as0 ?_ | refine at0 ?_ | refine ax0 ?_); simp only [go_sem, simprocAttr, hF, eg])
   | ((with_reducible refine hg0 ?_); simp only [go_sem, simprocAttr, hF, eg, hbx])
   | with_reducible refine aq0 fun _ _ => ?_
   | (refine awp_draw' (id := 8) [] 7 (by kernel_rfl) (by kernel_rfl) rfl rfl (fun bx0 hbx => ?_); try dsimp only [List.take, List.drop])
   | (refine awp_draw' (id := 18) [] 9 (by kernel_rfl) (by kernel_rfl) rfl rfl (fun bx0 hbx => ?_); try dsimp only [List.take, List.drop])
   | (refine awp_draw' (id := 23) [] 12 (by kernel_rfl) (by kernel_rfl) rfl rfl (fun bx0 hbx => ?_); try dsimp only [List.take, List.drop])
   | with_reducible (first | refine ar0 [] ?_ | refine ab0 ?_)
   | go_step)
  rw [hRt, if_neg hdup, if_pos hgap]
 | true =>
  try simp only [go_sem, simprocAttr, hF, eg]
  repeat (first
   | (with_reducible (first | refine sg0 ?_ | refine hw0 ?_ | refine se0 ?_ | refine ai0 ?_ | refine as0 ?_ | refine at0 ?_ | refine ax0 ?_); simp only [go_sem, simprocAttr, hF, eg])
   | ((with_reducible refine hg0 ?_); simp only [go_sem, simprocAttr, hF, eg, hbx])
   | with_reducible refine aq0 fun _ _ => ?_
   | (refine awp_draw' (id := 8) [] 7 (by kernel_rfl) (by kernel_rfl) rfl rfl (fun bx0 hbx => ?_); try dsimp only [List.take, List.drop])
   | (refine awp_draw' (id := 18) [] 9 (by kernel_rfl) (by kernel_rfl) rfl rfl (fun bx0 hbx => ?_); try dsimp only [List.take, List.drop])
   | (refine awp_draw' (id := 23) [] 12 (by kernel_rfl) (by kernel_rfl) rfl rfl (fun bx0 hbx => ?_); try dsimp only [List.take, List.drop])
   | with_reducible (first | refine ar0 [] ?_ | refine ab0 ?_)
   | go_step)
  refine ⟨⟨s + 1, by omega, by omega, by rw [show s + 1 - 1 = (s - 1) + 1 by omega, List.range_succ, List.any_append, hV, List.any_cons, hG, eg]; rfl⟩, by dsimp only; omega, hR4 _ _ (sub_mk ?_)⟩
  simp only [go_sem, simprocAttr, hF, hws]

set_option maxHeartbeats 2000000 in
theorem rcheck33_ok (n : Net) (a b : Int) (p : List Int) (hS : SmallN n) (hc : chkN n = 0) (ha : 0 ≤ a ∧ a < n.nodes) (hb : 0 ≤ b ∧ b < n.nodes) (hab : a ≠ b) (hl : p.length ≤ 1000000) : FnOK Tryz.prog 77 [.agg n.pv, iv a, iv b, .sl 1 (p.map irow_pv)] ⟨iv (routeE n a b p), none⟩ := by
 have h0 : ((0 : Int) != 0) = false := rfl
 refine fn_ok Tryz.func77 (by kernel_rfl) rfl (by rw [Tryz.ntmps77]; exact of_decide_eq_true rfl) (fun F hF => ?_)
 rw [Tryz.ntmps77] at hF
 rw [Tryz.results77]
 repeat (first
  | (with_reducible (first | refine sg0 ?_ | refine hw0 ?_ | refine se0 ?_ | refine ai0 ?_ | refine as0 ?_ | refine at0 ?_ | refine ax0 ?_); simp only [go_sem, simprocAttr, hF])
  | with_reducible (first | refine aq0 fun _ _ => ?_ | refine ar0 [] ?_ | refine ab0 ?_)
  | go_step)
 refine ⟨_, rends33_ok n a b hS hc ha hb hab, ?_⟩
 simp only [go_sem, simprocAttr, hF, h0]
 repeat (first
  | (with_reducible (first | refine sg0 ?_ | refine hw0 ?_ | refine se0 ?_ | refine ai0 ?_ | refine as0 ?_ | refine at0 ?_ | refine ax0 ?_); simp only [go_sem, simprocAttr, hF, h0])
  | with_reducible (first | refine aq0 fun _ _ => ?_ | refine ar0 [] ?_ | refine ab0 ?_)
  | go_step)
 refine ⟨_, rfault33_ok n a b p hS hc hl, ?_⟩
 simp only [go_sem, simprocAttr, hF]
 repeat (first
  | (with_reducible (first | refine sg0 ?_ | refine hw0 ?_ | refine se0 ?_ | refine ai0 ?_ | refine as0 ?_ | refine at0 ?_ | refine ax0 ?_); simp only [go_sem, simprocAttr, hF])
  | with_reducible (first | refine aq0 fun _ _ => ?_ | refine ar0 [] ?_ | refine ab0 ?_)
  | go_step)
 all_goals (try rfl)
/- The reference's check of a flow, by abstract states. -/
set_option maxHeartbeats 2000000 in
theorem in32_ok (n a b : Int) : FnOK Tryz.prog 120 [iv n, iv a, iv b] ⟨bv (inR n a b), none⟩ := by
 refine fn_ok Tryz.func120 (by kernel_rfl) rfl (by rw [Tryz.ntmps120]; exact of_decide_eq_true rfl) (fun F hF => ?_)
 rw [Tryz.ntmps120] at hF
 rw [Tryz.results120]
 unfold inR
 cases h1 : decide (a ≤ n) <;> cases h2 : decide (n ≤ b)
 · repeat (first
  | (with_reducible (first | refine sg0 ?_ | refine hw0 ?_ | refine se0 ?_ | refine ai0 ?_ | refine as0 ?_ | refine at0 ?_ | refine ax0 ?_); simp only [go_sem, simprocAttr, hF, h1, h2])
  | with_reducible (first | refine aq0 fun _ _ => ?_ | refine ar0 [] ?_ | refine ab0 ?_)
  | go_step)
   all_goals (try rfl)
 · repeat (first
  | (with_reducible (first | refine sg0 ?_ | refine hw0 ?_ | refine se0 ?_ | refine ai0 ?_ | refine as0 ?_ | refine at0 ?_ | refine ax0 ?_); simp only [go_sem, simprocAttr, hF, h1, h2])
  | with_reducible (first | refine aq0 fun _ _ => ?_ | refine ar0 [] ?_ | refine ab0 ?_)
  | go_step)
   all_goals (try rfl)
 · repeat (first
  | (with_reducible (first | refine sg0 ?_ | refine hw0 ?_ | refine se0 ?_ | refine ai0 ?_ | refine as0 ?_ | refine at0 ?_ | refine ax0 ?_); simp only [go_sem, simprocAttr, hF, h1, h2])
  | with_reducible (first | refine aq0 fun _ _ => ?_ | refine ar0 [] ?_ | refine ab0 ?_)
  | go_step)
   all_goals (try rfl)
 · repeat (first
  | (with_reducible (first | refine sg0 ?_ | refine hw0 ?_ | refine se0 ?_ | refine ai0 ?_ | refine as0 ?_ | refine at0 ?_ | refine ax0 ?_); simp only [go_sem, simprocAttr, hF, h1, h2])
  | with_reducible (first | refine aq0 fun _ _ => ?_ | refine ar0 [] ?_ | refine ab0 ?_)
  | go_step)
   all_goals (try rfl)

set_option maxHeartbeats 20000000 in
theorem rFault_ok (nodes : Int) (f : Fl) (hn : 2 ≤ nodes ∧ nodes ≤ 32) : FnOK Tryz.prog 121 [iv nodes, .agg f.pv] ⟨iv (faultN nodes f), none⟩ := by
 have hwn : IntKind.i64.wrap (nodes - 1) = nodes - 1 := by rw [IntKind.wrap_i64]; omega
 refine fn_ok Tryz.func121 (by kernel_rfl) rfl (by rw [Tryz.ntmps121]; exact of_decide_eq_true rfl) (fun F hF => ?_)
 rw [Tryz.ntmps121] at hF
 rw [Tryz.results121]
 by_cases h0 : f.id < 0 ∨ 255 < f.id
 case pos =>
  have e0 : inR (f.id) (0) (255) = false := inR_f h0
  repeat (first
   | (with_reducible (first | refine sg0 ?_ | refine hw0 ?_ | refine se0 ?_ | refine ai0 ?_ | refine as0 ?_ | refine at0 ?_ | refine ax0 ?_); simp only [go_sem, simprocAttr, hF, e0, hwn])
   | with_reducible (first | refine aq0 fun _ _ => ?_ | refine ar0 [] ?_ | refine ab0 ?_)
   | go_step)
  refine ⟨_, in32_ok (f.id) (0) (255), ?_⟩
  simp only [go_sem, simprocAttr, hF, e0, hwn]
  repeat (first
   | (with_reducible (first | refine sg0 ?_ | refine hw0 ?_ | refine se0 ?_ | refine ai0 ?_ | refine as0 ?_ | refine at0 ?_ | refine ax0 ?_); simp only [go_sem, simprocAttr, hF, e0, hwn])
   | with_reducible (first | refine aq0 fun _ _ => ?_ | refine ar0 [] ?_ | refine ab0 ?_)
   | go_step)
  rw [faultN, if_pos (by omega)]
 have e0 : inR (f.id) (0) (255) = true := inR_t h0
 by_cases h1 : f.fr < 0 ∨ nodes - 1 < f.fr
 case pos =>
  have e1 : inR (f.fr) (0) (nodes - 1) = false := inR_f h1
  repeat (first
   | (with_reducible (first | refine sg0 ?_ | refine hw0 ?_ | refine se0 ?_ | refine ai0 ?_ | refine as0 ?_ | refine at0 ?_ | refine ax0 ?_); simp only [go_sem, simprocAttr, hF, e0, e1, hwn])
   | with_reducible (first | refine aq0 fun _ _ => ?_ | refine ar0 [] ?_ | refine ab0 ?_)
   | go_step)
  refine ⟨_, in32_ok (f.id) (0) (255), ?_⟩
  simp only [go_sem, simprocAttr, hF, e0, e1, hwn]
  repeat (first
   | (with_reducible (first | refine sg0 ?_ | refine hw0 ?_ | refine se0 ?_ | refine ai0 ?_ | refine as0 ?_ | refine at0 ?_ | refine ax0 ?_); simp only [go_sem, simprocAttr, hF, e0, e1, hwn])
   | with_reducible (first | refine aq0 fun _ _ => ?_ | refine ar0 [] ?_ | refine ab0 ?_)
   | go_step)
  refine ⟨_, in32_ok (f.fr) (0) (nodes - 1), ?_⟩
  simp only [go_sem, simprocAttr, hF, e0, e1, hwn]
  repeat (first
   | (with_reducible (first | refine sg0 ?_ | refine hw0 ?_ | refine se0 ?_ | refine ai0 ?_ | refine as0 ?_ | refine at0 ?_ | refine ax0 ?_); simp only [go_sem, simprocAttr, hF, e0, e1, hwn])
   | with_reducible (first | refine aq0 fun _ _ => ?_ | refine ar0 [] ?_ | refine ab0 ?_)
   | go_step)
  rw [faultN, if_pos (by omega)]
 have e1 : inR (f.fr) (0) (nodes - 1) = true := inR_t h1
 by_cases h2 : f.tn < 0 ∨ nodes - 1 < f.tn
 case pos =>
  have e2 : inR (f.tn) (0) (nodes - 1) = false := inR_f h2
  repeat (first
   | (with_reducible (first | refine sg0 ?_ | refine hw0 ?_ | refine se0 ?_ | refine ai0 ?_ | refine as0 ?_ | refine at0 ?_ | refine ax0 ?_); simp only [go_sem, simprocAttr, hF, e0, e1, e2, hwn])
   | with_reducible (first | refine aq0 fun _ _ => ?_ | refine ar0 [] ?_ | refine ab0 ?_)
   | go_step)
  refine ⟨_, in32_ok (f.id) (0) (255), ?_⟩
  simp only [go_sem, simprocAttr, hF, e0, e1, e2, hwn]
  repeat (first
   | (with_reducible (first | refine sg0 ?_ | refine hw0 ?_ | refine se0 ?_ | refine ai0 ?_ | refine as0 ?_ | refine at0 ?_ | refine ax0 ?_); simp only [go_sem, simprocAttr, hF, e0, e1, e2, hwn])
   | with_reducible (first | refine aq0 fun _ _ => ?_ | refine ar0 [] ?_ | refine ab0 ?_)
   | go_step)
  refine ⟨_, in32_ok (f.fr) (0) (nodes - 1), ?_⟩
  simp only [go_sem, simprocAttr, hF, e0, e1, e2, hwn]
  repeat (first
   | (with_reducible (first | refine sg0 ?_ | refine hw0 ?_ | refine se0 ?_ | refine ai0 ?_ | refine as0 ?_ | refine at0 ?_ | refine ax0 ?_); simp only [go_sem, simprocAttr, hF, e0, e1, e2, hwn])
   | with_reducible (first | refine aq0 fun _ _ => ?_ | refine ar0 [] ?_ | refine ab0 ?_)
   | go_step)
  refine ⟨_, in32_ok (f.tn) (0) (nodes - 1), ?_⟩
  simp only [go_sem, simprocAttr, hF, e0, e1, e2, hwn]
  repeat (first
   | (with_reducible (first | refine sg0 ?_ | refine hw0 ?_ | refine se0 ?_ | refine ai0 ?_ | refine as0 ?_ | refine at0 ?_ | refine ax0 ?_); simp only [go_sem, simprocAttr, hF, e0, e1, e2, hwn])
   | with_reducible (first | refine aq0 fun _ _ => ?_ | refine ar0 [] ?_ | refine ab0 ?_)
   | go_step)
  rw [faultN, if_pos (by omega)]
 have e2 : inR (f.tn) (0) (nodes - 1) = true := inR_t h2
 by_cases h3 : f.pe < 1 ∨ 512 < f.pe
 case pos =>
  have e3 : inR (f.pe) (1) (512) = false := inR_f h3
  repeat (first
   | (with_reducible (first | refine sg0 ?_ | refine hw0 ?_ | refine se0 ?_ | refine ai0 ?_ | refine as0 ?_ | refine at0 ?_ | refine ax0 ?_); simp only [go_sem, simprocAttr, hF, e0, e1, e2, e3, hwn])
   | with_reducible (first | refine aq0 fun _ _ => ?_ | refine ar0 [] ?_ | refine ab0 ?_)
   | go_step)
  refine ⟨_, in32_ok (f.id) (0) (255), ?_⟩
  simp only [go_sem, simprocAttr, hF, e0, e1, e2, e3, hwn]
  repeat (first
   | (with_reducible (first | refine sg0 ?_ | refine hw0 ?_ | refine se0 ?_ | refine ai0 ?_ | refine as0 ?_ | refine at0 ?_ | refine ax0 ?_); simp only [go_sem, simprocAttr, hF, e0, e1, e2, e3, hwn])
   | with_reducible (first | refine aq0 fun _ _ => ?_ | refine ar0 [] ?_ | refine ab0 ?_)
   | go_step)
  refine ⟨_, in32_ok (f.fr) (0) (nodes - 1), ?_⟩
  simp only [go_sem, simprocAttr, hF, e0, e1, e2, e3, hwn]
  repeat (first
   | (with_reducible (first | refine sg0 ?_ | refine hw0 ?_ | refine se0 ?_ | refine ai0 ?_ | refine as0 ?_ | refine at0 ?_ | refine ax0 ?_); simp only [go_sem, simprocAttr, hF, e0, e1, e2, e3, hwn])
   | with_reducible (first | refine aq0 fun _ _ => ?_ | refine ar0 [] ?_ | refine ab0 ?_)
   | go_step)
  refine ⟨_, in32_ok (f.tn) (0) (nodes - 1), ?_⟩
  simp only [go_sem, simprocAttr, hF, e0, e1, e2, e3, hwn]
  repeat (first
   | (with_reducible (first | refine sg0 ?_ | refine hw0 ?_ | refine se0 ?_ | refine ai0 ?_ | refine as0 ?_ | refine at0 ?_ | refine ax0 ?_); simp only [go_sem, simprocAttr, hF, e0, e1, e2, e3, hwn])
   | with_reducible (first | refine aq0 fun _ _ => ?_ | refine ar0 [] ?_ | refine ab0 ?_)
   | go_step)
  refine ⟨_, in32_ok (f.pe) (1) (512), ?_⟩
  simp only [go_sem, simprocAttr, hF, e0, e1, e2, e3, hwn]
  repeat (first
   | (with_reducible (first | refine sg0 ?_ | refine hw0 ?_ | refine se0 ?_ | refine ai0 ?_ | refine as0 ?_ | refine at0 ?_ | refine ax0 ?_); simp only [go_sem, simprocAttr, hF, e0, e1, e2, e3, hwn])
   | with_reducible (first | refine aq0 fun _ _ => ?_ | refine ar0 [] ?_ | refine ab0 ?_)
   | go_step)
  rw [faultN, if_pos (by omega)]
 have e3 : inR (f.pe) (1) (512) = true := inR_t h3
 by_cases h4 : f.ph < 0 ∨ f.pe - 1 < f.ph
 case pos =>
  have e4 : inR (f.ph) (0) (f.pe - 1) = false := inR_f h4
  have hwp : IntKind.i64.wrap (f.pe - 1) = f.pe - 1 := by rw [IntKind.wrap_i64]; omega
  repeat (first
   | (with_reducible (first | refine sg0 ?_ | refine hw0 ?_ | refine se0 ?_ | refine ai0 ?_ | refine as0 ?_ | refine at0 ?_ | refine ax0 ?_); simp only [go_sem, simprocAttr, hF, e0, e1, e2, e3, e4, hwn, hwp])
   | with_reducible (first | refine aq0 fun _ _ => ?_ | refine ar0 [] ?_ | refine ab0 ?_)
   | go_step)
  refine ⟨_, in32_ok (f.id) (0) (255), ?_⟩
  simp only [go_sem, simprocAttr, hF, e0, e1, e2, e3, e4, hwn, hwp]
  repeat (first
   | (with_reducible (first | refine sg0 ?_ | refine hw0 ?_ | refine se0 ?_ | refine ai0 ?_ | refine as0 ?_ | refine at0 ?_ | refine ax0 ?_); simp only [go_sem, simprocAttr, hF, e0, e1, e2, e3, e4, hwn, hwp])
   | with_reducible (first | refine aq0 fun _ _ => ?_ | refine ar0 [] ?_ | refine ab0 ?_)
   | go_step)
  refine ⟨_, in32_ok (f.fr) (0) (nodes - 1), ?_⟩
  simp only [go_sem, simprocAttr, hF, e0, e1, e2, e3, e4, hwn, hwp]
  repeat (first
   | (with_reducible (first | refine sg0 ?_ | refine hw0 ?_ | refine se0 ?_ | refine ai0 ?_ | refine as0 ?_ | refine at0 ?_ | refine ax0 ?_); simp only [go_sem, simprocAttr, hF, e0, e1, e2, e3, e4, hwn, hwp])
   | with_reducible (first | refine aq0 fun _ _ => ?_ | refine ar0 [] ?_ | refine ab0 ?_)
   | go_step)
  refine ⟨_, in32_ok (f.tn) (0) (nodes - 1), ?_⟩
  simp only [go_sem, simprocAttr, hF, e0, e1, e2, e3, e4, hwn, hwp]
  repeat (first
   | (with_reducible (first | refine sg0 ?_ | refine hw0 ?_ | refine se0 ?_ | refine ai0 ?_ | refine as0 ?_ | refine at0 ?_ | refine ax0 ?_); simp only [go_sem, simprocAttr, hF, e0, e1, e2, e3, e4, hwn, hwp])
   | with_reducible (first | refine aq0 fun _ _ => ?_ | refine ar0 [] ?_ | refine ab0 ?_)
   | go_step)
  refine ⟨_, in32_ok (f.pe) (1) (512), ?_⟩
  simp only [go_sem, simprocAttr, hF, e0, e1, e2, e3, e4, hwn, hwp]
  repeat (first
   | (with_reducible (first | refine sg0 ?_ | refine hw0 ?_ | refine se0 ?_ | refine ai0 ?_ | refine as0 ?_ | refine at0 ?_ | refine ax0 ?_); simp only [go_sem, simprocAttr, hF, e0, e1, e2, e3, e4, hwn, hwp])
   | with_reducible (first | refine aq0 fun _ _ => ?_ | refine ar0 [] ?_ | refine ab0 ?_)
   | go_step)
  refine ⟨_, in32_ok (f.ph) (0) (f.pe - 1), ?_⟩
  simp only [go_sem, simprocAttr, hF, e0, e1, e2, e3, e4, hwn, hwp]
  repeat (first
   | (with_reducible (first | refine sg0 ?_ | refine hw0 ?_ | refine se0 ?_ | refine ai0 ?_ | refine as0 ?_ | refine at0 ?_ | refine ax0 ?_); simp only [go_sem, simprocAttr, hF, e0, e1, e2, e3, e4, hwn, hwp])
   | with_reducible (first | refine aq0 fun _ _ => ?_ | refine ar0 [] ?_ | refine ab0 ?_)
   | go_step)
  rw [faultN, if_pos (by omega)]
 have e4 : inR (f.ph) (0) (f.pe - 1) = true := inR_t h4
 by_cases h5 : f.dl < 1 ∨ f.pe < f.dl
 case pos =>
  have e5 : inR (f.dl) (1) (f.pe) = false := inR_f h5
  have hwp : IntKind.i64.wrap (f.pe - 1) = f.pe - 1 := by rw [IntKind.wrap_i64]; omega
  repeat (first
   | (with_reducible (first | refine sg0 ?_ | refine hw0 ?_ | refine se0 ?_ | refine ai0 ?_ | refine as0 ?_ | refine at0 ?_ | refine ax0 ?_); simp only [go_sem, simprocAttr, hF, e0, e1, e2, e3, e4, e5, hwn, hwp])
   | with_reducible (first | refine aq0 fun _ _ => ?_ | refine ar0 [] ?_ | refine ab0 ?_)
   | go_step)
  refine ⟨_, in32_ok (f.id) (0) (255), ?_⟩
  simp only [go_sem, simprocAttr, hF, e0, e1, e2, e3, e4, e5, hwn, hwp]
  repeat (first
   | (with_reducible (first | refine sg0 ?_ | refine hw0 ?_ | refine se0 ?_ | refine ai0 ?_ | refine as0 ?_ | refine at0 ?_ | refine ax0 ?_); simp only [go_sem, simprocAttr, hF, e0, e1, e2, e3, e4, e5, hwn, hwp])
   | with_reducible (first | refine aq0 fun _ _ => ?_ | refine ar0 [] ?_ | refine ab0 ?_)
   | go_step)
  refine ⟨_, in32_ok (f.fr) (0) (nodes - 1), ?_⟩
  simp only [go_sem, simprocAttr, hF, e0, e1, e2, e3, e4, e5, hwn, hwp]
  repeat (first
   | (with_reducible (first | refine sg0 ?_ | refine hw0 ?_ | refine se0 ?_ | refine ai0 ?_ | refine as0 ?_ | refine at0 ?_ | refine ax0 ?_); simp only [go_sem, simprocAttr, hF, e0, e1, e2, e3, e4, e5, hwn, hwp])
   | with_reducible (first | refine aq0 fun _ _ => ?_ | refine ar0 [] ?_ | refine ab0 ?_)
   | go_step)
  refine ⟨_, in32_ok (f.tn) (0) (nodes - 1), ?_⟩
  simp only [go_sem, simprocAttr, hF, e0, e1, e2, e3, e4, e5, hwn, hwp]
  repeat (first
   | (with_reducible (first | refine sg0 ?_ | refine hw0 ?_ | refine se0 ?_ | refine ai0 ?_ | refine as0 ?_ | refine at0 ?_ | refine ax0 ?_); simp only [go_sem, simprocAttr, hF, e0, e1, e2, e3, e4, e5, hwn, hwp])
   | with_reducible (first | refine aq0 fun _ _ => ?_ | refine ar0 [] ?_ | refine ab0 ?_)
   | go_step)
  refine ⟨_, in32_ok (f.pe) (1) (512), ?_⟩
  simp only [go_sem, simprocAttr, hF, e0, e1, e2, e3, e4, e5, hwn, hwp]
  repeat (first
   | (with_reducible (first | refine sg0 ?_ | refine hw0 ?_ | refine se0 ?_ | refine ai0 ?_ | refine as0 ?_ | refine at0 ?_ | refine ax0 ?_); simp only [go_sem, simprocAttr, hF, e0, e1, e2, e3, e4, e5, hwn, hwp])
   | with_reducible (first | refine aq0 fun _ _ => ?_ | refine ar0 [] ?_ | refine ab0 ?_)
   | go_step)
  refine ⟨_, in32_ok (f.ph) (0) (f.pe - 1), ?_⟩
  simp only [go_sem, simprocAttr, hF, e0, e1, e2, e3, e4, e5, hwn, hwp]
  repeat (first
   | (with_reducible (first | refine sg0 ?_ | refine hw0 ?_ | refine se0 ?_ | refine ai0 ?_ | refine as0 ?_ | refine at0 ?_ | refine ax0 ?_); simp only [go_sem, simprocAttr, hF, e0, e1, e2, e3, e4, e5, hwn, hwp])
   | with_reducible (first | refine aq0 fun _ _ => ?_ | refine ar0 [] ?_ | refine ab0 ?_)
   | go_step)
  refine ⟨_, in32_ok (f.dl) (1) (f.pe), ?_⟩
  simp only [go_sem, simprocAttr, hF, e0, e1, e2, e3, e4, e5, hwn, hwp]
  repeat (first
   | (with_reducible (first | refine sg0 ?_ | refine hw0 ?_ | refine se0 ?_ | refine ai0 ?_ | refine as0 ?_ | refine at0 ?_ | refine ax0 ?_); simp only [go_sem, simprocAttr, hF, e0, e1, e2, e3, e4, e5, hwn, hwp])
   | with_reducible (first | refine aq0 fun _ _ => ?_ | refine ar0 [] ?_ | refine ab0 ?_)
   | go_step)
  rw [faultN, if_pos (by omega)]
 have e5 : inR (f.dl) (1) (f.pe) = true := inR_t h5
 by_cases h6 : f.fr = f.tn
 case pos =>
  have e6 : (f.fr == f.tn) = true := by simpa using h6
  have hwp : IntKind.i64.wrap (f.pe - 1) = f.pe - 1 := by rw [IntKind.wrap_i64]; omega
  repeat (first
   | (with_reducible (first | refine sg0 ?_ | refine hw0 ?_ | refine se0 ?_ | refine ai0 ?_ | refine as0 ?_ | refine at0 ?_ | refine ax0 ?_); simp only [go_sem, simprocAttr, hF, e0, e1, e2, e3, e4, e5, e6, hwn, hwp])
   | with_reducible (first | refine aq0 fun _ _ => ?_ | refine ar0 [] ?_ | refine ab0 ?_)
   | go_step)
  refine ⟨_, in32_ok (f.id) (0) (255), ?_⟩
  simp only [go_sem, simprocAttr, hF, e0, e1, e2, e3, e4, e5, e6, hwn, hwp]
  repeat (first
   | (with_reducible (first | refine sg0 ?_ | refine hw0 ?_ | refine se0 ?_ | refine ai0 ?_ | refine as0 ?_ | refine at0 ?_ | refine ax0 ?_); simp only [go_sem, simprocAttr, hF, e0, e1, e2, e3, e4, e5, e6, hwn, hwp])
   | with_reducible (first | refine aq0 fun _ _ => ?_ | refine ar0 [] ?_ | refine ab0 ?_)
   | go_step)
  refine ⟨_, in32_ok (f.fr) (0) (nodes - 1), ?_⟩
  simp only [go_sem, simprocAttr, hF, e0, e1, e2, e3, e4, e5, e6, hwn, hwp]
  repeat (first
   | (with_reducible (first | refine sg0 ?_ | refine hw0 ?_ | refine se0 ?_ | refine ai0 ?_ | refine as0 ?_ | refine at0 ?_ | refine ax0 ?_); simp only [go_sem, simprocAttr, hF, e0, e1, e2, e3, e4, e5, e6, hwn, hwp])
   | with_reducible (first | refine aq0 fun _ _ => ?_ | refine ar0 [] ?_ | refine ab0 ?_)
   | go_step)
  refine ⟨_, in32_ok (f.tn) (0) (nodes - 1), ?_⟩
  simp only [go_sem, simprocAttr, hF, e0, e1, e2, e3, e4, e5, e6, hwn, hwp]
  repeat (first
   | (with_reducible (first | refine sg0 ?_ | refine hw0 ?_ | refine se0 ?_ | refine ai0 ?_ | refine as0 ?_ | refine at0 ?_ | refine ax0 ?_); simp only [go_sem, simprocAttr, hF, e0, e1, e2, e3, e4, e5, e6, hwn, hwp])
   | with_reducible (first | refine aq0 fun _ _ => ?_ | refine ar0 [] ?_ | refine ab0 ?_)
   | go_step)
  refine ⟨_, in32_ok (f.pe) (1) (512), ?_⟩
  simp only [go_sem, simprocAttr, hF, e0, e1, e2, e3, e4, e5, e6, hwn, hwp]
  repeat (first
   | (with_reducible (first | refine sg0 ?_ | refine hw0 ?_ | refine se0 ?_ | refine ai0 ?_ | refine as0 ?_ | refine at0 ?_ | refine ax0 ?_); simp only [go_sem, simprocAttr, hF, e0, e1, e2, e3, e4, e5, e6, hwn, hwp])
   | with_reducible (first | refine aq0 fun _ _ => ?_ | refine ar0 [] ?_ | refine ab0 ?_)
   | go_step)
  refine ⟨_, in32_ok (f.ph) (0) (f.pe - 1), ?_⟩
  simp only [go_sem, simprocAttr, hF, e0, e1, e2, e3, e4, e5, e6, hwn, hwp]
  repeat (first
   | (with_reducible (first | refine sg0 ?_ | refine hw0 ?_ | refine se0 ?_ | refine ai0 ?_ | refine as0 ?_ | refine at0 ?_ | refine ax0 ?_); simp only [go_sem, simprocAttr, hF, e0, e1, e2, e3, e4, e5, e6, hwn, hwp])
   | with_reducible (first | refine aq0 fun _ _ => ?_ | refine ar0 [] ?_ | refine ab0 ?_)
   | go_step)
  refine ⟨_, in32_ok (f.dl) (1) (f.pe), ?_⟩
  simp only [go_sem, simprocAttr, hF, e0, e1, e2, e3, e4, e5, e6, hwn, hwp]
  repeat (first
   | (with_reducible (first | refine sg0 ?_ | refine hw0 ?_ | refine se0 ?_ | refine ai0 ?_ | refine as0 ?_ | refine at0 ?_ | refine ax0 ?_); simp only [go_sem, simprocAttr, hF, e0, e1, e2, e3, e4, e5, e6, hwn, hwp])
   | with_reducible (first | refine aq0 fun _ _ => ?_ | refine ar0 [] ?_ | refine ab0 ?_)
   | go_step)
  rw [faultN, if_neg (by omega), if_pos h6]
 have e6 : (f.fr == f.tn) = false := by simpa using h6
 have hwp : IntKind.i64.wrap (f.pe - 1) = f.pe - 1 := by rw [IntKind.wrap_i64]; omega
 repeat (first
  | (with_reducible (first | refine sg0 ?_ | refine hw0 ?_ | refine se0 ?_ | refine ai0 ?_ | refine as0 ?_ | refine at0 ?_ | refine ax0 ?_); simp only [go_sem, simprocAttr, hF, e0, e1, e2, e3, e4, e5, e6, hwn, hwp])
  | with_reducible (first | refine aq0 fun _ _ => ?_ | refine ar0 [] ?_ | refine ab0 ?_)
  | go_step)
 refine ⟨_, in32_ok (f.id) (0) (255), ?_⟩
 simp only [go_sem, simprocAttr, hF, e0, e1, e2, e3, e4, e5, e6, hwn, hwp]
 repeat (first
  | (with_reducible (first | refine sg0 ?_ | refine hw0 ?_ | refine se0 ?_ | refine ai0 ?_ | refine as0 ?_ | refine at0 ?_ | refine ax0 ?_); simp only [go_sem, simprocAttr, hF, e0, e1, e2, e3, e4, e5, e6, hwn, hwp])
  | with_reducible (first | refine aq0 fun _ _ => ?_ | refine ar0 [] ?_ | refine ab0 ?_)
  | go_step)
 refine ⟨_, in32_ok (f.fr) (0) (nodes - 1), ?_⟩
 simp only [go_sem, simprocAttr, hF, e0, e1, e2, e3, e4, e5, e6, hwn, hwp]
 repeat (first
  | (with_reducible (first | refine sg0 ?_ | refine hw0 ?_ | refine se0 ?_ | refine ai0 ?_ | refine as0 ?_ | refine at0 ?_ | refine ax0 ?_); simp only [go_sem, simprocAttr, hF, e0, e1, e2, e3, e4, e5, e6, hwn, hwp])
  | with_reducible (first | refine aq0 fun _ _ => ?_ | refine ar0 [] ?_ | refine ab0 ?_)
  | go_step)
 refine ⟨_, in32_ok (f.tn) (0) (nodes - 1), ?_⟩
 simp only [go_sem, simprocAttr, hF, e0, e1, e2, e3, e4, e5, e6, hwn, hwp]
 repeat (first
  | (with_reducible (first | refine sg0 ?_ | refine hw0 ?_ | refine se0 ?_ | refine ai0 ?_ | refine as0 ?_ | refine at0 ?_ | refine ax0 ?_); simp only [go_sem, simprocAttr, hF, e0, e1, e2, e3, e4, e5, e6, hwn, hwp])
  | with_reducible (first | refine aq0 fun _ _ => ?_ | refine ar0 [] ?_ | refine ab0 ?_)
  | go_step)
 refine ⟨_, in32_ok (f.pe) (1) (512), ?_⟩
 simp only [go_sem, simprocAttr, hF, e0, e1, e2, e3, e4, e5, e6, hwn, hwp]
 repeat (first
  | (with_reducible (first | refine sg0 ?_ | refine hw0 ?_ | refine se0 ?_ | refine ai0 ?_ | refine as0 ?_ | refine at0 ?_ | refine ax0 ?_); simp only [go_sem, simprocAttr, hF, e0, e1, e2, e3, e4, e5, e6, hwn, hwp])
  | with_reducible (first | refine aq0 fun _ _ => ?_ | refine ar0 [] ?_ | refine ab0 ?_)
  | go_step)
 refine ⟨_, in32_ok (f.ph) (0) (f.pe - 1), ?_⟩
 simp only [go_sem, simprocAttr, hF, e0, e1, e2, e3, e4, e5, e6, hwn, hwp]
 repeat (first
  | (with_reducible (first | refine sg0 ?_ | refine hw0 ?_ | refine se0 ?_ | refine ai0 ?_ | refine as0 ?_ | refine at0 ?_ | refine ax0 ?_); simp only [go_sem, simprocAttr, hF, e0, e1, e2, e3, e4, e5, e6, hwn, hwp])
  | with_reducible (first | refine aq0 fun _ _ => ?_ | refine ar0 [] ?_ | refine ab0 ?_)
  | go_step)
 refine ⟨_, in32_ok (f.dl) (1) (f.pe), ?_⟩
 simp only [go_sem, simprocAttr, hF, e0, e1, e2, e3, e4, e5, e6, hwn, hwp]
 repeat (first
  | (with_reducible (first | refine sg0 ?_ | refine hw0 ?_ | refine se0 ?_ | refine ai0 ?_ | refine as0 ?_ | refine at0 ?_ | refine ax0 ?_); simp only [go_sem, simprocAttr, hF, e0, e1, e2, e3, e4, e5, e6, hwn, hwp])
  | with_reducible (first | refine aq0 fun _ _ => ?_ | refine ar0 [] ?_ | refine ab0 ?_)
  | go_step)
 rw [faultN, if_neg (by omega), if_neg h6]

set_option maxHeartbeats 20000000 in
theorem rFCheck_ok (nodes : Int) (f : Fl) : FnOK Tryz.prog 85 [iv nodes, .sl 6 [f.pv]] ⟨.tup [.c (ip (chkF1 nodes f).1), .c (ip (chkF1 nodes f).2)], none⟩ := by
 refine fn_ok Tryz.func85 (by kernel_rfl) rfl (by rw [Tryz.ntmps85]; exact of_decide_eq_true rfl) (fun F hF => ?_)
 rw [Tryz.ntmps85] at hF
 rw [Tryz.results85]
 repeat (first
  | (with_reducible (first | refine sg0 ?_ | refine hw0 ?_ | refine se0 ?_ | refine ai0 ?_ | refine as0 ?_ | refine at0 ?_ | refine ax0 ?_); simp only [go_sem, simprocAttr, hF])
  | ((with_reducible refine hg0 ?_); simp only [go_sem, simprocAttr, hF, hbx])
  | with_reducible refine aq0 fun _ _ => ?_
  | (refine awp_draw' (id := 11) [] 16 (by kernel_rfl) (by kernel_rfl) rfl rfl (fun bx0 hbx => ?_); try dsimp only [List.take, List.drop])
  | with_reducible (first | refine ar0 [] ?_ | refine ab0 ?_)
  | go_step)
 refine ⟨_, in32_ok nodes 2 32, ?_⟩
 simp only [go_sem, simprocAttr, hF]
 by_cases h0 : nodes < 2 ∨ 32 < nodes
 case pos =>
  have e0 : inR nodes 2 32 = false := inR_f h0
  try simp only [go_sem, simprocAttr, hF, e0]
  repeat (first
   | (with_reducible (first | refine sg0 ?_ | refine hw0 ?_ | refine se0 ?_ | refine ai0 ?_ | refine as0 ?_ | refine at0 ?_ | refine ax0 ?_); simp only [go_sem, simprocAttr, hF, e0])
   | ((with_reducible refine hg0 ?_); simp only [go_sem, simprocAttr, hF, e0, hbx])
   | with_reducible refine aq0 fun _ _ => ?_
   | (refine awp_draw' (id := 11) [] 16 (by kernel_rfl) (by kernel_rfl) rfl rfl (fun bx0 hbx => ?_); try dsimp only [List.take, List.drop])
   | with_reducible (first | refine ar0 [] ?_ | refine ab0 ?_)
   | go_step)
  rw [chkF1, if_pos h0]
 have e0 : inR nodes 2 32 = true := inR_t h0
 try simp only [go_sem, simprocAttr, hF, e0]
 repeat (first
  | (with_reducible (first | refine sg0 ?_ | refine hw0 ?_ | refine se0 ?_ | refine ai0 ?_ | refine as0 ?_ | refine at0 ?_ | refine ax0 ?_); simp only [go_sem, simprocAttr, hF, e0])
  | ((with_reducible refine hg0 ?_); simp only [go_sem, simprocAttr, hF, e0, hbx])
  | with_reducible refine aq0 fun _ _ => ?_
  | (refine awp_draw' (id := 11) [] 16 (by kernel_rfl) (by kernel_rfl) rfl rfl (fun bx0 hbx => ?_); try dsimp only [List.take, List.drop])
  | with_reducible (first | refine ar0 [] ?_ | refine ab0 ?_)
  | go_step)
 refine awp_loop_by (ι := {k : Nat // k ≤ 1 ∧ (k = 1 → faultN nodes f = 0)}) (fun k σ => ⟨(6, iv (k.1 : Int)) :: keepS [0, 1, 4, 5] σ.slot, [], [], σ.ext⟩) (fun k => 1 - k.1) ⟨0, by omega, by omega⟩ (sub_mk ?_) (fun R hR k => ?_)
 · simp only [go_sem, simprocAttr, hF]
   repeat' (first | rfl | refine ⟨?_, ?_⟩)
 obtain ⟨k, hk, hT⟩ := k
 dsimp only
 simp only [go_sem, simprocAttr, hF]
 by_cases hlt : k < 1
 case neg =>
  obtain rfl : k = 1 := by omega
  have hd : decide (((1 : Nat) : Int) < 1) = false := rfl
  repeat (first
   | (with_reducible (first | refine sg0 ?_ | refine hw0 ?_ | refine se0 ?_ | refine ai0 ?_ | refine as0 ?_ | refine at0 ?_ | refine ax0 ?_); simp only [go_sem, simprocAttr, hF, hd, c11])
   | ((with_reducible refine hg0 ?_); simp only [go_sem, simprocAttr, hF, hd, c11, hbx])
   | with_reducible refine aq0 fun _ _ => ?_
   | (refine awp_draw' (id := 11) [] 16 (by kernel_rfl) (by kernel_rfl) rfl rfl (fun bx0 hbx => ?_); try dsimp only [List.take, List.drop])
   | with_reducible (first | refine ar0 [] ?_ | refine ab0 ?_)
   | go_step)
  rw [chkF1, if_neg h0, if_pos (hT rfl)]
 obtain rfl : k = 0 := by omega
 have hd : decide (((0 : Nat) : Int) < 1) = true := rfl
 have hw : IntKind.i64.wrap (((0 : Nat) : Int) + 1) = ((1 : Nat) : Int) := rfl
 repeat (first
  | (with_reducible (first | refine sg0 ?_ | refine hw0 ?_ | refine se0 ?_ | refine ai0 ?_ | refine as0 ?_ | refine at0 ?_ | refine ax0 ?_); simp only [go_sem, simprocAttr, hF, hd, c11, c00, c01])
  | ((with_reducible refine hg0 ?_); simp only [go_sem, simprocAttr, hF, hd, c11, c00, c01, hbx])
  | with_reducible refine aq0 fun _ _ => ?_
  | (refine awp_draw' (id := 11) [] 16 (by kernel_rfl) (by kernel_rfl) rfl rfl (fun bx0 hbx => ?_); try dsimp only [List.take, List.drop])
  | with_reducible (first | refine ar0 [] ?_ | refine ab0 ?_)
  | go_step)
 refine ⟨_, rFault_ok nodes f (by omega), ?_⟩
 simp only [go_sem, simprocAttr, hF]
 by_cases h3 : faultN nodes f = 0
 case neg =>
  have e3 : (faultN nodes f != 0) = true := by simpa using h3
  try simp only [go_sem, simprocAttr, hF, e3]
  repeat (first
   | (with_reducible (first | refine sg0 ?_ | refine hw0 ?_ | refine se0 ?_ | refine ai0 ?_ | refine as0 ?_ | refine at0 ?_ | refine ax0 ?_); simp only [go_sem, simprocAttr, hF, e3])
   | ((with_reducible refine hg0 ?_); simp only [go_sem, simprocAttr, hF, e3, hbx])
   | with_reducible refine aq0 fun _ _ => ?_
   | (refine awp_draw' (id := 11) [] 16 (by kernel_rfl) (by kernel_rfl) rfl rfl (fun bx0 hbx => ?_); try dsimp only [List.take, List.drop])
   | with_reducible (first | refine ar0 [] ?_ | refine ab0 ?_)
   | go_step)
  rw [chkF1, if_neg h0, if_neg h3]
 have e3 : (faultN nodes f != 0) = false := by simpa using h3
 try simp only [go_sem, simprocAttr, hF, e3, c01, c00]
 repeat (first
  | (with_reducible (first | refine sg0 ?_ | refine hw0 ?_ | refine se0 ?_ | refine ai0 ?_ | refine as0 ?_ | refine at0 ?_ | refine ax0 ?_); simp only [go_sem, simprocAttr, hF, e3, c01, c00])
  | ((with_reducible refine hg0 ?_); simp only [go_sem, simprocAttr, hF, e3, c01, c00, hbx])
  | with_reducible refine aq0 fun _ _ => ?_
  | (refine awp_draw' (id := 11) [] 16 (by kernel_rfl) (by kernel_rfl) rfl rfl (fun bx0 hbx => ?_); try dsimp only [List.take, List.drop])
  | with_reducible (first | refine ar0 [] ?_ | refine ab0 ?_)
  | go_step)
 refine ⟨⟨1, by omega, fun _ => h3⟩, by dsimp only; omega, hR _ _ (sub_mk ?_)⟩
 simp only [go_sem, simprocAttr, hF, hw]
 all_goals rfl
/- The references of a case, by abstract states. -/
set_option maxHeartbeats 20000000 in
theorem rbasic_ok (n : Net) (f : Fl) (r : Rec) (hS : SmallN n) (hla : r.al.length ≤ 1000000) (hld : r.dl.length ≤ 1000000) : FnOK Tryz.prog 42 [.agg n.pv, .agg f.pv, .agg r.pv] ⟨bv (basicB n f r), none⟩ := by
 refine fn_ok Tryz.func42 (by kernel_rfl) rfl (by rw [Tryz.ntmps42]; exact of_decide_eq_true rfl) (fun F hF => ?_)
 rw [Tryz.ntmps42] at hF
 rw [Tryz.results42]
 by_cases h1 : chkN n = 0
 case neg =>
  have e1 : (chkN n != 0) = true := by simpa using h1
  have hB : basicB n f r = false := by unfold basicB; rw [decide_eq_false h1]; rfl
  rw [hB]
  repeat (first
   | (with_reducible (first | refine sg0 ?_ | refine hw0 ?_ | refine se0 ?_ | refine ai0 ?_ | refine as0 ?_ | refine at0 ?_ | refine ax0 ?_); simp only [go_sem, simprocAttr, hF, e1])
   | with_reducible (first | refine aq0 fun _ _ => ?_ | refine ar0 [] ?_ | refine ab0 ?_)
   | go_step)
  refine ⟨_, ncheckR_ok n hS.pow hS.rows hS.lk hS.mg, ?_⟩
  simp only [go_sem, simprocAttr, hF, e1]
  repeat (first
   | (with_reducible (first | refine sg0 ?_ | refine hw0 ?_ | refine se0 ?_ | refine ai0 ?_ | refine as0 ?_ | refine at0 ?_ | refine ax0 ?_); simp only [go_sem, simprocAttr, hF, e1])
   | with_reducible (first | refine aq0 fun _ _ => ?_ | refine ar0 [] ?_ | refine ab0 ?_)
   | go_step)
  all_goals (try rfl)
 have e1 : (chkN n != 0) = false := by simpa using h1
 cases hg : good r with
 | false =>
  have hr : rcheckE r = 1 := by rw [← check_agree, checkE, hg]; rfl
  have e2 : ((rcheckE r) != 0) = true := by rw [hr]; rfl
  have hB : basicB n f r = false := by unfold basicB; rw [hg, decide_eq_true h1]; rfl
  rw [hB]
  repeat (first
   | (with_reducible (first | refine sg0 ?_ | refine hw0 ?_ | refine se0 ?_ | refine ai0 ?_ | refine as0 ?_ | refine at0 ?_ | refine ax0 ?_); simp only [go_sem, simprocAttr, hF, e1, e2])
   | with_reducible (first | refine aq0 fun _ _ => ?_ | refine ar0 [] ?_ | refine ab0 ?_)
   | go_step)
  refine ⟨_, ncheckR_ok n hS.pow hS.rows hS.lk hS.mg, ?_⟩
  simp only [go_sem, simprocAttr, hF, e1]
  repeat (first
   | (with_reducible (first | refine sg0 ?_ | refine hw0 ?_ | refine se0 ?_ | refine ai0 ?_ | refine as0 ?_ | refine at0 ?_ | refine ax0 ?_); simp only [go_sem, simprocAttr, hF, e1, e2])
   | with_reducible (first | refine aq0 fun _ _ => ?_ | refine ar0 [] ?_ | refine ab0 ?_)
   | go_step)
  refine ⟨_, rcheck_ok r hla hld, ?_⟩
  simp only [go_sem, simprocAttr, hF, e2]
  repeat (first
   | (with_reducible (first | refine sg0 ?_ | refine hw0 ?_ | refine se0 ?_ | refine ai0 ?_ | refine as0 ?_ | refine at0 ?_ | refine ax0 ?_); simp only [go_sem, simprocAttr, hF, e1, e2])
   | with_reducible (first | refine aq0 fun _ _ => ?_ | refine ar0 [] ?_ | refine ab0 ?_)
   | go_step)
  all_goals (try rfl)
 | true =>
  have hr : rcheckE r = 0 := by rw [← check_agree, checkE, hg]; rfl
  have e2 : ((rcheckE r) != 0) = false := by rw [hr]; rfl
  have hB : basicB n f r = ((chkF1 n.nodes f).2 == 0) := by unfold basicB; rw [hg, decide_eq_true h1, Bool.true_and, Bool.true_and]; exact (Bool.beq_eq_decide_eq _ _).symm
  rw [hB]
  repeat (first
   | (with_reducible (first | refine sg0 ?_ | refine hw0 ?_ | refine se0 ?_ | refine ai0 ?_ | refine as0 ?_ | refine at0 ?_ | refine ax0 ?_); simp only [go_sem, simprocAttr, hF, e1, e2])
   | with_reducible (first | refine aq0 fun _ _ => ?_ | refine ar0 [] ?_ | refine ab0 ?_)
   | go_step)
  refine ⟨_, ncheckR_ok n hS.pow hS.rows hS.lk hS.mg, ?_⟩
  simp only [go_sem, simprocAttr, hF, e1]
  repeat (first
   | (with_reducible (first | refine sg0 ?_ | refine hw0 ?_ | refine se0 ?_ | refine ai0 ?_ | refine as0 ?_ | refine at0 ?_ | refine ax0 ?_); simp only [go_sem, simprocAttr, hF, e1, e2])
   | with_reducible (first | refine aq0 fun _ _ => ?_ | refine ar0 [] ?_ | refine ab0 ?_)
   | go_step)
  refine ⟨_, rcheck_ok r hla hld, ?_⟩
  simp only [go_sem, simprocAttr, hF, e2]
  repeat (first
   | (with_reducible (first | refine sg0 ?_ | refine hw0 ?_ | refine se0 ?_ | refine ai0 ?_ | refine as0 ?_ | refine at0 ?_ | refine ax0 ?_); simp only [go_sem, simprocAttr, hF, e1, e2])
   | with_reducible (first | refine aq0 fun _ _ => ?_ | refine ar0 [] ?_ | refine ab0 ?_)
   | go_step)
  refine ⟨_, rFCheck_ok n.nodes f, ?_⟩
  simp only [go_sem, simprocAttr, hF]
  repeat (first
   | (with_reducible (first | refine sg0 ?_ | refine hw0 ?_ | refine se0 ?_ | refine ai0 ?_ | refine as0 ?_ | refine at0 ?_ | refine ax0 ?_); simp only [go_sem, simprocAttr, hF])
   | with_reducible (first | refine aq0 fun _ _ => ?_ | refine ar0 [] ?_ | refine ab0 ?_)
   | go_step)
  all_goals (try rfl)

set_option maxHeartbeats 20000000 in
theorem rlateL_ok (n : Net) (f : Fl) (ps : List (List Int)) (r : Rec) (fr : Int) (hS : SmallN n) (hla : r.al.length ≤ 1000000) (hld : r.dl.length ≤ 1000000) (hps : ps.length ≤ 1000000) (hpl : ∀ p ∈ ps, p.length ≤ 1000000) : FnOK Tryz.prog 38 [.agg n.pv, .agg f.pv, .sl 1 (ps.map prow_pv), .agg r.pv, iv fr] ⟨.tup [.g (lateX n f ps r fr).1.pv, .c (ip (lateX n f ps r fr).2)], none⟩ := by
 refine fn_ok Tryz.func38 (by kernel_rfl) rfl (by rw [Tryz.ntmps38]; exact of_decide_eq_true rfl) (fun F hF => ?_)
 rw [Tryz.ntmps38] at hF
 rw [Tryz.results38]
 cases hB : basicB n f r with
 | false =>
  repeat (first
   | (with_reducible (first | refine sg0 ?_ | refine hw0 ?_ | refine se0 ?_ | refine ai0 ?_ | refine as0 ?_ | refine at0 ?_ | refine ax0 ?_); simp only [go_sem, simprocAttr, hF, hB])
   | ((with_reducible refine hg0 ?_); simp only [go_sem, simprocAttr, hF, hB, hbx])
   | with_reducible refine aq0 fun _ _ => ?_
   | (refine awp_draw' (id := 6) [] 11 (by kernel_rfl) (by kernel_rfl) rfl rfl (fun bx0 hbx => ?_); try dsimp only [List.take, List.drop])
   | with_reducible (first | refine ar0 [] ?_ | refine ab0 ?_)
   | go_step)
  refine ⟨_, rbasic_ok n f r hS hla hld, ?_⟩
  simp only [go_sem, simprocAttr, hF, hB]
  repeat (first
   | (with_reducible (first | refine sg0 ?_ | refine hw0 ?_ | refine se0 ?_ | refine ai0 ?_ | refine as0 ?_ | refine at0 ?_ | refine ax0 ?_); simp only [go_sem, simprocAttr, hF, hB])
   | ((with_reducible refine hg0 ?_); simp only [go_sem, simprocAttr, hF, hB, hbx])
   | with_reducible refine aq0 fun _ _ => ?_
   | (refine awp_draw' (id := 6) [] 11 (by kernel_rfl) (by kernel_rfl) rfl rfl (fun bx0 hbx => ?_); try dsimp only [List.take, List.drop])
   | with_reducible (first | refine ar0 [] ?_ | refine ab0 ?_)
   | go_step)
  rw [show lateX n f ps r fr = (lt0, 1) from by unfold lateX; rw [if_pos (.inl hB)]]
  all_goals (try rfl)
 | true =>
  obtain ⟨hc, hg, hn, hfN, hf⟩ := basicB_inv hB
  obtain ⟨_, f1, f2, f3, f4, f5⟩ := fault_of_N hn.2 hfN
  by_cases c1 : ps.length < 1
  case pos =>
   have e1 : decide ((ps.length : Int) < 1) = true := decide_eq_true (by omega)
   repeat (first
    | (with_reducible (first | refine sg0 ?_ | refine hw0 ?_ | refine se0 ?_ | refine ai0 ?_ | refine as0 ?_ | refine at0 ?_ | refine ax0 ?_); simp only [go_sem, simprocAttr, hF, hB, e1])
    | ((with_reducible refine hg0 ?_); simp only [go_sem, simprocAttr, hF, hB, e1, hbx])
    | with_reducible refine aq0 fun _ _ => ?_
    | (refine awp_draw' (id := 6) [] 11 (by kernel_rfl) (by kernel_rfl) rfl rfl (fun bx0 hbx => ?_); try dsimp only [List.take, List.drop])
    | with_reducible (first | refine ar0 [] ?_ | refine ab0 ?_)
    | go_step)
   refine ⟨_, rbasic_ok n f r hS hla hld, ?_⟩
   simp only [go_sem, simprocAttr, hF, hB, e1]
   repeat (first
    | (with_reducible (first | refine sg0 ?_ | refine hw0 ?_ | refine se0 ?_ | refine ai0 ?_ | refine as0 ?_ | refine at0 ?_ | refine ax0 ?_); simp only [go_sem, simprocAttr, hF, hB, e1])
    | ((with_reducible refine hg0 ?_); simp only [go_sem, simprocAttr, hF, hB, e1, hbx])
    | with_reducible refine aq0 fun _ _ => ?_
    | (refine awp_draw' (id := 6) [] 11 (by kernel_rfl) (by kernel_rfl) rfl rfl (fun bx0 hbx => ?_); try dsimp only [List.take, List.drop])
    | with_reducible (first | refine ar0 [] ?_ | refine ab0 ?_)
    | go_step)
   rw [show lateX n f ps r fr = (lt0, 1) from by unfold lateX; rw [if_pos (.inr (.inl c1))]]
   all_goals (try rfl)
  have e1 : decide ((ps.length : Int) < 1) = false := decide_eq_false (by omega)
  by_cases c2 : 2 < ps.length
  case pos =>
   have e2 : decide ((2 : Int) < (ps.length : Int)) = true := decide_eq_true (by omega)
   repeat (first
    | (with_reducible (first | refine sg0 ?_ | refine hw0 ?_ | refine se0 ?_ | refine ai0 ?_ | refine as0 ?_ | refine at0 ?_ | refine ax0 ?_); simp only [go_sem, simprocAttr, hF, hB, e1, e2])
    | ((with_reducible refine hg0 ?_); simp only [go_sem, simprocAttr, hF, hB, e1, e2, hbx])
    | with_reducible refine aq0 fun _ _ => ?_
    | (refine awp_draw' (id := 6) [] 11 (by kernel_rfl) (by kernel_rfl) rfl rfl (fun bx0 hbx => ?_); try dsimp only [List.take, List.drop])
    | with_reducible (first | refine ar0 [] ?_ | refine ab0 ?_)
    | go_step)
   refine ⟨_, rbasic_ok n f r hS hla hld, ?_⟩
   simp only [go_sem, simprocAttr, hF, hB, e1, e2]
   repeat (first
    | (with_reducible (first | refine sg0 ?_ | refine hw0 ?_ | refine se0 ?_ | refine ai0 ?_ | refine as0 ?_ | refine at0 ?_ | refine ax0 ?_); simp only [go_sem, simprocAttr, hF, hB, e1, e2])
    | ((with_reducible refine hg0 ?_); simp only [go_sem, simprocAttr, hF, hB, e1, e2, hbx])
    | with_reducible refine aq0 fun _ _ => ?_
    | (refine awp_draw' (id := 6) [] 11 (by kernel_rfl) (by kernel_rfl) rfl rfl (fun bx0 hbx => ?_); try dsimp only [List.take, List.drop])
    | with_reducible (first | refine ar0 [] ?_ | refine ab0 ?_)
    | go_step)
   rw [show lateX n f ps r fr = (lt0, 1) from by unfold lateX; rw [if_pos (.inr (.inr c2))]]
   all_goals (try rfl)
  have e2 : decide ((2 : Int) < (ps.length : Int)) = false := decide_eq_false (by omega)
  have c3 : ¬ (basicB n f r = false ∨ ps.length < 1 ∨ 2 < ps.length) := fun h => by
   rcases h with h | h | h
   · rw [hB] at h; cases h
   · exact c1 h
   · exact c2 h
  repeat (first
   | (with_reducible (first | refine sg0 ?_ | refine hw0 ?_ | refine se0 ?_ | refine ai0 ?_ | refine as0 ?_ | refine at0 ?_ | refine ax0 ?_); simp only [go_sem, simprocAttr, hF, hB, e1, e2])
   | ((with_reducible refine hg0 ?_); simp only [go_sem, simprocAttr, hF, hB, e1, e2, hbx])
   | with_reducible refine aq0 fun _ _ => ?_
   | (refine awp_draw' (id := 6) [] 11 (by kernel_rfl) (by kernel_rfl) rfl rfl (fun bx0 hbx => ?_); try dsimp only [List.take, List.drop])
   | with_reducible (first | refine ar0 [] ?_ | refine ab0 ?_)
   | go_step)
  refine ⟨_, rbasic_ok n f r hS hla hld, ?_⟩
  simp only [go_sem, simprocAttr, hF, hB, e1, e2]
  repeat (first
   | (with_reducible (first | refine sg0 ?_ | refine hw0 ?_ | refine se0 ?_ | refine ai0 ?_ | refine as0 ?_ | refine at0 ?_ | refine ax0 ?_); simp only [go_sem, simprocAttr, hF, hB, e1, e2])
   | ((with_reducible refine hg0 ?_); simp only [go_sem, simprocAttr, hF, hB, e1, e2, hbx])
   | with_reducible refine aq0 fun _ _ => ?_
   | (refine awp_draw' (id := 6) [] 11 (by kernel_rfl) (by kernel_rfl) rfl rfl (fun bx0 hbx => ?_); try dsimp only [List.take, List.drop])
   | with_reducible (first | refine ar0 [] ?_ | refine ab0 ?_)
   | go_step)
  refine awp_loop_by (ι := {k : Nat // k ≤ ps.length ∧ (ps.take k).any (fun p => !(routeE n f.fr f.tn p == 0)) = false}) (fun k σ => ⟨(12, iv (k.1 : Int)) :: keepS [2, 4, 5, 6, 8, 10] σ.slot, keepS [5, 6, 8, 10] σ.box, [], σ.ext⟩) (fun k => ps.length - k.1) ⟨0, by omega, rfl⟩ (sub_mk ?_) (fun R hR k => ?_)
  · simp only [go_sem, simprocAttr, hF]
    repeat' (first | rfl | refine ⟨?_, ?_⟩)
  obtain ⟨k, hk, hT⟩ := k
  dsimp only
  simp only [go_sem, simprocAttr, hF]
  by_cases hlt : k < ps.length
  case pos =>
   obtain ⟨p, hp⟩ := get_of_lt hlt
   have hd : decide ((k : Int) < (ps.length : Int)) = true := decide_eq_true (by omega)
   have hw : IntKind.i64.wrap ((k : Int) + 1) = ((k + 1 : Nat) : Int) := by rw [IntKind.wrap_i64]; omega
   repeat (first
    | (with_reducible (first | refine sg0 ?_ | refine hw0 ?_ | refine se0 ?_ | refine ai0 ?_ | refine as0 ?_ | refine at0 ?_ | refine ax0 ?_); simp only [go_sem, simprocAttr, hF, hd, hp])
    | ((with_reducible refine hg0 ?_); simp only [go_sem, simprocAttr, hF, hd, hp, hbx])
    | with_reducible refine aq0 fun _ _ => ?_
    | (refine awp_draw' (id := 6) [] 11 (by kernel_rfl) (by kernel_rfl) rfl rfl (fun bx0 hbx => ?_); try dsimp only [List.take, List.drop])
    | with_reducible (first | refine ar0 [] ?_ | refine ab0 ?_)
    | go_step)
   refine ⟨_, rcheck33_ok n f.fr f.tn p hS hc ⟨f1, f2⟩ ⟨f3, f4⟩ f5 (hpl p (List.mem_of_getElem? hp)), ?_⟩
   simp only [go_sem, simprocAttr, hF]
   by_cases h3 : routeE n f.fr f.tn p = 0
   case neg =>
    have e3 : (routeE n f.fr f.tn p != 0) = true := by simpa using h3
    have hr : ps.any (fun p => !(routeE n f.fr f.tn p == 0)) = true := List.any_eq_true.2 ⟨p, List.mem_of_getElem? hp, by simpa using h3⟩
    have hL : lateX n f ps r fr = (lt0, 1) := by unfold lateX; rw [if_neg c3, if_pos hr]
    try simp only [go_sem, simprocAttr, hF, e3]
    repeat (first
     | (with_reducible (first | refine sg0 ?_ | refine hw0 ?_ | refine se0 ?_ | refine ai0 ?_ | refine as0 ?_ | refine at0 ?_ | refine ax0 ?_); simp only [go_sem, simprocAttr, hF, e3])
     | ((with_reducible refine hg0 ?_); simp only [go_sem, simprocAttr, hF, e3, hbx])
     | with_reducible refine aq0 fun _ _ => ?_
     | (refine awp_draw' (id := 6) [] 11 (by kernel_rfl) (by kernel_rfl) rfl rfl (fun bx0 hbx => ?_); try dsimp only [List.take, List.drop])
     | with_reducible (first | refine ar0 [] ?_ | refine ab0 ?_)
     | go_step)
    all_goals (try rw [hL])
    all_goals (try rfl)
   have e3 : (routeE n f.fr f.tn p != 0) = false := by rw [h3]; rfl
   try simp only [go_sem, simprocAttr, hF, e3]
   repeat (first
    | (with_reducible (first | refine sg0 ?_ | refine hw0 ?_ | refine se0 ?_ | refine ai0 ?_ | refine as0 ?_ | refine at0 ?_ | refine ax0 ?_); simp only [go_sem, simprocAttr, hF, e3])
    | ((with_reducible refine hg0 ?_); simp only [go_sem, simprocAttr, hF, e3, hbx])
    | with_reducible refine aq0 fun _ _ => ?_
    | (refine awp_draw' (id := 6) [] 11 (by kernel_rfl) (by kernel_rfl) rfl rfl (fun bx0 hbx => ?_); try dsimp only [List.take, List.drop])
    | with_reducible (first | refine ar0 [] ?_ | refine ab0 ?_)
    | go_step)
   refine ⟨⟨k + 1, by omega, by rw [List.take_add_one, hp, List.any_append, hT]; simp [h3]⟩, by dsimp only; omega, hR _ _ (sub_mk ?_)⟩
   simp only [go_sem, simprocAttr, hF, hw]
  have hd : decide ((k : Int) < (ps.length : Int)) = false := decide_eq_false (by omega)
  rw [List.take_of_length_le (by omega)] at hT
  have hr' : ¬ ps.any (fun p => !(routeE n f.fr f.tn p == 0)) = true := by rw [hT]; decide
  obtain ⟨LL, hLL⟩ : ∃ LL, LL = (late [f] r).1 := ⟨_, rfl⟩
  have hLl : LL.length ≤ 1000000 := by rw [hLL]; exact late_boundX [f] r
  have hX0 : lateX n f ps r fr = match LL.find? (fun x => x.fr == fr) with
   | none => (lt0, 12)
   | some x => (x, 0) := by unfold lateX; rw [if_neg c3, if_neg hr', hLL]; cases (List.find? (fun x => x.fr == fr) (late [f] r).1) <;> rfl
  repeat (first
   | (with_reducible (first | refine sg0 ?_ | refine hw0 ?_ | refine se0 ?_ | refine ai0 ?_ | refine as0 ?_ | refine at0 ?_ | refine ax0 ?_); simp only [go_sem, simprocAttr, hF, hd])
   | ((with_reducible refine hg0 ?_); simp only [go_sem, simprocAttr, hF, hd, hbx])
   | with_reducible refine aq0 fun _ _ => ?_
   | (refine awp_draw' (id := 6) [] 11 (by kernel_rfl) (by kernel_rfl) rfl rfl (fun bx0 hbx => ?_); try dsimp only [List.take, List.drop])
   | with_reducible (first | refine ar0 [] ?_ | refine ab0 ?_)
   | go_step)
  refine ⟨_, rlate_ok [f] r (by simp) hla hld, ?_⟩
  simp only [go_sem, simprocAttr, hF]
  rw [← hLL]
  repeat (first
   | (with_reducible (first | refine sg0 ?_ | refine hw0 ?_ | refine se0 ?_ | refine ai0 ?_ | refine as0 ?_ | refine at0 ?_ | refine ax0 ?_); simp only [go_sem, simprocAttr, hF])
   | ((with_reducible refine hg0 ?_); simp only [go_sem, simprocAttr, hF, hbx])
   | with_reducible refine aq0 fun _ _ => ?_
   | (refine awp_draw' (id := 6) [] 11 (by kernel_rfl) (by kernel_rfl) rfl rfl (fun bx0 hbx => ?_); try dsimp only [List.take, List.drop])
   | with_reducible (first | refine ar0 [] ?_ | refine ab0 ?_)
   | go_step)
  refine awp_loop_by (ι := {i : Nat // i ≤ LL.length ∧ LL.find? (fun x => x.fr == fr) = (LL.drop i).find? (fun x => x.fr == fr)}) (fun i σ => ⟨(15, iv (i.1 : Int)) :: (13, .sl 3 (LL.map Lt.pv)) :: keepS [4, 10] σ.slot, keepS [10] σ.box, [], σ.ext⟩) (fun i => LL.length - i.1) ⟨0, by omega, rfl⟩ (sub_mk ?_) (fun R2 hR2 i => ?_)
  · simp only [go_sem, simprocAttr, hF]
    repeat' (first | rfl | refine ⟨?_, ?_⟩)
  obtain ⟨i, hi, hU⟩ := i
  dsimp only
  simp only [go_sem, simprocAttr, hF]
  by_cases hit : i < LL.length
  case neg =>
   have hdi : decide ((i : Int) < (LL.length : Int)) = false := decide_eq_false (by omega)
   have hL : lateX n f ps r fr = (lt0, 12) := by rw [hX0, hU, List.drop_of_length_le (by omega)]; rfl
   repeat (first
    | (with_reducible (first | refine sg0 ?_ | refine hw0 ?_ | refine se0 ?_ | refine ai0 ?_ | refine as0 ?_ | refine at0 ?_ | refine ax0 ?_); simp only [go_sem, simprocAttr, hF, hdi])
    | ((with_reducible refine hg0 ?_); simp only [go_sem, simprocAttr, hF, hdi, hbx])
    | with_reducible refine aq0 fun _ _ => ?_
    | (refine awp_draw' (id := 6) [] 11 (by kernel_rfl) (by kernel_rfl) rfl rfl (fun bx0 hbx => ?_); try dsimp only [List.take, List.drop])
    | with_reducible (first | refine ar0 [] ?_ | refine ab0 ?_)
    | go_step)
   all_goals (try rw [hL])
   all_goals (try rfl)
  obtain ⟨x, hx⟩ := get_of_lt hit
  have hdi : decide ((i : Int) < (LL.length : Int)) = true := decide_eq_true (by omega)
  have hwi : IntKind.i64.wrap ((i : Int) + 1) = ((i + 1 : Nat) : Int) := by rw [IntKind.wrap_i64]; omega
  cases ex : (x.fr == fr) with
  | true =>
   have hL : lateX n f ps r fr = (x, 0) := by rw [hX0, hU, drop_of_get hx, List.find?_cons_of_pos (p := fun x : Lt => x.fr == fr) ex]
   repeat (first
    | (with_reducible (first | refine sg0 ?_ | refine hw0 ?_ | refine se0 ?_ | refine ai0 ?_ | refine as0 ?_ | refine at0 ?_ | refine ax0 ?_); simp only [go_sem, simprocAttr, hF, hdi, hx, ex])
    | ((with_reducible refine hg0 ?_); simp only [go_sem, simprocAttr, hF, hdi, hx, ex, hbx])
    | with_reducible refine aq0 fun _ _ => ?_
    | (refine awp_draw' (id := 6) [] 11 (by kernel_rfl) (by kernel_rfl) rfl rfl (fun bx0 hbx => ?_); try dsimp only [List.take, List.drop])
    | with_reducible (first | refine ar0 [] ?_ | refine ab0 ?_)
    | go_step)
   all_goals (try rw [hL])
   all_goals (try rfl)
  | false =>
   repeat (first
    | (with_reducible (first | refine sg0 ?_ | refine hw0 ?_ | refine se0 ?_ | refine ai0 ?_ | refine as0 ?_ | refine at0 ?_ | refine ax0 ?_); simp only [go_sem, simprocAttr, hF, hdi, hx, ex])
    | ((with_reducible refine hg0 ?_); simp only [go_sem, simprocAttr, hF, hdi, hx, ex, hbx])
    | with_reducible refine aq0 fun _ _ => ?_
    | (refine awp_draw' (id := 6) [] 11 (by kernel_rfl) (by kernel_rfl) rfl rfl (fun bx0 hbx => ?_); try dsimp only [List.take, List.drop])
    | with_reducible (first | refine ar0 [] ?_ | refine ab0 ?_)
    | go_step)
   refine ⟨⟨i + 1, by omega, by rw [hU, drop_of_get hx, List.find?_cons_of_neg (p := fun x : Lt => x.fr == fr) (by simp [ex])]⟩, by dsimp only; omega, hR2 _ _ (sub_mk ?_)⟩
   simp only [go_sem, simprocAttr, hF, hwi]
/- The reference of causes, by abstract states. -/
theorem ratt_ok (r : Rec) (fl fr : Int) (hla : r.al.length ≤ 1000000) : FnOK Tryz.prog 80 [.agg r.pv, iv fl, iv fr] ⟨.sl 8 ((ofFrame r.al fl fr).map Att.pv), none⟩ := fn_of ⟨Tryz.f80, _, Tryz.func80, by kernel_rfl, rfl⟩ fun w R hR us hus => by
 cases hus with | cons h0 _ hus =>
 cases hus with | cons h1 _ hus =>
 cases hus with | cons h2 _ hus =>
 cases hus
 obtain ⟨A, D, ca, cd, rfl, hA, _⟩ := rec_rep hR h0
 rw [h1, h2]
 refine (rattempts_any r A D ca cd fl fr w hA hla).mono ?_
 rintro e w' ⟨hb, va, rfl, hown⟩
 refine ⟨_, rfl, hb, ?_⟩
 rw [att_pv]
 have hlen : (ofFrame r.al fl fr).length = ((ofFrame r.al fl fr).map Att.row).length := (List.length_map _).symm
 have hfl : flatA (ofFrame r.al fl fr) = ((ofFrame r.al fl fr).map Att.row).flatten := by unfold flatA; rw [List.flatMap_def]
 rw [hlen, hfl] at hown
 obtain ⟨q, _, h2⟩ := owns_rep (R := R) (by decide) hown (fun row hr => by obtain ⟨x, _, rfl⟩ := List.mem_map.1 hr; rfl) (fun row hr x hx => by obtain ⟨y, _, rfl⟩ := List.mem_map.1 hr; simp only [Att.row, List.mem_cons, List.not_mem_nil, or_false] at hx; rcases hx with rfl | rfl | rfl | rfl | rfl | rfl | rfl | rfl <;> rfl)
 have h3 := h2 none (.inl rfl)
 exact ⟨rfl, h3⟩
theorem rel_bounds {f : Fl} {n : Int} (hf : fault f = 0) (h0 : 0 ≤ n) (h1 : n ≤ 1048576) : 0 ≤ rel f n ∧ rel f n ≤ 600000000 ∧ 1 ≤ f.dl ∧ f.dl ≤ 512 := by
 unfold fault at hf
 split at hf
 · rename_i hb
   simp only [boundsB, Nd.inB, Bool.and_eq_true, decide_eq_true_eq] at hb
   have hm1 : n * f.pe ≤ 1048576 * f.pe := Int.mul_le_mul_of_nonneg_right h1 (by omega)
   have hm0 : 0 ≤ n * f.pe := Int.mul_nonneg h0 (by omega)
   unfold rel
   omega
 · cases hf

set_option maxHeartbeats 40000000 in
theorem rcauses_ok (n : Net) (f : Fl) (r : Rec) (fr a b : Int) (hS : SmallN n) (hB : basicB n f r = true) (hfr : 0 ≤ fr ∧ fr < 1048576) (hi : 0 ≤ idxL n a b) (hla : r.al.length ≤ 1000000) : FnOK Tryz.prog 39 [.agg n.pv, .agg f.pv, .agg r.pv, iv fr, iv a, iv b] ⟨.sl 5 ((causesX n f r fr a b).map Br.pv), none⟩ := by
 obtain ⟨hc, hg, hn, hfN, hf⟩ := basicB_inv hB
 have hN := netOK hc
 obtain ⟨L, hL⟩ : ∃ L, L = onLk r.al f.id fr a b := ⟨_, rfl⟩
 have hLn : L.length ≤ 1000000 := by rw [hL]; exact Nat.le_trans (att_len _ _ _ _ _) hla
 obtain ⟨all, hall⟩ : ∃ all, all = ofFrame r.al f.id fr := ⟨_, rfl⟩
 have hLall : L = all.filter (fun x : Att => x.cf == a && x.ct == b) := by rw [hL, hall]; rfl
 have haln : all.length ≤ 1000000 := by rw [hall]; exact Nat.le_trans (List.length_filter_le _ _) hla
 obtain ⟨z0, z1, z2, z3⟩ := rel_bounds hf hfr.1 (show fr ≤ 1048576 by omega)
 rcases idxL_cases n a b with hix | ⟨i, x, hx, _, _, hix⟩
 · omega
 obtain ⟨m, hm⟩ : ∃ m : Nat, x.ls = (m : Int) ∧ m ≤ 7 := by
  have h := hN.lkb x (List.mem_of_getElem? hx)
  simp only [lkB, Nd.inB, Bool.and_eq_true, decide_eq_true_eq] at h
  exact ⟨x.ls.toNat, by omega, by omega⟩
 obtain ⟨hm, hm7⟩ := hm
 have hloss : lossL n a b = (m : Int) := by unfold lossL; rw [hix, Int.toNat_natCast, List.getD_eq_getElem?_getD, hx]; exact hm
 have hC : causesX n f r fr a b = causesK f fr a b (rel f fr) (rel f fr + f.dl - 1) (m + 1) L (L.length - m) := by unfold causesX; rw [hloss, hL]; rfl
 rw [hC]
 clear hC hloss
 have hix2 : idxP (fun l : Lk => l.fr == a && l.tt == b) n.lk 0 = (i : Int) := hix
 have wdl : IntKind.i64.wrap (rel f fr + f.dl) = rel f fr + f.dl := by rw [IntKind.wrap_i64]; omega
 refine fn_ok Tryz.func39 (by kernel_rfl) rfl (by rw [Tryz.ntmps39]; exact of_decide_eq_true rfl) (fun F hF => ?_)
 rw [Tryz.ntmps39] at hF
 rw [Tryz.results39]
 repeat (first
  | (with_reducible (first | refine sg0 ?_ | refine hw0 ?_ | refine se0 ?_ | refine ai0 ?_ | refine as0 ?_ | refine at0 ?_ | refine ax0 ?_); simp only [go_sem, simprocAttr, hF, hix2, hx, hm])
  | ((with_reducible refine hg0 ?_); simp only [go_sem, simprocAttr, hF, hix2, hx, hm, hbx])
  | with_reducible refine aq0 fun _ _ => ?_
  | (refine awp_draw' (id := 1) [64, 117, 126] 9 (by kernel_rfl) (by kernel_rfl) rfl rfl (fun bx0 hbx => ?_); try dsimp only [List.take, List.drop])
  | (refine awp_draw' (id := 19) [64, 117, 126] 30 (by kernel_rfl) (by kernel_rfl) rfl rfl (fun bx0 hbx => ?_); try dsimp only [List.take, List.drop])
  | with_reducible (first | refine ar0 [64, 117, 126] ?_ | refine ab0 ?_)
  | go_step)
 refine ⟨_, nfind_ok n a b hS.lk, ?_⟩
 simp only [go_sem, simprocAttr, hF, hix2, hx, hm]
 repeat (first
  | (with_reducible (first | refine sg0 ?_ | refine hw0 ?_ | refine se0 ?_ | refine ai0 ?_ | refine as0 ?_ | refine at0 ?_ | refine ax0 ?_); simp only [go_sem, simprocAttr, hF, hix2, hx, hm])
  | ((with_reducible refine hg0 ?_); simp only [go_sem, simprocAttr, hF, hix2, hx, hm, hbx])
  | with_reducible refine aq0 fun _ _ => ?_
  | (refine awp_draw' (id := 1) [64, 117, 126] 9 (by kernel_rfl) (by kernel_rfl) rfl rfl (fun bx0 hbx => ?_); try dsimp only [List.take, List.drop])
  | (refine awp_draw' (id := 19) [64, 117, 126] 30 (by kernel_rfl) (by kernel_rfl) rfl rfl (fun bx0 hbx => ?_); try dsimp only [List.take, List.drop])
  | with_reducible (first | refine ar0 [64, 117, 126] ?_ | refine ab0 ?_)
  | go_step)
 refine ⟨_, rrel_okW f fr hf hfr.1 (by omega), ?_⟩
 simp only [go_sem, simprocAttr, hF]
 repeat (first
  | (with_reducible (first | refine sg0 ?_ | refine hw0 ?_ | refine se0 ?_ | refine ai0 ?_ | refine as0 ?_ | refine at0 ?_ | refine ax0 ?_); simp only [go_sem, simprocAttr, hF])
  | ((with_reducible refine hg0 ?_); simp only [go_sem, simprocAttr, hF, hbx])
  | with_reducible refine aq0 fun _ _ => ?_
  | (refine awp_draw' (id := 1) [64, 117, 126] 9 (by kernel_rfl) (by kernel_rfl) rfl rfl (fun bx0 hbx => ?_); try dsimp only [List.take, List.drop])
  | (refine awp_draw' (id := 19) [64, 117, 126] 30 (by kernel_rfl) (by kernel_rfl) rfl rfl (fun bx0 hbx => ?_); try dsimp only [List.take, List.drop])
  | with_reducible (first | refine ar0 [64, 117, 126] ?_ | refine ab0 ?_)
  | go_step)
 refine ⟨_, ratt_ok r f.id fr hla, ?_⟩
 simp only [go_sem, simprocAttr, hF]
 rw [← hall]
 repeat (first
  | (with_reducible (first | refine sg0 ?_ | refine hw0 ?_ | refine se0 ?_ | refine ai0 ?_ | refine as0 ?_ | refine at0 ?_ | refine ax0 ?_); simp only [go_sem, simprocAttr, hF])
  | ((with_reducible refine hg0 ?_); simp only [go_sem, simprocAttr, hF, hbx])
  | with_reducible refine aq0 fun _ _ => ?_
  | (refine awp_draw' (id := 1) [64, 117, 126] 9 (by kernel_rfl) (by kernel_rfl) rfl rfl (fun bx0 hbx => ?_); try dsimp only [List.take, List.drop])
  | (refine awp_draw' (id := 19) [64, 117, 126] 30 (by kernel_rfl) (by kernel_rfl) rfl rfl (fun bx0 hbx => ?_); try dsimp only [List.take, List.drop])
  | with_reducible (first | refine ar0 [64, 117, 126] ?_ | refine ab0 ?_)
  | go_step)
 refine awp_nil 15 8 66 (by rw [hF]; decide) (by first | rfl | simp only [Av.look]; rfl) ?_
 simp only [go_sem, simprocAttr, hF]
 repeat (first
  | (with_reducible (first | refine sg0 ?_ | refine hw0 ?_ | refine se0 ?_ | refine ai0 ?_ | refine as0 ?_ | refine at0 ?_ | refine ax0 ?_); simp only [go_sem, simprocAttr, hF])
  | ((with_reducible refine hg0 ?_); simp only [go_sem, simprocAttr, hF, hbx])
  | with_reducible refine aq0 fun _ _ => ?_
  | (refine awp_draw' (id := 1) [64, 117, 126] 9 (by kernel_rfl) (by kernel_rfl) rfl rfl (fun bx0 hbx => ?_); try dsimp only [List.take, List.drop])
  | (refine awp_draw' (id := 19) [64, 117, 126] 30 (by kernel_rfl) (by kernel_rfl) rfl rfl (fun bx0 hbx => ?_); try dsimp only [List.take, List.drop])
  | with_reducible (first | refine ar0 [64, 117, 126] ?_ | refine ab0 ?_)
  | go_step)
 refine awp_loop_by (ι := {k : Nat // k ≤ all.length}) (fun k σ => ⟨(17, iv (k.1 : Int)) :: (15, .sl 8 (((all.take k.1).filter (fun x : Att => x.cf == a && x.ct == b)).map Att.pv)) :: keepS [3, 4, 5, 6, 7, 8, 13, 14, 16] σ.slot, keepS [6, 7, 8] σ.box, [(.s 15, (66, 8))], σ.ext⟩) (fun k => all.length - k.1) ⟨0, by omega⟩ (sub_mk ?_) (fun R hR k => ?_)
 · simp only [go_sem, simprocAttr, hF]
   repeat' (first | rfl | refine ⟨?_, ?_⟩)
 obtain ⟨k, hk⟩ := k
 dsimp only
 simp only [go_sem, simprocAttr, hF]
 by_cases hlt : k < all.length
 case pos =>
  obtain ⟨d, hdk⟩ := get_of_lt hlt
  have hd : decide ((k : Int) < (all.length : Int)) = true := decide_eq_true (by omega)
  have hw : IntKind.i64.wrap ((k : Int) + 1) = ((k + 1 : Nat) : Int) := by rw [IntKind.wrap_i64]; omega
  have hT : List.take (k + 1) all = List.take k all ++ [d] := by rw [List.take_add_one, hdk]; rfl
  have hLL : (List.filter (fun x : Att => x.cf == a && x.ct == b) (List.take k all)).length ≤ 99999999 := by
   have h1 := List.length_filter_le (fun x : Att => x.cf == a && x.ct == b) (all.take k)
   have h2 : (all.take k).length ≤ k := by rw [List.length_take]; omega
   omega
  cases e1 : (d.cf == a) with
  | false =>
   have hT1 : List.filter (fun x : Att => x.cf == a && x.ct == b) (List.take (k + 1) all) = List.filter (fun x : Att => x.cf == a && x.ct == b) (List.take k all) := by rw [hT, List.filter_append, List.filter_cons_of_neg (by rw [e1]; simp), List.filter_nil, List.append_nil]
   repeat (first
    | (with_reducible (first | refine sg0 ?_ | refine hw0 ?_ | refine se0 ?_ | refine ai0 ?_ | refine as0 ?_ | refine at0 ?_ | refine ax0 ?_); simp only [go_sem, simprocAttr, hF, hd, hdk, e1, hLL])
    | ((with_reducible refine hg0 ?_); simp only [go_sem, simprocAttr, hF, hd, hdk, e1, hLL, hbx])
    | with_reducible refine aq0 fun _ _ => ?_
    | (refine awp_draw' (id := 1) [64, 117, 126] 9 (by kernel_rfl) (by kernel_rfl) rfl rfl (fun bx0 hbx => ?_); try dsimp only [List.take, List.drop])
    | (refine awp_draw' (id := 19) [64, 117, 126] 30 (by kernel_rfl) (by kernel_rfl) rfl rfl (fun bx0 hbx => ?_); try dsimp only [List.take, List.drop])
    | with_reducible (first | refine ar0 [64, 117, 126] ?_ | refine ab0 ?_)
    | go_step)
   refine ⟨⟨k + 1, by omega⟩, by dsimp only; omega, hR _ _ (sub_mk ?_)⟩
   simp only [go_sem, simprocAttr, hF, hw, hT1, List.map_append]
  | true =>
   cases e2 : (d.ct == b) with
   | false =>
    have hT1 : List.filter (fun x : Att => x.cf == a && x.ct == b) (List.take (k + 1) all) = List.filter (fun x : Att => x.cf == a && x.ct == b) (List.take k all) := by rw [hT, List.filter_append, List.filter_cons_of_neg (by rw [e1, e2]; simp), List.filter_nil, List.append_nil]
    repeat (first
     | (with_reducible (first | refine sg0 ?_ | refine hw0 ?_ | refine se0 ?_ | refine ai0 ?_ | refine as0 ?_ | refine at0 ?_ | refine ax0 ?_); simp only [go_sem, simprocAttr, hF, hd, hdk, e1, e2, hLL])
     | ((with_reducible refine hg0 ?_); simp only [go_sem, simprocAttr, hF, hd, hdk, e1, e2, hLL, hbx])
     | with_reducible refine aq0 fun _ _ => ?_
     | (refine awp_draw' (id := 1) [64, 117, 126] 9 (by kernel_rfl) (by kernel_rfl) rfl rfl (fun bx0 hbx => ?_); try dsimp only [List.take, List.drop])
     | (refine awp_draw' (id := 19) [64, 117, 126] 30 (by kernel_rfl) (by kernel_rfl) rfl rfl (fun bx0 hbx => ?_); try dsimp only [List.take, List.drop])
     | with_reducible (first | refine ar0 [64, 117, 126] ?_ | refine ab0 ?_)
     | go_step)
    refine ⟨⟨k + 1, by omega⟩, by dsimp only; omega, hR _ _ (sub_mk ?_)⟩
    simp only [go_sem, simprocAttr, hF, hw, hT1, List.map_append]
   | true =>
    have hT1 : List.filter (fun x : Att => x.cf == a && x.ct == b) (List.take (k + 1) all) = List.filter (fun x : Att => x.cf == a && x.ct == b) (List.take k all) ++ [d] := by rw [hT, List.filter_append, List.filter_cons_of_pos (by rw [e1, e2]; rfl), List.filter_nil]
    repeat (first
     | (with_reducible (first | refine sg0 ?_ | refine hw0 ?_ | refine se0 ?_ | refine ai0 ?_ | refine as0 ?_ | refine at0 ?_ | refine ax0 ?_); simp only [go_sem, simprocAttr, hF, hd, hdk, e1, e2, hLL])
     | ((with_reducible refine hg0 ?_); simp only [go_sem, simprocAttr, hF, hd, hdk, e1, e2, hLL, hbx])
     | with_reducible refine aq0 fun _ _ => ?_
     | (refine awp_draw' (id := 1) [64, 117, 126] 9 (by kernel_rfl) (by kernel_rfl) rfl rfl (fun bx0 hbx => ?_); try dsimp only [List.take, List.drop])
     | (refine awp_draw' (id := 19) [64, 117, 126] 30 (by kernel_rfl) (by kernel_rfl) rfl rfl (fun bx0 hbx => ?_); try dsimp only [List.take, List.drop])
     | with_reducible (first | refine ar0 [64, 117, 126] ?_ | refine ab0 ?_)
     | go_step)
    refine ⟨⟨k + 1, by omega⟩, by dsimp only; omega, hR _ _ (sub_mk ?_)⟩
    simp only [go_sem, simprocAttr, hF, hw, hT1, List.map_append]
 have hd : decide ((k : Int) < (all.length : Int)) = false := decide_eq_false (by omega)
 have hallL : List.filter (fun x : Att => x.cf == a && x.ct == b) (List.take k all) = L := by rw [List.take_of_length_le (by omega), ← hLall]
 repeat (first
  | (with_reducible (first | refine sg0 ?_ | refine hw0 ?_ | refine se0 ?_ | refine ai0 ?_ | refine as0 ?_ | refine at0 ?_ | refine ax0 ?_); simp only [go_sem, simprocAttr, hF, hd, hallL])
  | ((with_reducible refine hg0 ?_); simp only [go_sem, simprocAttr, hF, hd, hallL, hbx])
  | with_reducible refine aq0 fun _ _ => ?_
  | (refine awp_draw' (id := 1) [64, 117, 126] 9 (by kernel_rfl) (by kernel_rfl) rfl rfl (fun bx0 hbx => ?_); try dsimp only [List.take, List.drop])
  | (refine awp_draw' (id := 19) [64, 117, 126] 30 (by kernel_rfl) (by kernel_rfl) rfl rfl (fun bx0 hbx => ?_); try dsimp only [List.take, List.drop])
  | with_reducible (first | refine ar0 [64, 117, 126] ?_ | refine ab0 ?_)
  | go_step)
 refine awp_nil 18 5 57 (by rw [hF]; decide) (by first | rfl | simp only [Av.look]; rfl) ?_
 simp only [go_sem, simprocAttr, hF]
 repeat (first
  | (with_reducible (first | refine sg0 ?_ | refine hw0 ?_ | refine se0 ?_ | refine ai0 ?_ | refine as0 ?_ | refine at0 ?_ | refine ax0 ?_); simp only [go_sem, simprocAttr, hF, hallL])
  | ((with_reducible refine hg0 ?_); simp only [go_sem, simprocAttr, hF, hallL, hbx])
  | with_reducible refine aq0 fun _ _ => ?_
  | (refine awp_draw' (id := 1) [64, 117, 126] 9 (by kernel_rfl) (by kernel_rfl) rfl rfl (fun bx0 hbx => ?_); try dsimp only [List.take, List.drop])
  | (refine awp_draw' (id := 19) [64, 117, 126] 30 (by kernel_rfl) (by kernel_rfl) rfl rfl (fun bx0 hbx => ?_); try dsimp only [List.take, List.drop])
  | with_reducible (first | refine ar0 [64, 117, 126] ?_ | refine ab0 ?_)
  | go_step)
 refine awp_loop_by (ι := {k : Nat // k ≤ L.length - m}) (fun k σ => ⟨(19, iv (k.1 : Int)) :: (18, .sl 5 ((causesK f fr a b (rel f fr) (rel f fr + f.dl - 1) (m + 1) L k.1).map Br.pv)) :: (15, .sl 8 (L.map Att.pv)) :: keepS [3, 4, 5, 6, 7, 8, 13, 14] σ.slot, keepS [6, 7, 8] σ.box, [(.s 18, (57, 5))], σ.ext⟩) (fun k => (L.length - m) - k.1) ⟨0, by omega⟩ (sub_mk ?_) (fun R2 hR2 q => ?_)
 · simp only [go_sem, simprocAttr, hF]
   try simp only [hallL]
   repeat' (first | rfl | exact True.intro | refine ⟨?_, ?_⟩)
 obtain ⟨q, hq⟩ := q
 dsimp only
 simp only [go_sem, simprocAttr, hF]
 have wq : IntKind.i64.wrap ((q : Int) + (m : Int)) = ((q + m : Nat) : Int) := by rw [IntKind.wrap_i64]; omega
 by_cases hqt : q + m < L.length
 case neg =>
  have hdq : decide (((q + m : Nat) : Int) < (L.length : Int)) = false := decide_eq_false (by omega)
  obtain rfl : q = L.length - m := by omega
  repeat (first
   | (with_reducible (first | refine sg0 ?_ | refine hw0 ?_ | refine se0 ?_ | refine ai0 ?_ | refine as0 ?_ | refine at0 ?_ | refine ax0 ?_); simp only [go_sem, simprocAttr, hF, wq, hdq])
   | ((with_reducible refine hg0 ?_); simp only [go_sem, simprocAttr, hF, wq, hdq, hbx])
   | with_reducible refine aq0 fun _ _ => ?_
   | (refine awp_draw' (id := 1) [64, 117, 126] 9 (by kernel_rfl) (by kernel_rfl) rfl rfl (fun bx0 hbx => ?_); try dsimp only [List.take, List.drop])
   | (refine awp_draw' (id := 19) [64, 117, 126] 30 (by kernel_rfl) (by kernel_rfl) rfl rfl (fun bx0 hbx => ?_); try dsimp only [List.take, List.drop])
   | with_reducible (first | refine ar0 [64, 117, 126] ?_ | refine ab0 ?_)
   | go_step)
  all_goals (try rfl)
 have hdq : decide (((q + m : Nat) : Int) < (L.length : Int)) = true := decide_eq_true (by omega)
 have hwq : IntKind.i64.wrap ((q : Int) + 1) = ((q + 1 : Nat) : Int) := by rw [IntKind.wrap_i64]; omega
 obtain ⟨part, hpart⟩ : ∃ part, part = (L.drop q).take (m + 1) := ⟨_, rfl⟩
 have hpl : part.length = m + 1 := by rw [hpart, List.length_take, List.length_drop]; omega
 have hget : ∀ j, j < m + 1 → L[q + j]? = part[j]? := fun j hj => by rw [hpart, List.getElem?_take_of_lt hj, List.getElem?_drop]
 have hcs : causesK f fr a b (rel f fr) (rel f fr + f.dl - 1) (m + 1) L (q + 1) = causesK f fr a b (rel f fr) (rel f fr + f.dl - 1) (m + 1) L q ++ (if part.all (failB (rel f fr) (rel f fr + f.dl - 1)) = true then [⟨f.id, fr, a, b, part.map Att.s⟩] else []) := by
  rw [causesK_succ, causeAt, ← hpart]
 have hcl : (causesK f fr a b (rel f fr) (rel f fr + f.dl - 1) (m + 1) L q).length ≤ 99999999 := by have := causesK_len f fr a b (rel f fr) (rel f fr + f.dl - 1) (m + 1) L q; omega
 clear hpart
 repeat (first
  | (with_reducible (first | refine sg0 ?_ | refine hw0 ?_ | refine se0 ?_ | refine ai0 ?_ | refine as0 ?_ | refine at0 ?_ | refine ax0 ?_); simp only [go_sem, simprocAttr, hF, wq, hdq])
  | ((with_reducible refine hg0 ?_); simp only [go_sem, simprocAttr, hF, wq, hdq, hbx])
  | with_reducible refine aq0 fun _ _ => ?_
  | (refine awp_draw' (id := 1) [64, 117, 126] 9 (by kernel_rfl) (by kernel_rfl) rfl rfl (fun bx0 hbx => ?_); try dsimp only [List.take, List.drop])
  | (refine awp_draw' (id := 19) [64, 117, 126] 30 (by kernel_rfl) (by kernel_rfl) rfl rfl (fun bx0 hbx => ?_); try dsimp only [List.take, List.drop])
  | with_reducible (first | refine ar0 [64, 117, 126] ?_ | refine ab0 ?_)
  | go_step)
 refine awp_nil 21 1 3 (by rw [hF]; decide) (by first | rfl | simp only [Av.look]; rfl) ?_
 simp only [go_sem, simprocAttr, hF]
 repeat (first
  | (with_reducible (first | refine sg0 ?_ | refine hw0 ?_ | refine se0 ?_ | refine ai0 ?_ | refine as0 ?_ | refine at0 ?_ | refine ax0 ?_); simp only [go_sem, simprocAttr, hF])
  | ((with_reducible refine hg0 ?_); simp only [go_sem, simprocAttr, hF, hbx])
  | with_reducible refine aq0 fun _ _ => ?_
  | (refine awp_draw' (id := 1) [64, 117, 126] 9 (by kernel_rfl) (by kernel_rfl) rfl rfl (fun bx0 hbx => ?_); try dsimp only [List.take, List.drop])
  | (refine awp_draw' (id := 19) [64, 117, 126] 30 (by kernel_rfl) (by kernel_rfl) rfl rfl (fun bx0 hbx => ?_); try dsimp only [List.take, List.drop])
  | with_reducible (first | refine ar0 [64, 117, 126] ?_ | refine ab0 ?_)
  | go_step)
 refine awp_loop_by (ι := {j : Nat // j ≤ m + 1}) (fun j σ => ⟨(22, iv ((q + j.1 : Nat) : Int)) :: (20, bv ((part.take j.1).all (failB (rel f fr) (rel f fr + f.dl - 1)))) :: (21, .sl 1 (((part.take j.1).map Att.s).map fun x => [ip x])) :: keepS [3, 4, 5, 6, 7, 8, 13, 14, 15, 18, 19] σ.slot, keepS [6, 7, 8] σ.box, [(.s 18, (57, 5)), (.s 21, (3, 1))], σ.ext⟩) (fun j => (m + 1) - j.1) ⟨0, by omega⟩ (sub_mk ?_) (fun R3 hR3 j => ?_)
 · simp only [go_sem, simprocAttr, hF]
   try simp only [Nat.add_zero]
   repeat' (first | rfl | exact True.intro | refine ⟨?_, ?_⟩)
 obtain ⟨j, hj⟩ := j
 dsimp only
 simp only [go_sem, simprocAttr, hF]
 by_cases hjt : j < m + 1
 case neg =>
  have hdj : decide (((q + j : Nat) : Int) ≤ ((q + m : Nat) : Int)) = false := decide_eq_false (by omega)
  have hpt : List.take j part = part := List.take_of_length_le (by omega)
  cases hA : part.all (failB (rel f fr) (rel f fr + f.dl - 1)) with
  | false =>
   rw [hA, if_neg (by decide), List.append_nil] at hcs
   repeat (first
    | (with_reducible (first | refine sg0 ?_ | refine hw0 ?_ | refine se0 ?_ | refine ai0 ?_ | refine as0 ?_ | refine at0 ?_ | refine ax0 ?_); simp only [go_sem, simprocAttr, hF, wq, hdj, hpt, hA])
    | ((with_reducible refine hg0 ?_); simp only [go_sem, simprocAttr, hF, wq, hdj, hpt, hA, hbx])
    | with_reducible refine aq0 fun _ _ => ?_
    | (refine awp_draw' (id := 1) [64, 117, 126] 9 (by kernel_rfl) (by kernel_rfl) rfl rfl (fun bx0 hbx => ?_); try dsimp only [List.take, List.drop])
    | (refine awp_draw' (id := 19) [64, 117, 126] 30 (by kernel_rfl) (by kernel_rfl) rfl rfl (fun bx0 hbx => ?_); try dsimp only [List.take, List.drop])
    | with_reducible (first | refine ar0 [64, 117, 126] ?_ | refine ab0 ?_)
    | go_step)
   refine ⟨⟨q + 1, by omega⟩, by dsimp only; omega, hR2 _ _ (sub_mk ?_)⟩
   simp only [go_sem, simprocAttr, hF, hwq, hcs]
  | true =>
   rw [hA, if_pos rfl] at hcs
   repeat (first
    | (with_reducible (first | refine sg0 ?_ | refine hw0 ?_ | refine se0 ?_ | refine ai0 ?_ | refine as0 ?_ | refine at0 ?_ | refine ax0 ?_); simp only [go_sem, simprocAttr, hF, wq, hdj, hpt, hA, hcl])
    | ((with_reducible refine hg0 ?_); simp only [go_sem, simprocAttr, hF, wq, hdj, hpt, hA, hcl, hbx])
    | with_reducible refine aq0 fun _ _ => ?_
    | (refine awp_draw' (id := 1) [64, 117, 126] 9 (by kernel_rfl) (by kernel_rfl) rfl rfl (fun bx0 hbx => ?_); try dsimp only [List.take, List.drop])
    | (refine awp_draw' (id := 19) [64, 117, 126] 30 (by kernel_rfl) (by kernel_rfl) rfl rfl (fun bx0 hbx => ?_); try dsimp only [List.take, List.drop])
    | with_reducible (first | refine ar0 [64, 117, 126] ?_ | refine ab0 ?_)
    | go_step)
   refine ⟨⟨q + 1, by omega⟩, by dsimp only; omega, hR2 _ _ (sub_mk ?_)⟩
   simp only [go_sem, simprocAttr, hF, hwq, hcs, List.map_append, List.map_cons, List.map_nil, Br.pv]
 have hdj : decide (((q + j : Nat) : Int) ≤ ((q + m : Nat) : Int)) = true := decide_eq_true (by omega)
 have hwj : IntKind.i64.wrap (((q + j : Nat) : Int) + 1) = ((q + (j + 1) : Nat) : Int) := by rw [IntKind.wrap_i64]; omega
 obtain ⟨d, hdk⟩ := get_of_lt (l := part) (k := j) (by omega)
 have hdL : L[q + j]? = some d := by rw [hget j hjt, hdk]
 have hT : List.take (j + 1) part = List.take j part ++ [d] := by rw [List.take_add_one, hdk]; rfl
 have hjl : (List.take j part).length ≤ 99999999 := by rw [List.length_take]; omega
 have hAs : (List.take (j + 1) part).all (failB (rel f fr) (rel f fr + f.dl - 1)) = ((List.take j part).all (failB (rel f fr) (rel f fr + f.dl - 1)) && failB (rel f fr) (rel f fr + f.dl - 1) d) := by rw [hT, List.all_append, List.all_cons, List.all_nil, Bool.and_true]
 cases e0 : (List.take j part).all (failB (rel f fr) (rel f fr + f.dl - 1)) with
 | false =>
  have hAs2 : (List.take j part ++ [d]).all (failB (rel f fr) (rel f fr + f.dl - 1)) = false := by rw [← hT, hAs, e0]; rfl
  repeat (first
   | (with_reducible (first | refine sg0 ?_ | refine hw0 ?_ | refine se0 ?_ | refine ai0 ?_ | refine as0 ?_ | refine at0 ?_ | refine ax0 ?_); simp only [go_sem, simprocAttr, hF, wq, hdj, hdL, wdl, hjl, e0])
   | ((with_reducible refine hg0 ?_); simp only [go_sem, simprocAttr, hF, wq, hdj, hdL, wdl, hjl, e0, hbx])
   | with_reducible refine aq0 fun _ _ => ?_
   | (refine awp_draw' (id := 1) [64, 117, 126] 9 (by kernel_rfl) (by kernel_rfl) rfl rfl (fun bx0 hbx => ?_); try dsimp only [List.take, List.drop])
   | (refine awp_draw' (id := 19) [64, 117, 126] 30 (by kernel_rfl) (by kernel_rfl) rfl rfl (fun bx0 hbx => ?_); try dsimp only [List.take, List.drop])
   | with_reducible (first | refine ar0 [64, 117, 126] ?_ | refine ab0 ?_)
   | go_step)
  refine ⟨⟨j + 1, by omega⟩, by dsimp only; omega, hR3 _ _ (sub_mk ?_)⟩
  simp only [go_sem, simprocAttr, hF, hwj, hT, hAs2, List.map_append, List.map_cons, List.map_nil]
 | true =>
  rw [e0, Bool.true_and] at hAs
  cases e1 : (d.o == 1) with
  | true =>
   have e1' : (d.o != 1) = false := by rw [bne, e1]; rfl
   have hAs2 : (List.take j part ++ [d]).all (failB (rel f fr) (rel f fr + f.dl - 1)) = false := by rw [← hT, hAs]; unfold failB; rw [e1]; rfl
   repeat (first
    | (with_reducible (first | refine sg0 ?_ | refine hw0 ?_ | refine se0 ?_ | refine ai0 ?_ | refine as0 ?_ | refine at0 ?_ | refine ax0 ?_); simp only [go_sem, simprocAttr, hF, wq, hdj, hdL, wdl, hjl, e0, e1, e1'])
    | ((with_reducible refine hg0 ?_); simp only [go_sem, simprocAttr, hF, wq, hdj, hdL, wdl, hjl, e0, e1, e1', hbx])
    | with_reducible refine aq0 fun _ _ => ?_
    | (refine awp_draw' (id := 1) [64, 117, 126] 9 (by kernel_rfl) (by kernel_rfl) rfl rfl (fun bx0 hbx => ?_); try dsimp only [List.take, List.drop])
    | (refine awp_draw' (id := 19) [64, 117, 126] 30 (by kernel_rfl) (by kernel_rfl) rfl rfl (fun bx0 hbx => ?_); try dsimp only [List.take, List.drop])
    | with_reducible (first | refine ar0 [64, 117, 126] ?_ | refine ab0 ?_)
    | go_step)
   refine ⟨⟨j + 1, by omega⟩, by dsimp only; omega, hR3 _ _ (sub_mk ?_)⟩
   simp only [go_sem, simprocAttr, hF, hwj, hT, hAs2, List.map_append, List.map_cons, List.map_nil]
  | false =>
   have e1' : (d.o != 1) = true := by rw [bne, e1]; rfl
   cases e2 : decide (rel f fr ≤ d.s) with
   | false =>
    have hAs2 : (List.take j part ++ [d]).all (failB (rel f fr) (rel f fr + f.dl - 1)) = false := by rw [← hT, hAs]; unfold failB; rw [e1, e2]; rfl
    repeat (first
     | (with_reducible (first | refine sg0 ?_ | refine hw0 ?_ | refine se0 ?_ | refine ai0 ?_ | refine as0 ?_ | refine at0 ?_ | refine ax0 ?_); simp only [go_sem, simprocAttr, hF, wq, hdj, hdL, wdl, hjl, e0, e1, e1', e2])
     | ((with_reducible refine hg0 ?_); simp only [go_sem, simprocAttr, hF, wq, hdj, hdL, wdl, hjl, e0, e1, e1', e2, hbx])
     | with_reducible refine aq0 fun _ _ => ?_
     | (refine awp_draw' (id := 1) [64, 117, 126] 9 (by kernel_rfl) (by kernel_rfl) rfl rfl (fun bx0 hbx => ?_); try dsimp only [List.take, List.drop])
     | (refine awp_draw' (id := 19) [64, 117, 126] 30 (by kernel_rfl) (by kernel_rfl) rfl rfl (fun bx0 hbx => ?_); try dsimp only [List.take, List.drop])
     | with_reducible (first | refine ar0 [64, 117, 126] ?_ | refine ab0 ?_)
     | go_step)
    refine ⟨⟨j + 1, by omega⟩, by dsimp only; omega, hR3 _ _ (sub_mk ?_)⟩
    simp only [go_sem, simprocAttr, hF, hwj, hT, hAs2, List.map_append, List.map_cons, List.map_nil]
   | true =>
    have e34 : decide (d.s < rel f fr + f.dl) = decide (d.s ≤ rel f fr + f.dl - 1) := by rw [Bool.eq_iff_iff, decide_eq_true_eq, decide_eq_true_eq]; omega
    cases e3 : decide (d.s < rel f fr + f.dl) with
    | false =>
     have hAs2 : (List.take j part ++ [d]).all (failB (rel f fr) (rel f fr + f.dl - 1)) = false := by rw [← hT, hAs]; unfold failB; rw [e1, e2, ← e34, e3]; rfl
     repeat (first
      | (with_reducible (first | refine sg0 ?_ | refine hw0 ?_ | refine se0 ?_ | refine ai0 ?_ | refine as0 ?_ | refine at0 ?_ | refine ax0 ?_); simp only [go_sem, simprocAttr, hF, wq, hdj, hdL, wdl, hjl, e0, e1, e1', e2, e3])
      | ((with_reducible refine hg0 ?_); simp only [go_sem, simprocAttr, hF, wq, hdj, hdL, wdl, hjl, e0, e1, e1', e2, e3, hbx])
      | with_reducible refine aq0 fun _ _ => ?_
      | (refine awp_draw' (id := 1) [64, 117, 126] 9 (by kernel_rfl) (by kernel_rfl) rfl rfl (fun bx0 hbx => ?_); try dsimp only [List.take, List.drop])
      | (refine awp_draw' (id := 19) [64, 117, 126] 30 (by kernel_rfl) (by kernel_rfl) rfl rfl (fun bx0 hbx => ?_); try dsimp only [List.take, List.drop])
      | with_reducible (first | refine ar0 [64, 117, 126] ?_ | refine ab0 ?_)
      | go_step)
     refine ⟨⟨j + 1, by omega⟩, by dsimp only; omega, hR3 _ _ (sub_mk ?_)⟩
     simp only [go_sem, simprocAttr, hF, hwj, hT, hAs2, List.map_append, List.map_cons, List.map_nil]
    | true =>
     have hAs2 : (List.take j part ++ [d]).all (failB (rel f fr) (rel f fr + f.dl - 1)) = true := by rw [← hT, hAs]; unfold failB; rw [e1, e2, ← e34, e3]; rfl
     repeat (first
      | (with_reducible (first | refine sg0 ?_ | refine hw0 ?_ | refine se0 ?_ | refine ai0 ?_ | refine as0 ?_ | refine at0 ?_ | refine ax0 ?_); simp only [go_sem, simprocAttr, hF, wq, hdj, hdL, wdl, hjl, e0, e1, e1', e2, e3])
      | ((with_reducible refine hg0 ?_); simp only [go_sem, simprocAttr, hF, wq, hdj, hdL, wdl, hjl, e0, e1, e1', e2, e3, hbx])
      | with_reducible refine aq0 fun _ _ => ?_
      | (refine awp_draw' (id := 1) [64, 117, 126] 9 (by kernel_rfl) (by kernel_rfl) rfl rfl (fun bx0 hbx => ?_); try dsimp only [List.take, List.drop])
      | (refine awp_draw' (id := 19) [64, 117, 126] 30 (by kernel_rfl) (by kernel_rfl) rfl rfl (fun bx0 hbx => ?_); try dsimp only [List.take, List.drop])
      | with_reducible (first | refine ar0 [64, 117, 126] ?_ | refine ab0 ?_)
      | go_step)
     refine ⟨⟨j + 1, by omega⟩, by dsimp only; omega, hR3 _ _ (sub_mk ?_)⟩
     simp only [go_sem, simprocAttr, hF, hwj, hT, hAs2, List.map_append, List.map_cons, List.map_nil]
/- By abstract states: equal lists of breaches. -/
set_option maxHeartbeats 20000000 in
theorem samebr_ok (a b : List Br) (ha : a.length ≤ 1000000) (hs : ∀ x ∈ a, x.sl.length ≤ 1000000) : FnOK Tryz.prog 16 [.sl 5 (a.map Br.pv), .sl 5 (b.map Br.pv)] ⟨bv (decide (a = b)), none⟩ := by
 refine fn_ok Tryz.func16 (by kernel_rfl) rfl (by rw [Tryz.ntmps16]; exact of_decide_eq_true rfl) (fun F hF => ?_)
 rw [Tryz.ntmps16] at hF
 rw [Tryz.results16]
 have hal : ((a.length : Int) != (b.length : Int)) = !decide (a.length = b.length) := by rw [Bool.eq_iff_iff]; simp; omega
 by_cases hl : a.length = b.length
 case neg =>
  have hn : decide (a.length = b.length) = false := decide_eq_false hl
  repeat (first
   | (with_reducible (first | refine sg0 ?_ | refine hw0 ?_ | refine se0 ?_ | refine ai0 ?_ | refine as0 ?_ | refine at0 ?_ | refine ax0 ?_); simp only [go_sem, simprocAttr, hF, hal, hn])
   | ((with_reducible refine hg0 ?_); simp only [go_sem, simprocAttr, hF, hal, hn, hbx])
   | with_reducible refine aq0 fun _ _ => ?_
   | (refine awp_draw' (id := 11) [] 17 (by kernel_rfl) (by kernel_rfl) rfl rfl (fun bx0 hbx => ?_); try dsimp only [List.take, List.drop])
   | (refine awp_draw' (id := 6) [] 65 (by kernel_rfl) (by kernel_rfl) rfl rfl (fun bx0 hbx => ?_); try dsimp only [List.take, List.drop])
   | with_reducible (first | refine ar0 [] ?_ | refine ab0 ?_)
   | go_step)
  rw [decide_eq_false (fun h => hl (by rw [h]))]
 have hn : decide (a.length = b.length) = true := decide_eq_true hl
 repeat (first
  | (with_reducible (first | refine sg0 ?_ | refine hw0 ?_ | refine se0 ?_ | refine ai0 ?_ | refine as0 ?_ | refine at0 ?_ | refine ax0 ?_); simp only [go_sem, simprocAttr, hF, hal, hn])
  | ((with_reducible refine hg0 ?_); simp only [go_sem, simprocAttr, hF, hal, hn, hbx])
  | with_reducible refine aq0 fun _ _ => ?_
  | (refine awp_draw' (id := 11) [] 17 (by kernel_rfl) (by kernel_rfl) rfl rfl (fun bx0 hbx => ?_); try dsimp only [List.take, List.drop])
  | (refine awp_draw' (id := 6) [] 65 (by kernel_rfl) (by kernel_rfl) rfl rfl (fun bx0 hbx => ?_); try dsimp only [List.take, List.drop])
  | with_reducible (first | refine ar0 [] ?_ | refine ab0 ?_)
  | go_step)
 refine awp_loop_by (ι := {k : Nat // k ≤ a.length ∧ decide (a = b) = decide (a.drop k = b.drop k)}) (fun k σ => ⟨(5, iv (k.1 : Int)) :: keepS [0, 1, 4] σ.slot, σ.box, [], σ.ext⟩) (fun k => a.length - k.1) ⟨0, by omega, rfl⟩ (sub_mk ?_) (fun R hR k => ?_)
 · simp only [go_sem, simprocAttr, hF]
   repeat' (first | rfl | refine ⟨?_, ?_⟩)
 obtain ⟨k, hk, hT⟩ := k
 dsimp only
 simp only [go_sem, simprocAttr, hF]
 by_cases hlt : k < a.length
 case neg =>
  have hd : decide ((k : Int) < (a.length : Int)) = false := decide_eq_false (by omega)
  repeat (first
   | (with_reducible (first | refine sg0 ?_ | refine hw0 ?_ | refine se0 ?_ | refine ai0 ?_ | refine as0 ?_ | refine at0 ?_ | refine ax0 ?_); simp only [go_sem, simprocAttr, hF, hd])
   | ((with_reducible refine hg0 ?_); simp only [go_sem, simprocAttr, hF, hd, hbx])
   | with_reducible refine aq0 fun _ _ => ?_
   | (refine awp_draw' (id := 11) [] 17 (by kernel_rfl) (by kernel_rfl) rfl rfl (fun bx0 hbx => ?_); try dsimp only [List.take, List.drop])
   | (refine awp_draw' (id := 6) [] 65 (by kernel_rfl) (by kernel_rfl) rfl rfl (fun bx0 hbx => ?_); try dsimp only [List.take, List.drop])
   | with_reducible (first | refine ar0 [] ?_ | refine ab0 ?_)
   | go_step)
  rw [hT, List.drop_of_length_le (by omega), List.drop_of_length_le (by omega)]
  rfl
 obtain ⟨x, hxk⟩ := get_of_lt hlt
 obtain ⟨y, hyk⟩ := get_of_lt (l := b) (k := k) (by omega)
 have hd : decide ((k : Int) < (a.length : Int)) = true := decide_eq_true (by omega)
 have hw : IntKind.i64.wrap ((k : Int) + 1) = ((k + 1 : Nat) : Int) := by rw [IntKind.wrap_i64]; omega
 have hxs := hs x (List.mem_of_getElem? hxk)
 have hT' : decide (a = b) = (decide (x = y) && decide (a.drop (k + 1) = b.drop (k + 1))) := by
  rw [hT, drop_of_get hxk, drop_of_get hyk, Bool.eq_iff_iff]
  simp
 have bad : decide (x = y) = false → decide (a = b) = false := fun h => by rw [hT', h]; rfl
 by_cases h0 : x.fl = y.fl
 case neg =>
  have g0 : (x.fl != y.fl) = true := by simpa using h0
  repeat (first
   | (with_reducible (first | refine sg0 ?_ | refine hw0 ?_ | refine se0 ?_ | refine ai0 ?_ | refine as0 ?_ | refine at0 ?_ | refine ax0 ?_); simp only [go_sem, simprocAttr, hF, hd, hxk, hyk, g0])
   | ((with_reducible refine hg0 ?_); simp only [go_sem, simprocAttr, hF, hd, hxk, hyk, g0, hbx])
   | with_reducible refine aq0 fun _ _ => ?_
   | (refine awp_draw' (id := 11) [] 17 (by kernel_rfl) (by kernel_rfl) rfl rfl (fun bx0 hbx => ?_); try dsimp only [List.take, List.drop])
   | (with_reducible refine ar0 (id := 0) [] ?_)
   | (with_reducible refine ar0 (id := 1) [] ?_)
   | (with_reducible refine ar0 (id := 2) [] ?_)
   | (with_reducible refine ar0 (id := 3) [] ?_)
   | (with_reducible refine ar0 (id := 4) [] ?_)
   | (with_reducible refine ar0 (id := 7) [] ?_)
   | (with_reducible refine ar0 (id := 8) [] ?_)
   | (with_reducible refine ar0 (id := 9) [] ?_)
   | (with_reducible refine ar0 (id := 12) [] ?_)
   | (with_reducible refine ar0 (id := 10) [] ?_)
   | (with_reducible refine ar0 (id := 5) [] ?_)
   | (with_reducible refine ar0 (id := 13) [] ?_)
   | (with_reducible refine ab0 ?_)
   | go_step)
  try simp only [List.append_eq, List.cons_append, List.nil_append]
  repeat (first
   | (with_reducible (first | refine sg0 ?_ | refine hw0 ?_ | refine se0 ?_ | refine ai0 ?_ | refine as0 ?_ | refine at0 ?_ | refine ax0 ?_); simp only [go_sem, simprocAttr, hF, hd, hxk, hyk, g0])
   | ((with_reducible refine hg0 ?_); simp only [go_sem, simprocAttr, hF, hd, hxk, hyk, g0, hbx])
   | with_reducible refine aq0 fun _ _ => ?_
   | (refine awp_draw' (id := 11) [] 17 (by kernel_rfl) (by kernel_rfl) rfl rfl (fun bx0 hbx => ?_); try dsimp only [List.take, List.drop])
   | (refine awp_draw' (id := 6) [] 65 (by kernel_rfl) (by kernel_rfl) rfl rfl (fun bx0 hbx => ?_); try dsimp only [List.take, List.drop])
   | with_reducible (first | refine ar0 [] ?_ | refine ab0 ?_)
   | go_step)
  rw [bad (decide_eq_false fun h => h0 (by rw [h]))]
 have g0 : (x.fl != y.fl) = false := by simpa using h0
 by_cases h1 : x.fr = y.fr
 case neg =>
  have g1 : (x.fr != y.fr) = true := by simpa using h1
  repeat (first
   | (with_reducible (first | refine sg0 ?_ | refine hw0 ?_ | refine se0 ?_ | refine ai0 ?_ | refine as0 ?_ | refine at0 ?_ | refine ax0 ?_); simp only [go_sem, simprocAttr, hF, hd, hxk, hyk, g0, g1])
   | ((with_reducible refine hg0 ?_); simp only [go_sem, simprocAttr, hF, hd, hxk, hyk, g0, g1, hbx])
   | with_reducible refine aq0 fun _ _ => ?_
   | (refine awp_draw' (id := 11) [] 17 (by kernel_rfl) (by kernel_rfl) rfl rfl (fun bx0 hbx => ?_); try dsimp only [List.take, List.drop])
   | (with_reducible refine ar0 (id := 0) [] ?_)
   | (with_reducible refine ar0 (id := 1) [] ?_)
   | (with_reducible refine ar0 (id := 2) [] ?_)
   | (with_reducible refine ar0 (id := 3) [] ?_)
   | (with_reducible refine ar0 (id := 4) [] ?_)
   | (with_reducible refine ar0 (id := 7) [] ?_)
   | (with_reducible refine ar0 (id := 8) [] ?_)
   | (with_reducible refine ar0 (id := 9) [] ?_)
   | (with_reducible refine ar0 (id := 12) [] ?_)
   | (with_reducible refine ar0 (id := 10) [] ?_)
   | (with_reducible refine ar0 (id := 5) [] ?_)
   | (with_reducible refine ar0 (id := 13) [] ?_)
   | (with_reducible refine ab0 ?_)
   | go_step)
  try simp only [List.append_eq, List.cons_append, List.nil_append]
  repeat (first
   | (with_reducible (first | refine sg0 ?_ | refine hw0 ?_ | refine se0 ?_ | refine ai0 ?_ | refine as0 ?_ | refine at0 ?_ | refine ax0 ?_); simp only [go_sem, simprocAttr, hF, hd, hxk, hyk, g0, g1])
   | ((with_reducible refine hg0 ?_); simp only [go_sem, simprocAttr, hF, hd, hxk, hyk, g0, g1, hbx])
   | with_reducible refine aq0 fun _ _ => ?_
   | (refine awp_draw' (id := 11) [] 17 (by kernel_rfl) (by kernel_rfl) rfl rfl (fun bx0 hbx => ?_); try dsimp only [List.take, List.drop])
   | (refine awp_draw' (id := 6) [] 65 (by kernel_rfl) (by kernel_rfl) rfl rfl (fun bx0 hbx => ?_); try dsimp only [List.take, List.drop])
   | with_reducible (first | refine ar0 [] ?_ | refine ab0 ?_)
   | go_step)
  rw [bad (decide_eq_false fun h => h1 (by rw [h]))]
 have g1 : (x.fr != y.fr) = false := by simpa using h1
 by_cases h2 : x.fm = y.fm
 case neg =>
  have g2 : (x.fm != y.fm) = true := by simpa using h2
  repeat (first
   | (with_reducible (first | refine sg0 ?_ | refine hw0 ?_ | refine se0 ?_ | refine ai0 ?_ | refine as0 ?_ | refine at0 ?_ | refine ax0 ?_); simp only [go_sem, simprocAttr, hF, hd, hxk, hyk, g0, g1, g2])
   | ((with_reducible refine hg0 ?_); simp only [go_sem, simprocAttr, hF, hd, hxk, hyk, g0, g1, g2, hbx])
   | with_reducible refine aq0 fun _ _ => ?_
   | (refine awp_draw' (id := 11) [] 17 (by kernel_rfl) (by kernel_rfl) rfl rfl (fun bx0 hbx => ?_); try dsimp only [List.take, List.drop])
   | (with_reducible refine ar0 (id := 0) [] ?_)
   | (with_reducible refine ar0 (id := 1) [] ?_)
   | (with_reducible refine ar0 (id := 2) [] ?_)
   | (with_reducible refine ar0 (id := 3) [] ?_)
   | (with_reducible refine ar0 (id := 4) [] ?_)
   | (with_reducible refine ar0 (id := 7) [] ?_)
   | (with_reducible refine ar0 (id := 8) [] ?_)
   | (with_reducible refine ar0 (id := 9) [] ?_)
   | (with_reducible refine ar0 (id := 12) [] ?_)
   | (with_reducible refine ar0 (id := 10) [] ?_)
   | (with_reducible refine ar0 (id := 5) [] ?_)
   | (with_reducible refine ar0 (id := 13) [] ?_)
   | (with_reducible refine ab0 ?_)
   | go_step)
  try simp only [List.append_eq, List.cons_append, List.nil_append]
  repeat (first
   | (with_reducible (first | refine sg0 ?_ | refine hw0 ?_ | refine se0 ?_ | refine ai0 ?_ | refine as0 ?_ | refine at0 ?_ | refine ax0 ?_); simp only [go_sem, simprocAttr, hF, hd, hxk, hyk, g0, g1, g2])
   | ((with_reducible refine hg0 ?_); simp only [go_sem, simprocAttr, hF, hd, hxk, hyk, g0, g1, g2, hbx])
   | with_reducible refine aq0 fun _ _ => ?_
   | (refine awp_draw' (id := 11) [] 17 (by kernel_rfl) (by kernel_rfl) rfl rfl (fun bx0 hbx => ?_); try dsimp only [List.take, List.drop])
   | (refine awp_draw' (id := 6) [] 65 (by kernel_rfl) (by kernel_rfl) rfl rfl (fun bx0 hbx => ?_); try dsimp only [List.take, List.drop])
   | with_reducible (first | refine ar0 [] ?_ | refine ab0 ?_)
   | go_step)
  rw [bad (decide_eq_false fun h => h2 (by rw [h]))]
 have g2 : (x.fm != y.fm) = false := by simpa using h2
 by_cases h3 : x.tt = y.tt
 case neg =>
  have g3 : (x.tt != y.tt) = true := by simpa using h3
  repeat (first
   | (with_reducible (first | refine sg0 ?_ | refine hw0 ?_ | refine se0 ?_ | refine ai0 ?_ | refine as0 ?_ | refine at0 ?_ | refine ax0 ?_); simp only [go_sem, simprocAttr, hF, hd, hxk, hyk, g0, g1, g2, g3])
   | ((with_reducible refine hg0 ?_); simp only [go_sem, simprocAttr, hF, hd, hxk, hyk, g0, g1, g2, g3, hbx])
   | with_reducible refine aq0 fun _ _ => ?_
   | (refine awp_draw' (id := 11) [] 17 (by kernel_rfl) (by kernel_rfl) rfl rfl (fun bx0 hbx => ?_); try dsimp only [List.take, List.drop])
   | (with_reducible refine ar0 (id := 0) [] ?_)
   | (with_reducible refine ar0 (id := 1) [] ?_)
   | (with_reducible refine ar0 (id := 2) [] ?_)
   | (with_reducible refine ar0 (id := 3) [] ?_)
   | (with_reducible refine ar0 (id := 4) [] ?_)
   | (with_reducible refine ar0 (id := 7) [] ?_)
   | (with_reducible refine ar0 (id := 8) [] ?_)
   | (with_reducible refine ar0 (id := 9) [] ?_)
   | (with_reducible refine ar0 (id := 12) [] ?_)
   | (with_reducible refine ar0 (id := 10) [] ?_)
   | (with_reducible refine ar0 (id := 5) [] ?_)
   | (with_reducible refine ar0 (id := 13) [] ?_)
   | (with_reducible refine ab0 ?_)
   | go_step)
  try simp only [List.append_eq, List.cons_append, List.nil_append]
  repeat (first
   | (with_reducible (first | refine sg0 ?_ | refine hw0 ?_ | refine se0 ?_ | refine ai0 ?_ | refine as0 ?_ | refine at0 ?_ | refine ax0 ?_); simp only [go_sem, simprocAttr, hF, hd, hxk, hyk, g0, g1, g2, g3])
   | ((with_reducible refine hg0 ?_); simp only [go_sem, simprocAttr, hF, hd, hxk, hyk, g0, g1, g2, g3, hbx])
   | with_reducible refine aq0 fun _ _ => ?_
   | (refine awp_draw' (id := 11) [] 17 (by kernel_rfl) (by kernel_rfl) rfl rfl (fun bx0 hbx => ?_); try dsimp only [List.take, List.drop])
   | (refine awp_draw' (id := 6) [] 65 (by kernel_rfl) (by kernel_rfl) rfl rfl (fun bx0 hbx => ?_); try dsimp only [List.take, List.drop])
   | with_reducible (first | refine ar0 [] ?_ | refine ab0 ?_)
   | go_step)
  rw [bad (decide_eq_false fun h => h3 (by rw [h]))]
 have g3 : (x.tt != y.tt) = false := by simpa using h3
 have hal5 : ((x.sl.length : Int) != (y.sl.length : Int)) = !decide (x.sl.length = y.sl.length) := by rw [Bool.eq_iff_iff]; simp; omega
 by_cases h5 : x.sl.length = y.sl.length
 case neg =>
  have g5 : ((x.sl.length : Int) != (y.sl.length : Int)) = true := by rw [hal5]; simp [h5]
  repeat (first
   | (with_reducible (first | refine sg0 ?_ | refine hw0 ?_ | refine se0 ?_ | refine ai0 ?_ | refine as0 ?_ | refine at0 ?_ | refine ax0 ?_); simp only [go_sem, simprocAttr, hF, hd, hxk, hyk, g0, g1, g2, g3, g5])
   | ((with_reducible refine hg0 ?_); simp only [go_sem, simprocAttr, hF, hd, hxk, hyk, g0, g1, g2, g3, g5, hbx])
   | with_reducible refine aq0 fun _ _ => ?_
   | (refine awp_draw' (id := 11) [] 17 (by kernel_rfl) (by kernel_rfl) rfl rfl (fun bx0 hbx => ?_); try dsimp only [List.take, List.drop])
   | (with_reducible refine ar0 (id := 0) [] ?_)
   | (with_reducible refine ar0 (id := 1) [] ?_)
   | (with_reducible refine ar0 (id := 2) [] ?_)
   | (with_reducible refine ar0 (id := 3) [] ?_)
   | (with_reducible refine ar0 (id := 4) [] ?_)
   | (with_reducible refine ar0 (id := 7) [] ?_)
   | (with_reducible refine ar0 (id := 8) [] ?_)
   | (with_reducible refine ar0 (id := 9) [] ?_)
   | (with_reducible refine ar0 (id := 12) [] ?_)
   | (with_reducible refine ar0 (id := 10) [] ?_)
   | (with_reducible refine ar0 (id := 5) [] ?_)
   | (with_reducible refine ar0 (id := 13) [] ?_)
   | (with_reducible refine ab0 ?_)
   | go_step)
  try simp only [List.append_eq, List.cons_append, List.nil_append]
  repeat (first
   | (with_reducible (first | refine sg0 ?_ | refine hw0 ?_ | refine se0 ?_ | refine ai0 ?_ | refine as0 ?_ | refine at0 ?_ | refine ax0 ?_); simp only [go_sem, simprocAttr, hF, hd, hxk, hyk, g0, g1, g2, g3, g5])
   | ((with_reducible refine hg0 ?_); simp only [go_sem, simprocAttr, hF, hd, hxk, hyk, g0, g1, g2, g3, g5, hbx])
   | with_reducible refine aq0 fun _ _ => ?_
   | (refine awp_draw' (id := 11) [] 17 (by kernel_rfl) (by kernel_rfl) rfl rfl (fun bx0 hbx => ?_); try dsimp only [List.take, List.drop])
   | (refine awp_draw' (id := 6) [] 65 (by kernel_rfl) (by kernel_rfl) rfl rfl (fun bx0 hbx => ?_); try dsimp only [List.take, List.drop])
   | with_reducible (first | refine ar0 [] ?_ | refine ab0 ?_)
   | go_step)
  rw [bad (decide_eq_false fun h => h5 (by rw [h]))]
 have g5 : ((x.sl.length : Int) != (y.sl.length : Int)) = false := by rw [hal5]; simp [h5]
 repeat (first
  | (with_reducible (first | refine sg0 ?_ | refine hw0 ?_ | refine se0 ?_ | refine ai0 ?_ | refine as0 ?_ | refine at0 ?_ | refine ax0 ?_); simp only [go_sem, simprocAttr, hF, hd, hxk, hyk, g0, g1, g2, g3, g5])
  | ((with_reducible refine hg0 ?_); simp only [go_sem, simprocAttr, hF, hd, hxk, hyk, g0, g1, g2, g3, g5, hbx])
  | with_reducible refine aq0 fun _ _ => ?_
  | (refine awp_draw' (id := 11) [] 17 (by kernel_rfl) (by kernel_rfl) rfl rfl (fun bx0 hbx => ?_); try dsimp only [List.take, List.drop])
  | (with_reducible refine ar0 (id := 0) [] ?_)
  | (with_reducible refine ar0 (id := 1) [] ?_)
  | (with_reducible refine ar0 (id := 2) [] ?_)
  | (with_reducible refine ar0 (id := 3) [] ?_)
  | (with_reducible refine ar0 (id := 4) [] ?_)
  | (with_reducible refine ar0 (id := 7) [] ?_)
  | (with_reducible refine ar0 (id := 8) [] ?_)
  | (with_reducible refine ar0 (id := 9) [] ?_)
  | (with_reducible refine ar0 (id := 12) [] ?_)
  | (with_reducible refine ar0 (id := 10) [] ?_)
  | (with_reducible refine ar0 (id := 5) [] ?_)
  | (with_reducible refine ar0 (id := 13) [] ?_)
  | (with_reducible refine ab0 ?_)
  | go_step)
 try simp only [List.append_eq, List.cons_append, List.nil_append]
 repeat (first
  | (with_reducible (first | refine sg0 ?_ | refine hw0 ?_ | refine se0 ?_ | refine ai0 ?_ | refine as0 ?_ | refine at0 ?_ | refine ax0 ?_); simp only [go_sem, simprocAttr, hF, hd, hxk, hyk, g0, g1, g2, g3, g5])
  | ((with_reducible refine hg0 ?_); simp only [go_sem, simprocAttr, hF, hd, hxk, hyk, g0, g1, g2, g3, g5, hbx])
  | with_reducible refine aq0 fun _ _ => ?_
  | (refine awp_draw' (id := 11) [] 17 (by kernel_rfl) (by kernel_rfl) rfl rfl (fun bx0 hbx => ?_); try dsimp only [List.take, List.drop])
  | (refine awp_draw' (id := 6) [] 65 (by kernel_rfl) (by kernel_rfl) rfl rfl (fun bx0 hbx => ?_); try dsimp only [List.take, List.drop])
  | with_reducible (first | refine ar0 [] ?_ | refine ab0 ?_)
  | go_step)
 refine awp_loop_by (ι := {j : Nat // j ≤ x.sl.length ∧ decide (x.sl = y.sl) = decide (x.sl.drop j = y.sl.drop j)}) (fun j σ => ⟨(6, iv (j.1 : Int)) :: keepS [0, 1, 4, 5] σ.slot, σ.box, [], σ.ext⟩) (fun j => x.sl.length - j.1) ⟨0, by omega, rfl⟩ (sub_mk ?_) (fun R2 hR2 j => ?_)
 · simp only [go_sem, simprocAttr, hF]
   repeat' (first | rfl | refine ⟨?_, ?_⟩)
 obtain ⟨j, hj, hU⟩ := j
 dsimp only
 simp only [go_sem, simprocAttr, hF]
 by_cases hjt : j < x.sl.length
 case neg =>
  have hdj : decide ((j : Int) < (x.sl.length : Int)) = false := decide_eq_false (by omega)
  have hxy : decide (x = y) = true := by
   rw [List.drop_of_length_le (by omega), List.drop_of_length_le (by omega)] at hU
   have hsl : x.sl = y.sl := of_decide_eq_true hU
   refine decide_eq_true ?_
   obtain ⟨x1, x2, x3, x4, x5⟩ := x
   obtain ⟨y1, y2, y3, y4, y5⟩ := y
   simp only [Br.mk.injEq]
   exact ⟨h0, h1, h2, h3, hsl⟩
  repeat (first
   | (with_reducible (first | refine sg0 ?_ | refine hw0 ?_ | refine se0 ?_ | refine ai0 ?_ | refine as0 ?_ | refine at0 ?_ | refine ax0 ?_); simp only [go_sem, simprocAttr, hF, hxk, hyk, hdj])
   | ((with_reducible refine hg0 ?_); simp only [go_sem, simprocAttr, hF, hxk, hyk, hdj, hbx])
   | with_reducible refine aq0 fun _ _ => ?_
   | (refine awp_draw' (id := 11) [] 17 (by kernel_rfl) (by kernel_rfl) rfl rfl (fun bx0 hbx => ?_); try dsimp only [List.take, List.drop])
   | (refine awp_draw' (id := 6) [] 65 (by kernel_rfl) (by kernel_rfl) rfl rfl (fun bx0 hbx => ?_); try dsimp only [List.take, List.drop])
   | with_reducible (first | refine ar0 [] ?_ | refine ab0 ?_)
   | go_step)
  refine ⟨⟨k + 1, by omega, by rw [hT', hxy, Bool.true_and]⟩, by dsimp only; omega, hR _ _ (sub_mk ?_)⟩
  simp only [go_sem, simprocAttr, hF, hw]
 obtain ⟨s, hsj⟩ := get_of_lt hjt
 obtain ⟨t, htj⟩ := get_of_lt (l := y.sl) (k := j) (by omega)
 have hdj : decide ((j : Int) < (x.sl.length : Int)) = true := decide_eq_true (by omega)
 have hwj : IntKind.i64.wrap ((j : Int) + 1) = ((j + 1 : Nat) : Int) := by rw [IntKind.wrap_i64]; omega
 have hU' : decide (x.sl = y.sl) = ((s == t) && decide (x.sl.drop (j + 1) = y.sl.drop (j + 1))) := by
  rw [hU, drop_of_get hsj, drop_of_get htj, Bool.eq_iff_iff]
  simp
 cases e1 : (s == t) with
 | false =>
  have e2 : (s != t) = true := by rw [bne, e1]; rfl
  repeat (first
   | (with_reducible (first | refine sg0 ?_ | refine hw0 ?_ | refine se0 ?_ | refine ai0 ?_ | refine as0 ?_ | refine at0 ?_ | refine ax0 ?_); simp only [go_sem, simprocAttr, hF, hxk, hyk, hdj, hsj, htj, e2])
   | ((with_reducible refine hg0 ?_); simp only [go_sem, simprocAttr, hF, hxk, hyk, hdj, hsj, htj, e2, hbx])
   | with_reducible refine aq0 fun _ _ => ?_
   | (refine awp_draw' (id := 11) [] 17 (by kernel_rfl) (by kernel_rfl) rfl rfl (fun bx0 hbx => ?_); try dsimp only [List.take, List.drop])
   | (refine awp_draw' (id := 6) [] 65 (by kernel_rfl) (by kernel_rfl) rfl rfl (fun bx0 hbx => ?_); try dsimp only [List.take, List.drop])
   | with_reducible (first | refine ar0 [] ?_ | refine ab0 ?_)
   | go_step)
  rw [bad (decide_eq_false fun h => by rw [h, e1] at hU'; simp at hU')]
 | true =>
  have e2 : (s != t) = false := by rw [bne, e1]; rfl
  repeat (first
   | (with_reducible (first | refine sg0 ?_ | refine hw0 ?_ | refine se0 ?_ | refine ai0 ?_ | refine as0 ?_ | refine at0 ?_ | refine ax0 ?_); simp only [go_sem, simprocAttr, hF, hxk, hyk, hdj, hsj, htj, e2])
   | ((with_reducible refine hg0 ?_); simp only [go_sem, simprocAttr, hF, hxk, hyk, hdj, hsj, htj, e2, hbx])
   | with_reducible refine aq0 fun _ _ => ?_
   | (refine awp_draw' (id := 11) [] 17 (by kernel_rfl) (by kernel_rfl) rfl rfl (fun bx0 hbx => ?_); try dsimp only [List.take, List.drop])
   | (refine awp_draw' (id := 6) [] 65 (by kernel_rfl) (by kernel_rfl) rfl rfl (fun bx0 hbx => ?_); try dsimp only [List.take, List.drop])
   | with_reducible (first | refine ar0 [] ?_ | refine ab0 ?_)
   | go_step)
  refine ⟨⟨j + 1, by omega, by rw [hU', e1, Bool.true_and]⟩, by dsimp only; omega, hR2 _ _ (sub_mk ?_)⟩
  simp only [go_sem, simprocAttr, hF, hwj]
/- The reference of Check, by abstract states. -/
attribute [local go_sem] Ex.pv
theorem onB_step {p : List Int} {k : Nat} {u v x y : Int} (hu : p[k]? = some u) (hv : p[k + 1]? = some v) : onB (p.drop k) x y = ((u == x && v == y) || onB (p.drop (k + 1)) x y) := by
 rw [drop_of_get hu, drop_of_get hv, onB]
theorem onB_end {p : List Int} {k : Nat} {x y : Int} (h : p.length ≤ k + 1) : onB (p.drop k) x y = false := by
 have h2 : (p.drop k).length ≤ 1 := by rw [List.length_drop]; omega
 match hq : p.drop k with
 | [] => rfl
 | [a] => rfl
 | a :: b :: l => rw [hq] at h2; simp at h2
theorem any_one {l : List Br} {c : Br} : l.any (fun y => decide ([y] = [c])) = l.contains c := by
 rw [Bool.eq_iff_iff, List.any_eq_true, List.contains_iff_mem]
 constructor
 · rintro ⟨y, hy, h⟩
   have : y = c := by simpa using h
   rw [← this]; exact hy
 · intro h
   exact ⟨c, h, by simp⟩

set_option maxHeartbeats 20000000 in
theorem ron_ok (p : List Int) (c : Br) (hl : p.length ≤ 1000000) : FnOK Tryz.prog 50 [.sl 1 (p.map irow_pv), .agg c.pv] ⟨bv (onB p c.fm c.tt), none⟩ := by
 refine fn_ok Tryz.func50 (by kernel_rfl) rfl (by rw [Tryz.ntmps50]; exact of_decide_eq_true rfl) (fun F hF => ?_)
 rw [Tryz.ntmps50] at hF
 rw [Tryz.results50]
 repeat (first
  | (with_reducible (first | refine sg0 ?_ | refine hw0 ?_ | refine se0 ?_ | refine ai0 ?_ | refine as0 ?_ | refine at0 ?_ | refine ax0 ?_); simp only [go_sem, simprocAttr, hF])
  | ((with_reducible refine hg0 ?_); simp only [go_sem, simprocAttr, hF, hbx])
  | with_reducible refine aq0 fun _ _ => ?_
  | (refine awp_draw' (id := 4) [] 17 (by kernel_rfl) (by kernel_rfl) rfl rfl (fun bx0 hbx => ?_); try dsimp only [List.take, List.drop])
  | with_reducible (first | refine ar0 [] ?_ | refine ab0 ?_)
  | go_step)
 refine awp_loop_by (ι := {k : Nat // k ≤ p.length ∧ onB p c.fm c.tt = onB (p.drop k) c.fm c.tt}) (fun k σ => ⟨(5, iv (k.1 : Int)) :: keepS [0, 3] σ.slot, keepS [3] σ.box, [], σ.ext⟩) (fun k => p.length - k.1) ⟨0, by omega, rfl⟩ (sub_mk ?_) (fun R hR k => ?_)
 · simp only [go_sem, simprocAttr, hF]
   repeat' (first | rfl | refine ⟨?_, ?_⟩)
 obtain ⟨k, hk, hT⟩ := k
 dsimp only
 simp only [go_sem, simprocAttr, hF]
 have hw : IntKind.i64.wrap ((k : Int) + 1) = ((k + 1 : Nat) : Int) := by rw [IntKind.wrap_i64]; omega
 by_cases hlt : k + 1 < p.length
 case neg =>
  have hd : decide (((k + 1 : Nat) : Int) < (p.length : Int)) = false := decide_eq_false (by omega)
  repeat (first
   | (with_reducible (first | refine sg0 ?_ | refine hw0 ?_ | refine se0 ?_ | refine ai0 ?_ | refine as0 ?_ | refine at0 ?_ | refine ax0 ?_); simp only [go_sem, simprocAttr, hF, hw, hd])
   | ((with_reducible refine hg0 ?_); simp only [go_sem, simprocAttr, hF, hw, hd, hbx])
   | with_reducible refine aq0 fun _ _ => ?_
   | (refine awp_draw' (id := 4) [] 17 (by kernel_rfl) (by kernel_rfl) rfl rfl (fun bx0 hbx => ?_); try dsimp only [List.take, List.drop])
   | with_reducible (first | refine ar0 [] ?_ | refine ab0 ?_)
   | go_step)
  rw [hT, onB_end (by omega)]
  try rfl
 have hd : decide (((k + 1 : Nat) : Int) < (p.length : Int)) = true := decide_eq_true (by omega)
 obtain ⟨u, hu⟩ := get_of_lt (l := p) (k := k) (by omega)
 obtain ⟨v, hv⟩ := get_of_lt hlt
 have hst := onB_step (x := c.fm) (y := c.tt) hu hv
 cases e1 : (u == c.fm) with
 | false =>
  repeat (first
   | (with_reducible (first | refine sg0 ?_ | refine hw0 ?_ | refine se0 ?_ | refine ai0 ?_ | refine as0 ?_ | refine at0 ?_ | refine ax0 ?_); simp only [go_sem, simprocAttr, hF, hw, hd, hu, e1])
   | ((with_reducible refine hg0 ?_); simp only [go_sem, simprocAttr, hF, hw, hd, hu, e1, hbx])
   | with_reducible refine aq0 fun _ _ => ?_
   | (refine awp_draw' (id := 4) [] 17 (by kernel_rfl) (by kernel_rfl) rfl rfl (fun bx0 hbx => ?_); try dsimp only [List.take, List.drop])
   | with_reducible (first | refine ar0 [] ?_ | refine ab0 ?_)
   | go_step)
  refine ⟨⟨k + 1, by omega, by rw [hT, hst, e1]; rfl⟩, by dsimp only; omega, hR _ _ (sub_mk ?_)⟩
  simp only [go_sem, simprocAttr, hF, hw]
 | true =>
  cases e2 : (v == c.tt) with
  | false =>
   repeat (first
    | (with_reducible (first | refine sg0 ?_ | refine hw0 ?_ | refine se0 ?_ | refine ai0 ?_ | refine as0 ?_ | refine at0 ?_ | refine ax0 ?_); simp only [go_sem, simprocAttr, hF, hw, hd, hu, hv, e1, e2])
    | ((with_reducible refine hg0 ?_); simp only [go_sem, simprocAttr, hF, hw, hd, hu, hv, e1, e2, hbx])
    | with_reducible refine aq0 fun _ _ => ?_
    | (refine awp_draw' (id := 4) [] 17 (by kernel_rfl) (by kernel_rfl) rfl rfl (fun bx0 hbx => ?_); try dsimp only [List.take, List.drop])
    | with_reducible (first | refine ar0 [] ?_ | refine ab0 ?_)
    | go_step)
   refine ⟨⟨k + 1, by omega, by rw [hT, hst, e1, e2]; rfl⟩, by dsimp only; omega, hR _ _ (sub_mk ?_)⟩
   simp only [go_sem, simprocAttr, hF, hw]
  | true =>
   repeat (first
    | (with_reducible (first | refine sg0 ?_ | refine hw0 ?_ | refine se0 ?_ | refine ai0 ?_ | refine as0 ?_ | refine at0 ?_ | refine ax0 ?_); simp only [go_sem, simprocAttr, hF, hw, hd, hu, hv, e1, e2])
    | ((with_reducible refine hg0 ?_); simp only [go_sem, simprocAttr, hF, hw, hd, hu, hv, e1, e2, hbx])
    | with_reducible refine aq0 fun _ _ => ?_
    | (refine awp_draw' (id := 4) [] 17 (by kernel_rfl) (by kernel_rfl) rfl rfl (fun bx0 hbx => ?_); try dsimp only [List.take, List.drop])
    | with_reducible (first | refine ar0 [] ?_ | refine ab0 ?_)
    | go_step)
   rw [hT, hst, e1, e2]
   try rfl

set_option maxHeartbeats 40000000 in
theorem rcheck_okX (n : Net) (f : Fl) (ps : List (List Int)) (r : Rec) (x : Ex) (hS : SmallN n) (hla : r.al.length ≤ 1000000) (hld : r.dl.length ≤ 1000000) (hps : ps.length ≤ 1000000) (hpl : ∀ p ∈ ps, p.length ≤ 1000000) : FnOK Tryz.prog 21 [.agg n.pv, .agg f.pv, .sl 1 (ps.map prow_pv), .agg r.pv, .agg x.pv] ⟨iv (checkX n f ps r x), none⟩ := by
 refine fn_ok Tryz.func21 (by kernel_rfl) rfl (by rw [Tryz.ntmps21]; exact of_decide_eq_true rfl) (fun F hF => ?_)
 rw [Tryz.ntmps21] at hF
 rw [Tryz.results21]
 repeat (first
  | (with_reducible (first | refine sg0 ?_ | refine hw0 ?_ | refine se0 ?_ | refine ai0 ?_ | refine as0 ?_ | refine at0 ?_ | refine ax0 ?_); simp only [go_sem, simprocAttr, hF])
  | ((with_reducible refine hg0 ?_); simp only [go_sem, simprocAttr, hF, hbx])
  | with_reducible refine aq0 fun _ _ => ?_
  | (refine awp_draw' (id := 10) [] 7 (by kernel_rfl) (by kernel_rfl) rfl rfl (fun bx0 hbx => ?_); try dsimp only [List.take, List.drop])
  | (refine awp_draw' (id := 17) [] 11 (by kernel_rfl) (by kernel_rfl) rfl rfl (fun bx0 hbx => ?_); try dsimp only [List.take, List.drop])
  | with_reducible (first | refine ar0 [] ?_ | refine ab0 ?_)
  | go_step)
 refine ⟨_, rlateL_ok n f ps r x.lt.fr hS hla hld hps hpl, ?_⟩
 simp only [go_sem, simprocAttr, hF]
 by_cases hL : (lateX n f ps r x.lt.fr).2 = 0
 case neg =>
  have e1 : ((lateX n f ps r x.lt.fr).2 != 0) = true := by simpa using hL
  have hX : checkX n f ps r x = (lateX n f ps r x.lt.fr).2 := by unfold checkX; rw [if_pos hL]
  try simp only [go_sem, simprocAttr, hF, e1]
  repeat (first
   | (with_reducible (first | refine sg0 ?_ | refine hw0 ?_ | refine se0 ?_ | refine ai0 ?_ | refine as0 ?_ | refine at0 ?_ | refine ax0 ?_); simp only [go_sem, simprocAttr, hF, e1])
   | ((with_reducible refine hg0 ?_); simp only [go_sem, simprocAttr, hF, e1, hbx])
   | with_reducible refine aq0 fun _ _ => ?_
   | (refine awp_draw' (id := 10) [] 7 (by kernel_rfl) (by kernel_rfl) rfl rfl (fun bx0 hbx => ?_); try dsimp only [List.take, List.drop])
   | (refine awp_draw' (id := 17) [] 11 (by kernel_rfl) (by kernel_rfl) rfl rfl (fun bx0 hbx => ?_); try dsimp only [List.take, List.drop])
   | with_reducible (first | refine ar0 [] ?_ | refine ab0 ?_)
   | go_step)
  all_goals (try rw [hX])
  all_goals (try rfl)
 have e1 : ((lateX n f ps r x.lt.fr).2 != 0) = false := by rw [hL]; rfl
 have LO := lateX_ok hL
 have hN := netOK (basicB_inv LO.base).1
 obtain ⟨y, hy⟩ : ∃ y, y = (lateX n f ps r x.lt.fr).1 := ⟨_, rfl⟩
 rw [← hy]
 have hxl : (([y.fl, y.fr, y.sl] == [x.lt.fl, x.lt.fr, x.lt.sl]) = false ∧ y ≠ x.lt) ∨ (([y.fl, y.fr, y.sl] == [x.lt.fl, x.lt.fr, x.lt.sl]) = true ∧ y = x.lt) := by
  obtain ⟨⟨x1, x2, x3⟩, ca⟩ := x
  obtain ⟨y1, y2, y3⟩ := y
  by_cases h : y1 = x1 ∧ y2 = x2 ∧ y3 = x3
  · obtain ⟨rfl, rfl, rfl⟩ := h
    exact .inr ⟨by simp, rfl⟩
  · refine .inl ⟨?_, fun h2 => h ?_⟩
    · simp only [beq_eq_false_iff_ne, ne_eq, List.cons.injEq, and_true]
      exact h
    · injection h2 with h2 h3 h4
      exact ⟨h2, h3, h4⟩
 rcases hxl with ⟨e2, hne⟩ | ⟨e2, hyx⟩
 case inl =>
  have hX : checkX n f ps r x = 20 := by unfold checkX; rw [if_neg (fun h => h hL), if_pos (.inl (by rw [← hy]; exact hne))]
  try simp only [go_sem, simprocAttr, hF, e1, e2]
  repeat (first
   | (with_reducible (first | refine sg0 ?_ | refine hw0 ?_ | refine se0 ?_ | refine ai0 ?_ | refine as0 ?_ | refine at0 ?_ | refine ax0 ?_); simp only [go_sem, simprocAttr, hF, e1, e2])
   | ((with_reducible refine hg0 ?_); simp only [go_sem, simprocAttr, hF, e1, e2, hbx])
   | with_reducible refine aq0 fun _ _ => ?_
   | (refine awp_draw' (id := 10) [] 7 (by kernel_rfl) (by kernel_rfl) rfl rfl (fun bx0 hbx => ?_); try dsimp only [List.take, List.drop])
   | (refine awp_draw' (id := 17) [] 11 (by kernel_rfl) (by kernel_rfl) rfl rfl (fun bx0 hbx => ?_); try dsimp only [List.take, List.drop])
   | with_reducible (first | refine ar0 [] ?_ | refine ab0 ?_)
   | go_step)
  all_goals (try rw [hX])
  all_goals (try rfl)
 subst hyx
 by_cases hcl : x.ca.length = ps.length
 case neg =>
  have e3 : ((x.ca.length : Int) != (ps.length : Int)) = true := by rw [bne_iff_ne]; omega
  have hX : checkX n f ps r x = 20 := by unfold checkX; rw [if_neg (fun h => h hL), if_pos (.inr hcl)]
  try simp only [go_sem, simprocAttr, hF, e1, e2, e3]
  repeat (first
   | (with_reducible (first | refine sg0 ?_ | refine hw0 ?_ | refine se0 ?_ | refine ai0 ?_ | refine as0 ?_ | refine at0 ?_ | refine ax0 ?_); simp only [go_sem, simprocAttr, hF, e1, e2, e3])
   | ((with_reducible refine hg0 ?_); simp only [go_sem, simprocAttr, hF, e1, e2, e3, hbx])
   | with_reducible refine aq0 fun _ _ => ?_
   | (refine awp_draw' (id := 10) [] 7 (by kernel_rfl) (by kernel_rfl) rfl rfl (fun bx0 hbx => ?_); try dsimp only [List.take, List.drop])
   | (refine awp_draw' (id := 17) [] 11 (by kernel_rfl) (by kernel_rfl) rfl rfl (fun bx0 hbx => ?_); try dsimp only [List.take, List.drop])
   | with_reducible (first | refine ar0 [] ?_ | refine ab0 ?_)
   | go_step)
  all_goals (try rw [hX])
  all_goals (try rfl)
 have e3 : ((x.ca.length : Int) != (ps.length : Int)) = false := by rw [hcl]; simp
 have hX : checkX n f ps r x = if (List.zip ps x.ca).all (fun q => okC n f r x.lt.fr q.1 q.2) = true then 0 else 20 := by unfold checkX; rw [if_neg (fun h => h hL), if_neg (by rintro (h | h); exact h hy.symm; exact h hcl)]
 clear hy
 try simp only [go_sem, simprocAttr, hF, e1, e2, e3]
 repeat (first
  | (with_reducible (first | refine sg0 ?_ | refine hw0 ?_ | refine se0 ?_ | refine ai0 ?_ | refine as0 ?_ | refine at0 ?_ | refine ax0 ?_); simp only [go_sem, simprocAttr, hF, e1, e2, e3])
  | ((with_reducible refine hg0 ?_); simp only [go_sem, simprocAttr, hF, e1, e2, e3, hbx])
  | with_reducible refine aq0 fun _ _ => ?_
  | (refine awp_draw' (id := 10) [] 7 (by kernel_rfl) (by kernel_rfl) rfl rfl (fun bx0 hbx => ?_); try dsimp only [List.take, List.drop])
  | (refine awp_draw' (id := 17) [] 11 (by kernel_rfl) (by kernel_rfl) rfl rfl (fun bx0 hbx => ?_); try dsimp only [List.take, List.drop])
  | with_reducible (first | refine ar0 [] ?_ | refine ab0 ?_)
  | go_step)
 refine awp_loop_by (ι := {k : Nat // k ≤ ps.length ∧ ∀ j, j < k → ∀ p c, ps[j]? = some p → x.ca[j]? = some c → okC n f r x.lt.fr p c = true}) (fun k σ => ⟨(13, iv (k.1 : Int)) :: keepS [2, 5, 6, 8, 9] σ.slot, keepS [5, 6, 8, 9] σ.box, [], σ.ext⟩) (fun k => ps.length - k.1) ⟨0, by omega, fun j hj => absurd hj (Nat.not_lt_zero _)⟩ (sub_mk ?_) (fun R hR k => ?_)
 · simp only [go_sem, simprocAttr, hF]
   repeat' (first | rfl | refine ⟨?_, ?_⟩)
 obtain ⟨k, hk, hT⟩ := k
 dsimp only
 simp only [go_sem, simprocAttr, hF]
 by_cases hlt : k < ps.length
 case neg =>
  have hd : decide ((k : Int) < (ps.length : Int)) = false := decide_eq_false (by omega)
  have hgood : checkX n f ps r x = 0 := by
   rw [hX, zip_all (q := fun q => okC n f r x.lt.fr q.1 q.2) (fun j p c h1 h2 => hT j (by have := (List.getElem?_eq_some_iff.1 h1).1; omega) p c h1 h2)]
   rfl
  repeat (first
   | (with_reducible (first | refine sg0 ?_ | refine hw0 ?_ | refine se0 ?_ | refine ai0 ?_ | refine as0 ?_ | refine at0 ?_ | refine ax0 ?_); simp only [go_sem, simprocAttr, hF, hd])
   | ((with_reducible refine hg0 ?_); simp only [go_sem, simprocAttr, hF, hd, hbx])
   | with_reducible refine aq0 fun _ _ => ?_
   | (refine awp_draw' (id := 10) [] 7 (by kernel_rfl) (by kernel_rfl) rfl rfl (fun bx0 hbx => ?_); try dsimp only [List.take, List.drop])
   | (refine awp_draw' (id := 17) [] 11 (by kernel_rfl) (by kernel_rfl) rfl rfl (fun bx0 hbx => ?_); try dsimp only [List.take, List.drop])
   | with_reducible (first | refine ar0 [] ?_ | refine ab0 ?_)
   | go_step)
  all_goals (try rw [hgood])
  all_goals (try rfl)
 have hd : decide ((k : Int) < (ps.length : Int)) = true := decide_eq_true (by omega)
 have hw : IntKind.i64.wrap ((k : Int) + 1) = ((k + 1 : Nat) : Int) := by rw [IntKind.wrap_i64]; omega
 obtain ⟨p, hp⟩ := get_of_lt hlt
 obtain ⟨c, hc2⟩ := get_of_lt (l := x.ca) (k := k) (by omega)
 have hrt := LO.rt p (List.mem_of_getElem? hp)
 obtain ⟨r1, r2, r3⟩ := route_inv hrt
 repeat (first
  | (with_reducible (first | refine sg0 ?_ | refine hw0 ?_ | refine se0 ?_ | refine ai0 ?_ | refine as0 ?_ | refine at0 ?_ | refine ax0 ?_); simp only [go_sem, simprocAttr, hF, hd, hp, hc2])
  | ((with_reducible refine hg0 ?_); simp only [go_sem, simprocAttr, hF, hd, hp, hc2, hbx])
  | with_reducible refine aq0 fun _ _ => ?_
  | (refine awp_draw' (id := 10) [] 7 (by kernel_rfl) (by kernel_rfl) rfl rfl (fun bx0 hbx => ?_); try dsimp only [List.take, List.drop])
  | (refine awp_draw' (id := 17) [] 11 (by kernel_rfl) (by kernel_rfl) rfl rfl (fun bx0 hbx => ?_); try dsimp only [List.take, List.drop])
  | with_reducible (first | refine ar0 [] ?_ | refine ab0 ?_)
  | go_step)
 refine ⟨_, ron_ok p c (by omega), ?_⟩
 simp only [go_sem, simprocAttr, hF]
 cases hon : onB p c.fm c.tt with
 | false =>
  have hbad : checkX n f ps r x = 20 := by
   rw [hX, zip_not hp hc2 (q := fun q => okC n f r x.lt.fr q.1 q.2) (by
    unfold okC
    rw [hon]
    rfl
   )]
   rfl
  try simp only [go_sem, simprocAttr, hF, hon]
  repeat (first
   | (with_reducible (first | refine sg0 ?_ | refine hw0 ?_ | refine se0 ?_ | refine ai0 ?_ | refine as0 ?_ | refine at0 ?_ | refine ax0 ?_); simp only [go_sem, simprocAttr, hF, hon])
   | ((with_reducible refine hg0 ?_); simp only [go_sem, simprocAttr, hF, hon, hbx])
   | with_reducible refine aq0 fun _ _ => ?_
   | (refine awp_draw' (id := 10) [] 7 (by kernel_rfl) (by kernel_rfl) rfl rfl (fun bx0 hbx => ?_); try dsimp only [List.take, List.drop])
   | (refine awp_draw' (id := 17) [] 11 (by kernel_rfl) (by kernel_rfl) rfl rfl (fun bx0 hbx => ?_); try dsimp only [List.take, List.drop])
   | with_reducible (first | refine ar0 [] ?_ | refine ab0 ?_)
   | go_step)
  all_goals (try rw [hbad])
  all_goals (try rfl)
 | true =>
  obtain ⟨i, g1, g2⟩ := onB_iff.1 hon
  have hix := r3 i c.fm c.tt g1 g2
  have hok2 : okC n f r x.lt.fr p c = (causesX n f r x.lt.fr c.fm c.tt).contains c := by unfold okC; rw [hon]; rfl
  obtain ⟨CX, hCX⟩ : ∃ CX, CX = causesX n f r x.lt.fr c.fm c.tt := ⟨_, rfl⟩
  have hCl : CX.length ≤ 1000000 := by rw [hCX]; exact Nat.le_trans causesX_len hla
  have hCs : ∀ y ∈ CX, y.sl.length ≤ 1000000 := fun y hy => by rw [hCX] at hy; exact Nat.le_trans (sl_len hy) hla
  try simp only [go_sem, simprocAttr, hF, hon]
  repeat (first
   | (with_reducible (first | refine sg0 ?_ | refine hw0 ?_ | refine se0 ?_ | refine ai0 ?_ | refine as0 ?_ | refine at0 ?_ | refine ax0 ?_); simp only [go_sem, simprocAttr, hF, hon])
   | ((with_reducible refine hg0 ?_); simp only [go_sem, simprocAttr, hF, hon, hbx])
   | with_reducible refine aq0 fun _ _ => ?_
   | (refine awp_draw' (id := 10) [] 7 (by kernel_rfl) (by kernel_rfl) rfl rfl (fun bx0 hbx => ?_); try dsimp only [List.take, List.drop])
   | (refine awp_draw' (id := 17) [] 11 (by kernel_rfl) (by kernel_rfl) rfl rfl (fun bx0 hbx => ?_); try dsimp only [List.take, List.drop])
   | with_reducible (first | refine ar0 [] ?_ | refine ab0 ?_)
   | go_step)
  refine ⟨_, rcauses_ok n f r x.lt.fr c.fm c.tt hS LO.base ⟨LO.fr0, LO.fr1⟩ hix hla, ?_⟩
  simp only [go_sem, simprocAttr, hF]
  rw [← hCX]
  repeat (first
   | (with_reducible (first | refine sg0 ?_ | refine hw0 ?_ | refine se0 ?_ | refine ai0 ?_ | refine as0 ?_ | refine at0 ?_ | refine ax0 ?_); simp only [go_sem, simprocAttr, hF])
   | ((with_reducible refine hg0 ?_); simp only [go_sem, simprocAttr, hF, hbx])
   | with_reducible refine aq0 fun _ _ => ?_
   | (refine awp_draw' (id := 10) [] 7 (by kernel_rfl) (by kernel_rfl) rfl rfl (fun bx0 hbx => ?_); try dsimp only [List.take, List.drop])
   | (refine awp_draw' (id := 17) [] 11 (by kernel_rfl) (by kernel_rfl) rfl rfl (fun bx0 hbx => ?_); try dsimp only [List.take, List.drop])
   | with_reducible (first | refine ar0 [] ?_ | refine ab0 ?_)
   | go_step)
  refine awp_loop_by (ι := {j : Nat // j ≤ CX.length}) (fun j σ => ⟨(17, iv (j.1 : Int)) :: (16, bv ((CX.take j.1).any fun y => decide (y = c))) :: (15, .sl 5 (CX.map Br.pv)) :: keepS [2, 5, 6, 8, 9, 13, 14] σ.slot, (14, [ip c.fl, ip c.fr, ip c.fm, ip c.tt, .sl 1 (c.sl.map fun x => [ip x])]) :: keepS [5, 6, 8, 9] σ.box, [], σ.ext⟩) (fun j => CX.length - j.1) ⟨0, by omega⟩ (sub_mk ?_) (fun R2 hR2 j => ?_)
  · simp only [go_sem, simprocAttr, hF]
    repeat' (first | rfl | exact True.intro | refine ⟨?_, ?_⟩)
  obtain ⟨j, hj⟩ := j
  dsimp only
  simp only [go_sem, simprocAttr, hF]
  by_cases hjt : j < CX.length
  case neg =>
   have hdj : decide ((j : Int) < (CX.length : Int)) = false := decide_eq_false (by omega)
   have hall : List.take j CX = CX := List.take_of_length_le (by omega)
   have hct : (CX.any fun y => decide (y = c)) = CX.contains c := by rw [← any_one]; congr 1; funext y; simp
   cases hq : CX.contains c with
   | false =>
    rw [hq] at hct
    have hbad : checkX n f ps r x = 20 := by
     rw [hX, zip_not hp hc2 (q := fun q => okC n f r x.lt.fr q.1 q.2) (by
      rw [hok2, ← hCX, hq]
     )]
     rfl
    try simp only [go_sem, simprocAttr, hF, hdj, hall, hct]
    repeat (first
     | (with_reducible (first | refine sg0 ?_ | refine hw0 ?_ | refine se0 ?_ | refine ai0 ?_ | refine as0 ?_ | refine at0 ?_ | refine ax0 ?_); simp only [go_sem, simprocAttr, hF, hdj, hall, hct])
     | ((with_reducible refine hg0 ?_); simp only [go_sem, simprocAttr, hF, hdj, hall, hct, hbx])
     | with_reducible refine aq0 fun _ _ => ?_
     | (refine awp_draw' (id := 10) [] 7 (by kernel_rfl) (by kernel_rfl) rfl rfl (fun bx0 hbx => ?_); try dsimp only [List.take, List.drop])
     | (refine awp_draw' (id := 17) [] 11 (by kernel_rfl) (by kernel_rfl) rfl rfl (fun bx0 hbx => ?_); try dsimp only [List.take, List.drop])
     | with_reducible (first | refine ar0 [] ?_ | refine ab0 ?_)
     | go_step)
    all_goals (try rw [hbad])
    all_goals (try rfl)
   | true =>
    rw [hq] at hct
    try simp only [go_sem, simprocAttr, hF, hdj, hall, hct]
    repeat (first
     | (with_reducible (first | refine sg0 ?_ | refine hw0 ?_ | refine se0 ?_ | refine ai0 ?_ | refine as0 ?_ | refine at0 ?_ | refine ax0 ?_); simp only [go_sem, simprocAttr, hF, hdj, hall, hct])
     | ((with_reducible refine hg0 ?_); simp only [go_sem, simprocAttr, hF, hdj, hall, hct, hbx])
     | with_reducible refine aq0 fun _ _ => ?_
     | (refine awp_draw' (id := 10) [] 7 (by kernel_rfl) (by kernel_rfl) rfl rfl (fun bx0 hbx => ?_); try dsimp only [List.take, List.drop])
     | (refine awp_draw' (id := 17) [] 11 (by kernel_rfl) (by kernel_rfl) rfl rfl (fun bx0 hbx => ?_); try dsimp only [List.take, List.drop])
     | with_reducible (first | refine ar0 [] ?_ | refine ab0 ?_)
     | go_step)
    refine ⟨⟨k + 1, by omega, fun j hj p' c' h1 h2 => by
     by_cases hjk : j = k
     · subst hjk
       rw [hp] at h1; rw [hc2] at h2; cases h1; cases h2
       rw [hok2, ← hCX, hq]
     · exact hT j (by omega) p' c' h1 h2⟩, by dsimp only; omega, hR _ _ (sub_mk ?_)⟩
    simp only [go_sem, simprocAttr, hF, hw]
  obtain ⟨y, hyj⟩ := get_of_lt hjt
  have hdj : decide ((j : Int) < (CX.length : Int)) = true := decide_eq_true (by omega)
  have hwj : IntKind.i64.wrap ((j : Int) + 1) = ((j + 1 : Nat) : Int) := by rw [IntKind.wrap_i64]; omega
  have hTj : List.take (j + 1) CX = List.take j CX ++ [y] := by rw [List.take_add_one, hyj]; rfl
  have hsl1 : List.drop j (List.take (j + 1) (List.map Br.pv CX)) = List.map Br.pv [y] := by
   rw [← List.map_take, ← List.map_drop, hTj, List.drop_left' (by rw [List.length_take]; omega)]
  have hle1 : j ≤ j + 1 := by omega
  have hle2 : j + 1 ≤ CX.length := by omega
  have hAs : ((List.take j CX ++ [y]).any fun y => decide (y = c)) = ((List.take j CX).any (fun y => decide (y = c)) || decide (y = c)) := by rw [List.any_append, List.any_cons, List.any_nil, Bool.or_false]
  cases e0 : (List.take j CX).any fun y => decide (y = c) with
  | true =>
   have hAs2 : ((List.take j CX ++ [y]).any fun y => decide (y = c)) = true := by rw [hAs, e0]; rfl
   repeat (first
    | (with_reducible (first | refine sg0 ?_ | refine hw0 ?_ | refine se0 ?_ | refine ai0 ?_ | refine as0 ?_ | refine at0 ?_ | refine ax0 ?_); simp only [go_sem, simprocAttr, hF, hdj, e0])
    | ((with_reducible refine hg0 ?_); simp only [go_sem, simprocAttr, hF, hdj, e0, hbx])
    | with_reducible refine aq0 fun _ _ => ?_
    | (refine awp_draw' (id := 10) [] 7 (by kernel_rfl) (by kernel_rfl) rfl rfl (fun bx0 hbx => ?_); try dsimp only [List.take, List.drop])
    | (refine awp_draw' (id := 17) [] 11 (by kernel_rfl) (by kernel_rfl) rfl rfl (fun bx0 hbx => ?_); try dsimp only [List.take, List.drop])
    | with_reducible (first | refine ar0 [] ?_ | refine ab0 ?_)
    | go_step)
   refine ⟨⟨j + 1, by omega⟩, by dsimp only; omega, hR2 _ _ (sub_mk ?_)⟩
   simp only [go_sem, simprocAttr, hF, hwj, hTj, hAs2]
  | false =>
   have hAs2 : ((List.take j CX ++ [y]).any fun y => decide (y = c)) = decide (y = c) := by rw [hAs, e0]; rfl
   repeat (first
    | (with_reducible (first | refine sg0 ?_ | refine hw0 ?_ | refine se0 ?_ | refine ai0 ?_ | refine as0 ?_ | refine at0 ?_ | refine ax0 ?_); simp only [go_sem, simprocAttr, hF, hdj, e0, hwj, hsl1, hle1, hle2, Nat.le_refl])
    | ((with_reducible refine hg0 ?_); simp only [go_sem, simprocAttr, hF, hdj, e0, hwj, hsl1, hle1, hle2, Nat.le_refl, hbx])
    | with_reducible refine aq0 fun _ _ => ?_
    | (refine awp_draw' (id := 10) [] 7 (by kernel_rfl) (by kernel_rfl) rfl rfl (fun bx0 hbx => ?_); try dsimp only [List.take, List.drop])
    | (refine awp_draw' (id := 17) [] 11 (by kernel_rfl) (by kernel_rfl) rfl rfl (fun bx0 hbx => ?_); try dsimp only [List.take, List.drop])
    | with_reducible (first | refine ar0 [] ?_ | refine ab0 ?_)
    | go_step)
   refine ⟨_, samebr_ok [y] [c] (by simp) (fun z hz => by rw [List.mem_singleton.1 hz]; exact hCs y (List.mem_of_getElem? hyj)), ?_⟩
   simp only [go_sem, simprocAttr, hF]
   repeat (first
    | (with_reducible (first | refine sg0 ?_ | refine hw0 ?_ | refine se0 ?_ | refine ai0 ?_ | refine as0 ?_ | refine at0 ?_ | refine ax0 ?_); simp only [go_sem, simprocAttr, hF])
    | ((with_reducible refine hg0 ?_); simp only [go_sem, simprocAttr, hF, hbx])
    | with_reducible refine aq0 fun _ _ => ?_
    | (refine awp_draw' (id := 10) [] 7 (by kernel_rfl) (by kernel_rfl) rfl rfl (fun bx0 hbx => ?_); try dsimp only [List.take, List.drop])
    | (refine awp_draw' (id := 17) [] 11 (by kernel_rfl) (by kernel_rfl) rfl rfl (fun bx0 hbx => ?_); try dsimp only [List.take, List.drop])
    | with_reducible (first | refine ar0 [] ?_ | refine ab0 ?_)
    | go_step)
   refine ⟨⟨j + 1, by omega⟩, by dsimp only; omega, hR2 _ _ (sub_mk ?_)⟩
   simp only [go_sem, simprocAttr, hF, hwj, hTj, hAs2]
end Go.Proofs.YticnppnejafhdaaGreatDoor

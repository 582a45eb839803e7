import Derived.Test.YticnppnejafhdaaGreatDoorZ12
set_option linter.unusedVariables false
set_option linter.unusedSimpArgs false
/- The reference of Find, by abstract states. -/
namespace Go.Proofs.YticnppnejafhdaaGreatDoor
open Go.RowKit
open Nd Rc Mo
open Av
set_option maxRecDepth 100000
set_option linter.unusedSimpArgs false
attribute [local go_sem] Av.guardB Av.sop Av.hopx Av.hop Av.hopCall Av.hopF Av.hopB Av.evo Av.evos Av.avCells Av.loadK Av.bound Av.abin Av.aun Av.partsC Av.lfill Av.placesB Av.setAt Av.stl Av.takes Av.src Av.bxOf Av.ownOf Av.St.res Av.St.put Av.St.addBox Av.St.putOwn Av.delL Av.delS Av.look Av.lookL Av.storeSt Av.stealSt Av.St.setBox Av.keepL Av.hitB Av.snap Av.snaps Av.snapCaps Av.AV.lit Av.AV.refs Av.capRefs Av.PV.av Av.CV.av Av.startSt Av.steals Av.athen Av.ablock Av.appK Av.AllS Av.AllO Av.AllR Av.keepS Av.St.avAt Av.RetOK Av.retAll Av.retOne Av.intsOf Av.ptrB TypeDesc.isRow List.range_zero Option.some.injEq exists_eq_left' exists_eq_left exists_eq' exists_and_left exists_and_right exists_const true_and and_true and_self false_and and_false or_false false_or or_true true_or if_true if_false Bool.false_eq_true List.zipIdx_cons List.zipIdx_nil List.map_cons List.map_nil List.filter_cons List.filter_nil List.contains_cons List.contains_nil List.drop_succ_cons List.drop_zero List.take_succ_cons List.take_zero List.take_nil List.drop_nil List.length_cons List.length_nil List.cons_append List.nil_append List.append_nil List.getElem?_cons_zero List.getElem?_cons_succ List.getElem?_nil Option.bind_some Option.bind_none Option.map_some Option.map_none Option.isNone_none Option.isNone_some Option.isSome_some Option.isSome_none Bool.and_true Bool.true_and Bool.and_false Bool.false_and Bool.or_false Bool.false_or Bool.not_true Bool.not_false beq_true beq_false Bool.true_beq Bool.false_beq Loc.s.injEq Loc.b.injEq decide_true decide_false beq_self_eq_true Nat.zero_add Nat.add_zero List.getElem?_toArray List.toList_toArray List.size_toArray Value.oneCell' List.all_cons List.all_nil Value.int.injEq AV.v.injEq AV.sl.injEq AV.agg.injEq AV.ref.injEq AV.ept.injEq AV.tup.injEq Value.bool.injEq PV.v.injEq PV.sl.injEq List.isEmpty_nil List.isEmpty_cons forall_const not_true_eq_false not_false_eq_true true_implies false_implies Value.string.injEq List.length_map List.getElem?_map Int.toNat_natCast Int.natCast_nonneg List.length_append Value.cells implies_true TypeDesc.struct.injEq TypeDesc.slice.injEq TypeDesc.array.injEq List.getElem?_toArray Prod.mk.injEq and_assoc exists_false List.cons.injEq Operand.tmp.injEq ite_self AV.fnv.injEq AV.clo.injEq ne_eq eq_self Tryz.sz3 Tryz.zr3 Tryz.by3 Tryz.pl3 Tryz.is3 Tryz.underlying3 Tryz.sz4 Tryz.zr4 Tryz.by4 Tryz.pl4 Tryz.is4 Tryz.underlying4 Tryz.sz43 Tryz.zr43 Tryz.by43 Tryz.pl43 Tryz.is43 Tryz.underlying43 Tryz.sz35 Tryz.zr35 Tryz.by35 Tryz.pl35 Tryz.is35 Tryz.underlying35 Tryz.sz33 Tryz.zr33 Tryz.by33 Tryz.pl33 Tryz.is33 Tryz.underlying33 Tryz.sz28 Tryz.zr28 Tryz.by28 Tryz.pl28 Tryz.is28 Tryz.underlying28 Tryz.sz39 Tryz.zr39 Tryz.by39 Tryz.pl39 Tryz.is39 Tryz.underlying39 Tryz.sz57 Tryz.zr57 Tryz.by57 Tryz.pl57 Tryz.is57 Tryz.underlying57 Tryz.sz137 Tryz.zr137 Tryz.by137 Tryz.pl137 Tryz.is137 Tryz.underlying137 Tryz.sz66 Tryz.zr66 Tryz.by66 Tryz.pl66 Tryz.is66 Tryz.underlying66 Tryz.sz64 Tryz.zr64 Tryz.by64 Tryz.pl64 Tryz.is64 Tryz.underlying64 Tryz.sz60 Tryz.zr60 Tryz.by60 Tryz.pl60 Tryz.is60 Tryz.underlying60 Tryz.sz100 Tryz.zr100 Tryz.by100 Tryz.pl100 Tryz.is100 Tryz.underlying100 Tryz.sz103 Tryz.zr103 Tryz.by103 Tryz.pl103 Tryz.is103 Tryz.underlying103 Tryz.sz26 Tryz.zr26 Tryz.by26 Tryz.pl26 Tryz.is26 Tryz.underlying26 Tryz.sz120 Tryz.zr120 Tryz.by120 Tryz.pl120 Tryz.is120 Tryz.underlying120 Tryz.sz117 Tryz.zr117 Tryz.by117 Tryz.pl117 Tryz.is117 Tryz.underlying117 Tryz.sz30 Tryz.zr30 Tryz.by30 Tryz.pl30 Tryz.is30 Tryz.underlying30 Tryz.sz31 Tryz.zr31 Tryz.by31 Tryz.pl31 Tryz.is31 Tryz.underlying31 Tryz.sz40 Tryz.zr40 Tryz.by40 Tryz.pl40 Tryz.is40 Tryz.underlying40 Tryz.sz23 Tryz.zr23 Tryz.by23 Tryz.pl23 Tryz.is23 Tryz.underlying23 Tryz.sz24 Tryz.zr24 Tryz.by24 Tryz.pl24 Tryz.is24 Tryz.underlying24 Tryz.sz22 Tryz.zr22 Tryz.by22 Tryz.pl22 Tryz.is22 Tryz.underlying22 Tryz.sz141 Tryz.zr141 Tryz.by141 Tryz.pl141 Tryz.is141 Tryz.underlying141 Tryz.sz42 Tryz.zr42 Tryz.by42 Tryz.pl42 Tryz.is42 Tryz.underlying42 Tryz.sz29 Tryz.zr29 Tryz.by29 Tryz.pl29 Tryz.is29 Tryz.underlying29 Tryz.sz83 Tryz.zr83 Tryz.by83 Tryz.pl83 Tryz.is83 Tryz.underlying83 Tryz.sz67 Tryz.zr67 Tryz.by67 Tryz.pl67 Tryz.is67 Tryz.underlying67 Tryz.sz20 Tryz.zr20 Tryz.by20 Tryz.pl20 Tryz.is20 Tryz.underlying20 Tryz.sz89 Tryz.zr89 Tryz.by89 Tryz.pl89 Tryz.is89 Tryz.underlying89 Tryz.sz132 Tryz.zr132 Tryz.by132 Tryz.pl132 Tryz.is132 Tryz.underlying132 Tryz.sz113 Tryz.zr113 Tryz.by113 Tryz.pl113 Tryz.is113 Tryz.underlying113 Tryz.sz9 Tryz.zr9 Tryz.by9 Tryz.pl9 Tryz.is9 Tryz.underlying9 Tryz.it39 Tryz.eg39 Tryz.it137 Tryz.eg137 Tryz.it66 Tryz.eg66 Tryz.it28 Tryz.eg28 Tryz.it60 Tryz.eg60 all_arr loc_ss loc_sb loc_bs loc_bb arr_two arr_one rg1 rg2 rg3 rg4 rg5 rg6 rg7 rg8 ResultVar.tmp.injEq Bool.not_true Bool.not_false undef Rc.Rec.pv Nd.Fl.pv Rc.Dlv.pv Rc.Att.pv Mo.Lt.pv Fn.func.injEq Mo.Net.pv Mo.Lk.pv prow_pv irow_pv Br.pv
theorem firstC_step0 {n : Net} {f : Fl} {r : Rec} {fr x y : Int} {p : List Int} {i : Nat} (hx : p[i]? = some x) (hy : p[i + 1]? = some y) :
    firstC n f r fr (p.drop i) = match (causesX n f r fr x y)[0]? with
      | some c => some c
      | none => firstC n f r fr (p.drop (i + 1)) := by
  rw [drop_of_get hx, drop_of_get hy, firstC, List.head?_eq_getElem?]
  cases (causesX n f r fr x y)[0]? <;> rfl
theorem firstC_end0 {n : Net} {f : Fl} {r : Rec} {fr : Int} {p : List Int} {i : Nat} (hi : p.length ≤ i + 1) : firstC n f r fr (p.drop i) = none := by
  have h : (p.drop i).length ≤ 1 := by rw [List.length_drop]; omega
  match hq : p.drop i with
  | [] => rfl
  | [x] => rfl
  | x :: y :: l => rw [hq] at h; simp at h

set_option maxHeartbeats 20000000 in
theorem rfind_okX (n : Net) (f : Fl) (ps : List (List Int)) (r : Rec) (fr : Int) (hS : SmallN n) (hla : r.al.length ≤ 1000000) (hld : r.dl.length ≤ 1000000) (hps : ps.length ≤ 1000000) (hpl : ∀ p ∈ ps, p.length ≤ 1000000) : FnOK Tryz.prog 12 [.agg n.pv, .agg f.pv, .sl 1 (ps.map prow_pv), .agg r.pv, iv fr] ⟨.tup [.g (findX n f ps r fr).1.pv, .c (ip (findX n f ps r fr).2)], none⟩ := by
  refine fn_ok Tryz.func12 (by kernel_rfl) rfl (by rw [Tryz.ntmps12]; exact of_decide_eq_true rfl) (fun F hF => ?_)
  rw [Tryz.ntmps12] at hF
  rw [Tryz.results12]
  repeat (first
    | (with_reducible (first | refine sops_go ?_ | refine headW_end ?_ | refine sops_end ?_ | refine awp_if ?_ | refine awp_skip ?_ | refine awp_ret ?_ | refine awp_exit ?_); simp only [go_sem, simprocAttr, hF])
    | ((with_reducible refine headW_go ?_); simp only [go_sem, simprocAttr, hF, hbx])
    | with_reducible refine awp_seq_k fun _ _ => ?_
    | (refine awp_draw' (id := 12) [78] 20 (by kernel_rfl) (by kernel_rfl) rfl rfl (fun bx0 hbx => ?_); try dsimp only [List.take, List.drop])
    | (refine awp_draw' (id := 14) [78] 6 (by kernel_rfl) (by kernel_rfl) rfl rfl (fun bx0 hbx => ?_); try dsimp only [List.take, List.drop])
    | with_reducible (first | refine awp_region [78] ?_ | refine awp_block ?_)
    | go_step)
  refine ⟨_, rlateL_ok n f ps r fr hS hla hld hps hpl, ?_⟩
  simp only [go_sem, simprocAttr, hF]
  by_cases hL : (lateX n f ps r fr).2 = 0
  case neg =>
    have e1 : ((lateX n f ps r fr).2 != 0) = true := by simpa using hL
    have hX : findX n f ps r fr = (ex0, (lateX n f ps r fr).2) := by unfold findX; rw [if_pos hL]
    try simp only [go_sem, simprocAttr, hF, e1]
    repeat (first
      | ((refine awp_nilB (c := .ret) 10 3 5 57 (cs := _) rfl rfl ?_); simp only [go_sem, simprocAttr, hF, e1])
      | (with_reducible (first | refine sops_go ?_ | refine headW_end ?_ | refine sops_end ?_ | refine awp_if ?_ | refine awp_skip ?_ | refine awp_ret ?_ | refine awp_exit ?_); simp only [go_sem, simprocAttr, hF, e1])
      | ((with_reducible refine headW_go ?_); simp only [go_sem, simprocAttr, hF, e1, hbx])
      | with_reducible refine awp_seq_k fun _ _ => ?_
      | (refine awp_draw' (id := 12) [78] 20 (by kernel_rfl) (by kernel_rfl) rfl rfl (fun bx0 hbx => ?_); try dsimp only [List.take, List.drop])
      | (refine awp_draw' (id := 14) [78] 6 (by kernel_rfl) (by kernel_rfl) rfl rfl (fun bx0 hbx => ?_); try dsimp only [List.take, List.drop])
      | with_reducible (first | refine awp_region [78] ?_ | refine awp_block ?_)
      | go_step)
    all_goals (try rw [hX])
    all_goals (try rfl)
  have e1 : ((lateX n f ps r fr).2 != 0) = false := by rw [hL]; rfl
  have LO := lateX_ok hL
  have hN := netOK (basicB_inv LO.base).1
  try simp only [go_sem, simprocAttr, hF, e1]
  repeat (first
    | (with_reducible (first | refine sops_go ?_ | refine headW_end ?_ | refine sops_end ?_ | refine awp_if ?_ | refine awp_skip ?_ | refine awp_ret ?_ | refine awp_exit ?_); simp only [go_sem, simprocAttr, hF, e1])
    | ((with_reducible refine headW_go ?_); simp only [go_sem, simprocAttr, hF, e1, hbx])
    | with_reducible refine awp_seq_k fun _ _ => ?_
    | (refine awp_draw' (id := 12) [78] 20 (by kernel_rfl) (by kernel_rfl) rfl rfl (fun bx0 hbx => ?_); try dsimp only [List.take, List.drop])
    | (refine awp_draw' (id := 14) [78] 6 (by kernel_rfl) (by kernel_rfl) rfl rfl (fun bx0 hbx => ?_); try dsimp only [List.take, List.drop])
    | with_reducible (first | refine awp_region [78] ?_ | refine awp_block ?_)
    | go_step)
  refine awp_nilB 14 3 5 57 (cs := _) rfl rfl ?_
  simp only [go_sem, simprocAttr, hF]
  refine awp_loop_by (ι := {k : Nat // k ≤ ps.length ∧ (ps.take k).any (fun p => (firstC n f r fr p).isNone) = false}) (fun k σ => ⟨(15, iv (k.1 : Int)) :: keepS [2, 4, 5, 6, 8, 10, 14] σ.slot, (14, [ip (lateX n f ps r fr).1.fl, ip (lateX n f ps r fr).1.fr, ip (lateX n f ps r fr).1.sl, .sl 5 (((ps.take k.1).filterMap (firstC n f r fr)).map Br.pv)]) :: keepS [5, 6, 8, 10] σ.box, [(.b 14 3, (57, 5))], σ.ext⟩) (fun k => ps.length - k.1) ⟨0, by omega, rfl⟩ (sub_mk ?_) (fun R hR k => ?_)
  · simp only [go_sem, simprocAttr, hF]
    repeat' (first | rfl | refine ⟨?_, ?_⟩)
  obtain ⟨k, hk, hT⟩ := k
  dsimp only
  simp only [go_sem, simprocAttr, hF]
  by_cases hlt : k < ps.length
  case neg =>
    have hd : decide ((k : Int) < (ps.length : Int)) = false := decide_eq_false (by omega)
    have hX : findX n f ps r fr = (⟨(lateX n f ps r fr).1, ps.filterMap (firstC n f r fr)⟩, 0) := by
      rw [List.take_of_length_le (by omega)] at hT
      unfold findX
      rw [if_neg (fun h => h hL), if_neg (by rw [hT]; decide)]
    have hall : List.take k ps = ps := List.take_of_length_le (by omega)
    repeat (first
      | (with_reducible (first | refine sops_go ?_ | refine headW_end ?_ | refine sops_end ?_ | refine awp_if ?_ | refine awp_skip ?_ | refine awp_ret ?_ | refine awp_exit ?_); simp only [go_sem, simprocAttr, hF, hd])
      | ((with_reducible refine headW_go ?_); simp only [go_sem, simprocAttr, hF, hd, hbx])
      | with_reducible refine awp_seq_k fun _ _ => ?_
      | (refine awp_draw' (id := 12) [78] 20 (by kernel_rfl) (by kernel_rfl) rfl rfl (fun bx0 hbx => ?_); try dsimp only [List.take, List.drop])
      | (refine awp_draw' (id := 14) [78] 6 (by kernel_rfl) (by kernel_rfl) rfl rfl (fun bx0 hbx => ?_); try dsimp only [List.take, List.drop])
      | with_reducible (first | refine awp_region [78] ?_ | refine awp_block ?_)
      | go_step)
    all_goals (try rw [hX])
    all_goals (try rw [hall])
    all_goals (try rfl)
  obtain ⟨p, hp⟩ := get_of_lt hlt
  have hd : decide ((k : Int) < (ps.length : Int)) = true := decide_eq_true (by omega)
  have hw : IntKind.i64.wrap ((k : Int) + 1) = ((k + 1 : Nat) : Int) := by rw [IntKind.wrap_i64]; omega
  obtain ⟨r1, r2, r3⟩ := route_inv (LO.rt p (List.mem_of_getElem? hp))
  have hTk : List.take (k + 1) ps = List.take k ps ++ [p] := by rw [List.take_add_one, hp]; rfl
  obtain ⟨acc, hacc⟩ : ∃ acc, acc = (List.take k ps).filterMap (firstC n f r fr) := ⟨_, rfl⟩
  have haccl : acc.length ≤ 2 := by
    rw [hacc]
    refine Nat.le_trans (List.length_filterMap_le _ _) ?_
    rw [List.length_take]
    have := LO.l2
    omega
  rw [← hacc]
  repeat (first
    | (with_reducible (first | refine sops_go ?_ | refine headW_end ?_ | refine sops_end ?_ | refine awp_if ?_ | refine awp_skip ?_ | refine awp_ret ?_ | refine awp_exit ?_); simp only [go_sem, simprocAttr, hF, hd, hp])
    | ((with_reducible refine headW_go ?_); simp only [go_sem, simprocAttr, hF, hd, hp, hbx])
    | with_reducible refine awp_seq_k fun _ _ => ?_
    | (refine awp_draw' (id := 12) [78] 20 (by kernel_rfl) (by kernel_rfl) rfl rfl (fun bx0 hbx => ?_); try dsimp only [List.take, List.drop])
    | (refine awp_draw' (id := 14) [78] 6 (by kernel_rfl) (by kernel_rfl) rfl rfl (fun bx0 hbx => ?_); try dsimp only [List.take, List.drop])
    | with_reducible (first | refine awp_region [78] ?_ | refine awp_block ?_)
    | go_step)
  refine awp_loop_by (ι := {x : Nat × Option Br // x.1 + 1 ≤ p.length ∧ (x.2 = none → firstC n f r fr p = firstC n f r fr (p.drop x.1)) ∧ (∀ c, x.2 = some c → firstC n f r fr p = some c)}) (fun x σ => ⟨(17, iv (x.1.1 : Int)) :: (16, bv x.1.2.isSome) :: keepS [2, 4, 5, 6, 8, 10, 14, 15] σ.slot, (14, [ip (lateX n f ps r fr).1.fl, ip (lateX n f ps r fr).1.fr, ip (lateX n f ps r fr).1.sl, .sl 5 ((acc ++ x.1.2.toList).map Br.pv)]) :: keepS [5, 6, 8, 10] σ.box, [(.b 14 3, (57, 5))], σ.ext⟩) (fun x => p.length - x.1.1) ⟨(0, none), by dsimp only; omega, fun _ => rfl, fun _ h => (by cases h)⟩ (sub_mk ?_) (fun R2 hR2 x => ?_)
  · simp only [go_sem, simprocAttr, hF]
    try simp only [Option.toList_none, List.append_nil, Option.isSome_none]
    repeat' (first | rfl | exact True.intro | refine ⟨?_, ?_⟩)
  obtain ⟨⟨i, oc⟩, hip, hN1, hS1⟩ := x
  dsimp only at hip hN1 hS1 ⊢
  simp only [go_sem, simprocAttr, hF]
  have hwi : IntKind.i64.wrap ((i : Int) + 1) = ((i + 1 : Nat) : Int) := by rw [IntKind.wrap_i64]; omega
  cases oc with
  | some c =>
    have hfc := hS1 c rfl
    have hany : (List.take (k + 1) ps).any (fun p => (firstC n f r fr p).isNone) = false := by rw [hTk, List.any_append, hT, List.any_cons, hfc]; rfl
    have hfm : (List.take (k + 1) ps).filterMap (firstC n f r fr) = acc ++ [c] := by rw [hTk, List.filterMap_append, hacc, List.filterMap_cons, hfc]; rfl
    cases hlti : decide (((i + 1 : Nat) : Int) < (p.length : Int)) with
    | false =>
      try simp only [go_sem, simprocAttr, hF, hwi, hp, hlti, Option.isSome_some, Option.toList_some]
      repeat (first
        | (with_reducible (first | refine sops_go ?_ | refine headW_end ?_ | refine sops_end ?_ | refine awp_if ?_ | refine awp_skip ?_ | refine awp_ret ?_ | refine awp_exit ?_); simp only [go_sem, simprocAttr, hF, hwi, hp, hlti, Option.isSome_some, Option.toList_some])
        | ((with_reducible refine headW_go ?_); simp only [go_sem, simprocAttr, hF, hwi, hp, hlti, Option.isSome_some, Option.toList_some, hbx])
        | with_reducible refine awp_seq_k fun _ _ => ?_
        | (refine awp_draw' (id := 12) [78] 20 (by kernel_rfl) (by kernel_rfl) rfl rfl (fun bx0 hbx => ?_); try dsimp only [List.take, List.drop])
        | (refine awp_draw' (id := 14) [78] 6 (by kernel_rfl) (by kernel_rfl) rfl rfl (fun bx0 hbx => ?_); try dsimp only [List.take, List.drop])
        | with_reducible (first | refine awp_region [78] ?_ | refine awp_block ?_)
        | go_step)
      refine ⟨⟨k + 1, by omega, hany⟩, by dsimp only; omega, hR _ _ (sub_mk ?_)⟩
      simp only [go_sem, simprocAttr, hF, hw, hfm]
    | true =>
      try simp only [go_sem, simprocAttr, hF, hwi, hp, hlti, Option.isSome_some, Option.toList_some]
      repeat (first
        | (with_reducible (first | refine sops_go ?_ | refine headW_end ?_ | refine sops_end ?_ | refine awp_if ?_ | refine awp_skip ?_ | refine awp_ret ?_ | refine awp_exit ?_); simp only [go_sem, simprocAttr, hF, hwi, hp, hlti, Option.isSome_some, Option.toList_some])
        | ((with_reducible refine headW_go ?_); simp only [go_sem, simprocAttr, hF, hwi, hp, hlti, Option.isSome_some, Option.toList_some, hbx])
        | with_reducible refine awp_seq_k fun _ _ => ?_
        | (refine awp_draw' (id := 12) [78] 20 (by kernel_rfl) (by kernel_rfl) rfl rfl (fun bx0 hbx => ?_); try dsimp only [List.take, List.drop])
        | (refine awp_draw' (id := 14) [78] 6 (by kernel_rfl) (by kernel_rfl) rfl rfl (fun bx0 hbx => ?_); try dsimp only [List.take, List.drop])
        | with_reducible (first | refine awp_region [78] ?_ | refine awp_block ?_)
        | go_step)
      refine ⟨⟨k + 1, by omega, hany⟩, by dsimp only; omega, hR _ _ (sub_mk ?_)⟩
      simp only [go_sem, simprocAttr, hF, hw, hfm]
  | none =>
    have hfc := hN1 rfl
    by_cases hlti : i + 1 < p.length
    case neg =>
      have hdi : decide (((i + 1 : Nat) : Int) < (p.length : Int)) = false := decide_eq_false (by omega)
      have hX : findX n f ps r fr = (ex0, 7) := by
        have hnn : firstC n f r fr p = none := by rw [hfc]; exact firstC_end0 (by omega)
        have hany : ps.any (fun p => (firstC n f r fr p).isNone) = true := List.any_eq_true.2 ⟨p, List.mem_of_getElem? hp, by rw [hnn]; rfl⟩
        unfold findX
        rw [if_neg (fun h => h hL), if_pos hany]
      try simp only [go_sem, simprocAttr, hF, hwi, hp, hdi, Option.isSome_none, Option.toList_none]
      repeat (first
        | ((refine awp_nilB (c := .ret) 10 3 5 57 (cs := _) rfl rfl ?_); simp only [go_sem, simprocAttr, hF, hwi, hp, hdi, Option.isSome_none, Option.toList_none])
        | (with_reducible (first | refine sops_go ?_ | refine headW_end ?_ | refine sops_end ?_ | refine awp_if ?_ | refine awp_skip ?_ | refine awp_ret ?_ | refine awp_exit ?_); simp only [go_sem, simprocAttr, hF, hwi, hp, hdi, Option.isSome_none, Option.toList_none])
        | ((with_reducible refine headW_go ?_); simp only [go_sem, simprocAttr, hF, hwi, hp, hdi, Option.isSome_none, Option.toList_none, hbx])
        | with_reducible refine awp_seq_k fun _ _ => ?_
        | (refine awp_draw' (id := 12) [78] 20 (by kernel_rfl) (by kernel_rfl) rfl rfl (fun bx0 hbx => ?_); try dsimp only [List.take, List.drop])
        | (refine awp_draw' (id := 14) [78] 6 (by kernel_rfl) (by kernel_rfl) rfl rfl (fun bx0 hbx => ?_); try dsimp only [List.take, List.drop])
        | with_reducible (first | refine awp_region [78] ?_ | refine awp_block ?_)
        | go_step)
      all_goals (try rw [hX])
      all_goals (try rfl)
    have hdi : decide (((i + 1 : Nat) : Int) < (p.length : Int)) = true := decide_eq_true (by omega)
    obtain ⟨x, hx⟩ := get_of_lt (l := p) (k := i) (by omega)
    obtain ⟨y, hy⟩ := get_of_lt (l := p) (k := i + 1) hlti
    have hst := firstC_step0 (n := n) (f := f) (r := r) (fr := fr) hx hy
    have hix := r3 i x y hx hy
    try simp only [go_sem, simprocAttr, hF, hwi, hp, hdi, hx, hy, Option.isSome_none, Option.toList_none, List.append_nil]
    repeat (first
      | (with_reducible (first | refine sops_go ?_ | refine headW_end ?_ | refine sops_end ?_ | refine awp_if ?_ | refine awp_skip ?_ | refine awp_ret ?_ | refine awp_exit ?_); simp only [go_sem, simprocAttr, hF, hwi, hp, hdi, hx, hy, Option.isSome_none, Option.toList_none, List.append_nil])
      | ((with_reducible refine headW_go ?_); simp only [go_sem, simprocAttr, hF, hwi, hp, hdi, hx, hy, Option.isSome_none, Option.toList_none, List.append_nil, hbx])
      | with_reducible refine awp_seq_k fun _ _ => ?_
      | (refine awp_draw' (id := 12) [78] 20 (by kernel_rfl) (by kernel_rfl) rfl rfl (fun bx0 hbx => ?_); try dsimp only [List.take, List.drop])
      | (refine awp_draw' (id := 14) [78] 6 (by kernel_rfl) (by kernel_rfl) rfl rfl (fun bx0 hbx => ?_); try dsimp only [List.take, List.drop])
      | with_reducible (first | refine awp_region [78] ?_ | refine awp_block ?_)
      | go_step)
    refine ⟨_, rcauses_ok n f r fr x y hS LO.base ⟨LO.fr0, LO.fr1⟩ hix hla, ?_⟩
    simp only [go_sem, simprocAttr, hF, hwi, hp, hdi, hx, hy, Option.isSome_none, Option.toList_none, List.append_nil]
    generalize causesX n f r fr x y = CX at hst ⊢
    cases CX with
    | nil =>
      have hst' : firstC n f r fr p = firstC n f r fr (p.drop (i + 1)) := by rw [hfc, hst]; rfl
      have e4 : decide ((0 : Int) < ((0 : Nat) : Int)) = false := rfl
      try simp only [go_sem, simprocAttr, hF, hwi, hp, hdi, hx, hy, Option.isSome_none, Option.toList_none, List.append_nil, List.map_nil, List.length_nil, e4]
      repeat (first
        | (with_reducible (first | refine sops_go ?_ | refine headW_end ?_ | refine sops_end ?_ | refine awp_if ?_ | refine awp_skip ?_ | refine awp_ret ?_ | refine awp_exit ?_); simp only [go_sem, simprocAttr, hF, hwi, hp, hdi, hx, hy, Option.isSome_none, Option.toList_none, List.append_nil, List.map_nil, List.length_nil, e4])
        | ((with_reducible refine headW_go ?_); simp only [go_sem, simprocAttr, hF, hwi, hp, hdi, hx, hy, Option.isSome_none, Option.toList_none, List.append_nil, List.map_nil, List.length_nil, e4, hbx])
        | with_reducible refine awp_seq_k fun _ _ => ?_
        | (refine awp_draw' (id := 12) [78] 20 (by kernel_rfl) (by kernel_rfl) rfl rfl (fun bx0 hbx => ?_); try dsimp only [List.take, List.drop])
        | (refine awp_draw' (id := 14) [78] 6 (by kernel_rfl) (by kernel_rfl) rfl rfl (fun bx0 hbx => ?_); try dsimp only [List.take, List.drop])
        | with_reducible (first | refine awp_region [78] ?_ | refine awp_block ?_)
        | go_step)
      refine ⟨⟨(i + 1, none), by dsimp only; omega, fun _ => hst', fun _ h => (by cases h)⟩, by dsimp only; omega, hR2 _ _ (sub_mk ?_)⟩
      simp only [go_sem, simprocAttr, hF, hwi, Option.isSome_none, Option.toList_none, List.append_nil]
    | cons c CX =>
      have hst' : firstC n f r fr p = some c := by rw [hfc, hst]; rfl
      have e4 : decide ((0 : Int) < ((CX.length + 1 : Nat) : Int)) = true := decide_eq_true (by omega)
      have z0 : Int.toNat 0 = 0 := rfl
      have hal : acc.length ≤ 99999999 := by omega
      try simp only [go_sem, simprocAttr, hF, hwi, hp, hdi, hx, hy, Option.isSome_none, Option.toList_none, List.append_nil, List.map_cons, List.length_cons, e4, z0, hal]
      repeat (first
        | (with_reducible (first | refine sops_go ?_ | refine headW_end ?_ | refine sops_end ?_ | refine awp_if ?_ | refine awp_skip ?_ | refine awp_ret ?_ | refine awp_exit ?_); simp only [go_sem, simprocAttr, hF, hwi, hp, hdi, hx, hy, Option.isSome_none, Option.toList_none, List.append_nil, List.map_cons, List.length_cons, e4, z0, hal])
        | ((with_reducible refine headW_go ?_); simp only [go_sem, simprocAttr, hF, hwi, hp, hdi, hx, hy, Option.isSome_none, Option.toList_none, List.append_nil, List.map_cons, List.length_cons, e4, z0, hal, hbx])
        | with_reducible refine awp_seq_k fun _ _ => ?_
        | (refine awp_draw' (id := 12) [78] 20 (by kernel_rfl) (by kernel_rfl) rfl rfl (fun bx0 hbx => ?_); try dsimp only [List.take, List.drop])
        | (refine awp_draw' (id := 14) [78] 6 (by kernel_rfl) (by kernel_rfl) rfl rfl (fun bx0 hbx => ?_); try dsimp only [List.take, List.drop])
        | with_reducible (first | refine awp_region [78] ?_ | refine awp_block ?_)
        | go_step)
      refine ⟨⟨(i + 1, some c), by dsimp only; omega, fun h => (by cases h), fun _ h => (by cases h; exact hst')⟩, by dsimp only; omega, hR2 _ _ (sub_mk ?_)⟩
      simp only [go_sem, simprocAttr, hF, hwi, Option.isSome_some, Option.toList_some, List.map_append, List.map_cons, List.map_nil, Br.pv]
/- By abstract states: equal lists of breaches. -/
set_option maxHeartbeats 20000000 in
theorem samebr_ok (a b : List Br) (ha : a.length ≤ 1000000) (hs : ∀ x ∈ a, x.sl.length ≤ 1000000) : FnOK Tryz.prog 16 [.sl 5 (a.map Br.pv), .sl 5 (b.map Br.pv)] ⟨bv (decide (a = b)), none⟩ := by
  refine fn_ok Tryz.func16 (by kernel_rfl) rfl (by rw [Tryz.ntmps16]; exact of_decide_eq_true rfl) (fun F hF => ?_)
  rw [Tryz.ntmps16] at hF
  rw [Tryz.results16]
  have hal : ((a.length : Int) != (b.length : Int)) = !decide (a.length = b.length) := by rw [Bool.eq_iff_iff]; simp; omega
  by_cases hl : a.length = b.length
  case neg =>
    have hn : decide (a.length = b.length) = false := decide_eq_false hl
    repeat (first
      | (with_reducible (first | refine sops_go ?_ | refine headW_end ?_ | refine sops_end ?_ | refine awp_if ?_ | refine awp_skip ?_ | refine awp_ret ?_ | refine awp_exit ?_); simp only [go_sem, simprocAttr, hF, hal, hn])
      | ((with_reducible refine headW_go ?_); simp only [go_sem, simprocAttr, hF, hal, hn, hbx])
      | with_reducible refine awp_seq_k fun _ _ => ?_
      | (refine awp_draw' (id := 11) [] 17 (by kernel_rfl) (by kernel_rfl) rfl rfl (fun bx0 hbx => ?_); try dsimp only [List.take, List.drop])
      | (refine awp_draw' (id := 6) [] 65 (by kernel_rfl) (by kernel_rfl) rfl rfl (fun bx0 hbx => ?_); try dsimp only [List.take, List.drop])
      | with_reducible (first | refine awp_region [] ?_ | refine awp_block ?_)
      | go_step)
    rw [decide_eq_false (fun h => hl (by rw [h]))]
  have hn : decide (a.length = b.length) = true := decide_eq_true hl
  repeat (first
    | (with_reducible (first | refine sops_go ?_ | refine headW_end ?_ | refine sops_end ?_ | refine awp_if ?_ | refine awp_skip ?_ | refine awp_ret ?_ | refine awp_exit ?_); simp only [go_sem, simprocAttr, hF, hal, hn])
    | ((with_reducible refine headW_go ?_); simp only [go_sem, simprocAttr, hF, hal, hn, hbx])
    | with_reducible refine awp_seq_k fun _ _ => ?_
    | (refine awp_draw' (id := 11) [] 17 (by kernel_rfl) (by kernel_rfl) rfl rfl (fun bx0 hbx => ?_); try dsimp only [List.take, List.drop])
    | (refine awp_draw' (id := 6) [] 65 (by kernel_rfl) (by kernel_rfl) rfl rfl (fun bx0 hbx => ?_); try dsimp only [List.take, List.drop])
    | with_reducible (first | refine awp_region [] ?_ | refine awp_block ?_)
    | go_step)
  refine awp_loop_by (ι := {k : Nat // k ≤ a.length ∧ decide (a = b) = decide (a.drop k = b.drop k)}) (fun k σ => ⟨(5, iv (k.1 : Int)) :: keepS [0, 1, 4] σ.slot, σ.box, [], σ.ext⟩) (fun k => a.length - k.1) ⟨0, by omega, rfl⟩ (sub_mk ?_) (fun R hR k => ?_)
  · simp only [go_sem, simprocAttr, hF]
    repeat' (first | rfl | refine ⟨?_, ?_⟩)
  obtain ⟨k, hk, hT⟩ := k
  dsimp only
  simp only [go_sem, simprocAttr, hF]
  by_cases hlt : k < a.length
  case neg =>
    have hd : decide ((k : Int) < (a.length : Int)) = false := decide_eq_false (by omega)
    repeat (first
      | (with_reducible (first | refine sops_go ?_ | refine headW_end ?_ | refine sops_end ?_ | refine awp_if ?_ | refine awp_skip ?_ | refine awp_ret ?_ | refine awp_exit ?_); simp only [go_sem, simprocAttr, hF, hd])
      | ((with_reducible refine headW_go ?_); simp only [go_sem, simprocAttr, hF, hd, hbx])
      | with_reducible refine awp_seq_k fun _ _ => ?_
      | (refine awp_draw' (id := 11) [] 17 (by kernel_rfl) (by kernel_rfl) rfl rfl (fun bx0 hbx => ?_); try dsimp only [List.take, List.drop])
      | (refine awp_draw' (id := 6) [] 65 (by kernel_rfl) (by kernel_rfl) rfl rfl (fun bx0 hbx => ?_); try dsimp only [List.take, List.drop])
      | with_reducible (first | refine awp_region [] ?_ | refine awp_block ?_)
      | go_step)
    rw [hT, List.drop_of_length_le (by omega), List.drop_of_length_le (by omega)]
    rfl
  obtain ⟨x, hxk⟩ := get_of_lt hlt
  obtain ⟨y, hyk⟩ := get_of_lt (l := b) (k := k) (by omega)
  have hd : decide ((k : Int) < (a.length : Int)) = true := decide_eq_true (by omega)
  have hw : IntKind.i64.wrap ((k : Int) + 1) = ((k + 1 : Nat) : Int) := by rw [IntKind.wrap_i64]; omega
  have hxs := hs x (List.mem_of_getElem? hxk)
  have hT' : decide (a = b) = (decide (x = y) && decide (a.drop (k + 1) = b.drop (k + 1))) := by
    rw [hT, drop_of_get hxk, drop_of_get hyk, Bool.eq_iff_iff]
    simp
  have bad : decide (x = y) = false → decide (a = b) = false := fun h => by rw [hT', h]; rfl
  by_cases h0 : x.fl = y.fl
  case neg =>
    have g0 : (x.fl != y.fl) = true := by simpa using h0
    repeat (first
      | (with_reducible (first | refine sops_go ?_ | refine headW_end ?_ | refine sops_end ?_ | refine awp_if ?_ | refine awp_skip ?_ | refine awp_ret ?_ | refine awp_exit ?_); simp only [go_sem, simprocAttr, hF, hd, hxk, hyk, g0])
      | ((with_reducible refine headW_go ?_); simp only [go_sem, simprocAttr, hF, hd, hxk, hyk, g0, hbx])
      | with_reducible refine awp_seq_k fun _ _ => ?_
      | (refine awp_draw' (id := 11) [] 17 (by kernel_rfl) (by kernel_rfl) rfl rfl (fun bx0 hbx => ?_); try dsimp only [List.take, List.drop])
      | (with_reducible refine awp_region (id := 0) [] ?_)
      | (with_reducible refine awp_region (id := 1) [] ?_)
      | (with_reducible refine awp_region (id := 2) [] ?_)
      | (with_reducible refine awp_region (id := 3) [] ?_)
      | (with_reducible refine awp_region (id := 4) [] ?_)
      | (with_reducible refine awp_region (id := 7) [] ?_)
      | (with_reducible refine awp_region (id := 8) [] ?_)
      | (with_reducible refine awp_region (id := 9) [] ?_)
      | (with_reducible refine awp_region (id := 12) [] ?_)
      | (with_reducible refine awp_region (id := 10) [] ?_)
      | (with_reducible refine awp_region (id := 5) [] ?_)
      | (with_reducible refine awp_region (id := 13) [] ?_)
      | (with_reducible refine awp_block ?_)
      | go_step)
    try simp only [List.append_eq, List.cons_append, List.nil_append]
    repeat (first
      | (with_reducible (first | refine sops_go ?_ | refine headW_end ?_ | refine sops_end ?_ | refine awp_if ?_ | refine awp_skip ?_ | refine awp_ret ?_ | refine awp_exit ?_); simp only [go_sem, simprocAttr, hF, hd, hxk, hyk, g0])
      | ((with_reducible refine headW_go ?_); simp only [go_sem, simprocAttr, hF, hd, hxk, hyk, g0, hbx])
      | with_reducible refine awp_seq_k fun _ _ => ?_
      | (refine awp_draw' (id := 11) [] 17 (by kernel_rfl) (by kernel_rfl) rfl rfl (fun bx0 hbx => ?_); try dsimp only [List.take, List.drop])
      | (refine awp_draw' (id := 6) [] 65 (by kernel_rfl) (by kernel_rfl) rfl rfl (fun bx0 hbx => ?_); try dsimp only [List.take, List.drop])
      | with_reducible (first | refine awp_region [] ?_ | refine awp_block ?_)
      | go_step)
    rw [bad (decide_eq_false fun h => h0 (by rw [h]))]
  have g0 : (x.fl != y.fl) = false := by simpa using h0
  by_cases h1 : x.fr = y.fr
  case neg =>
    have g1 : (x.fr != y.fr) = true := by simpa using h1
    repeat (first
      | (with_reducible (first | refine sops_go ?_ | refine headW_end ?_ | refine sops_end ?_ | refine awp_if ?_ | refine awp_skip ?_ | refine awp_ret ?_ | refine awp_exit ?_); simp only [go_sem, simprocAttr, hF, hd, hxk, hyk, g0, g1])
      | ((with_reducible refine headW_go ?_); simp only [go_sem, simprocAttr, hF, hd, hxk, hyk, g0, g1, hbx])
      | with_reducible refine awp_seq_k fun _ _ => ?_
      | (refine awp_draw' (id := 11) [] 17 (by kernel_rfl) (by kernel_rfl) rfl rfl (fun bx0 hbx => ?_); try dsimp only [List.take, List.drop])
      | (with_reducible refine awp_region (id := 0) [] ?_)
      | (with_reducible refine awp_region (id := 1) [] ?_)
      | (with_reducible refine awp_region (id := 2) [] ?_)
      | (with_reducible refine awp_region (id := 3) [] ?_)
      | (with_reducible refine awp_region (id := 4) [] ?_)
      | (with_reducible refine awp_region (id := 7) [] ?_)
      | (with_reducible refine awp_region (id := 8) [] ?_)
      | (with_reducible refine awp_region (id := 9) [] ?_)
      | (with_reducible refine awp_region (id := 12) [] ?_)
      | (with_reducible refine awp_region (id := 10) [] ?_)
      | (with_reducible refine awp_region (id := 5) [] ?_)
      | (with_reducible refine awp_region (id := 13) [] ?_)
      | (with_reducible refine awp_block ?_)
      | go_step)
    try simp only [List.append_eq, List.cons_append, List.nil_append]
    repeat (first
      | (with_reducible (first | refine sops_go ?_ | refine headW_end ?_ | refine sops_end ?_ | refine awp_if ?_ | refine awp_skip ?_ | refine awp_ret ?_ | refine awp_exit ?_); simp only [go_sem, simprocAttr, hF, hd, hxk, hyk, g0, g1])
      | ((with_reducible refine headW_go ?_); simp only [go_sem, simprocAttr, hF, hd, hxk, hyk, g0, g1, hbx])
      | with_reducible refine awp_seq_k fun _ _ => ?_
      | (refine awp_draw' (id := 11) [] 17 (by kernel_rfl) (by kernel_rfl) rfl rfl (fun bx0 hbx => ?_); try dsimp only [List.take, List.drop])
      | (refine awp_draw' (id := 6) [] 65 (by kernel_rfl) (by kernel_rfl) rfl rfl (fun bx0 hbx => ?_); try dsimp only [List.take, List.drop])
      | with_reducible (first | refine awp_region [] ?_ | refine awp_block ?_)
      | go_step)
    rw [bad (decide_eq_false fun h => h1 (by rw [h]))]
  have g1 : (x.fr != y.fr) = false := by simpa using h1
  by_cases h2 : x.fm = y.fm
  case neg =>
    have g2 : (x.fm != y.fm) = true := by simpa using h2
    repeat (first
      | (with_reducible (first | refine sops_go ?_ | refine headW_end ?_ | refine sops_end ?_ | refine awp_if ?_ | refine awp_skip ?_ | refine awp_ret ?_ | refine awp_exit ?_); simp only [go_sem, simprocAttr, hF, hd, hxk, hyk, g0, g1, g2])
      | ((with_reducible refine headW_go ?_); simp only [go_sem, simprocAttr, hF, hd, hxk, hyk, g0, g1, g2, hbx])
      | with_reducible refine awp_seq_k fun _ _ => ?_
      | (refine awp_draw' (id := 11) [] 17 (by kernel_rfl) (by kernel_rfl) rfl rfl (fun bx0 hbx => ?_); try dsimp only [List.take, List.drop])
      | (with_reducible refine awp_region (id := 0) [] ?_)
      | (with_reducible refine awp_region (id := 1) [] ?_)
      | (with_reducible refine awp_region (id := 2) [] ?_)
      | (with_reducible refine awp_region (id := 3) [] ?_)
      | (with_reducible refine awp_region (id := 4) [] ?_)
      | (with_reducible refine awp_region (id := 7) [] ?_)
      | (with_reducible refine awp_region (id := 8) [] ?_)
      | (with_reducible refine awp_region (id := 9) [] ?_)
      | (with_reducible refine awp_region (id := 12) [] ?_)
      | (with_reducible refine awp_region (id := 10) [] ?_)
      | (with_reducible refine awp_region (id := 5) [] ?_)
      | (with_reducible refine awp_region (id := 13) [] ?_)
      | (with_reducible refine awp_block ?_)
      | go_step)
    try simp only [List.append_eq, List.cons_append, List.nil_append]
    repeat (first
      | (with_reducible (first | refine sops_go ?_ | refine headW_end ?_ | refine sops_end ?_ | refine awp_if ?_ | refine awp_skip ?_ | refine awp_ret ?_ | refine awp_exit ?_); simp only [go_sem, simprocAttr, hF, hd, hxk, hyk, g0, g1, g2])
      | ((with_reducible refine headW_go ?_); simp only [go_sem, simprocAttr, hF, hd, hxk, hyk, g0, g1, g2, hbx])
      | with_reducible refine awp_seq_k fun _ _ => ?_
      | (refine awp_draw' (id := 11) [] 17 (by kernel_rfl) (by kernel_rfl) rfl rfl (fun bx0 hbx => ?_); try dsimp only [List.take, List.drop])
      | (refine awp_draw' (id := 6) [] 65 (by kernel_rfl) (by kernel_rfl) rfl rfl (fun bx0 hbx => ?_); try dsimp only [List.take, List.drop])
      | with_reducible (first | refine awp_region [] ?_ | refine awp_block ?_)
      | go_step)
    rw [bad (decide_eq_false fun h => h2 (by rw [h]))]
  have g2 : (x.fm != y.fm) = false := by simpa using h2
  by_cases h3 : x.tt = y.tt
  case neg =>
    have g3 : (x.tt != y.tt) = true := by simpa using h3
    repeat (first
      | (with_reducible (first | refine sops_go ?_ | refine headW_end ?_ | refine sops_end ?_ | refine awp_if ?_ | refine awp_skip ?_ | refine awp_ret ?_ | refine awp_exit ?_); simp only [go_sem, simprocAttr, hF, hd, hxk, hyk, g0, g1, g2, g3])
      | ((with_reducible refine headW_go ?_); simp only [go_sem, simprocAttr, hF, hd, hxk, hyk, g0, g1, g2, g3, hbx])
      | with_reducible refine awp_seq_k fun _ _ => ?_
      | (refine awp_draw' (id := 11) [] 17 (by kernel_rfl) (by kernel_rfl) rfl rfl (fun bx0 hbx => ?_); try dsimp only [List.take, List.drop])
      | (with_reducible refine awp_region (id := 0) [] ?_)
      | (with_reducible refine awp_region (id := 1) [] ?_)
      | (with_reducible refine awp_region (id := 2) [] ?_)
      | (with_reducible refine awp_region (id := 3) [] ?_)
      | (with_reducible refine awp_region (id := 4) [] ?_)
      | (with_reducible refine awp_region (id := 7) [] ?_)
      | (with_reducible refine awp_region (id := 8) [] ?_)
      | (with_reducible refine awp_region (id := 9) [] ?_)
      | (with_reducible refine awp_region (id := 12) [] ?_)
      | (with_reducible refine awp_region (id := 10) [] ?_)
      | (with_reducible refine awp_region (id := 5) [] ?_)
      | (with_reducible refine awp_region (id := 13) [] ?_)
      | (with_reducible refine awp_block ?_)
      | go_step)
    try simp only [List.append_eq, List.cons_append, List.nil_append]
    repeat (first
      | (with_reducible (first | refine sops_go ?_ | refine headW_end ?_ | refine sops_end ?_ | refine awp_if ?_ | refine awp_skip ?_ | refine awp_ret ?_ | refine awp_exit ?_); simp only [go_sem, simprocAttr, hF, hd, hxk, hyk, g0, g1, g2, g3])
      | ((with_reducible refine headW_go ?_); simp only [go_sem, simprocAttr, hF, hd, hxk, hyk, g0, g1, g2, g3, hbx])
      | with_reducible refine awp_seq_k fun _ _ => ?_
      | (refine awp_draw' (id := 11) [] 17 (by kernel_rfl) (by kernel_rfl) rfl rfl (fun bx0 hbx => ?_); try dsimp only [List.take, List.drop])
      | (refine awp_draw' (id := 6) [] 65 (by kernel_rfl) (by kernel_rfl) rfl rfl (fun bx0 hbx => ?_); try dsimp only [List.take, List.drop])
      | with_reducible (first | refine awp_region [] ?_ | refine awp_block ?_)
      | go_step)
    rw [bad (decide_eq_false fun h => h3 (by rw [h]))]
  have g3 : (x.tt != y.tt) = false := by simpa using h3
  have hal5 : ((x.sl.length : Int) != (y.sl.length : Int)) = !decide (x.sl.length = y.sl.length) := by rw [Bool.eq_iff_iff]; simp; omega
  by_cases h5 : x.sl.length = y.sl.length
  case neg =>
    have g5 : ((x.sl.length : Int) != (y.sl.length : Int)) = true := by rw [hal5]; simp [h5]
    repeat (first
      | (with_reducible (first | refine sops_go ?_ | refine headW_end ?_ | refine sops_end ?_ | refine awp_if ?_ | refine awp_skip ?_ | refine awp_ret ?_ | refine awp_exit ?_); simp only [go_sem, simprocAttr, hF, hd, hxk, hyk, g0, g1, g2, g3, g5])
      | ((with_reducible refine headW_go ?_); simp only [go_sem, simprocAttr, hF, hd, hxk, hyk, g0, g1, g2, g3, g5, hbx])
      | with_reducible refine awp_seq_k fun _ _ => ?_
      | (refine awp_draw' (id := 11) [] 17 (by kernel_rfl) (by kernel_rfl) rfl rfl (fun bx0 hbx => ?_); try dsimp only [List.take, List.drop])
      | (with_reducible refine awp_region (id := 0) [] ?_)
      | (with_reducible refine awp_region (id := 1) [] ?_)
      | (with_reducible refine awp_region (id := 2) [] ?_)
      | (with_reducible refine awp_region (id := 3) [] ?_)
      | (with_reducible refine awp_region (id := 4) [] ?_)
      | (with_reducible refine awp_region (id := 7) [] ?_)
      | (with_reducible refine awp_region (id := 8) [] ?_)
      | (with_reducible refine awp_region (id := 9) [] ?_)
      | (with_reducible refine awp_region (id := 12) [] ?_)
      | (with_reducible refine awp_region (id := 10) [] ?_)
      | (with_reducible refine awp_region (id := 5) [] ?_)
      | (with_reducible refine awp_region (id := 13) [] ?_)
      | (with_reducible refine awp_block ?_)
      | go_step)
    try simp only [List.append_eq, List.cons_append, List.nil_append]
    repeat (first
      | (with_reducible (first | refine sops_go ?_ | refine headW_end ?_ | refine sops_end ?_ | refine awp_if ?_ | refine awp_skip ?_ | refine awp_ret ?_ | refine awp_exit ?_); simp only [go_sem, simprocAttr, hF, hd, hxk, hyk, g0, g1, g2, g3, g5])
      | ((with_reducible refine headW_go ?_); simp only [go_sem, simprocAttr, hF, hd, hxk, hyk, g0, g1, g2, g3, g5, hbx])
      | with_reducible refine awp_seq_k fun _ _ => ?_
      | (refine awp_draw' (id := 11) [] 17 (by kernel_rfl) (by kernel_rfl) rfl rfl (fun bx0 hbx => ?_); try dsimp only [List.take, List.drop])
      | (refine awp_draw' (id := 6) [] 65 (by kernel_rfl) (by kernel_rfl) rfl rfl (fun bx0 hbx => ?_); try dsimp only [List.take, List.drop])
      | with_reducible (first | refine awp_region [] ?_ | refine awp_block ?_)
      | go_step)
    rw [bad (decide_eq_false fun h => h5 (by rw [h]))]
  have g5 : ((x.sl.length : Int) != (y.sl.length : Int)) = false := by rw [hal5]; simp [h5]
  repeat (first
    | (with_reducible (first | refine sops_go ?_ | refine headW_end ?_ | refine sops_end ?_ | refine awp_if ?_ | refine awp_skip ?_ | refine awp_ret ?_ | refine awp_exit ?_); simp only [go_sem, simprocAttr, hF, hd, hxk, hyk, g0, g1, g2, g3, g5])
    | ((with_reducible refine headW_go ?_); simp only [go_sem, simprocAttr, hF, hd, hxk, hyk, g0, g1, g2, g3, g5, hbx])
    | with_reducible refine awp_seq_k fun _ _ => ?_
    | (refine awp_draw' (id := 11) [] 17 (by kernel_rfl) (by kernel_rfl) rfl rfl (fun bx0 hbx => ?_); try dsimp only [List.take, List.drop])
    | (with_reducible refine awp_region (id := 0) [] ?_)
    | (with_reducible refine awp_region (id := 1) [] ?_)
    | (with_reducible refine awp_region (id := 2) [] ?_)
    | (with_reducible refine awp_region (id := 3) [] ?_)
    | (with_reducible refine awp_region (id := 4) [] ?_)
    | (with_reducible refine awp_region (id := 7) [] ?_)
    | (with_reducible refine awp_region (id := 8) [] ?_)
    | (with_reducible refine awp_region (id := 9) [] ?_)
    | (with_reducible refine awp_region (id := 12) [] ?_)
    | (with_reducible refine awp_region (id := 10) [] ?_)
    | (with_reducible refine awp_region (id := 5) [] ?_)
    | (with_reducible refine awp_region (id := 13) [] ?_)
    | (with_reducible refine awp_block ?_)
    | go_step)
  try simp only [List.append_eq, List.cons_append, List.nil_append]
  repeat (first
    | (with_reducible (first | refine sops_go ?_ | refine headW_end ?_ | refine sops_end ?_ | refine awp_if ?_ | refine awp_skip ?_ | refine awp_ret ?_ | refine awp_exit ?_); simp only [go_sem, simprocAttr, hF, hd, hxk, hyk, g0, g1, g2, g3, g5])
    | ((with_reducible refine headW_go ?_); simp only [go_sem, simprocAttr, hF, hd, hxk, hyk, g0, g1, g2, g3, g5, hbx])
    | with_reducible refine awp_seq_k fun _ _ => ?_
    | (refine awp_draw' (id := 11) [] 17 (by kernel_rfl) (by kernel_rfl) rfl rfl (fun bx0 hbx => ?_); try dsimp only [List.take, List.drop])
    | (refine awp_draw' (id := 6) [] 65 (by kernel_rfl) (by kernel_rfl) rfl rfl (fun bx0 hbx => ?_); try dsimp only [List.take, List.drop])
    | with_reducible (first | refine awp_region [] ?_ | refine awp_block ?_)
    | go_step)
  refine awp_loop_by (ι := {j : Nat // j ≤ x.sl.length ∧ decide (x.sl = y.sl) = decide (x.sl.drop j = y.sl.drop j)}) (fun j σ => ⟨(6, iv (j.1 : Int)) :: keepS [0, 1, 4, 5] σ.slot, σ.box, [], σ.ext⟩) (fun j => x.sl.length - j.1) ⟨0, by omega, rfl⟩ (sub_mk ?_) (fun R2 hR2 j => ?_)
  · simp only [go_sem, simprocAttr, hF]
    repeat' (first | rfl | refine ⟨?_, ?_⟩)
  obtain ⟨j, hj, hU⟩ := j
  dsimp only
  simp only [go_sem, simprocAttr, hF]
  by_cases hjt : j < x.sl.length
  case neg =>
    have hdj : decide ((j : Int) < (x.sl.length : Int)) = false := decide_eq_false (by omega)
    have hxy : decide (x = y) = true := by
      rw [List.drop_of_length_le (by omega), List.drop_of_length_le (by omega)] at hU
      have hsl : x.sl = y.sl := of_decide_eq_true hU
      refine decide_eq_true ?_
      obtain ⟨x1, x2, x3, x4, x5⟩ := x
      obtain ⟨y1, y2, y3, y4, y5⟩ := y
      simp only [Br.mk.injEq]
      exact ⟨h0, h1, h2, h3, hsl⟩
    repeat (first
      | (with_reducible (first | refine sops_go ?_ | refine headW_end ?_ | refine sops_end ?_ | refine awp_if ?_ | refine awp_skip ?_ | refine awp_ret ?_ | refine awp_exit ?_); simp only [go_sem, simprocAttr, hF, hxk, hyk, hdj])
      | ((with_reducible refine headW_go ?_); simp only [go_sem, simprocAttr, hF, hxk, hyk, hdj, hbx])
      | with_reducible refine awp_seq_k fun _ _ => ?_
      | (refine awp_draw' (id := 11) [] 17 (by kernel_rfl) (by kernel_rfl) rfl rfl (fun bx0 hbx => ?_); try dsimp only [List.take, List.drop])
      | (refine awp_draw' (id := 6) [] 65 (by kernel_rfl) (by kernel_rfl) rfl rfl (fun bx0 hbx => ?_); try dsimp only [List.take, List.drop])
      | with_reducible (first | refine awp_region [] ?_ | refine awp_block ?_)
      | go_step)
    refine ⟨⟨k + 1, by omega, by rw [hT', hxy, Bool.true_and]⟩, by dsimp only; omega, hR _ _ (sub_mk ?_)⟩
    simp only [go_sem, simprocAttr, hF, hw]
  obtain ⟨s, hsj⟩ := get_of_lt hjt
  obtain ⟨t, htj⟩ := get_of_lt (l := y.sl) (k := j) (by omega)
  have hdj : decide ((j : Int) < (x.sl.length : Int)) = true := decide_eq_true (by omega)
  have hwj : IntKind.i64.wrap ((j : Int) + 1) = ((j + 1 : Nat) : Int) := by rw [IntKind.wrap_i64]; omega
  have hU' : decide (x.sl = y.sl) = ((s == t) && decide (x.sl.drop (j + 1) = y.sl.drop (j + 1))) := by
    rw [hU, drop_of_get hsj, drop_of_get htj, Bool.eq_iff_iff]
    simp
  cases e1 : (s == t) with
  | false =>
    have e2 : (s != t) = true := by rw [bne, e1]; rfl
    repeat (first
      | (with_reducible (first | refine sops_go ?_ | refine headW_end ?_ | refine sops_end ?_ | refine awp_if ?_ | refine awp_skip ?_ | refine awp_ret ?_ | refine awp_exit ?_); simp only [go_sem, simprocAttr, hF, hxk, hyk, hdj, hsj, htj, e2])
      | ((with_reducible refine headW_go ?_); simp only [go_sem, simprocAttr, hF, hxk, hyk, hdj, hsj, htj, e2, hbx])
      | with_reducible refine awp_seq_k fun _ _ => ?_
      | (refine awp_draw' (id := 11) [] 17 (by kernel_rfl) (by kernel_rfl) rfl rfl (fun bx0 hbx => ?_); try dsimp only [List.take, List.drop])
      | (refine awp_draw' (id := 6) [] 65 (by kernel_rfl) (by kernel_rfl) rfl rfl (fun bx0 hbx => ?_); try dsimp only [List.take, List.drop])
      | with_reducible (first | refine awp_region [] ?_ | refine awp_block ?_)
      | go_step)
    rw [bad (decide_eq_false fun h => by rw [h, e1] at hU'; simp at hU')]
  | true =>
    have e2 : (s != t) = false := by rw [bne, e1]; rfl
    repeat (first
      | (with_reducible (first | refine sops_go ?_ | refine headW_end ?_ | refine sops_end ?_ | refine awp_if ?_ | refine awp_skip ?_ | refine awp_ret ?_ | refine awp_exit ?_); simp only [go_sem, simprocAttr, hF, hxk, hyk, hdj, hsj, htj, e2])
      | ((with_reducible refine headW_go ?_); simp only [go_sem, simprocAttr, hF, hxk, hyk, hdj, hsj, htj, e2, hbx])
      | with_reducible refine awp_seq_k fun _ _ => ?_
      | (refine awp_draw' (id := 11) [] 17 (by kernel_rfl) (by kernel_rfl) rfl rfl (fun bx0 hbx => ?_); try dsimp only [List.take, List.drop])
      | (refine awp_draw' (id := 6) [] 65 (by kernel_rfl) (by kernel_rfl) rfl rfl (fun bx0 hbx => ?_); try dsimp only [List.take, List.drop])
      | with_reducible (first | refine awp_region [] ?_ | refine awp_block ?_)
      | go_step)
    refine ⟨⟨j + 1, by omega, by rw [hU', e1, Bool.true_and]⟩, by dsimp only; omega, hR2 _ _ (sub_mk ?_)⟩
    simp only [go_sem, simprocAttr, hF, hwj]
/- The reference of Same, by abstract states. -/
attribute [local go_sem] Ex.pv
set_option maxHeartbeats 2000000 in
theorem same57_ok (x y : Ex) (hca : x.ca.length ≤ 1000000) (hsl : ∀ c ∈ x.ca, c.sl.length ≤ 1000000) : FnOK Tryz.prog 15 [.agg x.pv, .agg y.pv] ⟨bv (decide (x = y)), none⟩ := by
  have hT : decide (x = y) = (([x.lt.fl, x.lt.fr, x.lt.sl] == [y.lt.fl, y.lt.fr, y.lt.sl]) && decide (x.ca = y.ca)) := by
    obtain ⟨⟨x1, x2, x3⟩, xc⟩ := x
    obtain ⟨⟨y1, y2, y3⟩, yc⟩ := y
    rw [Bool.eq_iff_iff]
    simp
  rw [hT]
  refine fn_ok Tryz.func15 (by kernel_rfl) rfl (by rw [Tryz.ntmps15]; exact of_decide_eq_true rfl) (fun F hF => ?_)
  rw [Tryz.ntmps15] at hF
  rw [Tryz.results15]
  cases e1 : ([x.lt.fl, x.lt.fr, x.lt.sl] == [y.lt.fl, y.lt.fr, y.lt.sl]) with
  | false =>
    repeat (first
      | (with_reducible (first | refine sops_go ?_ | refine headW_end ?_ | refine sops_end ?_ | refine awp_if ?_ | refine awp_skip ?_ | refine awp_ret ?_ | refine awp_exit ?_); simp only [go_sem, simprocAttr, hF, e1])
      | with_reducible (first | refine awp_seq_k fun _ _ => ?_ | refine awp_region [] ?_ | refine awp_block ?_)
      | go_step)
    all_goals (try rfl)
  | true =>
    repeat (first
      | (with_reducible (first | refine sops_go ?_ | refine headW_end ?_ | refine sops_end ?_ | refine awp_if ?_ | refine awp_skip ?_ | refine awp_ret ?_ | refine awp_exit ?_); simp only [go_sem, simprocAttr, hF, e1])
      | with_reducible (first | refine awp_seq_k fun _ _ => ?_ | refine awp_region [] ?_ | refine awp_block ?_)
      | go_step)
    refine ⟨_, samebr_ok x.ca y.ca hca hsl, ?_⟩
    simp only [go_sem, simprocAttr, hF, e1]
    repeat (first
      | (with_reducible (first | refine sops_go ?_ | refine headW_end ?_ | refine sops_end ?_ | refine awp_if ?_ | refine awp_skip ?_ | refine awp_ret ?_ | refine awp_exit ?_); simp only [go_sem, simprocAttr, hF, e1])
      | with_reducible (first | refine awp_seq_k fun _ _ => ?_ | refine awp_region [] ?_ | refine awp_block ?_)
      | go_step)
    all_goals (try rfl)
/- The reference of Causes, by abstract states. -/
set_option maxHeartbeats 20000000 in
theorem rcausesR_ok (n : Net) (f : Fl) (r : Rec) (fr a b : Int) (hS : SmallN n) (hla : r.al.length ≤ 1000000) (hld : r.dl.length ≤ 1000000) : FnOK Tryz.prog 14 [.agg n.pv, .agg f.pv, .agg r.pv, iv fr, iv a, iv b] ⟨.tup [.c (.sl 5 ((causesR n f r fr a b).1.map Br.pv)), .c (ip (causesR n f r fr a b).2)], none⟩ := by
  refine fn_ok Tryz.func14 (by kernel_rfl) rfl (by rw [Tryz.ntmps14]; exact of_decide_eq_true rfl) (fun F hF => ?_)
  rw [Tryz.ntmps14] at hF
  rw [Tryz.results14]
  cases hB : basicB n f r with
  | false =>
    repeat (first
      | (with_reducible (first | refine sops_go ?_ | refine headW_end ?_ | refine sops_end ?_ | refine awp_if ?_ | refine awp_skip ?_ | refine awp_ret ?_ | refine awp_exit ?_); simp only [go_sem, simprocAttr, hF])
      | with_reducible (first | refine awp_seq_k fun _ _ => ?_ | refine awp_region [] ?_ | refine awp_block ?_)
      | go_step)
    refine ⟨_, rbasic_ok n f r hS hla hld, ?_⟩
    simp only [go_sem, simprocAttr, hF, hB]
    repeat (first
      | ((refine awp_nil (c := .ret) 12 5 57 (by rw [hF]; decide) (by first | rfl | simp only [Av.look]; rfl) ?_); simp only [go_sem, simprocAttr, hF, hB])
      | (with_reducible (first | refine sops_go ?_ | refine headW_end ?_ | refine sops_end ?_ | refine awp_if ?_ | refine awp_skip ?_ | refine awp_ret ?_ | refine awp_exit ?_); simp only [go_sem, simprocAttr, hF, hB])
      | with_reducible (first | refine awp_seq_k fun _ _ => ?_ | refine awp_region [] ?_ | refine awp_block ?_)
      | go_step)
    rw [show causesR n f r fr a b = ([], 1) from by unfold causesR; rw [if_pos hB]]
    all_goals (try rfl)
  | true =>
    have hB' : ¬ basicB n f r = false := by rw [hB]; decide
    obtain ⟨hc, _⟩ := basicB_inv hB
    by_cases c1 : fr < 0
    case pos =>
      have e1 : decide (fr < 0) = true := by first | exact decide_eq_true (by omega) | simpa using c1
      repeat (first
        | (with_reducible (first | refine sops_go ?_ | refine headW_end ?_ | refine sops_end ?_ | refine awp_if ?_ | refine awp_skip ?_ | refine awp_ret ?_ | refine awp_exit ?_); simp only [go_sem, simprocAttr, hF, hB])
        | with_reducible (first | refine awp_seq_k fun _ _ => ?_ | refine awp_region [] ?_ | refine awp_block ?_)
        | go_step)
      refine ⟨_, rbasic_ok n f r hS hla hld, ?_⟩
      simp only [go_sem, simprocAttr, hF, hB]
      repeat (first
        | ((refine awp_nil (c := .ret) 12 5 57 (by rw [hF]; decide) (by first | rfl | simp only [Av.look]; rfl) ?_); simp only [go_sem, simprocAttr, hF, hB, e1])
        | (with_reducible (first | refine sops_go ?_ | refine headW_end ?_ | refine sops_end ?_ | refine awp_if ?_ | refine awp_skip ?_ | refine awp_ret ?_ | refine awp_exit ?_); simp only [go_sem, simprocAttr, hF, hB, e1])
        | with_reducible (first | refine awp_seq_k fun _ _ => ?_ | refine awp_region [] ?_ | refine awp_block ?_)
        | go_step)
      rw [show causesR n f r fr a b = ([], 2) from by unfold causesR; rw [if_neg hB', if_pos (.inl c1)]]
      all_goals (try rfl)
    have e1 : decide (fr < 0) = false := by first | exact decide_eq_false (by omega) | simpa using c1
    by_cases c2 : 1048576 ≤ fr
    case pos =>
      have e2 : decide (fr ≥ 1048576) = true := by first | exact decide_eq_true (by omega) | simpa using c2
      repeat (first
        | (with_reducible (first | refine sops_go ?_ | refine headW_end ?_ | refine sops_end ?_ | refine awp_if ?_ | refine awp_skip ?_ | refine awp_ret ?_ | refine awp_exit ?_); simp only [go_sem, simprocAttr, hF, hB])
        | with_reducible (first | refine awp_seq_k fun _ _ => ?_ | refine awp_region [] ?_ | refine awp_block ?_)
        | go_step)
      refine ⟨_, rbasic_ok n f r hS hla hld, ?_⟩
      simp only [go_sem, simprocAttr, hF, hB]
      repeat (first
        | ((refine awp_nil (c := .ret) 12 5 57 (by rw [hF]; decide) (by first | rfl | simp only [Av.look]; rfl) ?_); simp only [go_sem, simprocAttr, hF, hB, e1, e2])
        | (with_reducible (first | refine sops_go ?_ | refine headW_end ?_ | refine sops_end ?_ | refine awp_if ?_ | refine awp_skip ?_ | refine awp_ret ?_ | refine awp_exit ?_); simp only [go_sem, simprocAttr, hF, hB, e1, e2])
        | with_reducible (first | refine awp_seq_k fun _ _ => ?_ | refine awp_region [] ?_ | refine awp_block ?_)
        | go_step)
      rw [show causesR n f r fr a b = ([], 2) from by unfold causesR; rw [if_neg hB', if_pos (.inr c2)]]
      all_goals (try rfl)
    have e2 : decide (fr ≥ 1048576) = false := by first | exact decide_eq_false (by omega) | simpa using c2
    by_cases c3 : idxL n a b < 0
    case pos =>
      have e3 : decide (idxL n a b < 0) = true := by first | exact decide_eq_true (by omega) | simpa using c3
      repeat (first
        | (with_reducible (first | refine sops_go ?_ | refine headW_end ?_ | refine sops_end ?_ | refine awp_if ?_ | refine awp_skip ?_ | refine awp_ret ?_ | refine awp_exit ?_); simp only [go_sem, simprocAttr, hF, hB])
        | with_reducible (first | refine awp_seq_k fun _ _ => ?_ | refine awp_region [] ?_ | refine awp_block ?_)
        | go_step)
      refine ⟨_, rbasic_ok n f r hS hla hld, ?_⟩
      simp only [go_sem, simprocAttr, hF, hB]
      repeat (first
        | (with_reducible (first | refine sops_go ?_ | refine headW_end ?_ | refine sops_end ?_ | refine awp_if ?_ | refine awp_skip ?_ | refine awp_ret ?_ | refine awp_exit ?_); simp only [go_sem, simprocAttr, hF, hB, e1, e2])
        | with_reducible (first | refine awp_seq_k fun _ _ => ?_ | refine awp_region [] ?_ | refine awp_block ?_)
        | go_step)
      refine ⟨_, (show FnOK _ _ _ ⟨iv (idxL n a b), none⟩ from nfind_ok n a b hS.lk), ?_⟩
      simp only [go_sem, simprocAttr, hF]
      try simp only [go_sem, simprocAttr, hF, e3]
      repeat (first
        | ((refine awp_nil (c := .ret) 12 5 57 (by rw [hF]; decide) (by first | rfl | simp only [Av.look]; rfl) ?_); simp only [go_sem, simprocAttr, hF, e3])
        | (with_reducible (first | refine sops_go ?_ | refine headW_end ?_ | refine sops_end ?_ | refine awp_if ?_ | refine awp_skip ?_ | refine awp_ret ?_ | refine awp_exit ?_); simp only [go_sem, simprocAttr, hF, e3])
        | with_reducible (first | refine awp_seq_k fun _ _ => ?_ | refine awp_region [] ?_ | refine awp_block ?_)
        | go_step)
      rw [show causesR n f r fr a b = ([], 7) from by unfold causesR; rw [if_neg hB', if_neg (by omega), if_pos c3]]
      all_goals (try rfl)
    have e3 : decide (idxL n a b < 0) = false := by first | exact decide_eq_false (by omega) | simpa using c3
    have hR : causesR n f r fr a b = (causesX n f r fr a b, 0) := by unfold causesR; rw [if_neg hB', if_neg (by omega), if_neg c3]
    repeat (first
      | (with_reducible (first | refine sops_go ?_ | refine headW_end ?_ | refine sops_end ?_ | refine awp_if ?_ | refine awp_skip ?_ | refine awp_ret ?_ | refine awp_exit ?_); simp only [go_sem, simprocAttr, hF, hB])
      | with_reducible (first | refine awp_seq_k fun _ _ => ?_ | refine awp_region [] ?_ | refine awp_block ?_)
      | go_step)
    refine ⟨_, rbasic_ok n f r hS hla hld, ?_⟩
    simp only [go_sem, simprocAttr, hF, hB]
    repeat (first
      | (with_reducible (first | refine sops_go ?_ | refine headW_end ?_ | refine sops_end ?_ | refine awp_if ?_ | refine awp_skip ?_ | refine awp_ret ?_ | refine awp_exit ?_); simp only [go_sem, simprocAttr, hF, hB, e1, e2])
      | with_reducible (first | refine awp_seq_k fun _ _ => ?_ | refine awp_region [] ?_ | refine awp_block ?_)
      | go_step)
    refine ⟨_, (show FnOK _ _ _ ⟨iv (idxL n a b), none⟩ from nfind_ok n a b hS.lk), ?_⟩
    simp only [go_sem, simprocAttr, hF]
    try simp only [go_sem, simprocAttr, hF, e3]
    repeat (first
      | (with_reducible (first | refine sops_go ?_ | refine headW_end ?_ | refine sops_end ?_ | refine awp_if ?_ | refine awp_skip ?_ | refine awp_ret ?_ | refine awp_exit ?_); simp only [go_sem, simprocAttr, hF, e3])
      | with_reducible (first | refine awp_seq_k fun _ _ => ?_ | refine awp_region [] ?_ | refine awp_block ?_)
      | go_step)
    refine ⟨_, rcauses_ok n f r fr a b hS hB ⟨by omega, by omega⟩ (by omega) hla, ?_⟩
    simp only [go_sem, simprocAttr, hF]
    repeat (first
      | (with_reducible (first | refine sops_go ?_ | refine headW_end ?_ | refine sops_end ?_ | refine awp_if ?_ | refine awp_skip ?_ | refine awp_ret ?_ | refine awp_exit ?_); simp only [go_sem, simprocAttr, hF])
      | with_reducible (first | refine awp_seq_k fun _ _ => ?_ | refine awp_region [] ?_ | refine awp_block ?_)
      | go_step)
    all_goals (try rw [hR])
    all_goals (try rfl)
/- The law ExplainFinds, by abstract states. -/
set_option maxHeartbeats 20000000 in
theorem lawFinds_ok (n : Net) (f : Fl) (ps : List (List Int)) (r : Rec) (fr a b : Int) (hp : n.pow.length ≤ 9223372036854775807) (hps : ps.length ≤ 9223372036854775807)  : FnOK Tryz.prog 3 [.agg n.pv, .agg f.pv, .sl 1 (ps.map prow_pv), .agg r.pv, iv fr, iv a, iv b] ⟨bv true, none⟩ := by
  refine fn_ok Tryz.func3 (by kernel_rfl) rfl (by rw [Tryz.ntmps3]; exact of_decide_eq_true rfl) (fun F hF => ?_)
  rw [Tryz.ntmps3] at hF
  rw [Tryz.results3]
  repeat (first
    | (with_reducible (first | refine sops_go ?_ | refine headW_end ?_ | refine sops_end ?_ | refine awp_if ?_ | refine awp_skip ?_ | refine awp_ret ?_ | refine awp_exit ?_); simp only [go_sem, simprocAttr, hF])
    | with_reducible (first | refine awp_seq_k fun _ _ => ?_ | refine awp_region [] ?_ | refine awp_block ?_)
    | go_step)
  refine ⟨_, awake_ok, ?_⟩
  simp only [go_sem, simprocAttr, hF]
  repeat (first
    | (with_reducible (first | refine sops_go ?_ | refine headW_end ?_ | refine sops_end ?_ | refine awp_if ?_ | refine awp_skip ?_ | refine awp_ret ?_ | refine awp_exit ?_); simp only [go_sem, simprocAttr, hF])
    | with_reducible (first | refine awp_seq_k fun _ _ => ?_ | refine awp_region [] ?_ | refine awp_block ?_)
    | go_step)
  refine ⟨_, few57_ok n ps r hp hps, ?_⟩
  simp only [go_sem, simprocAttr, hF]
  cases h1 : few57B n ps r with
  | false =>
    try simp only [go_sem, simprocAttr, hF, h1]
    repeat (first
      | (with_reducible (first | refine sops_go ?_ | refine headW_end ?_ | refine sops_end ?_ | refine awp_if ?_ | refine awp_skip ?_ | refine awp_ret ?_ | refine awp_exit ?_); simp only [go_sem, simprocAttr, hF, h1])
      | with_reducible (first | refine awp_seq_k fun _ _ => ?_ | refine awp_region [] ?_ | refine awp_block ?_)
      | go_step)
    refine ⟨_, awake_ok, ?_⟩
    simp only [go_sem, simprocAttr, hF]
    repeat (first
      | (with_reducible (first | refine sops_go ?_ | refine headW_end ?_ | refine sops_end ?_ | refine awp_if ?_ | refine awp_skip ?_ | refine awp_ret ?_ | refine awp_exit ?_); simp only [go_sem, simprocAttr, hF])
      | with_reducible (first | refine awp_seq_k fun _ _ => ?_ | refine awp_region [] ?_ | refine awp_block ?_)
      | go_step)
    all_goals (try rfl)
  | true =>
    obtain ⟨hS, hps4, hpl, hla, hld⟩ := few57_inv h1
    have hpl' : ∀ p ∈ ps, p.length ≤ 1000000 := fun p hp => Nat.le_trans (hpl p hp) (by decide)
    obtain ⟨s1, s2⟩ := findX_small n f ps r fr (by omega) (by omega)
    obtain ⟨s3, s4⟩ := causesR_small n f r fr a b (by omega)
    obtain ⟨X, hX⟩ : ∃ X, X = findX n f ps r fr := ⟨_, rfl⟩
    obtain ⟨C, hC⟩ : ∃ C, C = causesR n f r fr a b := ⟨_, rfl⟩
    have k1 := find_okX n f ps r fr hS (by omega) (by omega) (by omega) hpl'
    have k2 := rfind_okX n f ps r fr hS (by omega) (by omega) (by omega) hpl'
    have k3 := causesR_ok n f r fr a b hS (by omega) (by omega)
    have k4 := rcausesR_ok n f r fr a b hS (by omega) (by omega)
    rw [← hX] at k1 k2 s1 s2
    rw [← hC] at k3 k4 s3 s4
    clear hX hC
    have d1 : decide (X.1 = X.1) = true := decide_eq_true rfl
    have d2 : decide (C.1 = C.1) = true := decide_eq_true rfl
    try simp only [go_sem, simprocAttr, hF, h1]
    repeat (first
      | (with_reducible (first | refine sops_go ?_ | refine headW_end ?_ | refine sops_end ?_ | refine awp_if ?_ | refine awp_skip ?_ | refine awp_ret ?_ | refine awp_exit ?_); simp only [go_sem, simprocAttr, hF, h1])
      | with_reducible (first | refine awp_seq_k fun _ _ => ?_ | refine awp_region [] ?_ | refine awp_block ?_)
      | go_step)
    refine ⟨_, k1, ?_⟩
    simp only [go_sem, simprocAttr, hF]
    repeat (first
      | (with_reducible (first | refine sops_go ?_ | refine headW_end ?_ | refine sops_end ?_ | refine awp_if ?_ | refine awp_skip ?_ | refine awp_ret ?_ | refine awp_exit ?_); simp only [go_sem, simprocAttr, hF])
      | with_reducible (first | refine awp_seq_k fun _ _ => ?_ | refine awp_region [] ?_ | refine awp_block ?_)
      | go_step)
    refine ⟨_, k2, ?_⟩
    simp only [go_sem, simprocAttr, hF]
    repeat (first
      | (with_reducible (first | refine sops_go ?_ | refine headW_end ?_ | refine sops_end ?_ | refine awp_if ?_ | refine awp_skip ?_ | refine awp_ret ?_ | refine awp_exit ?_); simp only [go_sem, simprocAttr, hF])
      | with_reducible (first | refine awp_seq_k fun _ _ => ?_ | refine awp_region [] ?_ | refine awp_block ?_)
      | go_step)
    refine ⟨_, k3, ?_⟩
    simp only [go_sem, simprocAttr, hF]
    repeat (first
      | (with_reducible (first | refine sops_go ?_ | refine headW_end ?_ | refine sops_end ?_ | refine awp_if ?_ | refine awp_skip ?_ | refine awp_ret ?_ | refine awp_exit ?_); simp only [go_sem, simprocAttr, hF])
      | with_reducible (first | refine awp_seq_k fun _ _ => ?_ | refine awp_region [] ?_ | refine awp_block ?_)
      | go_step)
    refine ⟨_, k4, ?_⟩
    simp only [go_sem, simprocAttr, hF]
    repeat (first
      | (with_reducible (first | refine sops_go ?_ | refine headW_end ?_ | refine sops_end ?_ | refine awp_if ?_ | refine awp_skip ?_ | refine awp_ret ?_ | refine awp_exit ?_); simp only [go_sem, simprocAttr, hF])
      | with_reducible (first | refine awp_seq_k fun _ _ => ?_ | refine awp_region [] ?_ | refine awp_block ?_)
      | go_step)
    refine ⟨_, same57_ok X.1 X.1 s1 s2, ?_⟩
    simp only [go_sem, simprocAttr, hF, d1]
    repeat (first
      | (with_reducible (first | refine sops_go ?_ | refine headW_end ?_ | refine sops_end ?_ | refine awp_if ?_ | refine awp_skip ?_ | refine awp_ret ?_ | refine awp_exit ?_); simp only [go_sem, simprocAttr, hF, d1])
      | with_reducible (first | refine awp_seq_k fun _ _ => ?_ | refine awp_region [] ?_ | refine awp_block ?_)
      | go_step)
    refine ⟨_, samebr_ok C.1 C.1 s3 s4, ?_⟩
    simp only [go_sem, simprocAttr, hF, d1, d2]
    repeat (first
      | (with_reducible (first | refine sops_go ?_ | refine headW_end ?_ | refine sops_end ?_ | refine awp_if ?_ | refine awp_skip ?_ | refine awp_ret ?_ | refine awp_exit ?_); simp only [go_sem, simprocAttr, hF, d1, d2])
      | with_reducible (first | refine awp_seq_k fun _ _ => ?_ | refine awp_region [] ?_ | refine awp_block ?_)
      | go_step)
    all_goals (try rfl)
end Go.Proofs.YticnppnejafhdaaGreatDoor

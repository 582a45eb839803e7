import Derived.Test.YticnppnejafhdaaGreatDoorZ9
set_option linter.unusedVariables false
set_option linter.unusedSimpArgs false
/- The law ExplainNothing, by abstract states. -/
namespace Go.Proofs.YticnppnejafhdaaGreatDoor
open Go.RowKit
open Nd Rc Mo
open Av
set_option maxRecDepth 100000
set_option linter.unusedSimpArgs false
attribute [local go_sem] Av.guardB Av.sop Av.hopx Av.hop Av.hopCall Av.hopF Av.hopB Av.evo Av.evos Av.avCells Av.loadK Av.bound Av.abin Av.aun Av.partsC Av.lfill Av.placesB Av.setAt Av.stl Av.takes Av.src Av.bxOf Av.ownOf Av.St.res Av.St.put Av.St.addBox Av.St.putOwn Av.delL Av.delS Av.look Av.lookL Av.storeSt Av.stealSt Av.St.setBox Av.keepL Av.hitB Av.snap Av.snaps Av.snapCaps Av.AV.lit Av.AV.refs Av.capRefs Av.PV.av Av.CV.av Av.startSt Av.steals Av.athen Av.ablock Av.appK Av.AllS Av.AllO Av.AllR Av.keepS Av.St.avAt Av.RetOK Av.retAll Av.retOne Av.intsOf Av.ptrB TypeDesc.isRow List.range_zero Option.some.injEq exists_eq_left' exists_eq_left exists_eq' exists_and_left exists_and_right exists_const true_and and_true and_self false_and and_false or_false false_or or_true true_or if_true if_false Bool.false_eq_true List.zipIdx_cons List.zipIdx_nil List.map_cons List.map_nil List.filter_cons List.filter_nil List.contains_cons List.contains_nil List.drop_succ_cons List.drop_zero List.take_succ_cons List.take_zero List.take_nil List.drop_nil List.length_cons List.length_nil List.cons_append List.nil_append List.append_nil List.getElem?_cons_zero List.getElem?_cons_succ List.getElem?_nil Option.bind_some Option.bind_none Option.map_some Option.map_none Option.isNone_none Option.isNone_some Option.isSome_some Option.isSome_none Bool.and_true Bool.true_and Bool.and_false Bool.false_and Bool.or_false Bool.false_or Bool.not_true Bool.not_false beq_true beq_false Bool.true_beq Bool.false_beq Loc.s.injEq Loc.b.injEq decide_true decide_false beq_self_eq_true Nat.zero_add Nat.add_zero List.getElem?_toArray List.toList_toArray List.size_toArray Value.oneCell' List.all_cons List.all_nil Value.int.injEq AV.v.injEq AV.sl.injEq AV.agg.injEq AV.ref.injEq AV.ept.injEq AV.tup.injEq Value.bool.injEq PV.v.injEq PV.sl.injEq List.isEmpty_nil List.isEmpty_cons forall_const not_true_eq_false not_false_eq_true true_implies false_implies Value.string.injEq List.length_map List.getElem?_map Int.toNat_natCast Int.natCast_nonneg List.length_append Value.cells implies_true TypeDesc.struct.injEq TypeDesc.slice.injEq TypeDesc.array.injEq List.getElem?_toArray Prod.mk.injEq and_assoc exists_false List.cons.injEq Operand.tmp.injEq ite_self AV.fnv.injEq AV.clo.injEq ne_eq eq_self Tryz.sz3 Tryz.zr3 Tryz.by3 Tryz.pl3 Tryz.is3 Tryz.underlying3 Tryz.sz4 Tryz.zr4 Tryz.by4 Tryz.pl4 Tryz.is4 Tryz.underlying4 Tryz.sz43 Tryz.zr43 Tryz.by43 Tryz.pl43 Tryz.is43 Tryz.underlying43 Tryz.sz35 Tryz.zr35 Tryz.by35 Tryz.pl35 Tryz.is35 Tryz.underlying35 Tryz.sz33 Tryz.zr33 Tryz.by33 Tryz.pl33 Tryz.is33 Tryz.underlying33 Tryz.sz28 Tryz.zr28 Tryz.by28 Tryz.pl28 Tryz.is28 Tryz.underlying28 Tryz.sz39 Tryz.zr39 Tryz.by39 Tryz.pl39 Tryz.is39 Tryz.underlying39 Tryz.sz57 Tryz.zr57 Tryz.by57 Tryz.pl57 Tryz.is57 Tryz.underlying57 Tryz.sz137 Tryz.zr137 Tryz.by137 Tryz.pl137 Tryz.is137 Tryz.underlying137 Tryz.sz66 Tryz.zr66 Tryz.by66 Tryz.pl66 Tryz.is66 Tryz.underlying66 Tryz.sz64 Tryz.zr64 Tryz.by64 Tryz.pl64 Tryz.is64 Tryz.underlying64 Tryz.sz60 Tryz.zr60 Tryz.by60 Tryz.pl60 Tryz.is60 Tryz.underlying60 Tryz.sz100 Tryz.zr100 Tryz.by100 Tryz.pl100 Tryz.is100 Tryz.underlying100 Tryz.sz103 Tryz.zr103 Tryz.by103 Tryz.pl103 Tryz.is103 Tryz.underlying103 Tryz.sz26 Tryz.zr26 Tryz.by26 Tryz.pl26 Tryz.is26 Tryz.underlying26 Tryz.sz120 Tryz.zr120 Tryz.by120 Tryz.pl120 Tryz.is120 Tryz.underlying120 Tryz.sz117 Tryz.zr117 Tryz.by117 Tryz.pl117 Tryz.is117 Tryz.underlying117 Tryz.sz30 Tryz.zr30 Tryz.by30 Tryz.pl30 Tryz.is30 Tryz.underlying30 Tryz.sz31 Tryz.zr31 Tryz.by31 Tryz.pl31 Tryz.is31 Tryz.underlying31 Tryz.sz40 Tryz.zr40 Tryz.by40 Tryz.pl40 Tryz.is40 Tryz.underlying40 Tryz.sz23 Tryz.zr23 Tryz.by23 Tryz.pl23 Tryz.is23 Tryz.underlying23 Tryz.sz24 Tryz.zr24 Tryz.by24 Tryz.pl24 Tryz.is24 Tryz.underlying24 Tryz.sz22 Tryz.zr22 Tryz.by22 Tryz.pl22 Tryz.is22 Tryz.underlying22 Tryz.sz141 Tryz.zr141 Tryz.by141 Tryz.pl141 Tryz.is141 Tryz.underlying141 Tryz.sz42 Tryz.zr42 Tryz.by42 Tryz.pl42 Tryz.is42 Tryz.underlying42 Tryz.sz29 Tryz.zr29 Tryz.by29 Tryz.pl29 Tryz.is29 Tryz.underlying29 Tryz.sz83 Tryz.zr83 Tryz.by83 Tryz.pl83 Tryz.is83 Tryz.underlying83 Tryz.sz67 Tryz.zr67 Tryz.by67 Tryz.pl67 Tryz.is67 Tryz.underlying67 Tryz.sz20 Tryz.zr20 Tryz.by20 Tryz.pl20 Tryz.is20 Tryz.underlying20 Tryz.sz89 Tryz.zr89 Tryz.by89 Tryz.pl89 Tryz.is89 Tryz.underlying89 Tryz.sz132 Tryz.zr132 Tryz.by132 Tryz.pl132 Tryz.is132 Tryz.underlying132 Tryz.sz113 Tryz.zr113 Tryz.by113 Tryz.pl113 Tryz.is113 Tryz.underlying113 Tryz.sz9 Tryz.zr9 Tryz.by9 Tryz.pl9 Tryz.is9 Tryz.underlying9 Tryz.it39 Tryz.eg39 Tryz.it137 Tryz.eg137 Tryz.it66 Tryz.eg66 Tryz.it28 Tryz.eg28 Tryz.it60 Tryz.eg60 all_arr loc_ss loc_sb loc_bs loc_bb arr_two arr_one rg1 rg2 rg3 rg4 rg5 rg6 rg7 rg8 ResultVar.tmp.injEq Bool.not_true Bool.not_false undef Rc.Rec.pv Nd.Fl.pv Rc.Dlv.pv Rc.Att.pv Mo.Lt.pv Fn.func.injEq Mo.Net.pv Mo.Lk.pv prow_pv irow_pv Br.pv Ex.pv Av.sopH Value.slice.injEq
set_option maxHeartbeats 20000000 in
theorem lawNothing_ok (n : Net) (f : Fl) (ps : List (List Int)) (r : Rec) (fr : Int) (hp : n.pow.length ≤ 9223372036854775807) (hps : ps.length ≤ 9223372036854775807)  : FnOK Tryz.prog 6 [.agg n.pv, .agg f.pv, .sl 1 (ps.map prow_pv), .agg r.pv, iv fr] ⟨bv true, none⟩ := by
  refine fn_ok Tryz.func6 (by kernel_rfl) rfl (by rw [Tryz.ntmps6]; exact of_decide_eq_true rfl) (fun F hF => ?_)
  rw [Tryz.ntmps6] at hF
  rw [Tryz.results6]
  repeat (first
    | (with_reducible (first | refine sops_go ?_ | refine headW_end ?_ | refine sops_end ?_ | refine awp_if ?_ | refine awp_skip ?_ | refine awp_ret ?_ | refine awp_exit ?_); simp only [go_sem, simprocAttr, hF])
    | ((with_reducible refine headW_go ?_); simp only [go_sem, simprocAttr, hF, hbx])
    | with_reducible refine awp_seq_k fun _ _ => ?_
    | (with_reducible refine awp_region (id := 0) [1000032, 1000042, 1000043, 1000060, 1000061] ?_)
    | (with_reducible refine awp_region (id := 1) [1000032, 1000042, 1000043, 1000060, 1000061] ?_)
    | (with_reducible refine awp_region (id := 2) [1000032, 1000042, 1000043, 1000060, 1000061] ?_)
    | (with_reducible refine awp_region (id := 3) [1000032, 1000042, 1000043, 1000060, 1000061] ?_)
    | (with_reducible refine awp_region (id := 4) [1000032, 1000042, 1000043, 1000060, 1000061] ?_)
    | (with_reducible refine awp_region (id := 5) [1000032, 1000042, 1000043, 1000060, 1000061] ?_)
    | (with_reducible refine awp_region (id := 6) [1000032, 1000042, 1000043, 1000060, 1000061] ?_)
    | (with_reducible refine awp_region (id := 7) [1000032, 1000042, 1000043, 1000060, 1000061] ?_)
    | (with_reducible refine awp_region (id := 9) [1000032, 1000042, 1000043, 1000060, 1000061] ?_)
    | (with_reducible refine awp_region (id := 10) [1000032, 1000042, 1000043, 1000060, 1000061] ?_)
    | (with_reducible refine awp_region (id := 11) [1000032, 1000042, 1000043, 1000060, 1000061] ?_)
    | (with_reducible refine awp_region (id := 12) [1000032, 1000042, 1000043, 1000060, 1000061] ?_)
    | (with_reducible refine awp_region (id := 13) [1000032, 1000042, 1000043, 1000060, 1000061] ?_)
    | (with_reducible refine awp_region (id := 14) [1000032, 1000042, 1000043, 1000060, 1000061] ?_)
    | (with_reducible refine awp_region (id := 15) [1000032, 1000042, 1000043, 1000060, 1000061] ?_)
    | (with_reducible refine awp_region (id := 16) [1000032, 1000042, 1000043, 1000060, 1000061] ?_)
    | (with_reducible refine awp_region (id := 17) [1000032, 1000042, 1000043, 1000060, 1000061] ?_)
    | (with_reducible refine awp_region (id := 18) [1000032, 1000042, 1000043, 1000060, 1000061] ?_)
    | (with_reducible refine awp_region (id := 19) [1000032, 1000042, 1000043, 1000060, 1000061] ?_)
    | (with_reducible refine awp_region (id := 20) [1000032, 1000042, 1000043, 1000060, 1000061] ?_)
    | (with_reducible refine awp_block ?_)
    | go_step)
  refine ⟨_, awake_ok, ?_⟩
  simp only [go_sem, simprocAttr, hF]
  repeat (first
    | (with_reducible (first | refine sops_go ?_ | refine headW_end ?_ | refine sops_end ?_ | refine awp_if ?_ | refine awp_skip ?_ | refine awp_ret ?_ | refine awp_exit ?_); simp only [go_sem, simprocAttr, hF])
    | ((with_reducible refine headW_go ?_); simp only [go_sem, simprocAttr, hF, hbx])
    | with_reducible refine awp_seq_k fun _ _ => ?_
    | (with_reducible refine awp_region (id := 0) [1000032, 1000042, 1000043, 1000060, 1000061] ?_)
    | (with_reducible refine awp_region (id := 1) [1000032, 1000042, 1000043, 1000060, 1000061] ?_)
    | (with_reducible refine awp_region (id := 2) [1000032, 1000042, 1000043, 1000060, 1000061] ?_)
    | (with_reducible refine awp_region (id := 3) [1000032, 1000042, 1000043, 1000060, 1000061] ?_)
    | (with_reducible refine awp_region (id := 4) [1000032, 1000042, 1000043, 1000060, 1000061] ?_)
    | (with_reducible refine awp_region (id := 5) [1000032, 1000042, 1000043, 1000060, 1000061] ?_)
    | (with_reducible refine awp_region (id := 6) [1000032, 1000042, 1000043, 1000060, 1000061] ?_)
    | (with_reducible refine awp_region (id := 7) [1000032, 1000042, 1000043, 1000060, 1000061] ?_)
    | (with_reducible refine awp_region (id := 9) [1000032, 1000042, 1000043, 1000060, 1000061] ?_)
    | (with_reducible refine awp_region (id := 10) [1000032, 1000042, 1000043, 1000060, 1000061] ?_)
    | (with_reducible refine awp_region (id := 11) [1000032, 1000042, 1000043, 1000060, 1000061] ?_)
    | (with_reducible refine awp_region (id := 12) [1000032, 1000042, 1000043, 1000060, 1000061] ?_)
    | (with_reducible refine awp_region (id := 13) [1000032, 1000042, 1000043, 1000060, 1000061] ?_)
    | (with_reducible refine awp_region (id := 14) [1000032, 1000042, 1000043, 1000060, 1000061] ?_)
    | (with_reducible refine awp_region (id := 15) [1000032, 1000042, 1000043, 1000060, 1000061] ?_)
    | (with_reducible refine awp_region (id := 16) [1000032, 1000042, 1000043, 1000060, 1000061] ?_)
    | (with_reducible refine awp_region (id := 17) [1000032, 1000042, 1000043, 1000060, 1000061] ?_)
    | (with_reducible refine awp_region (id := 18) [1000032, 1000042, 1000043, 1000060, 1000061] ?_)
    | (with_reducible refine awp_region (id := 19) [1000032, 1000042, 1000043, 1000060, 1000061] ?_)
    | (with_reducible refine awp_region (id := 20) [1000032, 1000042, 1000043, 1000060, 1000061] ?_)
    | (with_reducible refine awp_block ?_)
    | go_step)
  refine ⟨_, few57_ok n ps r hp hps, ?_⟩
  simp only [go_sem, simprocAttr, hF]
  cases h1 : few57B n ps r with
  | false =>
    try simp only [go_sem, simprocAttr, hF, h1]
    repeat (first
      | (with_reducible (first | refine sops_go ?_ | refine headW_end ?_ | refine sops_end ?_ | refine awp_if ?_ | refine awp_skip ?_ | refine awp_ret ?_ | refine awp_exit ?_); simp only [go_sem, simprocAttr, hF, h1])
      | with_reducible (first | refine awp_seq_k fun _ _ => ?_ | refine awp_region [1000032, 1000042, 1000043, 1000060, 1000061] ?_ | refine awp_block ?_)
      | go_step)
    refine ⟨_, awake_ok, ?_⟩
    simp only [go_sem, simprocAttr, hF]
    repeat (first
      | (with_reducible (first | refine sops_go ?_ | refine headW_end ?_ | refine sops_end ?_ | refine awp_if ?_ | refine awp_skip ?_ | refine awp_ret ?_ | refine awp_exit ?_); simp only [go_sem, simprocAttr, hF])
      | with_reducible (first | refine awp_seq_k fun _ _ => ?_ | refine awp_region [1000032, 1000042, 1000043, 1000060, 1000061] ?_ | refine awp_block ?_)
      | go_step)
    all_goals (try rfl)
  | true =>
    obtain ⟨hS, hps4, hpl, hla, hld⟩ := few57_inv h1
    have hpl' : ∀ p ∈ ps, p.length ≤ 1000000 := fun p hp => Nat.le_trans (hpl p hp) (by decide)
    have hla' : (ackR f.id fr r).al.length ≤ 1000000 := by show (r.al.map _).length ≤ _; rw [List.length_map]; omega
    have k1 := find_okX n f ps (ackR f.id fr r) fr hS hla' (show r.dl.length ≤ 1000000 by omega) (by omega) hpl'
    obtain ⟨z1, z2⟩ := findX_none n f ps r fr
    obtain ⟨X, hX⟩ : ∃ X, X = (findX n f ps (ackR f.id fr r) fr).2 := ⟨_, rfl⟩
    rw [z1, ← hX] at k1
    rw [← hX] at z2
    clear hX z1
    have e2 : (X == 0) = false := by simpa using z2
    have kk : FnOK Tryz.prog 15 [.agg ex0.pv, .agg [ip 0, ip 0, ip 0, .v (.slice none 0 0)]] ⟨bv true, none⟩ := by
      have := same57_ok ex0 ex0 (Nat.zero_le _) (fun c hc => by cases hc)
      rw [decide_eq_true rfl] at this
      exact fnOK_le this (.cons (.refl _) (.cons (.agg (.cons (.refl _) (.cons (.refl _) (.cons (.refl _) (.cons (.nil 5) .nil))))) .nil))
    have k3 : ∀ a b, ∃ E, FnOK Tryz.prog 13 [.agg n.pv, .agg f.pv, .agg (ackR f.id fr r).pv, iv fr, iv a, iv b] ⟨.tup [.c (.sl 5 []), .c (ip E)], none⟩ := fun a b => by
      have := causesR_ok n f (ackR f.id fr r) fr a b hS hla' (show r.dl.length ≤ 1000000 by omega)
      rw [causesR_none] at this
      exact ⟨_, this⟩
    try simp only [go_sem, simprocAttr, hF, h1]
    repeat (first
      | (with_reducible (first | refine sops_go ?_ | refine headW_end ?_ | refine sops_end ?_ | refine awp_if ?_ | refine awp_skip ?_ | refine awp_ret ?_ | refine awp_exit ?_); simp only [go_sem, simprocAttr, hF, h1])
      | ((with_reducible refine headW_go ?_); simp only [go_sem, simprocAttr, hF, h1, hbx])
      | with_reducible refine awp_seq_k fun _ _ => ?_
      | (with_reducible refine awp_region (id := 0) [1000032, 1000042, 1000043, 1000060, 1000061] ?_)
      | (with_reducible refine awp_region (id := 1) [1000032, 1000042, 1000043, 1000060, 1000061] ?_)
      | (with_reducible refine awp_region (id := 2) [1000032, 1000042, 1000043, 1000060, 1000061] ?_)
      | (with_reducible refine awp_region (id := 3) [1000032, 1000042, 1000043, 1000060, 1000061] ?_)
      | (with_reducible refine awp_region (id := 4) [1000032, 1000042, 1000043, 1000060, 1000061] ?_)
      | (with_reducible refine awp_region (id := 5) [1000032, 1000042, 1000043, 1000060, 1000061] ?_)
      | (with_reducible refine awp_region (id := 6) [1000032, 1000042, 1000043, 1000060, 1000061] ?_)
      | (with_reducible refine awp_region (id := 7) [1000032, 1000042, 1000043, 1000060, 1000061] ?_)
      | (with_reducible refine awp_region (id := 9) [1000032, 1000042, 1000043, 1000060, 1000061] ?_)
      | (with_reducible refine awp_region (id := 10) [1000032, 1000042, 1000043, 1000060, 1000061] ?_)
      | (with_reducible refine awp_region (id := 11) [1000032, 1000042, 1000043, 1000060, 1000061] ?_)
      | (with_reducible refine awp_region (id := 12) [1000032, 1000042, 1000043, 1000060, 1000061] ?_)
      | (with_reducible refine awp_region (id := 13) [1000032, 1000042, 1000043, 1000060, 1000061] ?_)
      | (with_reducible refine awp_region (id := 14) [1000032, 1000042, 1000043, 1000060, 1000061] ?_)
      | (with_reducible refine awp_region (id := 15) [1000032, 1000042, 1000043, 1000060, 1000061] ?_)
      | (with_reducible refine awp_region (id := 16) [1000032, 1000042, 1000043, 1000060, 1000061] ?_)
      | (with_reducible refine awp_region (id := 17) [1000032, 1000042, 1000043, 1000060, 1000061] ?_)
      | (with_reducible refine awp_region (id := 18) [1000032, 1000042, 1000043, 1000060, 1000061] ?_)
      | (with_reducible refine awp_region (id := 19) [1000032, 1000042, 1000043, 1000060, 1000061] ?_)
      | (with_reducible refine awp_region (id := 20) [1000032, 1000042, 1000043, 1000060, 1000061] ?_)
      | (with_reducible refine awp_block ?_)
      | go_step)
    refine hand_clone (d := 32) r.al (by omega) rfl rfl (by decide) ?_ (fun A cc hA => ?_)
    · simp only [go_sem, simprocAttr, hF]
    simp only [go_sem, simprocAttr, hF]
    repeat (first
      | (with_reducible (first | refine sops_go ?_ | refine headW_end ?_ | refine sops_end ?_ | refine awp_if ?_ | refine awp_skip ?_ | refine awp_ret ?_ | refine awp_exit ?_); simp only [go_sem, simprocAttr, hF])
      | ((with_reducible refine headW_go ?_); simp only [go_sem, simprocAttr, hF, hbx])
      | with_reducible refine awp_seq_k fun _ _ => ?_
      | (with_reducible refine awp_region (id := 0) [1000032, 1000042, 1000043, 1000060, 1000061] ?_)
      | (with_reducible refine awp_region (id := 1) [1000032, 1000042, 1000043, 1000060, 1000061] ?_)
      | (with_reducible refine awp_region (id := 2) [1000032, 1000042, 1000043, 1000060, 1000061] ?_)
      | (with_reducible refine awp_region (id := 3) [1000032, 1000042, 1000043, 1000060, 1000061] ?_)
      | (with_reducible refine awp_region (id := 4) [1000032, 1000042, 1000043, 1000060, 1000061] ?_)
      | (with_reducible refine awp_region (id := 5) [1000032, 1000042, 1000043, 1000060, 1000061] ?_)
      | (with_reducible refine awp_region (id := 6) [1000032, 1000042, 1000043, 1000060, 1000061] ?_)
      | (with_reducible refine awp_region (id := 7) [1000032, 1000042, 1000043, 1000060, 1000061] ?_)
      | (with_reducible refine awp_region (id := 9) [1000032, 1000042, 1000043, 1000060, 1000061] ?_)
      | (with_reducible refine awp_region (id := 10) [1000032, 1000042, 1000043, 1000060, 1000061] ?_)
      | (with_reducible refine awp_region (id := 11) [1000032, 1000042, 1000043, 1000060, 1000061] ?_)
      | (with_reducible refine awp_region (id := 12) [1000032, 1000042, 1000043, 1000060, 1000061] ?_)
      | (with_reducible refine awp_region (id := 13) [1000032, 1000042, 1000043, 1000060, 1000061] ?_)
      | (with_reducible refine awp_region (id := 14) [1000032, 1000042, 1000043, 1000060, 1000061] ?_)
      | (with_reducible refine awp_region (id := 15) [1000032, 1000042, 1000043, 1000060, 1000061] ?_)
      | (with_reducible refine awp_region (id := 16) [1000032, 1000042, 1000043, 1000060, 1000061] ?_)
      | (with_reducible refine awp_region (id := 17) [1000032, 1000042, 1000043, 1000060, 1000061] ?_)
      | (with_reducible refine awp_region (id := 18) [1000032, 1000042, 1000043, 1000060, 1000061] ?_)
      | (with_reducible refine awp_region (id := 19) [1000032, 1000042, 1000043, 1000060, 1000061] ?_)
      | (with_reducible refine awp_region (id := 20) [1000032, 1000042, 1000043, 1000060, 1000061] ?_)
      | (with_reducible refine awp_block ?_)
      | go_step)
    refine awp_loop_by (ι := {k : Nat // k ≤ r.al.length}) (fun k σ => ⟨(39, iv (k.1 : Int)) :: keepS [2, 4, 5, 6, 8, 37, 38] σ.slot, [(5, n.pv), (6, f.pv), (8, [ip r.slots, .v (.slice A r.al.length cc), .sl 3 (r.dl.map Dlv.pv)])], [], Ext.nil.and (ownE 66 8 (.slice A r.al.length cc) r.al.length (flatA (ackK f.id fr r.al k.1)))⟩) (fun k => r.al.length - k.1) ⟨0, by omega⟩ (sub_mk ?_) (fun R hR k => ?_)
    · simp only [go_sem, simprocAttr, hF, ackK_zero]
      repeat' (first | rfl | refine ⟨?_, ?_⟩)
    obtain ⟨k, hk⟩ := k
    dsimp only
    simp only [go_sem, simprocAttr, hF]
    by_cases hlt : k < r.al.length
    case neg =>
      have hd : decide ((k : Int) < (r.al.length : Int)) = false := decide_eq_false (by omega)
      obtain rfl : k = r.al.length := by omega
      repeat (first
        | (with_reducible (first | refine sops_go ?_ | refine headW_end ?_ | refine sops_end ?_ | refine awp_if ?_ | refine awp_skip ?_ | refine awp_ret ?_ | refine awp_exit ?_); simp only [go_sem, simprocAttr, hF, hd])
        | ((with_reducible refine headW_go ?_); simp only [go_sem, simprocAttr, hF, hd, hbx])
        | with_reducible refine awp_seq_k fun _ _ => ?_
        | (with_reducible refine awp_region (id := 0) [1000032, 1000042, 1000043, 1000060, 1000061] ?_)
        | (with_reducible refine awp_region (id := 1) [1000032, 1000042, 1000043, 1000060, 1000061] ?_)
        | (with_reducible refine awp_region (id := 2) [1000032, 1000042, 1000043, 1000060, 1000061] ?_)
        | (with_reducible refine awp_region (id := 3) [1000032, 1000042, 1000043, 1000060, 1000061] ?_)
        | (with_reducible refine awp_region (id := 4) [1000032, 1000042, 1000043, 1000060, 1000061] ?_)
        | (with_reducible refine awp_region (id := 5) [1000032, 1000042, 1000043, 1000060, 1000061] ?_)
        | (with_reducible refine awp_region (id := 6) [1000032, 1000042, 1000043, 1000060, 1000061] ?_)
        | (with_reducible refine awp_region (id := 7) [1000032, 1000042, 1000043, 1000060, 1000061] ?_)
        | (with_reducible refine awp_region (id := 9) [1000032, 1000042, 1000043, 1000060, 1000061] ?_)
        | (with_reducible refine awp_region (id := 11) [1000032, 1000042, 1000043, 1000060, 1000061] ?_)
        | (with_reducible refine awp_region (id := 12) [1000032, 1000042, 1000043, 1000060, 1000061] ?_)
        | (with_reducible refine awp_region (id := 13) [1000032, 1000042, 1000043, 1000060, 1000061] ?_)
        | (with_reducible refine awp_region (id := 14) [1000032, 1000042, 1000043, 1000060, 1000061] ?_)
        | (with_reducible refine awp_region (id := 15) [1000032, 1000042, 1000043, 1000060, 1000061] ?_)
        | (with_reducible refine awp_region (id := 16) [1000032, 1000042, 1000043, 1000060, 1000061] ?_)
        | (with_reducible refine awp_region (id := 17) [1000032, 1000042, 1000043, 1000060, 1000061] ?_)
        | (with_reducible refine awp_region (id := 18) [1000032, 1000042, 1000043, 1000060, 1000061] ?_)
        | (with_reducible refine awp_region (id := 19) [1000032, 1000042, 1000043, 1000060, 1000061] ?_)
        | (with_reducible refine awp_region (id := 20) [1000032, 1000042, 1000043, 1000060, 1000061] ?_)
        | (with_reducible refine awp_block ?_)
        | go_step)
      refine awp_read (k := 8) (off := 1) (E0 := Ext.nil) (ackK f.id fr r.al r.al.length) (ackK_len _ _ _ _) rfl rfl rfl ?_
      simp only [go_sem, simprocAttr, hF, ackK_all, List.set_cons_succ, List.set_cons_zero]
      repeat (first
        | (with_reducible (first | refine sops_go ?_ | refine headW_end ?_ | refine sops_end ?_ | refine awp_if ?_ | refine awp_skip ?_ | refine awp_ret ?_ | refine awp_exit ?_); simp only [go_sem, simprocAttr, hF])
        | ((with_reducible refine headW_go ?_); simp only [go_sem, simprocAttr, hF, hbx])
        | with_reducible refine awp_seq_k fun _ _ => ?_
        | (with_reducible refine awp_region (id := 0) [1000032, 1000042, 1000043, 1000060, 1000061] ?_)
        | (with_reducible refine awp_region (id := 1) [1000032, 1000042, 1000043, 1000060, 1000061] ?_)
        | (with_reducible refine awp_region (id := 2) [1000032, 1000042, 1000043, 1000060, 1000061] ?_)
        | (with_reducible refine awp_region (id := 3) [1000032, 1000042, 1000043, 1000060, 1000061] ?_)
        | (with_reducible refine awp_region (id := 4) [1000032, 1000042, 1000043, 1000060, 1000061] ?_)
        | (with_reducible refine awp_region (id := 5) [1000032, 1000042, 1000043, 1000060, 1000061] ?_)
        | (with_reducible refine awp_region (id := 6) [1000032, 1000042, 1000043, 1000060, 1000061] ?_)
        | (with_reducible refine awp_region (id := 7) [1000032, 1000042, 1000043, 1000060, 1000061] ?_)
        | (with_reducible refine awp_region (id := 9) [1000032, 1000042, 1000043, 1000060, 1000061] ?_)
        | (with_reducible refine awp_region (id := 10) [1000032, 1000042, 1000043, 1000060, 1000061] ?_)
        | (with_reducible refine awp_region (id := 11) [1000032, 1000042, 1000043, 1000060, 1000061] ?_)
        | (with_reducible refine awp_region (id := 12) [1000032, 1000042, 1000043, 1000060, 1000061] ?_)
        | (with_reducible refine awp_region (id := 13) [1000032, 1000042, 1000043, 1000060, 1000061] ?_)
        | (with_reducible refine awp_region (id := 14) [1000032, 1000042, 1000043, 1000060, 1000061] ?_)
        | (with_reducible refine awp_region (id := 15) [1000032, 1000042, 1000043, 1000060, 1000061] ?_)
        | (with_reducible refine awp_region (id := 16) [1000032, 1000042, 1000043, 1000060, 1000061] ?_)
        | (with_reducible refine awp_region (id := 17) [1000032, 1000042, 1000043, 1000060, 1000061] ?_)
        | (with_reducible refine awp_region (id := 18) [1000032, 1000042, 1000043, 1000060, 1000061] ?_)
        | (with_reducible refine awp_region (id := 19) [1000032, 1000042, 1000043, 1000060, 1000061] ?_)
        | (with_reducible refine awp_region (id := 20) [1000032, 1000042, 1000043, 1000060, 1000061] ?_)
        | (with_reducible refine awp_block ?_)
        | go_step)
      refine ⟨_, k1, ?_⟩
      simp only [go_sem, simprocAttr, hF]
      repeat (first
        | (with_reducible (first | refine sops_go ?_ | refine headW_end ?_ | refine sops_end ?_ | refine awp_if ?_ | refine awp_skip ?_ | refine awp_ret ?_ | refine awp_exit ?_); simp only [go_sem, simprocAttr, hF, e2])
        | ((with_reducible refine headW_go ?_); simp only [go_sem, simprocAttr, hF, e2, hbx])
        | with_reducible refine awp_seq_k fun _ _ => ?_
        | (with_reducible refine awp_region (id := 0) [1000032, 1000042, 1000043, 1000060, 1000061] ?_)
        | (with_reducible refine awp_region (id := 1) [1000032, 1000042, 1000043, 1000060, 1000061] ?_)
        | (with_reducible refine awp_region (id := 2) [1000032, 1000042, 1000043, 1000060, 1000061] ?_)
        | (with_reducible refine awp_region (id := 3) [1000032, 1000042, 1000043, 1000060, 1000061] ?_)
        | (with_reducible refine awp_region (id := 4) [1000032, 1000042, 1000043, 1000060, 1000061] ?_)
        | (with_reducible refine awp_region (id := 5) [1000032, 1000042, 1000043, 1000060, 1000061] ?_)
        | (with_reducible refine awp_region (id := 6) [1000032, 1000042, 1000043, 1000060, 1000061] ?_)
        | (with_reducible refine awp_region (id := 7) [1000032, 1000042, 1000043, 1000060, 1000061] ?_)
        | (with_reducible refine awp_region (id := 9) [1000032, 1000042, 1000043, 1000060, 1000061] ?_)
        | (with_reducible refine awp_region (id := 10) [1000032, 1000042, 1000043, 1000060, 1000061] ?_)
        | (with_reducible refine awp_region (id := 11) [1000032, 1000042, 1000043, 1000060, 1000061] ?_)
        | (with_reducible refine awp_region (id := 12) [1000032, 1000042, 1000043, 1000060, 1000061] ?_)
        | (with_reducible refine awp_region (id := 13) [1000032, 1000042, 1000043, 1000060, 1000061] ?_)
        | (with_reducible refine awp_region (id := 14) [1000032, 1000042, 1000043, 1000060, 1000061] ?_)
        | (with_reducible refine awp_region (id := 15) [1000032, 1000042, 1000043, 1000060, 1000061] ?_)
        | (with_reducible refine awp_region (id := 16) [1000032, 1000042, 1000043, 1000060, 1000061] ?_)
        | (with_reducible refine awp_region (id := 17) [1000032, 1000042, 1000043, 1000060, 1000061] ?_)
        | (with_reducible refine awp_region (id := 18) [1000032, 1000042, 1000043, 1000060, 1000061] ?_)
        | (with_reducible refine awp_region (id := 19) [1000032, 1000042, 1000043, 1000060, 1000061] ?_)
        | (with_reducible refine awp_region (id := 20) [1000032, 1000042, 1000043, 1000060, 1000061] ?_)
        | (with_reducible refine awp_block ?_)
        | go_step)
      refine ⟨_, kk, ?_⟩
      simp only [go_sem, simprocAttr, hF]
      repeat (first
        | (with_reducible (first | refine sops_go ?_ | refine headW_end ?_ | refine sops_end ?_ | refine awp_if ?_ | refine awp_skip ?_ | refine awp_ret ?_ | refine awp_exit ?_); simp only [go_sem, simprocAttr, hF])
        | ((with_reducible refine headW_go ?_); simp only [go_sem, simprocAttr, hF, hbx])
        | with_reducible refine awp_seq_k fun _ _ => ?_
        | (with_reducible refine awp_region (id := 0) [1000032, 1000042, 1000043, 1000060, 1000061] ?_)
        | (with_reducible refine awp_region (id := 1) [1000032, 1000042, 1000043, 1000060, 1000061] ?_)
        | (with_reducible refine awp_region (id := 2) [1000032, 1000042, 1000043, 1000060, 1000061] ?_)
        | (with_reducible refine awp_region (id := 3) [1000032, 1000042, 1000043, 1000060, 1000061] ?_)
        | (with_reducible refine awp_region (id := 4) [1000032, 1000042, 1000043, 1000060, 1000061] ?_)
        | (with_reducible refine awp_region (id := 5) [1000032, 1000042, 1000043, 1000060, 1000061] ?_)
        | (with_reducible refine awp_region (id := 6) [1000032, 1000042, 1000043, 1000060, 1000061] ?_)
        | (with_reducible refine awp_region (id := 7) [1000032, 1000042, 1000043, 1000060, 1000061] ?_)
        | (with_reducible refine awp_region (id := 9) [1000032, 1000042, 1000043, 1000060, 1000061] ?_)
        | (with_reducible refine awp_region (id := 10) [1000032, 1000042, 1000043, 1000060, 1000061] ?_)
        | (with_reducible refine awp_region (id := 11) [1000032, 1000042, 1000043, 1000060, 1000061] ?_)
        | (with_reducible refine awp_region (id := 12) [1000032, 1000042, 1000043, 1000060, 1000061] ?_)
        | (with_reducible refine awp_region (id := 13) [1000032, 1000042, 1000043, 1000060, 1000061] ?_)
        | (with_reducible refine awp_region (id := 14) [1000032, 1000042, 1000043, 1000060, 1000061] ?_)
        | (with_reducible refine awp_region (id := 15) [1000032, 1000042, 1000043, 1000060, 1000061] ?_)
        | (with_reducible refine awp_region (id := 16) [1000032, 1000042, 1000043, 1000060, 1000061] ?_)
        | (with_reducible refine awp_region (id := 17) [1000032, 1000042, 1000043, 1000060, 1000061] ?_)
        | (with_reducible refine awp_region (id := 18) [1000032, 1000042, 1000043, 1000060, 1000061] ?_)
        | (with_reducible refine awp_region (id := 19) [1000032, 1000042, 1000043, 1000060, 1000061] ?_)
        | (with_reducible refine awp_region (id := 20) [1000032, 1000042, 1000043, 1000060, 1000061] ?_)
        | (with_reducible refine awp_block ?_)
        | go_step)
      refine awp_loop_by (ι := {j : Nat // j ≤ n.lk.length}) (fun j σ => ⟨(83, iv (j.1 : Int)) :: keepS [2, 4, 5, 6, 8, 14, 81, 82] σ.slot, [(5, n.pv), (6, f.pv), (8, [ip r.slots, .sl 8 ((r.al.map (ackA f.id fr)).map Att.pv), .sl 3 (r.dl.map Dlv.pv)])], [], σ.ext⟩) (fun j => n.lk.length - j.1) ⟨0, by omega⟩ (sub_mk ?_) (fun R2 hR2 j => ?_)
      · simp only [go_sem, simprocAttr, hF]
        repeat' (first | rfl | refine ⟨?_, ?_⟩)
      obtain ⟨j, hj⟩ := j
      dsimp only
      simp only [go_sem, simprocAttr, hF]
      by_cases hjt : j < n.lk.length
      case neg =>
        have hdj : decide ((j : Int) < (n.lk.length : Int)) = false := decide_eq_false (by omega)
        repeat (first
          | (with_reducible (first | refine sops_go ?_ | refine headW_end ?_ | refine sops_end ?_ | refine awp_if ?_ | refine awp_skip ?_ | refine awp_ret ?_ | refine awp_exit ?_); simp only [go_sem, simprocAttr, hF, hdj])
          | ((with_reducible refine headW_go ?_); simp only [go_sem, simprocAttr, hF, hdj, hbx])
          | with_reducible refine awp_seq_k fun _ _ => ?_
          | (with_reducible refine awp_region (id := 0) [1000032, 1000042, 1000043, 1000060, 1000061] ?_)
          | (with_reducible refine awp_region (id := 1) [1000032, 1000042, 1000043, 1000060, 1000061] ?_)
          | (with_reducible refine awp_region (id := 2) [1000032, 1000042, 1000043, 1000060, 1000061] ?_)
          | (with_reducible refine awp_region (id := 3) [1000032, 1000042, 1000043, 1000060, 1000061] ?_)
          | (with_reducible refine awp_region (id := 4) [1000032, 1000042, 1000043, 1000060, 1000061] ?_)
          | (with_reducible refine awp_region (id := 5) [1000032, 1000042, 1000043, 1000060, 1000061] ?_)
          | (with_reducible refine awp_region (id := 6) [1000032, 1000042, 1000043, 1000060, 1000061] ?_)
          | (with_reducible refine awp_region (id := 7) [1000032, 1000042, 1000043, 1000060, 1000061] ?_)
          | (with_reducible refine awp_region (id := 9) [1000032, 1000042, 1000043, 1000060, 1000061] ?_)
          | (with_reducible refine awp_region (id := 10) [1000032, 1000042, 1000043, 1000060, 1000061] ?_)
          | (with_reducible refine awp_region (id := 11) [1000032, 1000042, 1000043, 1000060, 1000061] ?_)
          | (with_reducible refine awp_region (id := 12) [1000032, 1000042, 1000043, 1000060, 1000061] ?_)
          | (with_reducible refine awp_region (id := 13) [1000032, 1000042, 1000043, 1000060, 1000061] ?_)
          | (with_reducible refine awp_region (id := 14) [1000032, 1000042, 1000043, 1000060, 1000061] ?_)
          | (with_reducible refine awp_region (id := 15) [1000032, 1000042, 1000043, 1000060, 1000061] ?_)
          | (with_reducible refine awp_region (id := 16) [1000032, 1000042, 1000043, 1000060, 1000061] ?_)
          | (with_reducible refine awp_region (id := 17) [1000032, 1000042, 1000043, 1000060, 1000061] ?_)
          | (with_reducible refine awp_region (id := 18) [1000032, 1000042, 1000043, 1000060, 1000061] ?_)
          | (with_reducible refine awp_region (id := 19) [1000032, 1000042, 1000043, 1000060, 1000061] ?_)
          | (with_reducible refine awp_region (id := 20) [1000032, 1000042, 1000043, 1000060, 1000061] ?_)
          | (with_reducible refine awp_block ?_)
          | go_step)
        all_goals (try rfl)
      obtain ⟨l, hlj⟩ := get_of_lt hjt
      have hdj : decide ((j : Int) < (n.lk.length : Int)) = true := decide_eq_true (by omega)
      have hlkb := hS.lk
      have hwj : IntKind.i64.wrap ((j : Int) + 1) = ((j + 1 : Nat) : Int) := by rw [IntKind.wrap_i64]; omega
      obtain ⟨E, k4⟩ := k3 l.fr l.tt
      repeat (first
        | (with_reducible (first | refine sops_go ?_ | refine headW_end ?_ | refine sops_end ?_ | refine awp_if ?_ | refine awp_skip ?_ | refine awp_ret ?_ | refine awp_exit ?_); simp only [go_sem, simprocAttr, hF, hdj, hlj])
        | ((with_reducible refine headW_go ?_); simp only [go_sem, simprocAttr, hF, hdj, hlj, hbx])
        | with_reducible refine awp_seq_k fun _ _ => ?_
        | (with_reducible refine awp_region (id := 0) [1000032, 1000042, 1000043, 1000060, 1000061] ?_)
        | (with_reducible refine awp_region (id := 1) [1000032, 1000042, 1000043, 1000060, 1000061] ?_)
        | (with_reducible refine awp_region (id := 2) [1000032, 1000042, 1000043, 1000060, 1000061] ?_)
        | (with_reducible refine awp_region (id := 3) [1000032, 1000042, 1000043, 1000060, 1000061] ?_)
        | (with_reducible refine awp_region (id := 4) [1000032, 1000042, 1000043, 1000060, 1000061] ?_)
        | (with_reducible refine awp_region (id := 5) [1000032, 1000042, 1000043, 1000060, 1000061] ?_)
        | (with_reducible refine awp_region (id := 6) [1000032, 1000042, 1000043, 1000060, 1000061] ?_)
        | (with_reducible refine awp_region (id := 7) [1000032, 1000042, 1000043, 1000060, 1000061] ?_)
        | (with_reducible refine awp_region (id := 9) [1000032, 1000042, 1000043, 1000060, 1000061] ?_)
        | (with_reducible refine awp_region (id := 10) [1000032, 1000042, 1000043, 1000060, 1000061] ?_)
        | (with_reducible refine awp_region (id := 11) [1000032, 1000042, 1000043, 1000060, 1000061] ?_)
        | (with_reducible refine awp_region (id := 12) [1000032, 1000042, 1000043, 1000060, 1000061] ?_)
        | (with_reducible refine awp_region (id := 13) [1000032, 1000042, 1000043, 1000060, 1000061] ?_)
        | (with_reducible refine awp_region (id := 14) [1000032, 1000042, 1000043, 1000060, 1000061] ?_)
        | (with_reducible refine awp_region (id := 15) [1000032, 1000042, 1000043, 1000060, 1000061] ?_)
        | (with_reducible refine awp_region (id := 16) [1000032, 1000042, 1000043, 1000060, 1000061] ?_)
        | (with_reducible refine awp_region (id := 17) [1000032, 1000042, 1000043, 1000060, 1000061] ?_)
        | (with_reducible refine awp_region (id := 18) [1000032, 1000042, 1000043, 1000060, 1000061] ?_)
        | (with_reducible refine awp_region (id := 19) [1000032, 1000042, 1000043, 1000060, 1000061] ?_)
        | (with_reducible refine awp_region (id := 20) [1000032, 1000042, 1000043, 1000060, 1000061] ?_)
        | (with_reducible refine awp_block ?_)
        | go_step)
      refine ⟨_, k4, ?_⟩
      simp only [go_sem, simprocAttr, hF]
      cases g3 : (E == 0) <;> cases g4 : (X == 1) <;> cases g5 : ((ps.length : Int) == 0)
      · repeat (first
          | (with_reducible (first | refine sops_go ?_ | refine headW_end ?_ | refine sops_end ?_ | refine awp_if ?_ | refine awp_skip ?_ | refine awp_ret ?_ | refine awp_exit ?_); simp only [go_sem, simprocAttr, hF, g3, g4, g5])
          | ((with_reducible refine headW_go ?_); simp only [go_sem, simprocAttr, hF, g3, g4, g5, hbx])
          | with_reducible refine awp_seq_k fun _ _ => ?_
          | (with_reducible refine awp_region (id := 0) [1000032, 1000042, 1000043, 1000060, 1000061] ?_)
          | (with_reducible refine awp_region (id := 1) [1000032, 1000042, 1000043, 1000060, 1000061] ?_)
          | (with_reducible refine awp_region (id := 2) [1000032, 1000042, 1000043, 1000060, 1000061] ?_)
          | (with_reducible refine awp_region (id := 3) [1000032, 1000042, 1000043, 1000060, 1000061] ?_)
          | (with_reducible refine awp_region (id := 4) [1000032, 1000042, 1000043, 1000060, 1000061] ?_)
          | (with_reducible refine awp_region (id := 5) [1000032, 1000042, 1000043, 1000060, 1000061] ?_)
          | (with_reducible refine awp_region (id := 6) [1000032, 1000042, 1000043, 1000060, 1000061] ?_)
          | (with_reducible refine awp_region (id := 7) [1000032, 1000042, 1000043, 1000060, 1000061] ?_)
          | (with_reducible refine awp_region (id := 9) [1000032, 1000042, 1000043, 1000060, 1000061] ?_)
          | (with_reducible refine awp_region (id := 10) [1000032, 1000042, 1000043, 1000060, 1000061] ?_)
          | (with_reducible refine awp_region (id := 11) [1000032, 1000042, 1000043, 1000060, 1000061] ?_)
          | (with_reducible refine awp_region (id := 12) [1000032, 1000042, 1000043, 1000060, 1000061] ?_)
          | (with_reducible refine awp_region (id := 13) [1000032, 1000042, 1000043, 1000060, 1000061] ?_)
          | (with_reducible refine awp_region (id := 14) [1000032, 1000042, 1000043, 1000060, 1000061] ?_)
          | (with_reducible refine awp_region (id := 15) [1000032, 1000042, 1000043, 1000060, 1000061] ?_)
          | (with_reducible refine awp_region (id := 16) [1000032, 1000042, 1000043, 1000060, 1000061] ?_)
          | (with_reducible refine awp_region (id := 17) [1000032, 1000042, 1000043, 1000060, 1000061] ?_)
          | (with_reducible refine awp_region (id := 18) [1000032, 1000042, 1000043, 1000060, 1000061] ?_)
          | (with_reducible refine awp_region (id := 19) [1000032, 1000042, 1000043, 1000060, 1000061] ?_)
          | (with_reducible refine awp_region (id := 20) [1000032, 1000042, 1000043, 1000060, 1000061] ?_)
          | (with_reducible refine awp_block ?_)
          | go_step)
        refine ⟨⟨j + 1, by omega⟩, by dsimp only; omega, hR2 _ _ (sub_mk ?_)⟩
        simp only [go_sem, simprocAttr, hF, hwj]
      · repeat (first
          | (with_reducible (first | refine sops_go ?_ | refine headW_end ?_ | refine sops_end ?_ | refine awp_if ?_ | refine awp_skip ?_ | refine awp_ret ?_ | refine awp_exit ?_); simp only [go_sem, simprocAttr, hF, g3, g4, g5])
          | ((with_reducible refine headW_go ?_); simp only [go_sem, simprocAttr, hF, g3, g4, g5, hbx])
          | with_reducible refine awp_seq_k fun _ _ => ?_
          | (with_reducible refine awp_region (id := 0) [1000032, 1000042, 1000043, 1000060, 1000061] ?_)
          | (with_reducible refine awp_region (id := 1) [1000032, 1000042, 1000043, 1000060, 1000061] ?_)
          | (with_reducible refine awp_region (id := 2) [1000032, 1000042, 1000043, 1000060, 1000061] ?_)
          | (with_reducible refine awp_region (id := 3) [1000032, 1000042, 1000043, 1000060, 1000061] ?_)
          | (with_reducible refine awp_region (id := 4) [1000032, 1000042, 1000043, 1000060, 1000061] ?_)
          | (with_reducible refine awp_region (id := 5) [1000032, 1000042, 1000043, 1000060, 1000061] ?_)
          | (with_reducible refine awp_region (id := 6) [1000032, 1000042, 1000043, 1000060, 1000061] ?_)
          | (with_reducible refine awp_region (id := 7) [1000032, 1000042, 1000043, 1000060, 1000061] ?_)
          | (with_reducible refine awp_region (id := 9) [1000032, 1000042, 1000043, 1000060, 1000061] ?_)
          | (with_reducible refine awp_region (id := 10) [1000032, 1000042, 1000043, 1000060, 1000061] ?_)
          | (with_reducible refine awp_region (id := 11) [1000032, 1000042, 1000043, 1000060, 1000061] ?_)
          | (with_reducible refine awp_region (id := 12) [1000032, 1000042, 1000043, 1000060, 1000061] ?_)
          | (with_reducible refine awp_region (id := 13) [1000032, 1000042, 1000043, 1000060, 1000061] ?_)
          | (with_reducible refine awp_region (id := 14) [1000032, 1000042, 1000043, 1000060, 1000061] ?_)
          | (with_reducible refine awp_region (id := 15) [1000032, 1000042, 1000043, 1000060, 1000061] ?_)
          | (with_reducible refine awp_region (id := 16) [1000032, 1000042, 1000043, 1000060, 1000061] ?_)
          | (with_reducible refine awp_region (id := 17) [1000032, 1000042, 1000043, 1000060, 1000061] ?_)
          | (with_reducible refine awp_region (id := 18) [1000032, 1000042, 1000043, 1000060, 1000061] ?_)
          | (with_reducible refine awp_region (id := 19) [1000032, 1000042, 1000043, 1000060, 1000061] ?_)
          | (with_reducible refine awp_region (id := 20) [1000032, 1000042, 1000043, 1000060, 1000061] ?_)
          | (with_reducible refine awp_block ?_)
          | go_step)
        refine ⟨⟨j + 1, by omega⟩, by dsimp only; omega, hR2 _ _ (sub_mk ?_)⟩
        simp only [go_sem, simprocAttr, hF, hwj]
      · repeat (first
          | (with_reducible (first | refine sops_go ?_ | refine headW_end ?_ | refine sops_end ?_ | refine awp_if ?_ | refine awp_skip ?_ | refine awp_ret ?_ | refine awp_exit ?_); simp only [go_sem, simprocAttr, hF, g3, g4, g5])
          | ((with_reducible refine headW_go ?_); simp only [go_sem, simprocAttr, hF, g3, g4, g5, hbx])
          | with_reducible refine awp_seq_k fun _ _ => ?_
          | (with_reducible refine awp_region (id := 0) [1000032, 1000042, 1000043, 1000060, 1000061] ?_)
          | (with_reducible refine awp_region (id := 1) [1000032, 1000042, 1000043, 1000060, 1000061] ?_)
          | (with_reducible refine awp_region (id := 2) [1000032, 1000042, 1000043, 1000060, 1000061] ?_)
          | (with_reducible refine awp_region (id := 3) [1000032, 1000042, 1000043, 1000060, 1000061] ?_)
          | (with_reducible refine awp_region (id := 4) [1000032, 1000042, 1000043, 1000060, 1000061] ?_)
          | (with_reducible refine awp_region (id := 5) [1000032, 1000042, 1000043, 1000060, 1000061] ?_)
          | (with_reducible refine awp_region (id := 6) [1000032, 1000042, 1000043, 1000060, 1000061] ?_)
          | (with_reducible refine awp_region (id := 7) [1000032, 1000042, 1000043, 1000060, 1000061] ?_)
          | (with_reducible refine awp_region (id := 9) [1000032, 1000042, 1000043, 1000060, 1000061] ?_)
          | (with_reducible refine awp_region (id := 10) [1000032, 1000042, 1000043, 1000060, 1000061] ?_)
          | (with_reducible refine awp_region (id := 11) [1000032, 1000042, 1000043, 1000060, 1000061] ?_)
          | (with_reducible refine awp_region (id := 12) [1000032, 1000042, 1000043, 1000060, 1000061] ?_)
          | (with_reducible refine awp_region (id := 13) [1000032, 1000042, 1000043, 1000060, 1000061] ?_)
          | (with_reducible refine awp_region (id := 14) [1000032, 1000042, 1000043, 1000060, 1000061] ?_)
          | (with_reducible refine awp_region (id := 15) [1000032, 1000042, 1000043, 1000060, 1000061] ?_)
          | (with_reducible refine awp_region (id := 16) [1000032, 1000042, 1000043, 1000060, 1000061] ?_)
          | (with_reducible refine awp_region (id := 17) [1000032, 1000042, 1000043, 1000060, 1000061] ?_)
          | (with_reducible refine awp_region (id := 18) [1000032, 1000042, 1000043, 1000060, 1000061] ?_)
          | (with_reducible refine awp_region (id := 19) [1000032, 1000042, 1000043, 1000060, 1000061] ?_)
          | (with_reducible refine awp_region (id := 20) [1000032, 1000042, 1000043, 1000060, 1000061] ?_)
          | (with_reducible refine awp_block ?_)
          | go_step)
        refine ⟨⟨j + 1, by omega⟩, by dsimp only; omega, hR2 _ _ (sub_mk ?_)⟩
        simp only [go_sem, simprocAttr, hF, hwj]
      · repeat (first
          | (with_reducible (first | refine sops_go ?_ | refine headW_end ?_ | refine sops_end ?_ | refine awp_if ?_ | refine awp_skip ?_ | refine awp_ret ?_ | refine awp_exit ?_); simp only [go_sem, simprocAttr, hF, g3, g4, g5])
          | ((with_reducible refine headW_go ?_); simp only [go_sem, simprocAttr, hF, g3, g4, g5, hbx])
          | with_reducible refine awp_seq_k fun _ _ => ?_
          | (with_reducible refine awp_region (id := 0) [1000032, 1000042, 1000043, 1000060, 1000061] ?_)
          | (with_reducible refine awp_region (id := 1) [1000032, 1000042, 1000043, 1000060, 1000061] ?_)
          | (with_reducible refine awp_region (id := 2) [1000032, 1000042, 1000043, 1000060, 1000061] ?_)
          | (with_reducible refine awp_region (id := 3) [1000032, 1000042, 1000043, 1000060, 1000061] ?_)
          | (with_reducible refine awp_region (id := 4) [1000032, 1000042, 1000043, 1000060, 1000061] ?_)
          | (with_reducible refine awp_region (id := 5) [1000032, 1000042, 1000043, 1000060, 1000061] ?_)
          | (with_reducible refine awp_region (id := 6) [1000032, 1000042, 1000043, 1000060, 1000061] ?_)
          | (with_reducible refine awp_region (id := 7) [1000032, 1000042, 1000043, 1000060, 1000061] ?_)
          | (with_reducible refine awp_region (id := 9) [1000032, 1000042, 1000043, 1000060, 1000061] ?_)
          | (with_reducible refine awp_region (id := 10) [1000032, 1000042, 1000043, 1000060, 1000061] ?_)
          | (with_reducible refine awp_region (id := 11) [1000032, 1000042, 1000043, 1000060, 1000061] ?_)
          | (with_reducible refine awp_region (id := 12) [1000032, 1000042, 1000043, 1000060, 1000061] ?_)
          | (with_reducible refine awp_region (id := 13) [1000032, 1000042, 1000043, 1000060, 1000061] ?_)
          | (with_reducible refine awp_region (id := 14) [1000032, 1000042, 1000043, 1000060, 1000061] ?_)
          | (with_reducible refine awp_region (id := 15) [1000032, 1000042, 1000043, 1000060, 1000061] ?_)
          | (with_reducible refine awp_region (id := 16) [1000032, 1000042, 1000043, 1000060, 1000061] ?_)
          | (with_reducible refine awp_region (id := 17) [1000032, 1000042, 1000043, 1000060, 1000061] ?_)
          | (with_reducible refine awp_region (id := 18) [1000032, 1000042, 1000043, 1000060, 1000061] ?_)
          | (with_reducible refine awp_region (id := 19) [1000032, 1000042, 1000043, 1000060, 1000061] ?_)
          | (with_reducible refine awp_region (id := 20) [1000032, 1000042, 1000043, 1000060, 1000061] ?_)
          | (with_reducible refine awp_block ?_)
          | go_step)
        refine ⟨⟨j + 1, by omega⟩, by dsimp only; omega, hR2 _ _ (sub_mk ?_)⟩
        simp only [go_sem, simprocAttr, hF, hwj]
      · repeat (first
          | (with_reducible (first | refine sops_go ?_ | refine headW_end ?_ | refine sops_end ?_ | refine awp_if ?_ | refine awp_skip ?_ | refine awp_ret ?_ | refine awp_exit ?_); simp only [go_sem, simprocAttr, hF, g3, g4, g5])
          | ((with_reducible refine headW_go ?_); simp only [go_sem, simprocAttr, hF, g3, g4, g5, hbx])
          | with_reducible refine awp_seq_k fun _ _ => ?_
          | (with_reducible refine awp_region (id := 0) [1000032, 1000042, 1000043, 1000060, 1000061] ?_)
          | (with_reducible refine awp_region (id := 1) [1000032, 1000042, 1000043, 1000060, 1000061] ?_)
          | (with_reducible refine awp_region (id := 2) [1000032, 1000042, 1000043, 1000060, 1000061] ?_)
          | (with_reducible refine awp_region (id := 3) [1000032, 1000042, 1000043, 1000060, 1000061] ?_)
          | (with_reducible refine awp_region (id := 4) [1000032, 1000042, 1000043, 1000060, 1000061] ?_)
          | (with_reducible refine awp_region (id := 5) [1000032, 1000042, 1000043, 1000060, 1000061] ?_)
          | (with_reducible refine awp_region (id := 6) [1000032, 1000042, 1000043, 1000060, 1000061] ?_)
          | (with_reducible refine awp_region (id := 7) [1000032, 1000042, 1000043, 1000060, 1000061] ?_)
          | (with_reducible refine awp_region (id := 9) [1000032, 1000042, 1000043, 1000060, 1000061] ?_)
          | (with_reducible refine awp_region (id := 10) [1000032, 1000042, 1000043, 1000060, 1000061] ?_)
          | (with_reducible refine awp_region (id := 11) [1000032, 1000042, 1000043, 1000060, 1000061] ?_)
          | (with_reducible refine awp_region (id := 12) [1000032, 1000042, 1000043, 1000060, 1000061] ?_)
          | (with_reducible refine awp_region (id := 13) [1000032, 1000042, 1000043, 1000060, 1000061] ?_)
          | (with_reducible refine awp_region (id := 14) [1000032, 1000042, 1000043, 1000060, 1000061] ?_)
          | (with_reducible refine awp_region (id := 15) [1000032, 1000042, 1000043, 1000060, 1000061] ?_)
          | (with_reducible refine awp_region (id := 16) [1000032, 1000042, 1000043, 1000060, 1000061] ?_)
          | (with_reducible refine awp_region (id := 17) [1000032, 1000042, 1000043, 1000060, 1000061] ?_)
          | (with_reducible refine awp_region (id := 18) [1000032, 1000042, 1000043, 1000060, 1000061] ?_)
          | (with_reducible refine awp_region (id := 19) [1000032, 1000042, 1000043, 1000060, 1000061] ?_)
          | (with_reducible refine awp_region (id := 20) [1000032, 1000042, 1000043, 1000060, 1000061] ?_)
          | (with_reducible refine awp_block ?_)
          | go_step)
        refine ⟨⟨j + 1, by omega⟩, by dsimp only; omega, hR2 _ _ (sub_mk ?_)⟩
        simp only [go_sem, simprocAttr, hF, hwj]
      · repeat (first
          | (with_reducible (first | refine sops_go ?_ | refine headW_end ?_ | refine sops_end ?_ | refine awp_if ?_ | refine awp_skip ?_ | refine awp_ret ?_ | refine awp_exit ?_); simp only [go_sem, simprocAttr, hF, g3, g4, g5])
          | ((with_reducible refine headW_go ?_); simp only [go_sem, simprocAttr, hF, g3, g4, g5, hbx])
          | with_reducible refine awp_seq_k fun _ _ => ?_
          | (with_reducible refine awp_region (id := 0) [1000032, 1000042, 1000043, 1000060, 1000061] ?_)
          | (with_reducible refine awp_region (id := 1) [1000032, 1000042, 1000043, 1000060, 1000061] ?_)
          | (with_reducible refine awp_region (id := 2) [1000032, 1000042, 1000043, 1000060, 1000061] ?_)
          | (with_reducible refine awp_region (id := 3) [1000032, 1000042, 1000043, 1000060, 1000061] ?_)
          | (with_reducible refine awp_region (id := 4) [1000032, 1000042, 1000043, 1000060, 1000061] ?_)
          | (with_reducible refine awp_region (id := 5) [1000032, 1000042, 1000043, 1000060, 1000061] ?_)
          | (with_reducible refine awp_region (id := 6) [1000032, 1000042, 1000043, 1000060, 1000061] ?_)
          | (with_reducible refine awp_region (id := 7) [1000032, 1000042, 1000043, 1000060, 1000061] ?_)
          | (with_reducible refine awp_region (id := 9) [1000032, 1000042, 1000043, 1000060, 1000061] ?_)
          | (with_reducible refine awp_region (id := 10) [1000032, 1000042, 1000043, 1000060, 1000061] ?_)
          | (with_reducible refine awp_region (id := 11) [1000032, 1000042, 1000043, 1000060, 1000061] ?_)
          | (with_reducible refine awp_region (id := 12) [1000032, 1000042, 1000043, 1000060, 1000061] ?_)
          | (with_reducible refine awp_region (id := 13) [1000032, 1000042, 1000043, 1000060, 1000061] ?_)
          | (with_reducible refine awp_region (id := 14) [1000032, 1000042, 1000043, 1000060, 1000061] ?_)
          | (with_reducible refine awp_region (id := 15) [1000032, 1000042, 1000043, 1000060, 1000061] ?_)
          | (with_reducible refine awp_region (id := 16) [1000032, 1000042, 1000043, 1000060, 1000061] ?_)
          | (with_reducible refine awp_region (id := 17) [1000032, 1000042, 1000043, 1000060, 1000061] ?_)
          | (with_reducible refine awp_region (id := 18) [1000032, 1000042, 1000043, 1000060, 1000061] ?_)
          | (with_reducible refine awp_region (id := 19) [1000032, 1000042, 1000043, 1000060, 1000061] ?_)
          | (with_reducible refine awp_region (id := 20) [1000032, 1000042, 1000043, 1000060, 1000061] ?_)
          | (with_reducible refine awp_block ?_)
          | go_step)
        refine ⟨⟨j + 1, by omega⟩, by dsimp only; omega, hR2 _ _ (sub_mk ?_)⟩
        simp only [go_sem, simprocAttr, hF, hwj]
      · repeat (first
          | (with_reducible (first | refine sops_go ?_ | refine headW_end ?_ | refine sops_end ?_ | refine awp_if ?_ | refine awp_skip ?_ | refine awp_ret ?_ | refine awp_exit ?_); simp only [go_sem, simprocAttr, hF, g3, g4, g5])
          | ((with_reducible refine headW_go ?_); simp only [go_sem, simprocAttr, hF, g3, g4, g5, hbx])
          | with_reducible refine awp_seq_k fun _ _ => ?_
          | (with_reducible refine awp_region (id := 0) [1000032, 1000042, 1000043, 1000060, 1000061] ?_)
          | (with_reducible refine awp_region (id := 1) [1000032, 1000042, 1000043, 1000060, 1000061] ?_)
          | (with_reducible refine awp_region (id := 2) [1000032, 1000042, 1000043, 1000060, 1000061] ?_)
          | (with_reducible refine awp_region (id := 3) [1000032, 1000042, 1000043, 1000060, 1000061] ?_)
          | (with_reducible refine awp_region (id := 4) [1000032, 1000042, 1000043, 1000060, 1000061] ?_)
          | (with_reducible refine awp_region (id := 5) [1000032, 1000042, 1000043, 1000060, 1000061] ?_)
          | (with_reducible refine awp_region (id := 6) [1000032, 1000042, 1000043, 1000060, 1000061] ?_)
          | (with_reducible refine awp_region (id := 7) [1000032, 1000042, 1000043, 1000060, 1000061] ?_)
          | (with_reducible refine awp_region (id := 9) [1000032, 1000042, 1000043, 1000060, 1000061] ?_)
          | (with_reducible refine awp_region (id := 10) [1000032, 1000042, 1000043, 1000060, 1000061] ?_)
          | (with_reducible refine awp_region (id := 11) [1000032, 1000042, 1000043, 1000060, 1000061] ?_)
          | (with_reducible refine awp_region (id := 12) [1000032, 1000042, 1000043, 1000060, 1000061] ?_)
          | (with_reducible refine awp_region (id := 13) [1000032, 1000042, 1000043, 1000060, 1000061] ?_)
          | (with_reducible refine awp_region (id := 14) [1000032, 1000042, 1000043, 1000060, 1000061] ?_)
          | (with_reducible refine awp_region (id := 15) [1000032, 1000042, 1000043, 1000060, 1000061] ?_)
          | (with_reducible refine awp_region (id := 16) [1000032, 1000042, 1000043, 1000060, 1000061] ?_)
          | (with_reducible refine awp_region (id := 17) [1000032, 1000042, 1000043, 1000060, 1000061] ?_)
          | (with_reducible refine awp_region (id := 18) [1000032, 1000042, 1000043, 1000060, 1000061] ?_)
          | (with_reducible refine awp_region (id := 19) [1000032, 1000042, 1000043, 1000060, 1000061] ?_)
          | (with_reducible refine awp_region (id := 20) [1000032, 1000042, 1000043, 1000060, 1000061] ?_)
          | (with_reducible refine awp_block ?_)
          | go_step)
        refine ⟨⟨j + 1, by omega⟩, by dsimp only; omega, hR2 _ _ (sub_mk ?_)⟩
        simp only [go_sem, simprocAttr, hF, hwj]
      · repeat (first
          | (with_reducible (first | refine sops_go ?_ | refine headW_end ?_ | refine sops_end ?_ | refine awp_if ?_ | refine awp_skip ?_ | refine awp_ret ?_ | refine awp_exit ?_); simp only [go_sem, simprocAttr, hF, g3, g4, g5])
          | ((with_reducible refine headW_go ?_); simp only [go_sem, simprocAttr, hF, g3, g4, g5, hbx])
          | with_reducible refine awp_seq_k fun _ _ => ?_
          | (with_reducible refine awp_region (id := 0) [1000032, 1000042, 1000043, 1000060, 1000061] ?_)
          | (with_reducible refine awp_region (id := 1) [1000032, 1000042, 1000043, 1000060, 1000061] ?_)
          | (with_reducible refine awp_region (id := 2) [1000032, 1000042, 1000043, 1000060, 1000061] ?_)
          | (with_reducible refine awp_region (id := 3) [1000032, 1000042, 1000043, 1000060, 1000061] ?_)
          | (with_reducible refine awp_region (id := 4) [1000032, 1000042, 1000043, 1000060, 1000061] ?_)
          | (with_reducible refine awp_region (id := 5) [1000032, 1000042, 1000043, 1000060, 1000061] ?_)
          | (with_reducible refine awp_region (id := 6) [1000032, 1000042, 1000043, 1000060, 1000061] ?_)
          | (with_reducible refine awp_region (id := 7) [1000032, 1000042, 1000043, 1000060, 1000061] ?_)
          | (with_reducible refine awp_region (id := 9) [1000032, 1000042, 1000043, 1000060, 1000061] ?_)
          | (with_reducible refine awp_region (id := 10) [1000032, 1000042, 1000043, 1000060, 1000061] ?_)
          | (with_reducible refine awp_region (id := 11) [1000032, 1000042, 1000043, 1000060, 1000061] ?_)
          | (with_reducible refine awp_region (id := 12) [1000032, 1000042, 1000043, 1000060, 1000061] ?_)
          | (with_reducible refine awp_region (id := 13) [1000032, 1000042, 1000043, 1000060, 1000061] ?_)
          | (with_reducible refine awp_region (id := 14) [1000032, 1000042, 1000043, 1000060, 1000061] ?_)
          | (with_reducible refine awp_region (id := 15) [1000032, 1000042, 1000043, 1000060, 1000061] ?_)
          | (with_reducible refine awp_region (id := 16) [1000032, 1000042, 1000043, 1000060, 1000061] ?_)
          | (with_reducible refine awp_region (id := 17) [1000032, 1000042, 1000043, 1000060, 1000061] ?_)
          | (with_reducible refine awp_region (id := 18) [1000032, 1000042, 1000043, 1000060, 1000061] ?_)
          | (with_reducible refine awp_region (id := 19) [1000032, 1000042, 1000043, 1000060, 1000061] ?_)
          | (with_reducible refine awp_region (id := 20) [1000032, 1000042, 1000043, 1000060, 1000061] ?_)
          | (with_reducible refine awp_block ?_)
          | go_step)
        refine ⟨⟨j + 1, by omega⟩, by dsimp only; omega, hR2 _ _ (sub_mk ?_)⟩
        simp only [go_sem, simprocAttr, hF, hwj]
    obtain ⟨a, hdk⟩ := get_of_lt hlt
    have hd : decide ((k : Int) < (r.al.length : Int)) = true := decide_eq_true (by omega)
    have hw : IntKind.i64.wrap ((k : Int) + 1) = ((k + 1 : Nat) : Int) := by rw [IntKind.wrap_i64]; omega
    have hkg := ackK_get (fl := f.id) (fr := fr) hdk
    obtain ⟨g, rfl⟩ : ∃ g, A = some ⟨g, 0, none⟩ := hA.resolve_left (fun h => by rw [h] at hlt; exact absurd hlt (Nat.not_lt_zero _))
    repeat (first
      | (with_reducible (first | refine sops_go ?_ | refine headW_end ?_ | refine sops_end ?_ | refine awp_if ?_ | refine awp_skip ?_ | refine awp_ret ?_ | refine awp_exit ?_); simp only [go_sem, simprocAttr, hF, hd])
      | ((with_reducible refine headW_go ?_); simp only [go_sem, simprocAttr, hF, hd, hbx])
      | with_reducible refine awp_seq_k fun _ _ => ?_
      | (with_reducible refine awp_region (id := 0) [1000032, 1000042, 1000043, 1000060, 1000061] ?_)
      | (with_reducible refine awp_region (id := 1) [1000032, 1000042, 1000043, 1000060, 1000061] ?_)
      | (with_reducible refine awp_region (id := 2) [1000032, 1000042, 1000043, 1000060, 1000061] ?_)
      | (with_reducible refine awp_region (id := 3) [1000032, 1000042, 1000043, 1000060, 1000061] ?_)
      | (with_reducible refine awp_region (id := 4) [1000032, 1000042, 1000043, 1000060, 1000061] ?_)
      | (with_reducible refine awp_region (id := 5) [1000032, 1000042, 1000043, 1000060, 1000061] ?_)
      | (with_reducible refine awp_region (id := 6) [1000032, 1000042, 1000043, 1000060, 1000061] ?_)
      | (with_reducible refine awp_region (id := 7) [1000032, 1000042, 1000043, 1000060, 1000061] ?_)
      | (with_reducible refine awp_region (id := 9) [1000032, 1000042, 1000043, 1000060, 1000061] ?_)
      | (with_reducible refine awp_region (id := 10) [1000032, 1000042, 1000043, 1000060, 1000061] ?_)
      | (with_reducible refine awp_region (id := 11) [1000032, 1000042, 1000043, 1000060, 1000061] ?_)
      | (with_reducible refine awp_region (id := 12) [1000032, 1000042, 1000043, 1000060, 1000061] ?_)
      | (with_reducible refine awp_region (id := 13) [1000032, 1000042, 1000043, 1000060, 1000061] ?_)
      | (with_reducible refine awp_region (id := 14) [1000032, 1000042, 1000043, 1000060, 1000061] ?_)
      | (with_reducible refine awp_region (id := 15) [1000032, 1000042, 1000043, 1000060, 1000061] ?_)
      | (with_reducible refine awp_region (id := 16) [1000032, 1000042, 1000043, 1000060, 1000061] ?_)
      | (with_reducible refine awp_region (id := 17) [1000032, 1000042, 1000043, 1000060, 1000061] ?_)
      | (with_reducible refine awp_region (id := 18) [1000032, 1000042, 1000043, 1000060, 1000061] ?_)
      | (with_reducible refine awp_region (id := 19) [1000032, 1000042, 1000043, 1000060, 1000061] ?_)
      | (with_reducible refine awp_region (id := 20) [1000032, 1000042, 1000043, 1000060, 1000061] ?_)
      | (with_reducible refine awp_block ?_)
      | go_step)
    refine hand_at (d := 42) (g := g) (c := cc) (i := k) (sz := 8) rfl rfl (by decide) ?_ ?_ hlt Tryz.underlying30 (by kernel_rfl) ?_
    · simp only [go_sem, simprocAttr, hF]
    · simp only [go_sem, simprocAttr, hF]
    simp only [go_sem, simprocAttr, hF]
    repeat (first
      | (with_reducible (first | refine sops_go ?_ | refine headW_end ?_ | refine sops_end ?_ | refine awp_if ?_ | refine awp_skip ?_ | refine awp_ret ?_ | refine awp_exit ?_); simp only [go_sem, simprocAttr, hF])
      | ((with_reducible refine headW_go ?_); simp only [go_sem, simprocAttr, hF, hbx])
      | with_reducible refine awp_seq_k fun _ _ => ?_
      | (with_reducible refine awp_region (id := 0) [1000032, 1000042, 1000043, 1000060, 1000061] ?_)
      | (with_reducible refine awp_region (id := 1) [1000032, 1000042, 1000043, 1000060, 1000061] ?_)
      | (with_reducible refine awp_region (id := 2) [1000032, 1000042, 1000043, 1000060, 1000061] ?_)
      | (with_reducible refine awp_region (id := 3) [1000032, 1000042, 1000043, 1000060, 1000061] ?_)
      | (with_reducible refine awp_region (id := 4) [1000032, 1000042, 1000043, 1000060, 1000061] ?_)
      | (with_reducible refine awp_region (id := 5) [1000032, 1000042, 1000043, 1000060, 1000061] ?_)
      | (with_reducible refine awp_region (id := 6) [1000032, 1000042, 1000043, 1000060, 1000061] ?_)
      | (with_reducible refine awp_region (id := 7) [1000032, 1000042, 1000043, 1000060, 1000061] ?_)
      | (with_reducible refine awp_region (id := 9) [1000032, 1000042, 1000043, 1000060, 1000061] ?_)
      | (with_reducible refine awp_region (id := 10) [1000032, 1000042, 1000043, 1000060, 1000061] ?_)
      | (with_reducible refine awp_region (id := 11) [1000032, 1000042, 1000043, 1000060, 1000061] ?_)
      | (with_reducible refine awp_region (id := 12) [1000032, 1000042, 1000043, 1000060, 1000061] ?_)
      | (with_reducible refine awp_region (id := 13) [1000032, 1000042, 1000043, 1000060, 1000061] ?_)
      | (with_reducible refine awp_region (id := 14) [1000032, 1000042, 1000043, 1000060, 1000061] ?_)
      | (with_reducible refine awp_region (id := 15) [1000032, 1000042, 1000043, 1000060, 1000061] ?_)
      | (with_reducible refine awp_region (id := 16) [1000032, 1000042, 1000043, 1000060, 1000061] ?_)
      | (with_reducible refine awp_region (id := 17) [1000032, 1000042, 1000043, 1000060, 1000061] ?_)
      | (with_reducible refine awp_region (id := 18) [1000032, 1000042, 1000043, 1000060, 1000061] ?_)
      | (with_reducible refine awp_region (id := 19) [1000032, 1000042, 1000043, 1000060, 1000061] ?_)
      | (with_reducible refine awp_region (id := 20) [1000032, 1000042, 1000043, 1000060, 1000061] ?_)
      | (with_reducible refine awp_block ?_)
      | go_step)
    refine hand_row (d := 43) (i := k) (E0 := Ext.nil) rfl rfl (by decide) rfl ?_ hkg Tryz.underlying66 rfl (by kernel_rfl) ?_
    · simp only [go_sem, simprocAttr, hF]
    simp only [go_sem, simprocAttr, hF]
    repeat (first
      | (with_reducible (first | refine sops_go ?_ | refine headW_end ?_ | refine sops_end ?_ | refine awp_if ?_ | refine awp_skip ?_ | refine awp_ret ?_ | refine awp_exit ?_); simp only [go_sem, simprocAttr, hF])
      | ((with_reducible refine headW_go ?_); simp only [go_sem, simprocAttr, hF, hbx])
      | with_reducible refine awp_seq_k fun _ _ => ?_
      | (with_reducible refine awp_region (id := 0) [1000032, 1000042, 1000043, 1000060, 1000061] ?_)
      | (with_reducible refine awp_region (id := 1) [1000032, 1000042, 1000043, 1000060, 1000061] ?_)
      | (with_reducible refine awp_region (id := 2) [1000032, 1000042, 1000043, 1000060, 1000061] ?_)
      | (with_reducible refine awp_region (id := 3) [1000032, 1000042, 1000043, 1000060, 1000061] ?_)
      | (with_reducible refine awp_region (id := 4) [1000032, 1000042, 1000043, 1000060, 1000061] ?_)
      | (with_reducible refine awp_region (id := 5) [1000032, 1000042, 1000043, 1000060, 1000061] ?_)
      | (with_reducible refine awp_region (id := 6) [1000032, 1000042, 1000043, 1000060, 1000061] ?_)
      | (with_reducible refine awp_region (id := 7) [1000032, 1000042, 1000043, 1000060, 1000061] ?_)
      | (with_reducible refine awp_region (id := 9) [1000032, 1000042, 1000043, 1000060, 1000061] ?_)
      | (with_reducible refine awp_region (id := 10) [1000032, 1000042, 1000043, 1000060, 1000061] ?_)
      | (with_reducible refine awp_region (id := 11) [1000032, 1000042, 1000043, 1000060, 1000061] ?_)
      | (with_reducible refine awp_region (id := 12) [1000032, 1000042, 1000043, 1000060, 1000061] ?_)
      | (with_reducible refine awp_region (id := 13) [1000032, 1000042, 1000043, 1000060, 1000061] ?_)
      | (with_reducible refine awp_region (id := 14) [1000032, 1000042, 1000043, 1000060, 1000061] ?_)
      | (with_reducible refine awp_region (id := 15) [1000032, 1000042, 1000043, 1000060, 1000061] ?_)
      | (with_reducible refine awp_region (id := 16) [1000032, 1000042, 1000043, 1000060, 1000061] ?_)
      | (with_reducible refine awp_region (id := 17) [1000032, 1000042, 1000043, 1000060, 1000061] ?_)
      | (with_reducible refine awp_region (id := 18) [1000032, 1000042, 1000043, 1000060, 1000061] ?_)
      | (with_reducible refine awp_region (id := 19) [1000032, 1000042, 1000043, 1000060, 1000061] ?_)
      | (with_reducible refine awp_region (id := 20) [1000032, 1000042, 1000043, 1000060, 1000061] ?_)
      | (with_reducible refine awp_block ?_)
      | go_step)
    cases h2 : (a.cl == f.id) with
    | false =>
      have hq : ackK f.id fr r.al (k + 1) = ackK f.id fr r.al k := ackK_same hdk (by rw [h2]; rfl)
      try simp only [go_sem, simprocAttr, hF, h2]
      repeat (first
        | (with_reducible (first | refine sops_go ?_ | refine headW_end ?_ | refine sops_end ?_ | refine awp_if ?_ | refine awp_skip ?_ | refine awp_ret ?_ | refine awp_exit ?_); simp only [go_sem, simprocAttr, hF, h2])
        | with_reducible (first | refine awp_seq_k fun _ _ => ?_ | refine awp_region [1000032, 1000042, 1000043, 1000060, 1000061] ?_ | refine awp_block ?_)
        | go_step)
      refine ⟨⟨k + 1, by omega⟩, by dsimp only; omega, hR _ _ (sub_mk ?_)⟩
      simp only [go_sem, simprocAttr, hF, hw, hq]
    | true =>
      cases h3 : (a.f == fr) with
      | false =>
        have hq : ackK f.id fr r.al (k + 1) = ackK f.id fr r.al k := ackK_same hdk (by rw [h3, Bool.and_false])
        try simp only [go_sem, simprocAttr, hF, h2, h3]
        repeat (first
          | (with_reducible (first | refine sops_go ?_ | refine headW_end ?_ | refine sops_end ?_ | refine awp_if ?_ | refine awp_skip ?_ | refine awp_ret ?_ | refine awp_exit ?_); simp only [go_sem, simprocAttr, hF, h2, h3])
          | with_reducible (first | refine awp_seq_k fun _ _ => ?_ | refine awp_region [1000032, 1000042, 1000043, 1000060, 1000061] ?_ | refine awp_block ?_)
          | go_step)
        refine ⟨⟨k + 1, by omega⟩, by dsimp only; omega, hR _ _ (sub_mk ?_)⟩
        simp only [go_sem, simprocAttr, hF, hw, hq]
      | true =>
        have hq : (ackK f.id fr r.al k).set k { a with o := 1 } = ackK f.id fr r.al (k + 1) := by rw [ackK_succ hdk]; unfold ackA; rw [h2, h3]; rfl
        try simp only [go_sem, simprocAttr, hF, h2, h3]
        repeat (first
          | ((with_reducible refine sopsH_go ?_); simp only [go_sem, simprocAttr, hF, h2, h3])
          | ((with_reducible refine sopsH_end ?_); simp only [go_sem, simprocAttr, hF, h2, h3])
          | ((with_reducible refine awp_regionH (id := 8) [1000032, 1000042, 1000043, 1000060, 1000061] ?_))
          | (with_reducible (first | refine sops_go ?_ | refine headW_end ?_ | refine sops_end ?_ | refine awp_if ?_ | refine awp_skip ?_ | refine awp_ret ?_ | refine awp_exit ?_); simp only [go_sem, simprocAttr, hF, h2, h3])
          | ((with_reducible refine headW_go ?_); simp only [go_sem, simprocAttr, hF, h2, h3, hbx])
          | with_reducible refine awp_seq_k fun _ _ => ?_
          | (with_reducible refine awp_region (id := 0) [1000032, 1000042, 1000043, 1000060, 1000061] ?_)
          | (with_reducible refine awp_region (id := 1) [1000032, 1000042, 1000043, 1000060, 1000061] ?_)
          | (with_reducible refine awp_region (id := 2) [1000032, 1000042, 1000043, 1000060, 1000061] ?_)
          | (with_reducible refine awp_region (id := 3) [1000032, 1000042, 1000043, 1000060, 1000061] ?_)
          | (with_reducible refine awp_region (id := 4) [1000032, 1000042, 1000043, 1000060, 1000061] ?_)
          | (with_reducible refine awp_region (id := 5) [1000032, 1000042, 1000043, 1000060, 1000061] ?_)
          | (with_reducible refine awp_region (id := 6) [1000032, 1000042, 1000043, 1000060, 1000061] ?_)
          | (with_reducible refine awp_region (id := 7) [1000032, 1000042, 1000043, 1000060, 1000061] ?_)
          | (with_reducible refine awp_region (id := 9) [1000032, 1000042, 1000043, 1000060, 1000061] ?_)
          | (with_reducible refine awp_region (id := 10) [1000032, 1000042, 1000043, 1000060, 1000061] ?_)
          | (with_reducible refine awp_region (id := 11) [1000032, 1000042, 1000043, 1000060, 1000061] ?_)
          | (with_reducible refine awp_region (id := 12) [1000032, 1000042, 1000043, 1000060, 1000061] ?_)
          | (with_reducible refine awp_region (id := 13) [1000032, 1000042, 1000043, 1000060, 1000061] ?_)
          | (with_reducible refine awp_region (id := 14) [1000032, 1000042, 1000043, 1000060, 1000061] ?_)
          | (with_reducible refine awp_region (id := 15) [1000032, 1000042, 1000043, 1000060, 1000061] ?_)
          | (with_reducible refine awp_region (id := 16) [1000032, 1000042, 1000043, 1000060, 1000061] ?_)
          | (with_reducible refine awp_region (id := 17) [1000032, 1000042, 1000043, 1000060, 1000061] ?_)
          | (with_reducible refine awp_region (id := 18) [1000032, 1000042, 1000043, 1000060, 1000061] ?_)
          | (with_reducible refine awp_region (id := 19) [1000032, 1000042, 1000043, 1000060, 1000061] ?_)
          | (with_reducible refine awp_region (id := 20) [1000032, 1000042, 1000043, 1000060, 1000061] ?_)
          | (with_reducible refine awp_block ?_)
          | go_step)
        refine hand_at (d := 60) (g := g) (c := cc) (i := k) (sz := 8) rfl rfl (by decide) ?_ ?_ hlt Tryz.underlying30 (by kernel_rfl) ?_
        · simp only [go_sem, simprocAttr, hF]
        · simp only [go_sem, simprocAttr, hF]
        simp only [go_sem, simprocAttr, hF]
        repeat (first
          | ((with_reducible refine sopsH_go ?_); simp only [go_sem, simprocAttr, hF])
          | ((with_reducible refine sopsH_end ?_); simp only [go_sem, simprocAttr, hF])
          | ((with_reducible refine awp_regionH (id := 8) [1000032, 1000042, 1000043, 1000060, 1000061] ?_))
          | (with_reducible (first | refine sops_go ?_ | refine headW_end ?_ | refine sops_end ?_ | refine awp_if ?_ | refine awp_skip ?_ | refine awp_ret ?_ | refine awp_exit ?_); simp only [go_sem, simprocAttr, hF])
          | ((with_reducible refine headW_go ?_); simp only [go_sem, simprocAttr, hF, hbx])
          | with_reducible refine awp_seq_k fun _ _ => ?_
          | (with_reducible refine awp_region (id := 0) [1000032, 1000042, 1000043, 1000060, 1000061] ?_)
          | (with_reducible refine awp_region (id := 1) [1000032, 1000042, 1000043, 1000060, 1000061] ?_)
          | (with_reducible refine awp_region (id := 2) [1000032, 1000042, 1000043, 1000060, 1000061] ?_)
          | (with_reducible refine awp_region (id := 3) [1000032, 1000042, 1000043, 1000060, 1000061] ?_)
          | (with_reducible refine awp_region (id := 4) [1000032, 1000042, 1000043, 1000060, 1000061] ?_)
          | (with_reducible refine awp_region (id := 5) [1000032, 1000042, 1000043, 1000060, 1000061] ?_)
          | (with_reducible refine awp_region (id := 6) [1000032, 1000042, 1000043, 1000060, 1000061] ?_)
          | (with_reducible refine awp_region (id := 7) [1000032, 1000042, 1000043, 1000060, 1000061] ?_)
          | (with_reducible refine awp_region (id := 9) [1000032, 1000042, 1000043, 1000060, 1000061] ?_)
          | (with_reducible refine awp_region (id := 10) [1000032, 1000042, 1000043, 1000060, 1000061] ?_)
          | (with_reducible refine awp_region (id := 11) [1000032, 1000042, 1000043, 1000060, 1000061] ?_)
          | (with_reducible refine awp_region (id := 12) [1000032, 1000042, 1000043, 1000060, 1000061] ?_)
          | (with_reducible refine awp_region (id := 13) [1000032, 1000042, 1000043, 1000060, 1000061] ?_)
          | (with_reducible refine awp_region (id := 14) [1000032, 1000042, 1000043, 1000060, 1000061] ?_)
          | (with_reducible refine awp_region (id := 15) [1000032, 1000042, 1000043, 1000060, 1000061] ?_)
          | (with_reducible refine awp_region (id := 16) [1000032, 1000042, 1000043, 1000060, 1000061] ?_)
          | (with_reducible refine awp_region (id := 17) [1000032, 1000042, 1000043, 1000060, 1000061] ?_)
          | (with_reducible refine awp_region (id := 18) [1000032, 1000042, 1000043, 1000060, 1000061] ?_)
          | (with_reducible refine awp_region (id := 19) [1000032, 1000042, 1000043, 1000060, 1000061] ?_)
          | (with_reducible refine awp_region (id := 20) [1000032, 1000042, 1000043, 1000060, 1000061] ?_)
          | (with_reducible refine awp_block ?_)
          | go_step)
        refine hand_fieldAt (d := 61) (g := g) (q := k * 8) (i := 3) (m := 0) rfl rfl (by decide) ?_ Tryz.underlying66 rfl (by kernel_rfl) ?_
        · simp only [go_sem, simprocAttr, hF]
        simp only [go_sem, simprocAttr, hF]
        repeat (first
          | ((with_reducible refine sopsH_go ?_); simp only [go_sem, simprocAttr, hF])
          | ((with_reducible refine sopsH_end ?_); simp only [go_sem, simprocAttr, hF])
          | ((with_reducible refine awp_regionH (id := 8) [1000032, 1000042, 1000043, 1000060, 1000061] ?_))
          | (with_reducible (first | refine sops_go ?_ | refine headW_end ?_ | refine sops_end ?_ | refine awp_if ?_ | refine awp_skip ?_ | refine awp_ret ?_ | refine awp_exit ?_); simp only [go_sem, simprocAttr, hF])
          | ((with_reducible refine headW_go ?_); simp only [go_sem, simprocAttr, hF, hbx])
          | with_reducible refine awp_seq_k fun _ _ => ?_
          | (with_reducible refine awp_region (id := 0) [1000032, 1000042, 1000043, 1000060, 1000061] ?_)
          | (with_reducible refine awp_region (id := 1) [1000032, 1000042, 1000043, 1000060, 1000061] ?_)
          | (with_reducible refine awp_region (id := 2) [1000032, 1000042, 1000043, 1000060, 1000061] ?_)
          | (with_reducible refine awp_region (id := 3) [1000032, 1000042, 1000043, 1000060, 1000061] ?_)
          | (with_reducible refine awp_region (id := 4) [1000032, 1000042, 1000043, 1000060, 1000061] ?_)
          | (with_reducible refine awp_region (id := 5) [1000032, 1000042, 1000043, 1000060, 1000061] ?_)
          | (with_reducible refine awp_region (id := 6) [1000032, 1000042, 1000043, 1000060, 1000061] ?_)
          | (with_reducible refine awp_region (id := 7) [1000032, 1000042, 1000043, 1000060, 1000061] ?_)
          | (with_reducible refine awp_region (id := 9) [1000032, 1000042, 1000043, 1000060, 1000061] ?_)
          | (with_reducible refine awp_region (id := 10) [1000032, 1000042, 1000043, 1000060, 1000061] ?_)
          | (with_reducible refine awp_region (id := 11) [1000032, 1000042, 1000043, 1000060, 1000061] ?_)
          | (with_reducible refine awp_region (id := 12) [1000032, 1000042, 1000043, 1000060, 1000061] ?_)
          | (with_reducible refine awp_region (id := 13) [1000032, 1000042, 1000043, 1000060, 1000061] ?_)
          | (with_reducible refine awp_region (id := 14) [1000032, 1000042, 1000043, 1000060, 1000061] ?_)
          | (with_reducible refine awp_region (id := 15) [1000032, 1000042, 1000043, 1000060, 1000061] ?_)
          | (with_reducible refine awp_region (id := 16) [1000032, 1000042, 1000043, 1000060, 1000061] ?_)
          | (with_reducible refine awp_region (id := 17) [1000032, 1000042, 1000043, 1000060, 1000061] ?_)
          | (with_reducible refine awp_region (id := 18) [1000032, 1000042, 1000043, 1000060, 1000061] ?_)
          | (with_reducible refine awp_region (id := 19) [1000032, 1000042, 1000043, 1000060, 1000061] ?_)
          | (with_reducible refine awp_region (id := 20) [1000032, 1000042, 1000043, 1000060, 1000061] ?_)
          | (with_reducible refine awp_block ?_)
          | go_step)
        refine hand_put (g := g) (c := cc) (i := k) (u := 1) (E0 := Ext.nil) rfl rfl rfl ?_ ?_ (by kernel_rfl) hkg ?_
        · simp only [go_sem, simprocAttr, hF]
        · simp only [go_sem, simprocAttr, hF]
        simp only [go_sem, simprocAttr, hF, hq]
        repeat (first
          | ((with_reducible refine sopsH_go ?_); simp only [go_sem, simprocAttr, hF, hw])
          | ((with_reducible refine sopsH_end ?_); simp only [go_sem, simprocAttr, hF, hw])
          | ((with_reducible refine awp_regionH (id := 8) [1000032, 1000042, 1000043, 1000060, 1000061] ?_))
          | (with_reducible (first | refine sops_go ?_ | refine headW_end ?_ | refine sops_end ?_ | refine awp_if ?_ | refine awp_skip ?_ | refine awp_ret ?_ | refine awp_exit ?_); simp only [go_sem, simprocAttr, hF, hw])
          | ((with_reducible refine headW_go ?_); simp only [go_sem, simprocAttr, hF, hw, hbx])
          | with_reducible refine awp_seq_k fun _ _ => ?_
          | (with_reducible refine awp_region (id := 0) [1000032, 1000042, 1000043, 1000060, 1000061] ?_)
          | (with_reducible refine awp_region (id := 1) [1000032, 1000042, 1000043, 1000060, 1000061] ?_)
          | (with_reducible refine awp_region (id := 2) [1000032, 1000042, 1000043, 1000060, 1000061] ?_)
          | (with_reducible refine awp_region (id := 3) [1000032, 1000042, 1000043, 1000060, 1000061] ?_)
          | (with_reducible refine awp_region (id := 4) [1000032, 1000042, 1000043, 1000060, 1000061] ?_)
          | (with_reducible refine awp_region (id := 5) [1000032, 1000042, 1000043, 1000060, 1000061] ?_)
          | (with_reducible refine awp_region (id := 6) [1000032, 1000042, 1000043, 1000060, 1000061] ?_)
          | (with_reducible refine awp_region (id := 7) [1000032, 1000042, 1000043, 1000060, 1000061] ?_)
          | (with_reducible refine awp_region (id := 9) [1000032, 1000042, 1000043, 1000060, 1000061] ?_)
          | (with_reducible refine awp_region (id := 10) [1000032, 1000042, 1000043, 1000060, 1000061] ?_)
          | (with_reducible refine awp_region (id := 11) [1000032, 1000042, 1000043, 1000060, 1000061] ?_)
          | (with_reducible refine awp_region (id := 12) [1000032, 1000042, 1000043, 1000060, 1000061] ?_)
          | (with_reducible refine awp_region (id := 13) [1000032, 1000042, 1000043, 1000060, 1000061] ?_)
          | (with_reducible refine awp_region (id := 14) [1000032, 1000042, 1000043, 1000060, 1000061] ?_)
          | (with_reducible refine awp_region (id := 15) [1000032, 1000042, 1000043, 1000060, 1000061] ?_)
          | (with_reducible refine awp_region (id := 16) [1000032, 1000042, 1000043, 1000060, 1000061] ?_)
          | (with_reducible refine awp_region (id := 17) [1000032, 1000042, 1000043, 1000060, 1000061] ?_)
          | (with_reducible refine awp_region (id := 18) [1000032, 1000042, 1000043, 1000060, 1000061] ?_)
          | (with_reducible refine awp_region (id := 19) [1000032, 1000042, 1000043, 1000060, 1000061] ?_)
          | (with_reducible refine awp_region (id := 20) [1000032, 1000042, 1000043, 1000060, 1000061] ?_)
          | (with_reducible refine awp_block ?_)
          | go_step)
        refine ⟨⟨k + 1, by omega⟩, by dsimp only; omega, hR _ _ (sub_mk ?_)⟩
        simp only [go_sem, simprocAttr, hF, hw]
end Go.Proofs.YticnppnejafhdaaGreatDoor

import Derived.Test.YticnppnejafhdaaGreatDoorZ12
set_option linter.unusedVariables false
set_option linter.unusedSimpArgs false
/- The law ExplainCauses, by abstract states. -/
namespace Go.Proofs.YticnppnejafhdaaGreatDoor
open Go.RowKit
open Nd Rc Mo
open Av
set_option maxRecDepth 100000
set_option linter.unusedSimpArgs false
attribute [local go_sem] Av.guardB Av.sop Av.hopx Av.hop Av.hopCall Av.hopF Av.hopB Av.evo Av.evos Av.avCells Av.loadK Av.bound Av.abin Av.aun Av.partsC Av.lfill Av.placesB Av.setAt Av.stl Av.takes Av.src Av.bxOf Av.ownOf Av.St.res Av.St.put Av.St.addBox Av.St.putOwn Av.delL Av.delS Av.look Av.lookL Av.storeSt Av.stealSt Av.St.setBox Av.keepL Av.hitB Av.snap Av.snaps Av.snapCaps Av.AV.lit Av.AV.refs Av.capRefs Av.PV.av Av.CV.av Av.startSt Av.steals Av.athen Av.ablock Av.appK Av.AllS Av.AllO Av.AllR Av.keepS Av.St.avAt Av.RetOK Av.retAll Av.retOne Av.intsOf Av.ptrB Av.appB Av.appSt TypeDesc.isRow List.range_zero Option.some.injEq exists_eq_left' exists_eq_left exists_eq' exists_and_left exists_and_right exists_const true_and and_true and_self false_and and_false or_false false_or or_true true_or if_true if_false Bool.false_eq_true List.zipIdx_cons List.zipIdx_nil List.map_cons List.map_nil List.filter_cons List.filter_nil List.contains_cons List.contains_nil List.drop_succ_cons List.drop_zero List.take_succ_cons List.take_zero List.take_nil List.drop_nil List.length_cons List.length_nil List.cons_append List.nil_append List.append_nil List.getElem?_cons_zero List.getElem?_cons_succ List.getElem?_nil Option.bind_some Option.bind_none Option.map_some Option.map_none Option.isNone_none Option.isNone_some Option.isSome_some Option.isSome_none Bool.and_true Bool.true_and Bool.and_false Bool.false_and Bool.or_false Bool.false_or Bool.not_true Bool.not_false beq_true beq_false Bool.true_beq Bool.false_beq Loc.s.injEq Loc.b.injEq decide_true decide_false beq_self_eq_true Nat.zero_add Nat.add_zero List.getElem?_toArray List.toList_toArray List.size_toArray Value.oneCell' List.all_cons List.all_nil Value.int.injEq AV.v.injEq AV.sl.injEq AV.agg.injEq AV.ref.injEq AV.ept.injEq AV.tup.injEq Value.bool.injEq PV.v.injEq PV.sl.injEq List.isEmpty_nil List.isEmpty_cons forall_const not_true_eq_false not_false_eq_true true_implies false_implies Value.string.injEq List.length_map List.getElem?_map Int.toNat_natCast Int.natCast_nonneg List.length_append Value.cells implies_true TypeDesc.struct.injEq TypeDesc.slice.injEq TypeDesc.array.injEq List.getElem?_toArray Prod.mk.injEq and_assoc exists_false List.cons.injEq Operand.tmp.injEq ite_self AV.fnv.injEq AV.clo.injEq ne_eq eq_self Tryz.sz3 Tryz.zr3 Tryz.by3 Tryz.pl3 Tryz.is3 Tryz.underlying3 Tryz.sz4 Tryz.zr4 Tryz.by4 Tryz.pl4 Tryz.is4 Tryz.underlying4 Tryz.sz43 Tryz.zr43 Tryz.by43 Tryz.pl43 Tryz.is43 Tryz.underlying43 Tryz.sz35 Tryz.zr35 Tryz.by35 Tryz.pl35 Tryz.is35 Tryz.underlying35 Tryz.sz33 Tryz.zr33 Tryz.by33 Tryz.pl33 Tryz.is33 Tryz.underlying33 Tryz.sz28 Tryz.zr28 Tryz.by28 Tryz.pl28 Tryz.is28 Tryz.underlying28 Tryz.sz39 Tryz.zr39 Tryz.by39 Tryz.pl39 Tryz.is39 Tryz.underlying39 Tryz.sz57 Tryz.zr57 Tryz.by57 Tryz.pl57 Tryz.is57 Tryz.underlying57 Tryz.sz137 Tryz.zr137 Tryz.by137 Tryz.pl137 Tryz.is137 Tryz.underlying137 Tryz.sz66 Tryz.zr66 Tryz.by66 Tryz.pl66 Tryz.is66 Tryz.underlying66 Tryz.sz64 Tryz.zr64 Tryz.by64 Tryz.pl64 Tryz.is64 Tryz.underlying64 Tryz.sz60 Tryz.zr60 Tryz.by60 Tryz.pl60 Tryz.is60 Tryz.underlying60 Tryz.sz100 Tryz.zr100 Tryz.by100 Tryz.pl100 Tryz.is100 Tryz.underlying100 Tryz.sz103 Tryz.zr103 Tryz.by103 Tryz.pl103 Tryz.is103 Tryz.underlying103 Tryz.sz26 Tryz.zr26 Tryz.by26 Tryz.pl26 Tryz.is26 Tryz.underlying26 Tryz.sz120 Tryz.zr120 Tryz.by120 Tryz.pl120 Tryz.is120 Tryz.underlying120 Tryz.sz117 Tryz.zr117 Tryz.by117 Tryz.pl117 Tryz.is117 Tryz.underlying117 Tryz.sz30 Tryz.zr30 Tryz.by30 Tryz.pl30 Tryz.is30 Tryz.underlying30 Tryz.sz31 Tryz.zr31 Tryz.by31 Tryz.pl31 Tryz.is31 Tryz.underlying31 Tryz.sz40 Tryz.zr40 Tryz.by40 Tryz.pl40 Tryz.is40 Tryz.underlying40 Tryz.sz23 Tryz.zr23 Tryz.by23 Tryz.pl23 Tryz.is23 Tryz.underlying23 Tryz.sz24 Tryz.zr24 Tryz.by24 Tryz.pl24 Tryz.is24 Tryz.underlying24 Tryz.sz22 Tryz.zr22 Tryz.by22 Tryz.pl22 Tryz.is22 Tryz.underlying22 Tryz.sz141 Tryz.zr141 Tryz.by141 Tryz.pl141 Tryz.is141 Tryz.underlying141 Tryz.sz42 Tryz.zr42 Tryz.by42 Tryz.pl42 Tryz.is42 Tryz.underlying42 Tryz.sz29 Tryz.zr29 Tryz.by29 Tryz.pl29 Tryz.is29 Tryz.underlying29 Tryz.sz83 Tryz.zr83 Tryz.by83 Tryz.pl83 Tryz.is83 Tryz.underlying83 Tryz.sz67 Tryz.zr67 Tryz.by67 Tryz.pl67 Tryz.is67 Tryz.underlying67 Tryz.sz20 Tryz.zr20 Tryz.by20 Tryz.pl20 Tryz.is20 Tryz.underlying20 Tryz.sz89 Tryz.zr89 Tryz.by89 Tryz.pl89 Tryz.is89 Tryz.underlying89 Tryz.sz132 Tryz.zr132 Tryz.by132 Tryz.pl132 Tryz.is132 Tryz.underlying132 Tryz.sz113 Tryz.zr113 Tryz.by113 Tryz.pl113 Tryz.is113 Tryz.underlying113 Tryz.sz9 Tryz.zr9 Tryz.by9 Tryz.pl9 Tryz.is9 Tryz.underlying9 Tryz.it39 Tryz.eg39 Tryz.it137 Tryz.eg137 Tryz.it66 Tryz.eg66 Tryz.it28 Tryz.eg28 Tryz.it60 Tryz.eg60 all_arr loc_ss loc_sb loc_bs loc_bb arr_two arr_one rg1 rg2 rg3 rg4 rg5 rg6 rg7 rg8 ResultVar.tmp.injEq Bool.not_true Bool.not_false undef Rc.Rec.pv Nd.Fl.pv Rc.Dlv.pv Rc.Att.pv Mo.Lt.pv Fn.func.injEq Br.pv Nd.Fl.pv Mo.Net.pv Mo.Lk.pv
theorem causesR_nil {n : Net} {f : Fl} {r : Rec} {fr a b : Int} (h : (causesR n f r fr a b).2 ≠ 0) : (causesR n f r fr a b).1 = [] := by
 unfold causesR at h ⊢
 split
 · rfl
 · split
   · rfl
   · split
     · rfl
     · rename_i h1 h2 h3
       rw [if_neg h1, if_neg h2, if_neg h3] at h
       exact absurd rfl h
theorem causesR_ok0 {n : Net} {f : Fl} {r : Rec} {fr a b : Int} (h : (causesR n f r fr a b).2 = 0) : basicB n f r = true ∧ causesR n f r fr a b = (causesX n f r fr a b, 0) ∧ 0 ≤ idxL n a b := by
 unfold causesR at h ⊢
 split
 · rename_i h1; rw [if_pos h1] at h; cases h
 · rename_i h1
   split
   · rename_i h2; rw [if_neg h1, if_pos h2] at h; cases h
   · rename_i h2
     split
     · rename_i h3; rw [if_neg h1, if_neg h2, if_pos h3] at h; cases h
     · rename_i h3; exact ⟨by simpa using h1, rfl, by omega⟩

set_option maxHeartbeats 2000000 in
theorem behind_ok (f : Fl) (fr a b : Int) (cs : List Br) (c0 : Br) (hc : cs[0]? = some c0) (h0 : c0.sl ≠ []) (x : Br) (hx : x.sl ≠ []) : FnOK Tryz.prog 30 [.agg x.pv, .ept f.pv, .ept [ip fr], .ept [ip a], .ept [ip b], .ept [.sl 5 (cs.map Br.pv)]] ⟨bv (behB f fr a b (c0.sl.headD 0) x), none⟩ := by
 obtain ⟨s0, l0, hs0⟩ : ∃ s l, x.sl = s :: l := by cases h : x.sl with | nil => exact absurd h hx | cons s l => exact ⟨s, l, rfl⟩
 obtain ⟨s1, l1, hs1⟩ : ∃ s l, c0.sl = s :: l := by cases h : c0.sl with | nil => exact absurd h h0 | cons s l => exact ⟨s, l, rfl⟩
 have e0 : x.sl.headD 0 = s0 := by rw [hs0]; rfl
 have e1 : c0.sl.headD 0 = s1 := by rw [hs1]; rfl
 have g0 : x.sl[0]? = some s0 := by rw [hs0]; rfl
 have g1 : c0.sl[0]? = some s1 := by rw [hs1]; rfl
 have k0 : 0 < x.sl.length := by rw [hs0]; simp
 have k1 : 0 < c0.sl.length := by rw [hs1]; simp
 have k2 : 0 < cs.length := (List.getElem?_eq_some_iff.1 hc).1
 unfold behB
 rw [e0, e1]
 refine fn_ok Tryz.func30 (by kernel_rfl) rfl (by rw [Tryz.ntmps30]; exact of_decide_eq_true rfl) (fun F hF => ?_)
 rw [Tryz.ntmps30] at hF
 rw [Tryz.results30]
 cases h1 : (x.fl == f.id) with
 | false =>
  repeat (first
   | (with_reducible (first | refine sops_go ?_ | refine headW_end ?_ | refine sops_end ?_ | refine awp_if ?_ | refine awp_skip ?_ | refine awp_ret ?_ | refine awp_exit ?_); simp only [go_sem, simprocAttr, hF, h1, g0, g1, k0, k1, k2, hc])
   | ((with_reducible refine headW_go ?_); simp only [go_sem, simprocAttr, hF, h1, g0, g1, k0, k1, k2, hc, hbx])
   | with_reducible refine awp_seq_k fun _ _ => ?_
   | (refine awp_draw' (id := 1) [] 36 (by kernel_rfl) (by kernel_rfl) rfl rfl (fun bx0 hbx => ?_); try dsimp only [List.take, List.drop])
   | with_reducible (first | refine awp_region [] ?_ | refine awp_block ?_)
   | go_step)
  all_goals (try rfl)
 | true =>
  cases h2 : (x.fr == fr) with
  | false =>
   repeat (first
    | (with_reducible (first | refine sops_go ?_ | refine headW_end ?_ | refine sops_end ?_ | refine awp_if ?_ | refine awp_skip ?_ | refine awp_ret ?_ | refine awp_exit ?_); simp only [go_sem, simprocAttr, hF, h1, h2, g0, g1, k0, k1, k2, hc])
    | ((with_reducible refine headW_go ?_); simp only [go_sem, simprocAttr, hF, h1, h2, g0, g1, k0, k1, k2, hc, hbx])
    | with_reducible refine awp_seq_k fun _ _ => ?_
    | (refine awp_draw' (id := 1) [] 36 (by kernel_rfl) (by kernel_rfl) rfl rfl (fun bx0 hbx => ?_); try dsimp only [List.take, List.drop])
    | with_reducible (first | refine awp_region [] ?_ | refine awp_block ?_)
    | go_step)
   all_goals (try rfl)
  | true =>
   cases h3 : (x.fm == a) with
   | false =>
    repeat (first
     | (with_reducible (first | refine sops_go ?_ | refine headW_end ?_ | refine sops_end ?_ | refine awp_if ?_ | refine awp_skip ?_ | refine awp_ret ?_ | refine awp_exit ?_); simp only [go_sem, simprocAttr, hF, h1, h2, h3, g0, g1, k0, k1, k2, hc])
     | ((with_reducible refine headW_go ?_); simp only [go_sem, simprocAttr, hF, h1, h2, h3, g0, g1, k0, k1, k2, hc, hbx])
     | with_reducible refine awp_seq_k fun _ _ => ?_
     | (refine awp_draw' (id := 1) [] 36 (by kernel_rfl) (by kernel_rfl) rfl rfl (fun bx0 hbx => ?_); try dsimp only [List.take, List.drop])
     | with_reducible (first | refine awp_region [] ?_ | refine awp_block ?_)
     | go_step)
    all_goals (try rfl)
   | true =>
    cases h4 : (x.tt == b) with
    | false =>
     repeat (first
      | (with_reducible (first | refine sops_go ?_ | refine headW_end ?_ | refine sops_end ?_ | refine awp_if ?_ | refine awp_skip ?_ | refine awp_ret ?_ | refine awp_exit ?_); simp only [go_sem, simprocAttr, hF, h1, h2, h3, h4, g0, g1, k0, k1, k2, hc])
      | ((with_reducible refine headW_go ?_); simp only [go_sem, simprocAttr, hF, h1, h2, h3, h4, g0, g1, k0, k1, k2, hc, hbx])
      | with_reducible refine awp_seq_k fun _ _ => ?_
      | (refine awp_draw' (id := 1) [] 36 (by kernel_rfl) (by kernel_rfl) rfl rfl (fun bx0 hbx => ?_); try dsimp only [List.take, List.drop])
      | with_reducible (first | refine awp_region [] ?_ | refine awp_block ?_)
      | go_step)
     all_goals (try rfl)
    | true =>
     cases h5 : decide (s0 ≤ s1) with
     | false =>
      repeat (first
       | (with_reducible (first | refine sops_go ?_ | refine headW_end ?_ | refine sops_end ?_ | refine awp_if ?_ | refine awp_skip ?_ | refine awp_ret ?_ | refine awp_exit ?_); simp only [go_sem, simprocAttr, hF, h1, h2, h3, h4, h5, g0, g1, k0, k1, k2, hc])
       | ((with_reducible refine headW_go ?_); simp only [go_sem, simprocAttr, hF, h1, h2, h3, h4, h5, g0, g1, k0, k1, k2, hc, hbx])
       | with_reducible refine awp_seq_k fun _ _ => ?_
       | (refine awp_draw' (id := 1) [] 36 (by kernel_rfl) (by kernel_rfl) rfl rfl (fun bx0 hbx => ?_); try dsimp only [List.take, List.drop])
       | with_reducible (first | refine awp_region [] ?_ | refine awp_block ?_)
       | go_step)
      all_goals (try rfl)
     | true =>
      repeat (first
       | (with_reducible (first | refine sops_go ?_ | refine headW_end ?_ | refine sops_end ?_ | refine awp_if ?_ | refine awp_skip ?_ | refine awp_ret ?_ | refine awp_exit ?_); simp only [go_sem, simprocAttr, hF, h1, h2, h3, h4, h5, g0, g1, k0, k1, k2, hc])
       | ((with_reducible refine headW_go ?_); simp only [go_sem, simprocAttr, hF, h1, h2, h3, h4, h5, g0, g1, k0, k1, k2, hc, hbx])
       | with_reducible refine awp_seq_k fun _ _ => ?_
       | (refine awp_draw' (id := 1) [] 36 (by kernel_rfl) (by kernel_rfl) rfl rfl (fun bx0 hbx => ?_); try dsimp only [List.take, List.drop])
       | with_reducible (first | refine awp_region [] ?_ | refine awp_block ?_)
       | go_step)
      all_goals (try rfl)

set_option maxHeartbeats 40000000 in
theorem lawCauses_ok (n : Net) (f : Fl) (r : Rec) (fr a b : Int) (hp : n.pow.length ≤ 9223372036854775807) : FnOK Tryz.prog 8 [.agg n.pv, .agg f.pv, .agg r.pv, iv fr, iv a, iv b] ⟨bv true, none⟩ := by
 refine fn_ok Tryz.func8 (by kernel_rfl) rfl (by rw [Tryz.ntmps8]; exact of_decide_eq_true rfl) (fun F hF => ?_)
 rw [Tryz.ntmps8] at hF
 rw [Tryz.results8]
 repeat (first
  | (with_reducible (first | refine sops_go ?_ | refine headW_end ?_ | refine sops_end ?_ | refine awp_if ?_ | refine awp_skip ?_ | refine awp_ret ?_ | refine awp_exit ?_); simp only [go_sem, simprocAttr, hF])
  | ((with_reducible refine headW_go ?_); simp only [go_sem, simprocAttr, hF, hbx])
  | with_reducible refine awp_seq_k fun _ _ => ?_
  | (refine awp_draw' (id := 10) [] 48 (by kernel_rfl) (by kernel_rfl) rfl rfl (fun bx0 hbx => ?_); try dsimp only [List.take, List.drop])
  | (refine awp_draw' (id := 15) [] 12 (by kernel_rfl) (by kernel_rfl) rfl rfl (fun bx0 hbx => ?_); try dsimp only [List.take, List.drop])
  | with_reducible (first | refine awp_region [] ?_ | refine awp_block ?_)
  | go_step)
 refine ⟨_, awake_ok, ?_⟩
 simp only [go_sem, simprocAttr, hF]
 repeat (first
  | (with_reducible (first | refine sops_go ?_ | refine headW_end ?_ | refine sops_end ?_ | refine awp_if ?_ | refine awp_skip ?_ | refine awp_ret ?_ | refine awp_exit ?_); simp only [go_sem, simprocAttr, hF])
  | ((with_reducible refine headW_go ?_); simp only [go_sem, simprocAttr, hF, hbx])
  | with_reducible refine awp_seq_k fun _ _ => ?_
  | (refine awp_draw' (id := 10) [] 48 (by kernel_rfl) (by kernel_rfl) rfl rfl (fun bx0 hbx => ?_); try dsimp only [List.take, List.drop])
  | (refine awp_draw' (id := 15) [] 12 (by kernel_rfl) (by kernel_rfl) rfl rfl (fun bx0 hbx => ?_); try dsimp only [List.take, List.drop])
  | with_reducible (first | refine awp_region [] ?_ | refine awp_block ?_)
  | go_step)
 refine ⟨_, fnOK_le (few57_ok n [] r hp (Nat.zero_le _)) (.cons (.refl _) (.cons (.nil 1) (.cons (.refl _) .nil))), ?_⟩
 simp only [go_sem, simprocAttr, hF]
 cases h1 : few57B n [] r with
 | false =>
  try simp only [go_sem, simprocAttr, hF, h1]
  repeat (first
   | (with_reducible (first | refine sops_go ?_ | refine headW_end ?_ | refine sops_end ?_ | refine awp_if ?_ | refine awp_skip ?_ | refine awp_ret ?_ | refine awp_exit ?_); simp only [go_sem, simprocAttr, hF, h1])
   | ((with_reducible refine headW_go ?_); simp only [go_sem, simprocAttr, hF, h1, hbx])
   | with_reducible refine awp_seq_k fun _ _ => ?_
   | (refine awp_draw' (id := 10) [] 48 (by kernel_rfl) (by kernel_rfl) rfl rfl (fun bx0 hbx => ?_); try dsimp only [List.take, List.drop])
   | (refine awp_draw' (id := 15) [] 12 (by kernel_rfl) (by kernel_rfl) rfl rfl (fun bx0 hbx => ?_); try dsimp only [List.take, List.drop])
   | with_reducible (first | refine awp_region [] ?_ | refine awp_block ?_)
   | go_step)
  refine ⟨_, awake_ok, ?_⟩
  simp only [go_sem, simprocAttr, hF]
  repeat (first
   | (with_reducible (first | refine sops_go ?_ | refine headW_end ?_ | refine sops_end ?_ | refine awp_if ?_ | refine awp_skip ?_ | refine awp_ret ?_ | refine awp_exit ?_); simp only [go_sem, simprocAttr, hF])
   | ((with_reducible refine headW_go ?_); simp only [go_sem, simprocAttr, hF, hbx])
   | with_reducible refine awp_seq_k fun _ _ => ?_
   | (refine awp_draw' (id := 10) [] 48 (by kernel_rfl) (by kernel_rfl) rfl rfl (fun bx0 hbx => ?_); try dsimp only [List.take, List.drop])
   | (refine awp_draw' (id := 15) [] 12 (by kernel_rfl) (by kernel_rfl) rfl rfl (fun bx0 hbx => ?_); try dsimp only [List.take, List.drop])
   | with_reducible (first | refine awp_region [] ?_ | refine awp_block ?_)
   | go_step)
  all_goals (try rfl)
 | true =>
  obtain ⟨hS, _, _, hla0, hld0⟩ := few57_inv h1
  have hla : r.al.length ≤ 1000000 := by omega
  have hld : r.dl.length ≤ 1000000 := by omega
  try simp only [go_sem, simprocAttr, hF, h1]
  repeat (first
   | (with_reducible (first | refine sops_go ?_ | refine headW_end ?_ | refine sops_end ?_ | refine awp_if ?_ | refine awp_skip ?_ | refine awp_ret ?_ | refine awp_exit ?_); simp only [go_sem, simprocAttr, hF, h1])
   | ((with_reducible refine headW_go ?_); simp only [go_sem, simprocAttr, hF, h1, hbx])
   | with_reducible refine awp_seq_k fun _ _ => ?_
   | (refine awp_draw' (id := 10) [] 48 (by kernel_rfl) (by kernel_rfl) rfl rfl (fun bx0 hbx => ?_); try dsimp only [List.take, List.drop])
   | (refine awp_draw' (id := 15) [] 12 (by kernel_rfl) (by kernel_rfl) rfl rfl (fun bx0 hbx => ?_); try dsimp only [List.take, List.drop])
   | with_reducible (first | refine awp_region [] ?_ | refine awp_block ?_)
   | go_step)
  refine ⟨_, causesR_ok n f r fr a b hS hla hld, ?_⟩
  simp only [go_sem, simprocAttr, hF]
  by_cases hE : (causesR n f r fr a b).2 = 0
  case neg =>
   have hne : ((causesR n f r fr a b).2 != 0) = true := by simpa using hE
   have hnil : (causesR n f r fr a b).1 = [] := causesR_nil hE
   have hn0 : (((0 : Nat) : Int) == 0) = true := rfl
   repeat (first
    | (with_reducible (first | refine sops_go ?_ | refine headW_end ?_ | refine sops_end ?_ | refine awp_if ?_ | refine awp_skip ?_ | refine awp_ret ?_ | refine awp_exit ?_); simp only [go_sem, simprocAttr, hF, hne, hnil, hn0, List.map_nil])
    | ((with_reducible refine headW_go ?_); simp only [go_sem, simprocAttr, hF, hne, hnil, hn0, List.map_nil, hbx])
    | with_reducible refine awp_seq_k fun _ _ => ?_
    | (refine awp_draw' (id := 10) [] 48 (by kernel_rfl) (by kernel_rfl) rfl rfl (fun bx0 hbx => ?_); try dsimp only [List.take, List.drop])
    | (refine awp_draw' (id := 15) [] 12 (by kernel_rfl) (by kernel_rfl) rfl rfl (fun bx0 hbx => ?_); try dsimp only [List.take, List.drop])
    | with_reducible (first | refine awp_region [] ?_ | refine awp_block ?_)
    | go_step)
   all_goals (try rfl)
  obtain ⟨hB, hcr, hix⟩ := causesR_ok0 hE
  obtain ⟨hn, hg, -, -, -⟩ := basicB_inv hB
  obtain ⟨cs, hcs⟩ : ∃ cs, cs = causesX n f r fr a b := ⟨_, rfl⟩
  have hi0 : ((0 : Int) != 0) = false := rfl
  rw [hcr, ← hcs]
  have hcl : cs.length ≤ 1000000 := by
   rw [hcs]
   unfold causesX
   have h1 := causesK_len f fr a b (rel f fr) (rel f fr + f.dl - 1) ((lossL n a b).toNat + 1) (onLk r.al f.id fr a b) ((onLk r.al f.id fr a b).length - (lossL n a b).toNat)
   have h2 : (onLk r.al f.id fr a b).length ≤ r.al.length := by unfold onLk ofFrame; exact Nat.le_trans (List.length_filter_le _ _) (List.length_filter_le _ _)
   omega
  have hok : ∀ c ∈ cs, CauseOK f fr a b c := fun c hc => cause_ok hg hla (hcs ▸ hc)
  have hpw := causes_pw (n := n) (f := f) (r := r) (fr := fr) (a := a) (b := b) hg
  rw [← hcs] at hpw
  try simp only [go_sem, simprocAttr, hF, hi0]
  repeat (first
   | (with_reducible (first | refine sops_go ?_ | refine headW_end ?_ | refine sops_end ?_ | refine awp_if ?_ | refine awp_skip ?_ | refine awp_ret ?_ | refine awp_exit ?_); simp only [go_sem, simprocAttr, hF, hi0])
   | ((with_reducible refine headW_go ?_); simp only [go_sem, simprocAttr, hF, hi0, hbx])
   | with_reducible refine awp_seq_k fun _ _ => ?_
   | (refine awp_draw' (id := 10) [] 48 (by kernel_rfl) (by kernel_rfl) rfl rfl (fun bx0 hbx => ?_); try dsimp only [List.take, List.drop])
   | (refine awp_draw' (id := 15) [] 12 (by kernel_rfl) (by kernel_rfl) rfl rfl (fun bx0 hbx => ?_); try dsimp only [List.take, List.drop])
   | with_reducible (first | refine awp_region [] ?_ | refine awp_block ?_)
   | go_step)
  refine ⟨_, breaches_ok n r hS.pow hS.rows hS.lk hS.mg hla hld, ?_⟩
  simp only [go_sem, simprocAttr, hF]
  repeat (first
   | (with_reducible (first | refine sops_go ?_ | refine headW_end ?_ | refine sops_end ?_ | refine awp_if ?_ | refine awp_skip ?_ | refine awp_ret ?_ | refine awp_exit ?_); simp only [go_sem, simprocAttr, hF])
   | ((with_reducible refine headW_go ?_); simp only [go_sem, simprocAttr, hF, hbx])
   | with_reducible refine awp_seq_k fun _ _ => ?_
   | (refine awp_draw' (id := 10) [] 48 (by kernel_rfl) (by kernel_rfl) rfl rfl (fun bx0 hbx => ?_); try dsimp only [List.take, List.drop])
   | (refine awp_draw' (id := 15) [] 12 (by kernel_rfl) (by kernel_rfl) rfl rfl (fun bx0 hbx => ?_); try dsimp only [List.take, List.drop])
   | with_reducible (first | refine awp_region [] ?_ | refine awp_block ?_)
   | go_step)
  refine awp_loop_by (ι := {k : Nat // k ≤ cs.length}) (fun k σ => ⟨(52, iv (k.1 : Int)) :: keepS [6, 7, 8, 9, 10, 11, 12, 13, 14, 15, 16, 50, 51] σ.slot, [(13, [.sl 5 (cs.map Br.pv)]), (11, [ip b]), (10, [ip a]), (9, [ip fr]), (8, r.pv), (7, f.pv), (6, n.pv)], [], σ.ext⟩) (fun k => cs.length - k.1) ⟨0, Nat.zero_le _⟩ (sub_mk ?_) (fun R hR k => ?_)
  · simp only [go_sem, simprocAttr, hF]
    repeat' (first | rfl | refine ⟨?_, ?_⟩)
  obtain ⟨k, hk⟩ := k
  dsimp only
  simp only [go_sem, simprocAttr, hF]
  by_cases hlt : k < cs.length
  case neg =>
   have hd : decide ((k : Int) < (cs.length : Int)) = false := decide_eq_false (by omega)
   by_cases hc0 : cs.length = 0
   case pos =>
    have hz : decide ((0 : Int) < (cs.length : Int)) = false := decide_eq_false (by omega)
    repeat (first
     | (with_reducible (first | refine sops_go ?_ | refine headW_end ?_ | refine sops_end ?_ | refine awp_if ?_ | refine awp_skip ?_ | refine awp_ret ?_ | refine awp_exit ?_); simp only [go_sem, simprocAttr, hF, hd, hz])
     | ((with_reducible refine headW_go ?_); simp only [go_sem, simprocAttr, hF, hd, hz, hbx])
     | with_reducible refine awp_seq_k fun _ _ => ?_
     | (refine awp_draw' (id := 10) [] 48 (by kernel_rfl) (by kernel_rfl) rfl rfl (fun bx0 hbx => ?_); try dsimp only [List.take, List.drop])
     | (refine awp_draw' (id := 15) [] 12 (by kernel_rfl) (by kernel_rfl) rfl rfl (fun bx0 hbx => ?_); try dsimp only [List.take, List.drop])
     | with_reducible (first | refine awp_region [] ?_ | refine awp_block ?_)
     | go_step)
    all_goals (try rfl)
   case neg =>
    obtain ⟨c0, hc00⟩ := get_of_lt (l := cs) (k := 0) (by omega)
    have hm0 : c0 ∈ causesX n f r fr a b := hcs ▸ List.mem_of_getElem? hc00
    have hz : decide ((0 : Int) < (cs.length : Int)) = true := decide_eq_true (by omega)
    cases hno : r.al.any (fun a => (lossAt n.lk a.cf a.ct).isNone) with
    | true =>
     have hbr : breachesP n r = ([], 7) := by
      unfold breachesP
      rw [if_neg (by rintro (h | h); exact h hn; rw [hg] at h; cases h), if_pos hno]
     have h7 : ((7 : Int) == 0) = false := rfl
     repeat (first
      | (with_reducible (first | refine sops_go ?_ | refine headW_end ?_ | refine sops_end ?_ | refine awp_if ?_ | refine awp_skip ?_ | refine awp_ret ?_ | refine awp_exit ?_); simp only [go_sem, simprocAttr, hF, hd, hz, hbr, h7])
      | ((with_reducible refine headW_go ?_); simp only [go_sem, simprocAttr, hF, hd, hz, hbr, h7, hbx])
      | with_reducible refine awp_seq_k fun _ _ => ?_
      | (refine awp_draw' (id := 10) [] 48 (by kernel_rfl) (by kernel_rfl) rfl rfl (fun bx0 hbx => ?_); try dsimp only [List.take, List.drop])
      | (refine awp_draw' (id := 15) [] 12 (by kernel_rfl) (by kernel_rfl) rfl rfl (fun bx0 hbx => ?_); try dsimp only [List.take, List.drop])
      | with_reducible (first | refine awp_region [] ?_ | refine awp_block ?_)
      | go_step)
     all_goals (try rfl)
    | false =>
     have hbr : breachesP n r = (sortB (brAll n.lk r.al), 0) := by
      unfold breachesP
      rw [if_neg (by rintro (h | h); exact h hn; rw [hg] at h; cases h), if_neg (by rw [hno]; decide)]
     have h7 : ((0 : Int) == 0) = true := rfl
     have hbl : (sortB (brAll n.lk r.al)).length ≤ 1000000 := by rw [(sortB_perm _).length_eq]; exact Nat.le_trans (brs_len (firstK_nodup _)) hla
     have hbn : ∀ x ∈ sortB (brAll n.lk r.al), x.sl ≠ [] := fun x hx => brs_ne (fun l hl => ((chkN_links hn).2 l hl).2.2.2.2.1) x ((sortB_perm _).mem_iff.1 hx)
     have hany := cause_breach hn hg hix hm0
     repeat (first
      | (with_reducible (first | refine sops_go ?_ | refine headW_end ?_ | refine sops_end ?_ | refine awp_if ?_ | refine awp_skip ?_ | refine awp_ret ?_ | refine awp_exit ?_); simp only [go_sem, simprocAttr, hF, hd, hz, hbr, h7])
      | ((with_reducible refine headW_go ?_); simp only [go_sem, simprocAttr, hF, hd, hz, hbr, h7, hbx])
      | with_reducible refine awp_seq_k fun _ _ => ?_
      | (refine awp_draw' (id := 10) [] 48 (by kernel_rfl) (by kernel_rfl) rfl rfl (fun bx0 hbx => ?_); try dsimp only [List.take, List.drop])
      | (refine awp_draw' (id := 15) [] 12 (by kernel_rfl) (by kernel_rfl) rfl rfl (fun bx0 hbx => ?_); try dsimp only [List.take, List.drop])
      | with_reducible (first | refine awp_region [] ?_ | refine awp_block ?_)
      | go_step)
     refine ⟨_, contB_ok 30 [f.pv, [ip fr], [ip a], [ip b], [.sl 5 (cs.map Br.pv)]] (behB f fr a b (c0.sl.headD 0)) (sortB (brAll n.lk r.al)) hbl (fun y hy => behind_ok f fr a b cs c0 hc00 (cause_ok hg hla hm0).ne y (hbn y hy)), ?_⟩
     simp only [go_sem, simprocAttr, hF, hany]
     repeat (first
      | (with_reducible (first | refine sops_go ?_ | refine headW_end ?_ | refine sops_end ?_ | refine awp_if ?_ | refine awp_skip ?_ | refine awp_ret ?_ | refine awp_exit ?_); simp only [go_sem, simprocAttr, hF, hany])
      | ((with_reducible refine headW_go ?_); simp only [go_sem, simprocAttr, hF, hany, hbx])
      | with_reducible refine awp_seq_k fun _ _ => ?_
      | (refine awp_draw' (id := 10) [] 48 (by kernel_rfl) (by kernel_rfl) rfl rfl (fun bx0 hbx => ?_); try dsimp only [List.take, List.drop])
      | (refine awp_draw' (id := 15) [] 12 (by kernel_rfl) (by kernel_rfl) rfl rfl (fun bx0 hbx => ?_); try dsimp only [List.take, List.drop])
      | with_reducible (first | refine awp_region [] ?_ | refine awp_block ?_)
      | go_step)
     all_goals (try rfl)
  obtain ⟨c, hck⟩ := get_of_lt hlt
  have hC := hok c (List.mem_of_getElem? hck)
  obtain ⟨s0, l0, hs0⟩ : ∃ s l, c.sl = s :: l := by cases h : c.sl with | nil => exact absurd h hC.ne | cons s l => exact ⟨s, l, rfl⟩
  have hd : decide ((k : Int) < (cs.length : Int)) = true := decide_eq_true (by omega)
  have hw : IntKind.i64.wrap ((k : Int) + 1) = ((k + 1 : Nat) : Int) := by rw [IntKind.wrap_i64]; omega
  have g0 : c.sl[0]? = some s0 := by rw [hs0]; rfl
  have k0 : 0 < c.sl.length := by rw [hs0]; simp
  have q1 : (c.fm != a) = false := by rw [hC.fm]; simp
  have q2 : (c.tt != b) = false := by rw [hC.tt]; simp
  have q3 : (c.fl != f.id) = false := by rw [hC.fl]; simp
  have q4 : (c.fr != fr) = false := by rw [hC.fr]; simp
  have q5 : ((c.sl.length : Int) == 0) = false := by rw [hs0]; simp; omega
  have n1 : 1 ≤ c.sl.length := k0
  have n2 : List.take c.sl.length (List.map (fun z => [ip z]) c.sl) = List.map (fun z => [ip z]) c.sl := List.take_of_length_le (by rw [List.length_map]; exact Nat.le_refl _)
  have n3 : (List.drop 1 (List.map (fun z => [ip z]) c.sl)).length = c.sl.length - 1 := by rw [List.length_drop, List.length_map]
  have n4 : c.sl.length ≤ c.sl.length := Nat.le_refl _
  have n5 : Int.toNat 1 = 1 := rfl
  have hshort := hC.short
  by_cases hk0 : k = 0
  case pos =>
   have z0 : decide ((0 : Int) < (k : Int)) = false := decide_eq_false (by omega)
   repeat (first
    | (with_reducible (first | refine sops_go ?_ | refine headW_end ?_ | refine sops_end ?_ | refine awp_if ?_ | refine awp_skip ?_ | refine awp_ret ?_ | refine awp_exit ?_); simp only [go_sem, simprocAttr, hF, hd, hck, q1, q2, q3, q4, q5, g0, k0, n1, n2, n3, n4, n5, z0])
    | ((with_reducible refine headW_go ?_); simp only [go_sem, simprocAttr, hF, hd, hck, q1, q2, q3, q4, q5, g0, k0, n1, n2, n3, n4, n5, z0, hbx])
    | with_reducible refine awp_seq_k fun _ _ => ?_
    | (refine awp_draw' (id := 10) [] 48 (by kernel_rfl) (by kernel_rfl) rfl rfl (fun bx0 hbx => ?_); try dsimp only [List.take, List.drop])
    | (refine awp_draw' (id := 15) [] 12 (by kernel_rfl) (by kernel_rfl) rfl rfl (fun bx0 hbx => ?_); try dsimp only [List.take, List.drop])
    | with_reducible (first | refine awp_region [] ?_ | refine awp_block ?_)
    | go_step)
   refine awp_loop_by (ι := {q : Nat // q ≤ c.sl.length - 1}) (fun q σ => ⟨(109, iv (q.1 : Int)) :: keepS [6, 7, 8, 9, 10, 11, 12, 13, 14, 15, 16, 17, 18, 50, 51, 52, 107, 108] σ.slot, (18, c.pv) :: [(13, [.sl 5 (cs.map Br.pv)]), (11, [ip b]), (10, [ip a]), (9, [ip fr]), (8, r.pv), (7, f.pv), (6, n.pv)], [], σ.ext⟩) (fun q => (c.sl.length - 1) - q.1) ⟨0, Nat.zero_le _⟩ (sub_mk ?_) (fun R2 hR2 q => ?_)
   · simp only [go_sem, simprocAttr, hF]
     repeat' (first | rfl | refine ⟨?_, ?_⟩)
   obtain ⟨q, hq⟩ := q
   dsimp only
   simp only [go_sem, simprocAttr, hF]
   by_cases hqt : q < c.sl.length - 1
   case neg =>
    have hdq : decide ((q : Int) < ((c.sl.length - 1 : Nat) : Int)) = false := decide_eq_false (by omega)
    repeat (first
     | (with_reducible (first | refine sops_go ?_ | refine headW_end ?_ | refine sops_end ?_ | refine awp_if ?_ | refine awp_skip ?_ | refine awp_ret ?_ | refine awp_exit ?_); simp only [go_sem, simprocAttr, hF, hdq])
     | ((with_reducible refine headW_go ?_); simp only [go_sem, simprocAttr, hF, hdq, hbx])
     | with_reducible refine awp_seq_k fun _ _ => ?_
     | (refine awp_draw' (id := 10) [] 48 (by kernel_rfl) (by kernel_rfl) rfl rfl (fun bx0 hbx => ?_); try dsimp only [List.take, List.drop])
     | (refine awp_draw' (id := 15) [] 12 (by kernel_rfl) (by kernel_rfl) rfl rfl (fun bx0 hbx => ?_); try dsimp only [List.take, List.drop])
     | with_reducible (first | refine awp_region [] ?_ | refine awp_block ?_)
     | go_step)
    refine ⟨⟨k + 1, by omega⟩, by dsimp only; omega, hR _ _ (sub_mk ?_)⟩
    simp only [go_sem, simprocAttr, hF, hw]
   obtain ⟨s, hsq⟩ := get_of_lt (l := c.sl) (k := q) (by omega)
   obtain ⟨s', hsq'⟩ := get_of_lt (l := c.sl) (k := q + 1) (by omega)
   have hdq : decide ((q : Int) < ((c.sl.length - 1 : Nat) : Int)) = true := decide_eq_true (by omega)
   have hwq : IntKind.i64.wrap ((q : Int) + 1) = ((q + 1 : Nat) : Int) := by rw [IntKind.wrap_i64]; omega
   have hlt2 := hC.asc q s s' hsq hsq'
   have hge : decide (s ≥ s') = false := decide_eq_false (by omega)
   repeat (first
    | (with_reducible (first | refine sops_go ?_ | refine headW_end ?_ | refine sops_end ?_ | refine awp_if ?_ | refine awp_skip ?_ | refine awp_ret ?_ | refine awp_exit ?_); simp only [go_sem, simprocAttr, hF, hdq, hsq, hsq, hwq, hsq', hge])
    | ((with_reducible refine headW_go ?_); simp only [go_sem, simprocAttr, hF, hdq, hsq, hsq, hwq, hsq', hge, hbx])
    | with_reducible refine awp_seq_k fun _ _ => ?_
    | (refine awp_draw' (id := 10) [] 48 (by kernel_rfl) (by kernel_rfl) rfl rfl (fun bx0 hbx => ?_); try dsimp only [List.take, List.drop])
    | (refine awp_draw' (id := 15) [] 12 (by kernel_rfl) (by kernel_rfl) rfl rfl (fun bx0 hbx => ?_); try dsimp only [List.take, List.drop])
    | with_reducible (first | refine awp_region [] ?_ | refine awp_block ?_)
    | go_step)
   refine ⟨⟨q + 1, by omega⟩, by dsimp only; omega, hR2 _ _ (sub_mk ?_)⟩
   simp only [go_sem, simprocAttr, hF, hwq]
  have z0 : decide ((0 : Int) < (k : Int)) = true := decide_eq_true (by omega)
  have z1 : IntKind.i64.wrap ((k : Int) - 1) = ((k - 1 : Nat) : Int) := by rw [IntKind.wrap_i64]; omega
  obtain ⟨p, hp1⟩ := get_of_lt (l := cs) (k := k - 1) (by omega)
  have hP := hok p (List.mem_of_getElem? hp1)
  obtain ⟨t0, m0, ht0⟩ : ∃ s l, p.sl = s :: l := by cases h : p.sl with | nil => exact absurd h hP.ne | cons s l => exact ⟨s, l, rfl⟩
  have p0 : p.sl[0]? = some t0 := by rw [ht0]; rfl
  have p1 : 0 < p.sl.length := by rw [ht0]; simp
  have hpk := pw_next hpw hp1 (by rw [show k - 1 + 1 = k by omega]; exact hck)
  rw [ht0, hs0] at hpk
  have hge0 : decide (t0 ≥ s0) = false := decide_eq_false (by have : t0 < s0 := hpk; omega)
  repeat (first
   | (with_reducible (first | refine sops_go ?_ | refine headW_end ?_ | refine sops_end ?_ | refine awp_if ?_ | refine awp_skip ?_ | refine awp_ret ?_ | refine awp_exit ?_); simp only [go_sem, simprocAttr, hF, hd, hck, q1, q2, q3, q4, q5, g0, k0, n1, n2, n3, n4, n5, z0, z1, hp1, p0, p1, hge0])
   | ((with_reducible refine headW_go ?_); simp only [go_sem, simprocAttr, hF, hd, hck, q1, q2, q3, q4, q5, g0, k0, n1, n2, n3, n4, n5, z0, z1, hp1, p0, p1, hge0, hbx])
   | with_reducible refine awp_seq_k fun _ _ => ?_
   | (refine awp_draw' (id := 10) [] 48 (by kernel_rfl) (by kernel_rfl) rfl rfl (fun bx0 hbx => ?_); try dsimp only [List.take, List.drop])
   | (refine awp_draw' (id := 15) [] 12 (by kernel_rfl) (by kernel_rfl) rfl rfl (fun bx0 hbx => ?_); try dsimp only [List.take, List.drop])
   | with_reducible (first | refine awp_region [] ?_ | refine awp_block ?_)
   | go_step)
  refine awp_loop_by (ι := {q : Nat // q ≤ c.sl.length - 1}) (fun q σ => ⟨(109, iv (q.1 : Int)) :: keepS [6, 7, 8, 9, 10, 11, 12, 13, 14, 15, 16, 17, 18, 50, 51, 52, 107, 108] σ.slot, (18, c.pv) :: [(13, [.sl 5 (cs.map Br.pv)]), (11, [ip b]), (10, [ip a]), (9, [ip fr]), (8, r.pv), (7, f.pv), (6, n.pv)], [], σ.ext⟩) (fun q => (c.sl.length - 1) - q.1) ⟨0, Nat.zero_le _⟩ (sub_mk ?_) (fun R2 hR2 q => ?_)
  · simp only [go_sem, simprocAttr, hF]
    repeat' (first | rfl | refine ⟨?_, ?_⟩)
  obtain ⟨q, hq⟩ := q
  dsimp only
  simp only [go_sem, simprocAttr, hF]
  by_cases hqt : q < c.sl.length - 1
  case neg =>
   have hdq : decide ((q : Int) < ((c.sl.length - 1 : Nat) : Int)) = false := decide_eq_false (by omega)
   repeat (first
    | (with_reducible (first | refine sops_go ?_ | refine headW_end ?_ | refine sops_end ?_ | refine awp_if ?_ | refine awp_skip ?_ | refine awp_ret ?_ | refine awp_exit ?_); simp only [go_sem, simprocAttr, hF, hdq])
    | ((with_reducible refine headW_go ?_); simp only [go_sem, simprocAttr, hF, hdq, hbx])
    | with_reducible refine awp_seq_k fun _ _ => ?_
    | (refine awp_draw' (id := 10) [] 48 (by kernel_rfl) (by kernel_rfl) rfl rfl (fun bx0 hbx => ?_); try dsimp only [List.take, List.drop])
    | (refine awp_draw' (id := 15) [] 12 (by kernel_rfl) (by kernel_rfl) rfl rfl (fun bx0 hbx => ?_); try dsimp only [List.take, List.drop])
    | with_reducible (first | refine awp_region [] ?_ | refine awp_block ?_)
    | go_step)
   refine ⟨⟨k + 1, by omega⟩, by dsimp only; omega, hR _ _ (sub_mk ?_)⟩
   simp only [go_sem, simprocAttr, hF, hw]
  obtain ⟨s, hsq⟩ := get_of_lt (l := c.sl) (k := q) (by omega)
  obtain ⟨s', hsq'⟩ := get_of_lt (l := c.sl) (k := q + 1) (by omega)
  have hdq : decide ((q : Int) < ((c.sl.length - 1 : Nat) : Int)) = true := decide_eq_true (by omega)
  have hwq : IntKind.i64.wrap ((q : Int) + 1) = ((q + 1 : Nat) : Int) := by rw [IntKind.wrap_i64]; omega
  have hlt2 := hC.asc q s s' hsq hsq'
  have hge : decide (s ≥ s') = false := decide_eq_false (by omega)
  repeat (first
   | (with_reducible (first | refine sops_go ?_ | refine headW_end ?_ | refine sops_end ?_ | refine awp_if ?_ | refine awp_skip ?_ | refine awp_ret ?_ | refine awp_exit ?_); simp only [go_sem, simprocAttr, hF, hdq, hsq, hsq, hwq, hsq', hge])
   | ((with_reducible refine headW_go ?_); simp only [go_sem, simprocAttr, hF, hdq, hsq, hsq, hwq, hsq', hge, hbx])
   | with_reducible refine awp_seq_k fun _ _ => ?_
   | (refine awp_draw' (id := 10) [] 48 (by kernel_rfl) (by kernel_rfl) rfl rfl (fun bx0 hbx => ?_); try dsimp only [List.take, List.drop])
   | (refine awp_draw' (id := 15) [] 12 (by kernel_rfl) (by kernel_rfl) rfl rfl (fun bx0 hbx => ?_); try dsimp only [List.take, List.drop])
   | with_reducible (first | refine awp_region [] ?_ | refine awp_block ?_)
   | go_step)
  refine ⟨⟨q + 1, by omega⟩, by dsimp only; omega, hR2 _ _ (sub_mk ?_)⟩
  simp only [go_sem, simprocAttr, hF, hwq]
end Go.Proofs.YticnppnejafhdaaGreatDoor

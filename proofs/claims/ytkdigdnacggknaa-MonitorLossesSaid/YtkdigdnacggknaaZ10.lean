import Derived.Test.YtkdigdnacggknaaZ9
set_option linter.unusedVariables false
set_option linter.unusedSimpArgs false
/- MonitorLosses by abstract states. -/
namespace Go.Proofs.Ytkdigdnacggknaa
open Go.RowKit
open Nd Rc Mo
open Av
set_option maxRecDepth 100000
set_option linter.unusedSimpArgs false
attribute [local go_sem] Av.guardB Av.sop Av.hopx Av.hop Av.hopCall Av.hopF Av.hopB Av.evo Av.evos Av.avCells Av.loadK Av.bound Av.abin Av.aun Av.partsC Av.lfill Av.placesB Av.setAt Av.stl Av.takes Av.src Av.bxOf Av.ownOf Av.St.res Av.St.put Av.St.addBox Av.St.putOwn Av.delL Av.delS Av.look Av.lookL Av.storeSt Av.stealSt Av.St.setBox Av.keepL Av.hitB Av.snap Av.snaps Av.snapCaps Av.AV.lit Av.AV.refs Av.capRefs Av.PV.av Av.CV.av Av.startSt Av.steals Av.athen Av.ablock Av.appK Av.AllS Av.AllO Av.AllR Av.keepS Av.St.avAt Av.RetOK Av.retAll Av.retOne Av.intsOf Av.ptrB Av.appB Av.appSt TypeDesc.isRow List.range_zero Option.some.injEq exists_eq_left' exists_eq_left exists_eq' exists_and_left exists_and_right exists_const true_and and_true and_self false_and and_false or_false false_or or_true true_or if_true if_false Bool.false_eq_true List.zipIdx_cons List.zipIdx_nil List.map_cons List.map_nil List.filter_cons List.filter_nil List.contains_cons List.contains_nil List.drop_succ_cons List.drop_zero List.take_succ_cons List.take_zero List.take_nil List.drop_nil List.length_cons List.length_nil List.cons_append List.nil_append List.append_nil List.getElem?_cons_zero List.getElem?_cons_succ List.getElem?_nil Option.bind_some Option.bind_none Option.map_some Option.map_none Option.isNone_none Option.isNone_some Option.isSome_some Option.isSome_none Bool.and_true Bool.true_and Bool.and_false Bool.false_and Bool.or_false Bool.false_or Bool.not_true Bool.not_false beq_true beq_false Bool.true_beq Bool.false_beq Loc.s.injEq Loc.b.injEq decide_true decide_false beq_self_eq_true Nat.zero_add Nat.add_zero List.getElem?_toArray List.toList_toArray List.size_toArray Value.oneCell' List.all_cons List.all_nil Value.int.injEq AV.v.injEq AV.sl.injEq AV.agg.injEq AV.ref.injEq AV.ept.injEq AV.tup.injEq Value.bool.injEq PV.v.injEq PV.sl.injEq List.isEmpty_nil List.isEmpty_cons forall_const not_true_eq_false not_false_eq_true true_implies false_implies Value.string.injEq List.length_map List.getElem?_map Int.toNat_natCast Int.natCast_nonneg List.length_append Value.cells implies_true TypeDesc.struct.injEq TypeDesc.slice.injEq TypeDesc.array.injEq List.getElem?_toArray Prod.mk.injEq and_assoc exists_false List.cons.injEq Operand.tmp.injEq ite_self AV.fnv.injEq AV.clo.injEq ne_eq eq_self Try.sz3 Try.zr3 Try.by3 Try.pl3 Try.is3 Try.underlying3 Try.sz4 Try.zr4 Try.by4 Try.pl4 Try.is4 Try.underlying4 Try.sz32 Try.zr32 Try.by32 Try.pl32 Try.is32 Try.underlying32 Try.sz28 Try.zr28 Try.by28 Try.pl28 Try.is28 Try.underlying28 Try.sz26 Try.zr26 Try.by26 Try.pl26 Try.is26 Try.underlying26 Try.sz37 Try.zr37 Try.by37 Try.pl37 Try.is37 Try.underlying37 Try.sz68 Try.zr68 Try.by68 Try.pl68 Try.is68 Try.underlying68 Try.sz57 Try.zr57 Try.by57 Try.pl57 Try.is57 Try.underlying57 Try.sz70 Try.zr70 Try.by70 Try.pl70 Try.is70 Try.underlying70 Try.sz54 Try.zr54 Try.by54 Try.pl54 Try.is54 Try.underlying54 Try.sz66 Try.zr66 Try.by66 Try.pl66 Try.is66 Try.underlying66 Try.sz64 Try.zr64 Try.by64 Try.pl64 Try.is64 Try.underlying64 Try.sz73 Try.zr73 Try.by73 Try.pl73 Try.is73 Try.underlying73 Try.sz102 Try.zr102 Try.by102 Try.pl102 Try.is102 Try.underlying102 Try.sz105 Try.zr105 Try.by105 Try.pl105 Try.is105 Try.underlying105 Try.sz44 Try.zr44 Try.by44 Try.pl44 Try.is44 Try.underlying44 Try.sz22 Try.zr22 Try.by22 Try.pl22 Try.is22 Try.underlying22 Try.sz31 Try.zr31 Try.by31 Try.pl31 Try.is31 Try.underlying31 Try.sz23 Try.zr23 Try.by23 Try.pl23 Try.is23 Try.underlying23 Try.sz24 Try.zr24 Try.by24 Try.pl24 Try.is24 Try.underlying24 Try.sz46 Try.zr46 Try.by46 Try.pl46 Try.is46 Try.underlying46 Try.sz41 Try.zr41 Try.by41 Try.pl41 Try.is41 Try.underlying41 Try.sz42 Try.zr42 Try.by42 Try.pl42 Try.is42 Try.underlying42 Try.sz40 Try.zr40 Try.by40 Try.pl40 Try.is40 Try.underlying40 Try.it68 Try.eg68 Try.it54 Try.eg54 Try.it66 Try.eg66 Try.it57 Try.eg57 Try.it37 Try.eg37 Try.it73 Try.eg73 all_arr loc_ss loc_sb loc_bs loc_bb arr_two arr_one rg1 rg2 rg3 rg4 rg5 rg6 rg7 rg8 ResultVar.tmp.injEq Bool.not_true Bool.not_false undef Rc.Rec.pv Nd.Fl.pv Rc.Dlv.pv Rc.Att.pv Mo.Lt.pv Mo.Sv.pv Mo.Net.pv Mo.Lk.pv Br.pv Fn.func.injEq
theorem nfewB_of {n : Net} (h : nfewB n = true) : (∀ l ∈ n.pow, l.length ≤ 1000000) ∧ n.pow.length ≤ 1000000 ∧ n.lk.length ≤ 1000000 ∧ n.mg.length ≤ 1000000 := by
  simp only [nfewB, Bool.and_eq_true, List.all_eq_true, decide_eq_true_eq] at h
  obtain ⟨h1, h2, h3, h4⟩ := h
  exact ⟨fun l hl => by have := h1 l hl; omega, by omega, by omega, by omega⟩

set_option maxHeartbeats 2000000 in
theorem losses1_ok (x : Lk) (b : Br) : FnOK Try.prog 29 [.agg x.pv, .ept b.pv] ⟨bv (x.fr == b.fm && x.tt == b.tt), none⟩ := by
  refine fn_ok Try.func29 (by kernel_rfl) rfl (by rw [Try.ntmps29]; exact of_decide_eq_true rfl) (fun F hF => ?_)
  rw [Try.ntmps29] at hF
  rw [Try.results29]
  cases h1 : (x.fr == b.fm) <;> cases h2 : (x.tt == b.tt)
  · repeat (first
      | (with_reducible (first | refine sops_go ?_ | refine headW_end ?_ | refine sops_end ?_ | refine awp_if ?_ | refine awp_skip ?_ | refine awp_ret ?_ | refine awp_exit ?_); simp only [go_sem, simprocAttr, hF, h1, h2])
      | with_reducible (first | refine awp_seq_k fun _ _ => ?_ | refine awp_region [] ?_ | refine awp_block ?_)
      | go_step)
    all_goals (try rfl)
  · repeat (first
      | (with_reducible (first | refine sops_go ?_ | refine headW_end ?_ | refine sops_end ?_ | refine awp_if ?_ | refine awp_skip ?_ | refine awp_ret ?_ | refine awp_exit ?_); simp only [go_sem, simprocAttr, hF, h1, h2])
      | with_reducible (first | refine awp_seq_k fun _ _ => ?_ | refine awp_region [] ?_ | refine awp_block ?_)
      | go_step)
    all_goals (try rfl)
  · repeat (first
      | (with_reducible (first | refine sops_go ?_ | refine headW_end ?_ | refine sops_end ?_ | refine awp_if ?_ | refine awp_skip ?_ | refine awp_ret ?_ | refine awp_exit ?_); simp only [go_sem, simprocAttr, hF, h1, h2])
      | with_reducible (first | refine awp_seq_k fun _ _ => ?_ | refine awp_region [] ?_ | refine awp_block ?_)
      | go_step)
    all_goals (try rfl)
  · repeat (first
      | (with_reducible (first | refine sops_go ?_ | refine headW_end ?_ | refine sops_end ?_ | refine awp_if ?_ | refine awp_skip ?_ | refine awp_ret ?_ | refine awp_exit ?_); simp only [go_sem, simprocAttr, hF, h1, h2])
      | with_reducible (first | refine awp_seq_k fun _ _ => ?_ | refine awp_region [] ?_ | refine awp_block ?_)
      | go_step)
    all_goals (try rfl)

set_option maxHeartbeats 2000000 in
theorem losses2_ok (x : Att) (b : Br) (hne : b.sl ≠ []) : FnOK Try.prog 32 [.agg x.pv, .ept b.pv] ⟨bv (x.s == b.sl.headD 0), none⟩ := by
  obtain ⟨s0, l, hs⟩ : ∃ s0 l, b.sl = s0 :: l := by cases h : b.sl with | nil => exact absurd h hne | cons s0 l => exact ⟨s0, l, rfl⟩
  have hh : b.sl.headD 0 = s0 := by rw [hs]; rfl
  rw [hh]
  have hg : (b.sl.map fun x => [ip x])[0]? = some [ip s0] := by rw [hs]; rfl
  have hg2 : b.sl[0]? = some s0 := by rw [hs]; rfl
  have hl0 : 0 < b.sl.length := by rw [hs]; simp
  refine fn_ok Try.func32 (by kernel_rfl) rfl (by rw [Try.ntmps32]; exact of_decide_eq_true rfl) (fun F hF => ?_)
  rw [Try.ntmps32] at hF
  rw [Try.results32]
  repeat (first
    | (with_reducible (first | refine sops_go ?_ | refine headW_end ?_ | refine sops_end ?_ | refine awp_if ?_ | refine awp_skip ?_ | refine awp_ret ?_ | refine awp_exit ?_); simp only [go_sem, simprocAttr, hF, hg, hg2, hl0])
    | ((with_reducible refine headW_go ?_); simp only [go_sem, simprocAttr, hF, hg, hg2, hl0, hbx])
    | with_reducible refine awp_seq_k fun _ _ => ?_
    | (refine awp_draw' (id := 1) [] 7 (by kernel_rfl) (by kernel_rfl) rfl rfl (fun bx0 hbx => ?_); try dsimp only [List.take, List.drop])
    | with_reducible (first | refine awp_region [] ?_ | refine awp_block ?_)
    | go_step)
  all_goals (try rfl)

set_option maxHeartbeats 40000000 in
theorem lawLosses_ok (n : Net) (r : Rec) (hp0 : n.pow.length ≤ 9223372036854775807) : FnOK Try.prog 7 [.agg n.pv, .agg r.pv] ⟨bv true, none⟩ := by
  refine fn_ok Try.func7 (by kernel_rfl) rfl (by rw [Try.ntmps7]; exact of_decide_eq_true rfl) (fun F hF => ?_)
  rw [Try.ntmps7] at hF
  rw [Try.results7]
  repeat (first
    | (with_reducible (first | refine sops_go ?_ | refine headW_end ?_ | refine sops_end ?_ | refine awp_if ?_ | refine awp_skip ?_ | refine awp_ret ?_ | refine awp_exit ?_); simp only [go_sem, simprocAttr, hF])
    | ((with_reducible refine headW_go ?_); simp only [go_sem, simprocAttr, hF, hbx])
    | with_reducible refine awp_seq_k fun _ _ => ?_
    | (refine awp_draw' (id := 3) [93] 9 (by kernel_rfl) (by kernel_rfl) rfl rfl (fun bx0 hbx => ?_); try dsimp only [List.take, List.drop])
    | (refine awp_draw' (id := 10) [93] 15 (by kernel_rfl) (by kernel_rfl) rfl rfl (fun bx0 hbx => ?_); try dsimp only [List.take, List.drop])
    | (refine awp_draw' (id := 13) [93] 9 (by kernel_rfl) (by kernel_rfl) rfl rfl (fun bx0 hbx => ?_); try dsimp only [List.take, List.drop])
    | (refine awp_draw' (id := 28) [93] 15 (by kernel_rfl) (by kernel_rfl) rfl rfl (fun bx0 hbx => ?_); try dsimp only [List.take, List.drop])
    | with_reducible (first | refine awp_region [93] ?_ | refine awp_block ?_)
    | go_step)
  refine ⟨_, awake_ok, ?_⟩
  simp only [go_sem, simprocAttr, hF]
  repeat (first
    | (with_reducible (first | refine sops_go ?_ | refine headW_end ?_ | refine sops_end ?_ | refine awp_if ?_ | refine awp_skip ?_ | refine awp_ret ?_ | refine awp_exit ?_); simp only [go_sem, simprocAttr, hF])
    | ((with_reducible refine headW_go ?_); simp only [go_sem, simprocAttr, hF, hbx])
    | with_reducible refine awp_seq_k fun _ _ => ?_
    | (refine awp_draw' (id := 3) [93] 9 (by kernel_rfl) (by kernel_rfl) rfl rfl (fun bx0 hbx => ?_); try dsimp only [List.take, List.drop])
    | (refine awp_draw' (id := 10) [93] 15 (by kernel_rfl) (by kernel_rfl) rfl rfl (fun bx0 hbx => ?_); try dsimp only [List.take, List.drop])
    | (refine awp_draw' (id := 13) [93] 9 (by kernel_rfl) (by kernel_rfl) rfl rfl (fun bx0 hbx => ?_); try dsimp only [List.take, List.drop])
    | (refine awp_draw' (id := 28) [93] 15 (by kernel_rfl) (by kernel_rfl) rfl rfl (fun bx0 hbx => ?_); try dsimp only [List.take, List.drop])
    | with_reducible (first | refine awp_region [93] ?_ | refine awp_block ?_)
    | go_step)
  refine ⟨_, fnOK_le (few_ok [] r) (.cons (.nil 6) (.cons (.refl _) .nil)), ?_⟩
  simp only [go_sem, simprocAttr, hF]
  cases hfw : fewB [] r with
  | false =>
    try simp only [go_sem, simprocAttr, hF, hfw]
    repeat (first
      | (with_reducible (first | refine sops_go ?_ | refine headW_end ?_ | refine sops_end ?_ | refine awp_if ?_ | refine awp_skip ?_ | refine awp_ret ?_ | refine awp_exit ?_); simp only [go_sem, simprocAttr, hF, hfw])
      | ((with_reducible refine headW_go ?_); simp only [go_sem, simprocAttr, hF, hfw, hbx])
      | with_reducible refine awp_seq_k fun _ _ => ?_
      | (refine awp_draw' (id := 3) [93] 9 (by kernel_rfl) (by kernel_rfl) rfl rfl (fun bx0 hbx => ?_); try dsimp only [List.take, List.drop])
      | (refine awp_draw' (id := 10) [93] 15 (by kernel_rfl) (by kernel_rfl) rfl rfl (fun bx0 hbx => ?_); try dsimp only [List.take, List.drop])
      | (refine awp_draw' (id := 13) [93] 9 (by kernel_rfl) (by kernel_rfl) rfl rfl (fun bx0 hbx => ?_); try dsimp only [List.take, List.drop])
      | (refine awp_draw' (id := 28) [93] 15 (by kernel_rfl) (by kernel_rfl) rfl rfl (fun bx0 hbx => ?_); try dsimp only [List.take, List.drop])
      | with_reducible (first | refine awp_region [93] ?_ | refine awp_block ?_)
      | go_step)
    refine ⟨_, awake_ok, ?_⟩
    simp only [go_sem, simprocAttr, hF]
    repeat (first
      | (with_reducible (first | refine sops_go ?_ | refine headW_end ?_ | refine sops_end ?_ | refine awp_if ?_ | refine awp_skip ?_ | refine awp_ret ?_ | refine awp_exit ?_); simp only [go_sem, simprocAttr, hF])
      | ((with_reducible refine headW_go ?_); simp only [go_sem, simprocAttr, hF, hbx])
      | with_reducible refine awp_seq_k fun _ _ => ?_
      | (refine awp_draw' (id := 3) [93] 9 (by kernel_rfl) (by kernel_rfl) rfl rfl (fun bx0 hbx => ?_); try dsimp only [List.take, List.drop])
      | (refine awp_draw' (id := 10) [93] 15 (by kernel_rfl) (by kernel_rfl) rfl rfl (fun bx0 hbx => ?_); try dsimp only [List.take, List.drop])
      | (refine awp_draw' (id := 13) [93] 9 (by kernel_rfl) (by kernel_rfl) rfl rfl (fun bx0 hbx => ?_); try dsimp only [List.take, List.drop])
      | (refine awp_draw' (id := 28) [93] 15 (by kernel_rfl) (by kernel_rfl) rfl rfl (fun bx0 hbx => ?_); try dsimp only [List.take, List.drop])
      | with_reducible (first | refine awp_region [93] ?_ | refine awp_block ?_)
      | go_step)
    all_goals (try rfl)
  | true =>
    try simp only [go_sem, simprocAttr, hF, hfw]
    repeat (first
      | (with_reducible (first | refine sops_go ?_ | refine headW_end ?_ | refine sops_end ?_ | refine awp_if ?_ | refine awp_skip ?_ | refine awp_ret ?_ | refine awp_exit ?_); simp only [go_sem, simprocAttr, hF, hfw])
      | ((with_reducible refine headW_go ?_); simp only [go_sem, simprocAttr, hF, hfw, hbx])
      | with_reducible refine awp_seq_k fun _ _ => ?_
      | (refine awp_draw' (id := 3) [93] 9 (by kernel_rfl) (by kernel_rfl) rfl rfl (fun bx0 hbx => ?_); try dsimp only [List.take, List.drop])
      | (refine awp_draw' (id := 10) [93] 15 (by kernel_rfl) (by kernel_rfl) rfl rfl (fun bx0 hbx => ?_); try dsimp only [List.take, List.drop])
      | (refine awp_draw' (id := 13) [93] 9 (by kernel_rfl) (by kernel_rfl) rfl rfl (fun bx0 hbx => ?_); try dsimp only [List.take, List.drop])
      | (refine awp_draw' (id := 28) [93] 15 (by kernel_rfl) (by kernel_rfl) rfl rfl (fun bx0 hbx => ?_); try dsimp only [List.take, List.drop])
      | with_reducible (first | refine awp_region [93] ?_ | refine awp_block ?_)
      | go_step)
    refine ⟨_, nfew_ok n hp0, ?_⟩
    simp only [go_sem, simprocAttr, hF, hfw]
    cases hnf : nfewB n with
    | false =>
      try simp only [go_sem, simprocAttr, hF, hnf]
      repeat (first
        | (with_reducible (first | refine sops_go ?_ | refine headW_end ?_ | refine sops_end ?_ | refine awp_if ?_ | refine awp_skip ?_ | refine awp_ret ?_ | refine awp_exit ?_); simp only [go_sem, simprocAttr, hF, hnf])
        | ((with_reducible refine headW_go ?_); simp only [go_sem, simprocAttr, hF, hnf, hbx])
        | with_reducible refine awp_seq_k fun _ _ => ?_
        | (refine awp_draw' (id := 3) [93] 9 (by kernel_rfl) (by kernel_rfl) rfl rfl (fun bx0 hbx => ?_); try dsimp only [List.take, List.drop])
        | (refine awp_draw' (id := 10) [93] 15 (by kernel_rfl) (by kernel_rfl) rfl rfl (fun bx0 hbx => ?_); try dsimp only [List.take, List.drop])
        | (refine awp_draw' (id := 13) [93] 9 (by kernel_rfl) (by kernel_rfl) rfl rfl (fun bx0 hbx => ?_); try dsimp only [List.take, List.drop])
        | (refine awp_draw' (id := 28) [93] 15 (by kernel_rfl) (by kernel_rfl) rfl rfl (fun bx0 hbx => ?_); try dsimp only [List.take, List.drop])
        | with_reducible (first | refine awp_region [93] ?_ | refine awp_block ?_)
        | go_step)
      refine ⟨_, awake_ok, ?_⟩
      simp only [go_sem, simprocAttr, hF]
      repeat (first
        | (with_reducible (first | refine sops_go ?_ | refine headW_end ?_ | refine sops_end ?_ | refine awp_if ?_ | refine awp_skip ?_ | refine awp_ret ?_ | refine awp_exit ?_); simp only [go_sem, simprocAttr, hF])
        | ((with_reducible refine headW_go ?_); simp only [go_sem, simprocAttr, hF, hbx])
        | with_reducible refine awp_seq_k fun _ _ => ?_
        | (refine awp_draw' (id := 3) [93] 9 (by kernel_rfl) (by kernel_rfl) rfl rfl (fun bx0 hbx => ?_); try dsimp only [List.take, List.drop])
        | (refine awp_draw' (id := 10) [93] 15 (by kernel_rfl) (by kernel_rfl) rfl rfl (fun bx0 hbx => ?_); try dsimp only [List.take, List.drop])
        | (refine awp_draw' (id := 13) [93] 9 (by kernel_rfl) (by kernel_rfl) rfl rfl (fun bx0 hbx => ?_); try dsimp only [List.take, List.drop])
        | (refine awp_draw' (id := 28) [93] 15 (by kernel_rfl) (by kernel_rfl) rfl rfl (fun bx0 hbx => ?_); try dsimp only [List.take, List.drop])
        | with_reducible (first | refine awp_region [93] ?_ | refine awp_block ?_)
        | go_step)
      all_goals (try rfl)
    | true =>
      obtain ⟨-, hla', hld'⟩ := fewB_of hfw
      have hla : r.al.length ≤ 1000000 := by omega
      have hld : r.dl.length ≤ 1000000 := by omega
      obtain ⟨hpl, hp, hk, hg⟩ := nfewB_of hnf
      try simp only [go_sem, simprocAttr, hF, hnf]
      repeat (first
        | (with_reducible (first | refine sops_go ?_ | refine headW_end ?_ | refine sops_end ?_ | refine awp_if ?_ | refine awp_skip ?_ | refine awp_ret ?_ | refine awp_exit ?_); simp only [go_sem, simprocAttr, hF, hnf])
        | ((with_reducible refine headW_go ?_); simp only [go_sem, simprocAttr, hF, hnf, hbx])
        | with_reducible refine awp_seq_k fun _ _ => ?_
        | (refine awp_draw' (id := 3) [93] 9 (by kernel_rfl) (by kernel_rfl) rfl rfl (fun bx0 hbx => ?_); try dsimp only [List.take, List.drop])
        | (refine awp_draw' (id := 10) [93] 15 (by kernel_rfl) (by kernel_rfl) rfl rfl (fun bx0 hbx => ?_); try dsimp only [List.take, List.drop])
        | (refine awp_draw' (id := 13) [93] 9 (by kernel_rfl) (by kernel_rfl) rfl rfl (fun bx0 hbx => ?_); try dsimp only [List.take, List.drop])
        | (refine awp_draw' (id := 28) [93] 15 (by kernel_rfl) (by kernel_rfl) rfl rfl (fun bx0 hbx => ?_); try dsimp only [List.take, List.drop])
        | with_reducible (first | refine awp_region [93] ?_ | refine awp_block ?_)
        | go_step)
      refine ⟨_, cp_ok r hla hld, ?_⟩
      simp only [go_sem, simprocAttr, hF]
      repeat (first
        | (with_reducible (first | refine sops_go ?_ | refine headW_end ?_ | refine sops_end ?_ | refine awp_if ?_ | refine awp_skip ?_ | refine awp_ret ?_ | refine awp_exit ?_); simp only [go_sem, simprocAttr, hF])
        | ((with_reducible refine headW_go ?_); simp only [go_sem, simprocAttr, hF, hbx])
        | with_reducible refine awp_seq_k fun _ _ => ?_
        | (refine awp_draw' (id := 3) [93] 9 (by kernel_rfl) (by kernel_rfl) rfl rfl (fun bx0 hbx => ?_); try dsimp only [List.take, List.drop])
        | (refine awp_draw' (id := 10) [93] 15 (by kernel_rfl) (by kernel_rfl) rfl rfl (fun bx0 hbx => ?_); try dsimp only [List.take, List.drop])
        | (refine awp_draw' (id := 13) [93] 9 (by kernel_rfl) (by kernel_rfl) rfl rfl (fun bx0 hbx => ?_); try dsimp only [List.take, List.drop])
        | (refine awp_draw' (id := 28) [93] 15 (by kernel_rfl) (by kernel_rfl) rfl rfl (fun bx0 hbx => ?_); try dsimp only [List.take, List.drop])
        | with_reducible (first | refine awp_region [93] ?_ | refine awp_block ?_)
        | go_step)
      refine ⟨_, breaches_ok n r hp hpl hk hg hla hld, ?_⟩
      simp only [go_sem, simprocAttr, hF]
      by_cases hbad : chkN n ≠ 0 ∨ good r = false
      case pos =>
        have hbr : breachesP n r = ([], 1) := by unfold breachesP; rw [if_pos hbad]
        rw [hbr]
        have hi1 : ((1 : Int) != 0) = true := rfl
        have hn0 : (((0 : Nat) : Int) == 0) = true := rfl
        try simp only [go_sem, simprocAttr, hF, hi1, hn0]
        repeat (first
          | (with_reducible (first | refine sops_go ?_ | refine headW_end ?_ | refine sops_end ?_ | refine awp_if ?_ | refine awp_skip ?_ | refine awp_ret ?_ | refine awp_exit ?_); simp only [go_sem, simprocAttr, hF, hi1, hn0])
          | ((with_reducible refine headW_go ?_); simp only [go_sem, simprocAttr, hF, hi1, hn0, hbx])
          | with_reducible refine awp_seq_k fun _ _ => ?_
          | (refine awp_draw' (id := 3) [93] 9 (by kernel_rfl) (by kernel_rfl) rfl rfl (fun bx0 hbx => ?_); try dsimp only [List.take, List.drop])
          | (refine awp_draw' (id := 10) [93] 15 (by kernel_rfl) (by kernel_rfl) rfl rfl (fun bx0 hbx => ?_); try dsimp only [List.take, List.drop])
          | (refine awp_draw' (id := 13) [93] 9 (by kernel_rfl) (by kernel_rfl) rfl rfl (fun bx0 hbx => ?_); try dsimp only [List.take, List.drop])
          | (refine awp_draw' (id := 28) [93] 15 (by kernel_rfl) (by kernel_rfl) rfl rfl (fun bx0 hbx => ?_); try dsimp only [List.take, List.drop])
          | with_reducible (first | refine awp_region [93] ?_ | refine awp_block ?_)
          | go_step)
        all_goals (try rfl)
      cases hno : r.al.any (fun a => (lossAt n.lk a.cf a.ct).isNone) with
      | true =>
        have hbr : breachesP n r = ([], 7) := by unfold breachesP; rw [if_neg hbad, if_pos hno]
        rw [hbr]
        have hi1 : ((7 : Int) != 0) = true := rfl
        have hn0 : (((0 : Nat) : Int) == 0) = true := rfl
        try simp only [go_sem, simprocAttr, hF, hi1, hn0]
        repeat (first
          | (with_reducible (first | refine sops_go ?_ | refine headW_end ?_ | refine sops_end ?_ | refine awp_if ?_ | refine awp_skip ?_ | refine awp_ret ?_ | refine awp_exit ?_); simp only [go_sem, simprocAttr, hF, hi1, hn0])
          | ((with_reducible refine headW_go ?_); simp only [go_sem, simprocAttr, hF, hi1, hn0, hbx])
          | with_reducible refine awp_seq_k fun _ _ => ?_
          | (refine awp_draw' (id := 3) [93] 9 (by kernel_rfl) (by kernel_rfl) rfl rfl (fun bx0 hbx => ?_); try dsimp only [List.take, List.drop])
          | (refine awp_draw' (id := 10) [93] 15 (by kernel_rfl) (by kernel_rfl) rfl rfl (fun bx0 hbx => ?_); try dsimp only [List.take, List.drop])
          | (refine awp_draw' (id := 13) [93] 9 (by kernel_rfl) (by kernel_rfl) rfl rfl (fun bx0 hbx => ?_); try dsimp only [List.take, List.drop])
          | (refine awp_draw' (id := 28) [93] 15 (by kernel_rfl) (by kernel_rfl) rfl rfl (fun bx0 hbx => ?_); try dsimp only [List.take, List.drop])
          | with_reducible (first | refine awp_region [93] ?_ | refine awp_block ?_)
          | go_step)
        all_goals (try rfl)
      | false =>
        have hn : chkN n = 0 := Classical.byContradiction fun h => hbad (.inl h)
        have hgd : good r = true := by cases h : good r with | true => rfl | false => exact absurd (.inr h) hbad
        obtain ⟨B, hB⟩ : ∃ B, B = sortB (brAll n.lk r.al) := ⟨_, rfl⟩
        have hbr : breachesP n r = (B, 0) := by unfold breachesP; rw [if_neg hbad, if_neg (by rw [hno]; decide), hB]
        rw [hbr]
        clear hbr
        have hBl : B.length ≤ 1000000 := by rw [hB, (sortB_perm _).length_eq]; exact Nat.le_trans (brs_len (firstK_nodup _)) hla
        have hBs : ∀ b ∈ B, b.sl.length ≤ 1000000 := fun b hb => by
          rw [hB] at hb
          obtain ⟨i, p, y, h⟩ := losses_law hn hgd hno ((sortB_perm _).mem_iff.1 hb)
          have := h.room
          have h2 : (ownL r.al b).length ≤ r.al.length := Nat.le_trans (List.length_filter_le _ _) (List.length_filter_le _ _)
          omega
        have hi0 : ((0 : Int) != 0) = false := rfl
        try simp only [go_sem, simprocAttr, hF, hi0]
        repeat (first
          | (with_reducible (first | refine sops_go ?_ | refine headW_end ?_ | refine sops_end ?_ | refine awp_if ?_ | refine awp_skip ?_ | refine awp_ret ?_ | refine awp_exit ?_); simp only [go_sem, simprocAttr, hF, hi0])
          | ((with_reducible refine headW_go ?_); simp only [go_sem, simprocAttr, hF, hi0, hbx])
          | with_reducible refine awp_seq_k fun _ _ => ?_
          | (refine awp_draw' (id := 3) [93] 9 (by kernel_rfl) (by kernel_rfl) rfl rfl (fun bx0 hbx => ?_); try dsimp only [List.take, List.drop])
          | (refine awp_draw' (id := 10) [93] 15 (by kernel_rfl) (by kernel_rfl) rfl rfl (fun bx0 hbx => ?_); try dsimp only [List.take, List.drop])
          | (refine awp_draw' (id := 13) [93] 9 (by kernel_rfl) (by kernel_rfl) rfl rfl (fun bx0 hbx => ?_); try dsimp only [List.take, List.drop])
          | (refine awp_draw' (id := 28) [93] 15 (by kernel_rfl) (by kernel_rfl) rfl rfl (fun bx0 hbx => ?_); try dsimp only [List.take, List.drop])
          | with_reducible (first | refine awp_region [93] ?_ | refine awp_block ?_)
          | go_step)
        refine awp_loop_by (ι := {t : Nat // t ≤ B.length}) (fun t σ => ⟨(43, iv (t.1 : Int)) :: keepS [2, 3, 5, 41, 42] σ.slot, [(2, n.pv), (3, r.pv)], [], σ.ext⟩) (fun t => B.length - t.1) ⟨0, Nat.zero_le _⟩ (sub_mk ?_) (fun R hR t => ?_)
        · simp only [go_sem, simprocAttr, hF]
          repeat' (first | rfl | refine ⟨?_, ?_⟩)
        obtain ⟨t, ht⟩ := t
        dsimp only
        simp only [go_sem, simprocAttr, hF]
        by_cases hlt : t < B.length
        case neg =>
          have hd : decide ((t : Int) < (B.length : Int)) = false := decide_eq_false (by omega)
          repeat (first
            | (with_reducible (first | refine sops_go ?_ | refine headW_end ?_ | refine sops_end ?_ | refine awp_if ?_ | refine awp_skip ?_ | refine awp_ret ?_ | refine awp_exit ?_); simp only [go_sem, simprocAttr, hF, hd])
            | ((with_reducible refine headW_go ?_); simp only [go_sem, simprocAttr, hF, hd, hbx])
            | with_reducible refine awp_seq_k fun _ _ => ?_
            | (refine awp_draw' (id := 3) [93] 9 (by kernel_rfl) (by kernel_rfl) rfl rfl (fun bx0 hbx => ?_); try dsimp only [List.take, List.drop])
            | (refine awp_draw' (id := 10) [93] 15 (by kernel_rfl) (by kernel_rfl) rfl rfl (fun bx0 hbx => ?_); try dsimp only [List.take, List.drop])
            | (refine awp_draw' (id := 13) [93] 9 (by kernel_rfl) (by kernel_rfl) rfl rfl (fun bx0 hbx => ?_); try dsimp only [List.take, List.drop])
            | (refine awp_draw' (id := 28) [93] 15 (by kernel_rfl) (by kernel_rfl) rfl rfl (fun bx0 hbx => ?_); try dsimp only [List.take, List.drop])
            | with_reducible (first | refine awp_region [93] ?_ | refine awp_block ?_)
            | go_step)
          all_goals (try rfl)
        obtain ⟨b, hbt⟩ := get_of_lt hlt
        have hd : decide ((t : Int) < (B.length : Int)) = true := decide_eq_true (by omega)
        have hw : IntKind.i64.wrap ((t : Int) + 1) = ((t + 1 : Nat) : Int) := by rw [IntKind.wrap_i64]; omega
        have hbB : b ∈ B := List.mem_of_getElem? hbt
        obtain ⟨i0, p, y, hLO⟩ := losses_law hn hgd hno ((sortB_perm _).mem_iff.1 (hB ▸ hbB))
        have hyb := (chkN_links hn).2 y (List.mem_of_getElem? hLO.at_)
        have hsl := hBs b hbB
        have hslne : b.sl ≠ [] := fun h => by have := hLO.len; rw [h] at this; simp at this; omega
        have hown : (ownL r.al b).length ≤ r.al.length := Nat.le_trans (List.length_filter_le _ _) (List.length_filter_le _ _)
        have hofl : (ofFrame r.al b.fl b.fr).length ≤ r.al.length := List.length_filter_le _ _
        have hLi := hLO.at_
        have hi0k : i0 < n.lk.length := (List.getElem?_eq_some_iff.1 hLi).1
        have k0 : decide ((i0 : Int) < 0) = false := decide_eq_false (by omega)
        have kw : IntKind.i64.wrap (y.ls + 1) = y.ls + 1 := by rw [IntKind.wrap_i64]; omega
        have kl : ((b.sl.length : Int) != y.ls + 1) = false := by rw [hLO.len]; simp
        repeat (first
          | (with_reducible (first | refine sops_go ?_ | refine headW_end ?_ | refine sops_end ?_ | refine awp_if ?_ | refine awp_skip ?_ | refine awp_ret ?_ | refine awp_exit ?_); simp only [go_sem, simprocAttr, hF, hd, hbt])
          | ((with_reducible refine headW_go ?_); simp only [go_sem, simprocAttr, hF, hd, hbt, hbx])
          | with_reducible refine awp_seq_k fun _ _ => ?_
          | (refine awp_draw' (id := 3) [93] 9 (by kernel_rfl) (by kernel_rfl) rfl rfl (fun bx0 hbx => ?_); try dsimp only [List.take, List.drop])
          | (refine awp_draw' (id := 10) [93] 15 (by kernel_rfl) (by kernel_rfl) rfl rfl (fun bx0 hbx => ?_); try dsimp only [List.take, List.drop])
          | (refine awp_draw' (id := 13) [93] 9 (by kernel_rfl) (by kernel_rfl) rfl rfl (fun bx0 hbx => ?_); try dsimp only [List.take, List.drop])
          | (refine awp_draw' (id := 28) [93] 15 (by kernel_rfl) (by kernel_rfl) rfl rfl (fun bx0 hbx => ?_); try dsimp only [List.take, List.drop])
          | with_reducible (first | refine awp_region [93] ?_ | refine awp_block ?_)
          | go_step)
        refine ⟨_, idxL_ok 29 [b.pv] (fun x => x.fr == b.fm && x.tt == b.tt) n.lk hk (fun z _ => losses1_ok z b), ?_⟩
        simp only [go_sem, simprocAttr, hF, hLO.link]
        repeat (first
          | (with_reducible (first | refine sops_go ?_ | refine headW_end ?_ | refine sops_end ?_ | refine awp_if ?_ | refine awp_skip ?_ | refine awp_ret ?_ | refine awp_exit ?_); simp only [go_sem, simprocAttr, hF, k0, hLi, kw, kl])
          | ((with_reducible refine headW_go ?_); simp only [go_sem, simprocAttr, hF, k0, hLi, kw, kl, hbx])
          | with_reducible refine awp_seq_k fun _ _ => ?_
          | (refine awp_draw' (id := 3) [93] 9 (by kernel_rfl) (by kernel_rfl) rfl rfl (fun bx0 hbx => ?_); try dsimp only [List.take, List.drop])
          | (refine awp_draw' (id := 10) [93] 15 (by kernel_rfl) (by kernel_rfl) rfl rfl (fun bx0 hbx => ?_); try dsimp only [List.take, List.drop])
          | (refine awp_draw' (id := 13) [93] 9 (by kernel_rfl) (by kernel_rfl) rfl rfl (fun bx0 hbx => ?_); try dsimp only [List.take, List.drop])
          | (refine awp_draw' (id := 28) [93] 15 (by kernel_rfl) (by kernel_rfl) rfl rfl (fun bx0 hbx => ?_); try dsimp only [List.take, List.drop])
          | with_reducible (first | refine awp_region [93] ?_ | refine awp_block ?_)
          | go_step)
        refine ⟨_, cp_ok r hla hld, ?_⟩
        simp only [go_sem, simprocAttr, hF]
        repeat (first
          | (with_reducible (first | refine sops_go ?_ | refine headW_end ?_ | refine sops_end ?_ | refine awp_if ?_ | refine awp_skip ?_ | refine awp_ret ?_ | refine awp_exit ?_); simp only [go_sem, simprocAttr, hF])
          | ((with_reducible refine headW_go ?_); simp only [go_sem, simprocAttr, hF, hbx])
          | with_reducible refine awp_seq_k fun _ _ => ?_
          | (refine awp_draw' (id := 3) [93] 9 (by kernel_rfl) (by kernel_rfl) rfl rfl (fun bx0 hbx => ?_); try dsimp only [List.take, List.drop])
          | (refine awp_draw' (id := 10) [93] 15 (by kernel_rfl) (by kernel_rfl) rfl rfl (fun bx0 hbx => ?_); try dsimp only [List.take, List.drop])
          | (refine awp_draw' (id := 13) [93] 9 (by kernel_rfl) (by kernel_rfl) rfl rfl (fun bx0 hbx => ?_); try dsimp only [List.take, List.drop])
          | (refine awp_draw' (id := 28) [93] 15 (by kernel_rfl) (by kernel_rfl) rfl rfl (fun bx0 hbx => ?_); try dsimp only [List.take, List.drop])
          | with_reducible (first | refine awp_region [93] ?_ | refine awp_block ?_)
          | go_step)
        refine ⟨_, attempts_ok r b.fl b.fr hla, ?_⟩
        simp only [go_sem, simprocAttr, hF]
        repeat (first
          | (with_reducible (first | refine sops_go ?_ | refine headW_end ?_ | refine sops_end ?_ | refine awp_if ?_ | refine awp_skip ?_ | refine awp_ret ?_ | refine awp_exit ?_); simp only [go_sem, simprocAttr, hF])
          | ((with_reducible refine headW_go ?_); simp only [go_sem, simprocAttr, hF, hbx])
          | with_reducible refine awp_seq_k fun _ _ => ?_
          | (refine awp_draw' (id := 3) [93] 9 (by kernel_rfl) (by kernel_rfl) rfl rfl (fun bx0 hbx => ?_); try dsimp only [List.take, List.drop])
          | (refine awp_draw' (id := 10) [93] 15 (by kernel_rfl) (by kernel_rfl) rfl rfl (fun bx0 hbx => ?_); try dsimp only [List.take, List.drop])
          | (refine awp_draw' (id := 13) [93] 9 (by kernel_rfl) (by kernel_rfl) rfl rfl (fun bx0 hbx => ?_); try dsimp only [List.take, List.drop])
          | (refine awp_draw' (id := 28) [93] 15 (by kernel_rfl) (by kernel_rfl) rfl rfl (fun bx0 hbx => ?_); try dsimp only [List.take, List.drop])
          | (with_reducible refine awp_region (id := 0) [93] ?_)
          | (with_reducible refine awp_region (id := 1) [93] ?_)
          | (with_reducible refine awp_region (id := 2) [93] ?_)
          | (with_reducible refine awp_region (id := 4) [93] ?_)
          | (with_reducible refine awp_region (id := 5) [93] ?_)
          | (with_reducible refine awp_region (id := 6) [93] ?_)
          | (with_reducible refine awp_region (id := 7) [93] ?_)
          | (with_reducible refine awp_region (id := 8) [93] ?_)
          | (with_reducible refine awp_region (id := 9) [93] ?_)
          | (with_reducible refine awp_region (id := 11) [93] ?_)
          | (with_reducible refine awp_region (id := 12) [93] ?_)
          | (with_reducible refine awp_region (id := 15) [93] ?_)
          | (with_reducible refine awp_region (id := 16) [93] ?_)
          | (with_reducible refine awp_region (id := 17) [93] ?_)
          | (with_reducible refine awp_region (id := 18) [93] ?_)
          | (with_reducible refine awp_region (id := 19) [93] ?_)
          | (with_reducible refine awp_region (id := 20) [93] ?_)
          | (with_reducible refine awp_region (id := 21) [93] ?_)
          | (with_reducible refine awp_region (id := 22) [93] ?_)
          | (with_reducible refine awp_region (id := 23) [93] ?_)
          | (with_reducible refine awp_region (id := 24) [93] ?_)
          | (with_reducible refine awp_region (id := 25) [93] ?_)
          | (with_reducible refine awp_region (id := 26) [93] ?_)
          | (with_reducible refine awp_region (id := 27) [93] ?_)
          | (with_reducible refine awp_region (id := 29) [93] ?_)
          | (with_reducible refine awp_region (id := 30) [93] ?_)
          | (with_reducible refine awp_region (id := 31) [93] ?_)
          | (with_reducible refine awp_block ?_)
          | go_step)
        refine awp_nil 10 8 66 (by rw [hF]; decide) rfl ?_
        simp only [go_sem, simprocAttr, hF]
        refine awp_loop_by (ι := {j : Nat // j ≤ (ofFrame r.al b.fl b.fr).length}) (fun j σ => ⟨(75, iv (j.1 : Int)) :: (10, .sl 8 ((((ofFrame r.al b.fl b.fr).take j.1).filter (fun a : Att => a.cf == b.fm && a.ct == b.tt)).map Att.pv)) :: keepS [2, 3, 5, 7, 8, 9, 41, 42, 43, 73, 74] σ.slot, [(8, b.pv), (2, n.pv), (3, r.pv)], [(.s 10, (66, 8))], σ.ext⟩) (fun j => (ofFrame r.al b.fl b.fr).length - j.1) ⟨0, Nat.zero_le _⟩ (sub_mk ?_) (fun R2 hR2 j => ?_)
        · simp only [go_sem, simprocAttr, hF]
          repeat' (first | rfl | refine ⟨?_, ?_⟩)
        obtain ⟨j, hj⟩ := j
        dsimp only
        simp only [go_sem, simprocAttr, hF]
        by_cases hjt : j < (ofFrame r.al b.fl b.fr).length
        case neg =>
          have hdj : decide ((j : Int) < ((ofFrame r.al b.fl b.fr).length : Int)) = false := decide_eq_false (by omega)
          have hall : List.filter (fun a : Att => a.cf == b.fm && a.ct == b.tt) (List.take j (ofFrame r.al b.fl b.fr)) = ownL r.al b := by rw [List.take_of_length_le (by omega)]; rfl
          rw [hall]
          clear hall
          obtain ⟨O, hO⟩ : ∃ O, O = ownL r.al b := ⟨_, rfl⟩
          have hLO1 := hLO.first
          have hLO2 := hLO.room
          have hLO3 := hLO.prev
          have hLO4 := hLO.each
          rw [← hO] at hLO1 hLO2 hLO3 hLO4 hown
          rw [← hO]
          have hOl : O.length ≤ 1000000 := by omega
          have m0 : decide ((p : Int) < 0) = false := decide_eq_false (by omega)
          have m1 : IntKind.i64.wrap ((p : Int) + (b.sl.length : Int)) = ((p + b.sl.length : Nat) : Int) := by rw [IntKind.wrap_i64]; omega
          have m2 : decide ((O.length : Int) < ((p + b.sl.length : Nat) : Int)) = false := decide_eq_false (by omega)
          repeat (first
            | (with_reducible (first | refine sops_go ?_ | refine headW_end ?_ | refine sops_end ?_ | refine awp_if ?_ | refine awp_skip ?_ | refine awp_ret ?_ | refine awp_exit ?_); simp only [go_sem, simprocAttr, hF, hdj])
            | ((with_reducible refine headW_go ?_); simp only [go_sem, simprocAttr, hF, hdj, hbx])
            | with_reducible refine awp_seq_k fun _ _ => ?_
            | (refine awp_draw' (id := 3) [93] 9 (by kernel_rfl) (by kernel_rfl) rfl rfl (fun bx0 hbx => ?_); try dsimp only [List.take, List.drop])
            | (refine awp_draw' (id := 10) [93] 15 (by kernel_rfl) (by kernel_rfl) rfl rfl (fun bx0 hbx => ?_); try dsimp only [List.take, List.drop])
            | (refine awp_draw' (id := 13) [93] 9 (by kernel_rfl) (by kernel_rfl) rfl rfl (fun bx0 hbx => ?_); try dsimp only [List.take, List.drop])
            | (refine awp_draw' (id := 28) [93] 15 (by kernel_rfl) (by kernel_rfl) rfl rfl (fun bx0 hbx => ?_); try dsimp only [List.take, List.drop])
            | with_reducible (first | refine awp_region [93] ?_ | refine awp_block ?_)
            | go_step)
          refine ⟨_, idxA_ok 32 [b.pv] (fun a => a.s == b.sl.headD 0) O hOl (fun z _ => losses2_ok z b hslne), ?_⟩
          simp only [go_sem, simprocAttr, hF, hLO1]
          by_cases hp2 : p = 0
          case pos =>
            have m3 : decide ((0 : Int) < (p : Int)) = false := decide_eq_false (by omega)
            repeat (first
              | (with_reducible (first | refine sops_go ?_ | refine headW_end ?_ | refine sops_end ?_ | refine awp_if ?_ | refine awp_skip ?_ | refine awp_ret ?_ | refine awp_exit ?_); simp only [go_sem, simprocAttr, hF, m0, m1, m2, m3])
              | ((with_reducible refine headW_go ?_); simp only [go_sem, simprocAttr, hF, m0, m1, m2, m3, hbx])
              | with_reducible refine awp_seq_k fun _ _ => ?_
              | (refine awp_draw' (id := 3) [93] 9 (by kernel_rfl) (by kernel_rfl) rfl rfl (fun bx0 hbx => ?_); try dsimp only [List.take, List.drop])
              | (refine awp_draw' (id := 10) [93] 15 (by kernel_rfl) (by kernel_rfl) rfl rfl (fun bx0 hbx => ?_); try dsimp only [List.take, List.drop])
              | (refine awp_draw' (id := 13) [93] 9 (by kernel_rfl) (by kernel_rfl) rfl rfl (fun bx0 hbx => ?_); try dsimp only [List.take, List.drop])
              | (refine awp_draw' (id := 28) [93] 15 (by kernel_rfl) (by kernel_rfl) rfl rfl (fun bx0 hbx => ?_); try dsimp only [List.take, List.drop])
              | with_reducible (first | refine awp_region [93] ?_ | refine awp_block ?_)
              | go_step)
            refine awp_loop_by (ι := {q : Nat // q ≤ b.sl.length}) (fun q σ => ⟨(129, iv (q.1 : Int)) :: keepS [2, 3, 5, 7, 8, 10, 13, 41, 42, 43, 127, 128] σ.slot, [(8, b.pv), (2, n.pv), (3, r.pv)], [], σ.ext⟩) (fun q => b.sl.length - q.1) ⟨0, Nat.zero_le _⟩ (sub_mk ?_) (fun R3 hR3 q => ?_)
            · simp only [go_sem, simprocAttr, hF]
              repeat' (first | rfl | refine ⟨?_, ?_⟩)
            obtain ⟨q, hq⟩ := q
            dsimp only
            simp only [go_sem, simprocAttr, hF]
            by_cases hqt : q < b.sl.length
            case neg =>
              have hdq : decide ((q : Int) < (b.sl.length : Int)) = false := decide_eq_false (by omega)
              by_cases ht0 : t = 0
              case pos =>
                have z0 : decide ((0 : Int) < (t : Int)) = false := decide_eq_false (by omega)
                repeat (first
                  | (with_reducible (first | refine sops_go ?_ | refine headW_end ?_ | refine sops_end ?_ | refine awp_if ?_ | refine awp_skip ?_ | refine awp_ret ?_ | refine awp_exit ?_); simp only [go_sem, simprocAttr, hF, hdq, z0])
                  | ((with_reducible refine headW_go ?_); simp only [go_sem, simprocAttr, hF, hdq, z0, hbx])
                  | with_reducible refine awp_seq_k fun _ _ => ?_
                  | (refine awp_draw' (id := 3) [93] 9 (by kernel_rfl) (by kernel_rfl) rfl rfl (fun bx0 hbx => ?_); try dsimp only [List.take, List.drop])
                  | (refine awp_draw' (id := 10) [93] 15 (by kernel_rfl) (by kernel_rfl) rfl rfl (fun bx0 hbx => ?_); try dsimp only [List.take, List.drop])
                  | (refine awp_draw' (id := 13) [93] 9 (by kernel_rfl) (by kernel_rfl) rfl rfl (fun bx0 hbx => ?_); try dsimp only [List.take, List.drop])
                  | (refine awp_draw' (id := 28) [93] 15 (by kernel_rfl) (by kernel_rfl) rfl rfl (fun bx0 hbx => ?_); try dsimp only [List.take, List.drop])
                  | with_reducible (first | refine awp_region [93] ?_ | refine awp_block ?_)
                  | go_step)
                refine ⟨⟨t + 1, by omega⟩, by dsimp only; omega, hR _ _ (sub_mk ?_)⟩
                simp only [go_sem, simprocAttr, hF, hw]
              case neg =>
                obtain ⟨t', ht'⟩ : ∃ t', t = t' + 1 := ⟨t - 1, by omega⟩
                subst ht'
                obtain ⟨t, ht'⟩ : ∃ t, t = t' := ⟨_, rfl⟩
                subst ht'
                obtain ⟨b0, hb0⟩ := get_of_lt (l := B) (k := t) (by omega)
                have hne := sorted_apart hn hgd (hB ▸ hb0) (hB ▸ hbt)
                have z0 : decide ((0 : Int) < ((t + 1 : Nat) : Int)) = true := decide_eq_true (by omega)
                have z1 : IntKind.i64.wrap (((t + 1 : Nat) : Int) - 1) = (t : Int) := by rw [IntKind.wrap_i64]; omega
                have z2 : List.drop t (List.take (t + 1) (List.map Br.pv B)) = List.map Br.pv [b0] := by
                  rw [List.take_add_one, List.getElem?_map, hb0, List.drop_append, List.drop_of_length_le (by rw [List.length_take]; omega), List.length_take, List.length_map, Nat.min_eq_left (by omega), Nat.sub_self]; rfl
                have z3 : List.drop (t + 1) (List.take (t + 1 + 1) (List.map Br.pv B)) = List.map Br.pv [b] := by
                  rw [List.take_add_one, List.getElem?_map, hbt, List.drop_append, List.drop_of_length_le (by rw [List.length_take]; omega), List.length_take, List.length_map, Nat.min_eq_left (by omega), Nat.sub_self]; rfl
                have z4 : t ≤ t + 1 := by omega
                have z5 : t + 1 ≤ B.length := by omega
                have z6 : t + 1 ≤ t + 1 + 1 := by omega
                have z7 : t + 1 + 1 ≤ B.length := by omega
                have z8 : decide ([b0] = [b]) = false := decide_eq_false (fun h => hne (by simpa using h))
                have z9 : decide (b0 = b) = false := decide_eq_false hne
                repeat (first
                  | (with_reducible (first | refine sops_go ?_ | refine headW_end ?_ | refine sops_end ?_ | refine awp_if ?_ | refine awp_skip ?_ | refine awp_ret ?_ | refine awp_exit ?_); simp only [go_sem, simprocAttr, hF, hdq, z0, z1, z2, z3, z4, z5, z6, z7, hw])
                  | ((with_reducible refine headW_go ?_); simp only [go_sem, simprocAttr, hF, hdq, z0, z1, z2, z3, z4, z5, z6, z7, hw, hbx])
                  | with_reducible refine awp_seq_k fun _ _ => ?_
                  | (refine awp_draw' (id := 3) [93] 9 (by kernel_rfl) (by kernel_rfl) rfl rfl (fun bx0 hbx => ?_); try dsimp only [List.take, List.drop])
                  | (refine awp_draw' (id := 10) [93] 15 (by kernel_rfl) (by kernel_rfl) rfl rfl (fun bx0 hbx => ?_); try dsimp only [List.take, List.drop])
                  | (refine awp_draw' (id := 13) [93] 9 (by kernel_rfl) (by kernel_rfl) rfl rfl (fun bx0 hbx => ?_); try dsimp only [List.take, List.drop])
                  | (refine awp_draw' (id := 28) [93] 15 (by kernel_rfl) (by kernel_rfl) rfl rfl (fun bx0 hbx => ?_); try dsimp only [List.take, List.drop])
                  | with_reducible (first | refine awp_region [93] ?_ | refine awp_block ?_)
                  | go_step)
                refine ⟨_, samebr_ok [b0] [b] (by simp) (fun x hx => by rw [List.mem_singleton.1 hx]; exact hBs b0 (List.mem_of_getElem? hb0)), ?_⟩
                simp only [go_sem, simprocAttr, hF, z8, z9]
                repeat (first
                  | (with_reducible (first | refine sops_go ?_ | refine headW_end ?_ | refine sops_end ?_ | refine awp_if ?_ | refine awp_skip ?_ | refine awp_ret ?_ | refine awp_exit ?_); simp only [go_sem, simprocAttr, hF, z8, z9])
                  | ((with_reducible refine headW_go ?_); simp only [go_sem, simprocAttr, hF, z8, z9, hbx])
                  | with_reducible refine awp_seq_k fun _ _ => ?_
                  | (refine awp_draw' (id := 3) [93] 9 (by kernel_rfl) (by kernel_rfl) rfl rfl (fun bx0 hbx => ?_); try dsimp only [List.take, List.drop])
                  | (refine awp_draw' (id := 10) [93] 15 (by kernel_rfl) (by kernel_rfl) rfl rfl (fun bx0 hbx => ?_); try dsimp only [List.take, List.drop])
                  | (refine awp_draw' (id := 13) [93] 9 (by kernel_rfl) (by kernel_rfl) rfl rfl (fun bx0 hbx => ?_); try dsimp only [List.take, List.drop])
                  | (refine awp_draw' (id := 28) [93] 15 (by kernel_rfl) (by kernel_rfl) rfl rfl (fun bx0 hbx => ?_); try dsimp only [List.take, List.drop])
                  | with_reducible (first | refine awp_region [93] ?_ | refine awp_block ?_)
                  | go_step)
                refine ⟨⟨t + 1 + 1, by omega⟩, by dsimp only; omega, hR _ _ (sub_mk ?_)⟩
                simp only [go_sem, simprocAttr, hF, hw]
            obtain ⟨s, hsq⟩ := get_of_lt hqt
            obtain ⟨a, ha1, ha2, ha3⟩ := hLO4 q s hsq
            have hdq : decide ((q : Int) < (b.sl.length : Int)) = true := decide_eq_true (by omega)
            have hwq : IntKind.i64.wrap ((q : Int) + 1) = ((q + 1 : Nat) : Int) := by rw [IntKind.wrap_i64]; omega
            have hwp : IntKind.i64.wrap ((p : Int) + (q : Int)) = ((p + q : Nat) : Int) := by rw [IntKind.wrap_i64]; omega
            have v1 : (a.s != s) = false := by rw [ha2]; simp
            have v2 : (a.o == 1) = false := by simpa using ha3
            repeat (first
              | (with_reducible (first | refine sops_go ?_ | refine headW_end ?_ | refine sops_end ?_ | refine awp_if ?_ | refine awp_skip ?_ | refine awp_ret ?_ | refine awp_exit ?_); simp only [go_sem, simprocAttr, hF, hdq, hsq, hwp, ha1, v1, v2])
              | ((with_reducible refine headW_go ?_); simp only [go_sem, simprocAttr, hF, hdq, hsq, hwp, ha1, v1, v2, hbx])
              | with_reducible refine awp_seq_k fun _ _ => ?_
              | (refine awp_draw' (id := 3) [93] 9 (by kernel_rfl) (by kernel_rfl) rfl rfl (fun bx0 hbx => ?_); try dsimp only [List.take, List.drop])
              | (refine awp_draw' (id := 10) [93] 15 (by kernel_rfl) (by kernel_rfl) rfl rfl (fun bx0 hbx => ?_); try dsimp only [List.take, List.drop])
              | (refine awp_draw' (id := 13) [93] 9 (by kernel_rfl) (by kernel_rfl) rfl rfl (fun bx0 hbx => ?_); try dsimp only [List.take, List.drop])
              | (refine awp_draw' (id := 28) [93] 15 (by kernel_rfl) (by kernel_rfl) rfl rfl (fun bx0 hbx => ?_); try dsimp only [List.take, List.drop])
              | with_reducible (first | refine awp_region [93] ?_ | refine awp_block ?_)
              | go_step)
            refine ⟨⟨q + 1, by omega⟩, by dsimp only; omega, hR3 _ _ (sub_mk ?_)⟩
            simp only [go_sem, simprocAttr, hF, hwq]
          case neg =>
            obtain ⟨a1, ha1, ho1⟩ := hLO3 (by omega)
            have m3 : decide ((0 : Int) < (p : Int)) = true := decide_eq_true (by omega)
            have m4 : IntKind.i64.wrap ((p : Int) - 1) = ((p - 1 : Nat) : Int) := by rw [IntKind.wrap_i64]; omega
            have m5 : O[p - 1]? = some a1 := ha1
            have m6 : (a1.o != 1) = false := by rw [ho1]; rfl
            repeat (first
              | (with_reducible (first | refine sops_go ?_ | refine headW_end ?_ | refine sops_end ?_ | refine awp_if ?_ | refine awp_skip ?_ | refine awp_ret ?_ | refine awp_exit ?_); simp only [go_sem, simprocAttr, hF, m0, m1, m2, m3, m4, m5, m6])
              | ((with_reducible refine headW_go ?_); simp only [go_sem, simprocAttr, hF, m0, m1, m2, m3, m4, m5, m6, hbx])
              | with_reducible refine awp_seq_k fun _ _ => ?_
              | (refine awp_draw' (id := 3) [93] 9 (by kernel_rfl) (by kernel_rfl) rfl rfl (fun bx0 hbx => ?_); try dsimp only [List.take, List.drop])
              | (refine awp_draw' (id := 10) [93] 15 (by kernel_rfl) (by kernel_rfl) rfl rfl (fun bx0 hbx => ?_); try dsimp only [List.take, List.drop])
              | (refine awp_draw' (id := 13) [93] 9 (by kernel_rfl) (by kernel_rfl) rfl rfl (fun bx0 hbx => ?_); try dsimp only [List.take, List.drop])
              | (refine awp_draw' (id := 28) [93] 15 (by kernel_rfl) (by kernel_rfl) rfl rfl (fun bx0 hbx => ?_); try dsimp only [List.take, List.drop])
              | with_reducible (first | refine awp_region [93] ?_ | refine awp_block ?_)
              | go_step)
            refine awp_loop_by (ι := {q : Nat // q ≤ b.sl.length}) (fun q σ => ⟨(129, iv (q.1 : Int)) :: keepS [2, 3, 5, 7, 8, 10, 13, 41, 42, 43, 127, 128] σ.slot, [(8, b.pv), (2, n.pv), (3, r.pv)], [], σ.ext⟩) (fun q => b.sl.length - q.1) ⟨0, Nat.zero_le _⟩ (sub_mk ?_) (fun R3 hR3 q => ?_)
            · simp only [go_sem, simprocAttr, hF]
              repeat' (first | rfl | refine ⟨?_, ?_⟩)
            obtain ⟨q, hq⟩ := q
            dsimp only
            simp only [go_sem, simprocAttr, hF]
            by_cases hqt : q < b.sl.length
            case neg =>
              have hdq : decide ((q : Int) < (b.sl.length : Int)) = false := decide_eq_false (by omega)
              by_cases ht0 : t = 0
              case pos =>
                have z0 : decide ((0 : Int) < (t : Int)) = false := decide_eq_false (by omega)
                repeat (first
                  | (with_reducible (first | refine sops_go ?_ | refine headW_end ?_ | refine sops_end ?_ | refine awp_if ?_ | refine awp_skip ?_ | refine awp_ret ?_ | refine awp_exit ?_); simp only [go_sem, simprocAttr, hF, hdq, z0])
                  | ((with_reducible refine headW_go ?_); simp only [go_sem, simprocAttr, hF, hdq, z0, hbx])
                  | with_reducible refine awp_seq_k fun _ _ => ?_
                  | (refine awp_draw' (id := 3) [93] 9 (by kernel_rfl) (by kernel_rfl) rfl rfl (fun bx0 hbx => ?_); try dsimp only [List.take, List.drop])
                  | (refine awp_draw' (id := 10) [93] 15 (by kernel_rfl) (by kernel_rfl) rfl rfl (fun bx0 hbx => ?_); try dsimp only [List.take, List.drop])
                  | (refine awp_draw' (id := 13) [93] 9 (by kernel_rfl) (by kernel_rfl) rfl rfl (fun bx0 hbx => ?_); try dsimp only [List.take, List.drop])
                  | (refine awp_draw' (id := 28) [93] 15 (by kernel_rfl) (by kernel_rfl) rfl rfl (fun bx0 hbx => ?_); try dsimp only [List.take, List.drop])
                  | with_reducible (first | refine awp_region [93] ?_ | refine awp_block ?_)
                  | go_step)
                refine ⟨⟨t + 1, by omega⟩, by dsimp only; omega, hR _ _ (sub_mk ?_)⟩
                simp only [go_sem, simprocAttr, hF, hw]
              case neg =>
                obtain ⟨t', ht'⟩ : ∃ t', t = t' + 1 := ⟨t - 1, by omega⟩
                subst ht'
                obtain ⟨t, ht'⟩ : ∃ t, t = t' := ⟨_, rfl⟩
                subst ht'
                obtain ⟨b0, hb0⟩ := get_of_lt (l := B) (k := t) (by omega)
                have hne := sorted_apart hn hgd (hB ▸ hb0) (hB ▸ hbt)
                have z0 : decide ((0 : Int) < ((t + 1 : Nat) : Int)) = true := decide_eq_true (by omega)
                have z1 : IntKind.i64.wrap (((t + 1 : Nat) : Int) - 1) = (t : Int) := by rw [IntKind.wrap_i64]; omega
                have z2 : List.drop t (List.take (t + 1) (List.map Br.pv B)) = List.map Br.pv [b0] := by
                  rw [List.take_add_one, List.getElem?_map, hb0, List.drop_append, List.drop_of_length_le (by rw [List.length_take]; omega), List.length_take, List.length_map, Nat.min_eq_left (by omega), Nat.sub_self]; rfl
                have z3 : List.drop (t + 1) (List.take (t + 1 + 1) (List.map Br.pv B)) = List.map Br.pv [b] := by
                  rw [List.take_add_one, List.getElem?_map, hbt, List.drop_append, List.drop_of_length_le (by rw [List.length_take]; omega), List.length_take, List.length_map, Nat.min_eq_left (by omega), Nat.sub_self]; rfl
                have z4 : t ≤ t + 1 := by omega
                have z5 : t + 1 ≤ B.length := by omega
                have z6 : t + 1 ≤ t + 1 + 1 := by omega
                have z7 : t + 1 + 1 ≤ B.length := by omega
                have z8 : decide ([b0] = [b]) = false := decide_eq_false (fun h => hne (by simpa using h))
                have z9 : decide (b0 = b) = false := decide_eq_false hne
                repeat (first
                  | (with_reducible (first | refine sops_go ?_ | refine headW_end ?_ | refine sops_end ?_ | refine awp_if ?_ | refine awp_skip ?_ | refine awp_ret ?_ | refine awp_exit ?_); simp only [go_sem, simprocAttr, hF, hdq, z0, z1, z2, z3, z4, z5, z6, z7, hw])
                  | ((with_reducible refine headW_go ?_); simp only [go_sem, simprocAttr, hF, hdq, z0, z1, z2, z3, z4, z5, z6, z7, hw, hbx])
                  | with_reducible refine awp_seq_k fun _ _ => ?_
                  | (refine awp_draw' (id := 3) [93] 9 (by kernel_rfl) (by kernel_rfl) rfl rfl (fun bx0 hbx => ?_); try dsimp only [List.take, List.drop])
                  | (refine awp_draw' (id := 10) [93] 15 (by kernel_rfl) (by kernel_rfl) rfl rfl (fun bx0 hbx => ?_); try dsimp only [List.take, List.drop])
                  | (refine awp_draw' (id := 13) [93] 9 (by kernel_rfl) (by kernel_rfl) rfl rfl (fun bx0 hbx => ?_); try dsimp only [List.take, List.drop])
                  | (refine awp_draw' (id := 28) [93] 15 (by kernel_rfl) (by kernel_rfl) rfl rfl (fun bx0 hbx => ?_); try dsimp only [List.take, List.drop])
                  | with_reducible (first | refine awp_region [93] ?_ | refine awp_block ?_)
                  | go_step)
                refine ⟨_, samebr_ok [b0] [b] (by simp) (fun x hx => by rw [List.mem_singleton.1 hx]; exact hBs b0 (List.mem_of_getElem? hb0)), ?_⟩
                simp only [go_sem, simprocAttr, hF, z8, z9]
                repeat (first
                  | (with_reducible (first | refine sops_go ?_ | refine headW_end ?_ | refine sops_end ?_ | refine awp_if ?_ | refine awp_skip ?_ | refine awp_ret ?_ | refine awp_exit ?_); simp only [go_sem, simprocAttr, hF, z8, z9])
                  | ((with_reducible refine headW_go ?_); simp only [go_sem, simprocAttr, hF, z8, z9, hbx])
                  | with_reducible refine awp_seq_k fun _ _ => ?_
                  | (refine awp_draw' (id := 3) [93] 9 (by kernel_rfl) (by kernel_rfl) rfl rfl (fun bx0 hbx => ?_); try dsimp only [List.take, List.drop])
                  | (refine awp_draw' (id := 10) [93] 15 (by kernel_rfl) (by kernel_rfl) rfl rfl (fun bx0 hbx => ?_); try dsimp only [List.take, List.drop])
                  | (refine awp_draw' (id := 13) [93] 9 (by kernel_rfl) (by kernel_rfl) rfl rfl (fun bx0 hbx => ?_); try dsimp only [List.take, List.drop])
                  | (refine awp_draw' (id := 28) [93] 15 (by kernel_rfl) (by kernel_rfl) rfl rfl (fun bx0 hbx => ?_); try dsimp only [List.take, List.drop])
                  | with_reducible (first | refine awp_region [93] ?_ | refine awp_block ?_)
                  | go_step)
                refine ⟨⟨t + 1 + 1, by omega⟩, by dsimp only; omega, hR _ _ (sub_mk ?_)⟩
                simp only [go_sem, simprocAttr, hF, hw]
            obtain ⟨s, hsq⟩ := get_of_lt hqt
            obtain ⟨a, ha1, ha2, ha3⟩ := hLO4 q s hsq
            have hdq : decide ((q : Int) < (b.sl.length : Int)) = true := decide_eq_true (by omega)
            have hwq : IntKind.i64.wrap ((q : Int) + 1) = ((q + 1 : Nat) : Int) := by rw [IntKind.wrap_i64]; omega
            have hwp : IntKind.i64.wrap ((p : Int) + (q : Int)) = ((p + q : Nat) : Int) := by rw [IntKind.wrap_i64]; omega
            have v1 : (a.s != s) = false := by rw [ha2]; simp
            have v2 : (a.o == 1) = false := by simpa using ha3
            repeat (first
              | (with_reducible (first | refine sops_go ?_ | refine headW_end ?_ | refine sops_end ?_ | refine awp_if ?_ | refine awp_skip ?_ | refine awp_ret ?_ | refine awp_exit ?_); simp only [go_sem, simprocAttr, hF, hdq, hsq, hwp, ha1, v1, v2])
              | ((with_reducible refine headW_go ?_); simp only [go_sem, simprocAttr, hF, hdq, hsq, hwp, ha1, v1, v2, hbx])
              | with_reducible refine awp_seq_k fun _ _ => ?_
              | (refine awp_draw' (id := 3) [93] 9 (by kernel_rfl) (by kernel_rfl) rfl rfl (fun bx0 hbx => ?_); try dsimp only [List.take, List.drop])
              | (refine awp_draw' (id := 10) [93] 15 (by kernel_rfl) (by kernel_rfl) rfl rfl (fun bx0 hbx => ?_); try dsimp only [List.take, List.drop])
              | (refine awp_draw' (id := 13) [93] 9 (by kernel_rfl) (by kernel_rfl) rfl rfl (fun bx0 hbx => ?_); try dsimp only [List.take, List.drop])
              | (refine awp_draw' (id := 28) [93] 15 (by kernel_rfl) (by kernel_rfl) rfl rfl (fun bx0 hbx => ?_); try dsimp only [List.take, List.drop])
              | with_reducible (first | refine awp_region [93] ?_ | refine awp_block ?_)
              | go_step)
            refine ⟨⟨q + 1, by omega⟩, by dsimp only; omega, hR3 _ _ (sub_mk ?_)⟩
            simp only [go_sem, simprocAttr, hF, hwq]
        obtain ⟨a, haj⟩ := get_of_lt hjt
        have hdj : decide ((j : Int) < ((ofFrame r.al b.fl b.fr).length : Int)) = true := decide_eq_true (by omega)
        have hwj : IntKind.i64.wrap ((j : Int) + 1) = ((j + 1 : Nat) : Int) := by rw [IntKind.wrap_i64]; omega
        have hT : List.take (j + 1) (ofFrame r.al b.fl b.fr) = List.take j (ofFrame r.al b.fl b.fr) ++ [a] := by rw [List.take_add_one, haj]; rfl
        have hfl2 : (List.filter (fun a : Att => a.cf == b.fm && a.ct == b.tt) (List.take j (ofFrame r.al b.fl b.fr))).length ≤ 99999999 := by
          have := List.length_filter_le (fun a : Att => a.cf == b.fm && a.ct == b.tt) (List.take j (ofFrame r.al b.fl b.fr))
          have h2 : (List.take j (ofFrame r.al b.fl b.fr)).length ≤ j := List.length_take_le _ _
          omega
        cases e1 : (a.cf == b.fm) with
        | false =>
          have hN : List.filter (fun a : Att => a.cf == b.fm && a.ct == b.tt) (List.take (j + 1) (ofFrame r.al b.fl b.fr)) = List.filter (fun a : Att => a.cf == b.fm && a.ct == b.tt) (List.take j (ofFrame r.al b.fl b.fr)) := by rw [hT, List.filter_append, List.filter_cons_of_neg (by simp [e1]), List.filter_nil, List.append_nil]
          repeat (first
            | (with_reducible (first | refine sops_go ?_ | refine headW_end ?_ | refine sops_end ?_ | refine awp_if ?_ | refine awp_skip ?_ | refine awp_ret ?_ | refine awp_exit ?_); simp only [go_sem, simprocAttr, hF, hdj, haj, e1])
            | ((with_reducible refine headW_go ?_); simp only [go_sem, simprocAttr, hF, hdj, haj, e1, hbx])
            | with_reducible refine awp_seq_k fun _ _ => ?_
            | (refine awp_draw' (id := 3) [93] 9 (by kernel_rfl) (by kernel_rfl) rfl rfl (fun bx0 hbx => ?_); try dsimp only [List.take, List.drop])
            | (refine awp_draw' (id := 10) [93] 15 (by kernel_rfl) (by kernel_rfl) rfl rfl (fun bx0 hbx => ?_); try dsimp only [List.take, List.drop])
            | (refine awp_draw' (id := 13) [93] 9 (by kernel_rfl) (by kernel_rfl) rfl rfl (fun bx0 hbx => ?_); try dsimp only [List.take, List.drop])
            | (refine awp_draw' (id := 28) [93] 15 (by kernel_rfl) (by kernel_rfl) rfl rfl (fun bx0 hbx => ?_); try dsimp only [List.take, List.drop])
            | with_reducible (first | refine awp_region [93] ?_ | refine awp_block ?_)
            | go_step)
          refine ⟨⟨j + 1, by omega⟩, by dsimp only; omega, hR2 _ _ (sub_mk ?_)⟩
          simp only [go_sem, simprocAttr, hF, hwj, hN]
        | true =>
          cases e2 : (a.ct == b.tt) with
          | false =>
            have hN : List.filter (fun a : Att => a.cf == b.fm && a.ct == b.tt) (List.take (j + 1) (ofFrame r.al b.fl b.fr)) = List.filter (fun a : Att => a.cf == b.fm && a.ct == b.tt) (List.take j (ofFrame r.al b.fl b.fr)) := by rw [hT, List.filter_append, List.filter_cons_of_neg (by simp [e2]), List.filter_nil, List.append_nil]
            repeat (first
              | (with_reducible (first | refine sops_go ?_ | refine headW_end ?_ | refine sops_end ?_ | refine awp_if ?_ | refine awp_skip ?_ | refine awp_ret ?_ | refine awp_exit ?_); simp only [go_sem, simprocAttr, hF, hdj, haj, e1, e2])
              | ((with_reducible refine headW_go ?_); simp only [go_sem, simprocAttr, hF, hdj, haj, e1, e2, hbx])
              | with_reducible refine awp_seq_k fun _ _ => ?_
              | (refine awp_draw' (id := 3) [93] 9 (by kernel_rfl) (by kernel_rfl) rfl rfl (fun bx0 hbx => ?_); try dsimp only [List.take, List.drop])
              | (refine awp_draw' (id := 10) [93] 15 (by kernel_rfl) (by kernel_rfl) rfl rfl (fun bx0 hbx => ?_); try dsimp only [List.take, List.drop])
              | (refine awp_draw' (id := 13) [93] 9 (by kernel_rfl) (by kernel_rfl) rfl rfl (fun bx0 hbx => ?_); try dsimp only [List.take, List.drop])
              | (refine awp_draw' (id := 28) [93] 15 (by kernel_rfl) (by kernel_rfl) rfl rfl (fun bx0 hbx => ?_); try dsimp only [List.take, List.drop])
              | with_reducible (first | refine awp_region [93] ?_ | refine awp_block ?_)
              | go_step)
            refine ⟨⟨j + 1, by omega⟩, by dsimp only; omega, hR2 _ _ (sub_mk ?_)⟩
            simp only [go_sem, simprocAttr, hF, hwj, hN]
          | true =>
            have hN : List.filter (fun a : Att => a.cf == b.fm && a.ct == b.tt) (List.take (j + 1) (ofFrame r.al b.fl b.fr)) = List.filter (fun a : Att => a.cf == b.fm && a.ct == b.tt) (List.take j (ofFrame r.al b.fl b.fr)) ++ [a] := by rw [hT, List.filter_append, List.filter_cons_of_pos (by simp [e1, e2]), List.filter_nil]
            repeat (first
              | (with_reducible (first | refine sops_go ?_ | refine headW_end ?_ | refine sops_end ?_ | refine awp_if ?_ | refine awp_skip ?_ | refine awp_ret ?_ | refine awp_exit ?_); simp only [go_sem, simprocAttr, hF, hdj, haj, e1, e2, hfl2])
              | ((with_reducible refine headW_go ?_); simp only [go_sem, simprocAttr, hF, hdj, haj, e1, e2, hfl2, hbx])
              | with_reducible refine awp_seq_k fun _ _ => ?_
              | (refine awp_draw' (id := 3) [93] 9 (by kernel_rfl) (by kernel_rfl) rfl rfl (fun bx0 hbx => ?_); try dsimp only [List.take, List.drop])
              | (refine awp_draw' (id := 10) [93] 15 (by kernel_rfl) (by kernel_rfl) rfl rfl (fun bx0 hbx => ?_); try dsimp only [List.take, List.drop])
              | (refine awp_draw' (id := 13) [93] 9 (by kernel_rfl) (by kernel_rfl) rfl rfl (fun bx0 hbx => ?_); try dsimp only [List.take, List.drop])
              | (refine awp_draw' (id := 28) [93] 15 (by kernel_rfl) (by kernel_rfl) rfl rfl (fun bx0 hbx => ?_); try dsimp only [List.take, List.drop])
              | with_reducible (first | refine awp_region [93] ?_ | refine awp_block ?_)
              | go_step)
            refine ⟨⟨j + 1, by omega⟩, by dsimp only; omega, hR2 _ _ (sub_mk ?_)⟩
            simp only [go_sem, simprocAttr, hF, hwj, hN, List.map_append]
end Go.Proofs.Ytkdigdnacggknaa

import Derived.Test.YtkdigdnacggknaaZ11
set_option linter.unusedVariables false
set_option linter.unusedSimpArgs false
/- By abstract states: the reference of Breaches. -/
namespace Go.Proofs.Ytkdigdnacggknaa
open Go.RowKit
open Nd Rc Mo
open Av
set_option maxRecDepth 100000
set_option linter.unusedSimpArgs false
attribute [local go_sem] Av.guardB Av.sop Av.hopx Av.hop Av.hopCall Av.hopF Av.hopB Av.evo Av.evos Av.avCells Av.loadK Av.bound Av.abin Av.aun Av.partsC Av.lfill Av.placesB Av.setAt Av.stl Av.takes Av.src Av.bxOf Av.ownOf Av.St.res Av.St.put Av.St.addBox Av.St.putOwn Av.delL Av.delS Av.look Av.lookL Av.storeSt Av.stealSt Av.St.setBox Av.keepL Av.hitB Av.snap Av.snaps Av.snapCaps Av.AV.lit Av.AV.refs Av.capRefs Av.PV.av Av.CV.av Av.startSt Av.steals Av.athen Av.ablock Av.appK Av.AllS Av.AllO Av.AllR Av.keepS Av.St.avAt Av.RetOK Av.retAll Av.retOne Av.intsOf Av.ptrB Av.appB Av.appSt TypeDesc.isRow List.range_zero Option.some.injEq exists_eq_left' exists_eq_left exists_eq' exists_and_left exists_and_right exists_const true_and and_true and_self false_and and_false or_false false_or or_true true_or if_true if_false Bool.false_eq_true List.zipIdx_cons List.zipIdx_nil List.map_cons List.map_nil List.filter_cons List.filter_nil List.contains_cons List.contains_nil List.drop_succ_cons List.drop_zero List.take_succ_cons List.take_zero List.take_nil List.drop_nil List.length_cons List.length_nil List.cons_append List.nil_append List.append_nil List.getElem?_cons_zero List.getElem?_cons_succ List.getElem?_nil Option.bind_some Option.bind_none Option.map_some Option.map_none Option.isNone_none Option.isNone_some Option.isSome_some Option.isSome_none Bool.and_true Bool.true_and Bool.and_false Bool.false_and Bool.or_false Bool.false_or Bool.not_true Bool.not_false beq_true beq_false Bool.true_beq Bool.false_beq Loc.s.injEq Loc.b.injEq decide_true decide_false beq_self_eq_true Nat.zero_add Nat.add_zero List.getElem?_toArray List.toList_toArray List.size_toArray Value.oneCell' List.all_cons List.all_nil Value.int.injEq AV.v.injEq AV.sl.injEq AV.agg.injEq AV.ref.injEq AV.ept.injEq AV.tup.injEq Value.bool.injEq PV.v.injEq PV.sl.injEq List.isEmpty_nil List.isEmpty_cons forall_const not_true_eq_false not_false_eq_true true_implies false_implies Value.string.injEq List.length_map List.getElem?_map Int.toNat_natCast Int.natCast_nonneg List.length_append Value.cells implies_true TypeDesc.struct.injEq TypeDesc.slice.injEq TypeDesc.array.injEq List.getElem?_toArray Prod.mk.injEq and_assoc exists_false List.cons.injEq Operand.tmp.injEq ite_self AV.fnv.injEq AV.clo.injEq ne_eq eq_self Try.sz3 Try.zr3 Try.by3 Try.pl3 Try.is3 Try.underlying3 Try.sz4 Try.zr4 Try.by4 Try.pl4 Try.is4 Try.underlying4 Try.sz32 Try.zr32 Try.by32 Try.pl32 Try.is32 Try.underlying32 Try.sz28 Try.zr28 Try.by28 Try.pl28 Try.is28 Try.underlying28 Try.sz26 Try.zr26 Try.by26 Try.pl26 Try.is26 Try.underlying26 Try.sz37 Try.zr37 Try.by37 Try.pl37 Try.is37 Try.underlying37 Try.sz68 Try.zr68 Try.by68 Try.pl68 Try.is68 Try.underlying68 Try.sz57 Try.zr57 Try.by57 Try.pl57 Try.is57 Try.underlying57 Try.sz70 Try.zr70 Try.by70 Try.pl70 Try.is70 Try.underlying70 Try.sz54 Try.zr54 Try.by54 Try.pl54 Try.is54 Try.underlying54 Try.sz66 Try.zr66 Try.by66 Try.pl66 Try.is66 Try.underlying66 Try.sz64 Try.zr64 Try.by64 Try.pl64 Try.is64 Try.underlying64 Try.sz73 Try.zr73 Try.by73 Try.pl73 Try.is73 Try.underlying73 Try.sz102 Try.zr102 Try.by102 Try.pl102 Try.is102 Try.underlying102 Try.sz105 Try.zr105 Try.by105 Try.pl105 Try.is105 Try.underlying105 Try.sz44 Try.zr44 Try.by44 Try.pl44 Try.is44 Try.underlying44 Try.sz22 Try.zr22 Try.by22 Try.pl22 Try.is22 Try.underlying22 Try.sz31 Try.zr31 Try.by31 Try.pl31 Try.is31 Try.underlying31 Try.sz23 Try.zr23 Try.by23 Try.pl23 Try.is23 Try.underlying23 Try.sz24 Try.zr24 Try.by24 Try.pl24 Try.is24 Try.underlying24 Try.sz46 Try.zr46 Try.by46 Try.pl46 Try.is46 Try.underlying46 Try.sz41 Try.zr41 Try.by41 Try.pl41 Try.is41 Try.underlying41 Try.sz42 Try.zr42 Try.by42 Try.pl42 Try.is42 Try.underlying42 Try.sz40 Try.zr40 Try.by40 Try.pl40 Try.is40 Try.underlying40 Try.it68 Try.eg68 Try.it54 Try.eg54 Try.it66 Try.eg66 Try.it57 Try.eg57 Try.it37 Try.eg37 Try.it73 Try.eg73 all_arr loc_ss loc_sb loc_bs loc_bb arr_two arr_one rg1 rg2 rg3 rg4 rg5 rg6 rg7 rg8 ResultVar.tmp.injEq Bool.not_true Bool.not_false undef Rc.Rec.pv Nd.Fl.pv Rc.Dlv.pv Rc.Att.pv Mo.Lt.pv Mo.Sv.pv Mo.Net.pv Mo.Lk.pv runPv Option.getD_none Option.getD_some Av.sopX Av.bxf Av.xof Av.takesS
set_option maxHeartbeats 20000000 in
theorem breachesR_ok (n : Net) (r : Rec) (hp : n.pow.length ≤ 1000000) (hpl : ∀ l ∈ n.pow, l.length ≤ 1000000) (hk : n.lk.length ≤ 1000000) (hg : n.mg.length ≤ 1000000) (hla : r.al.length ≤ 1000000) (hld : r.dl.length ≤ 1000000) : FnOK Try.prog 18 [.agg n.pv, .agg r.pv] ⟨.tup [.c (.sl 5 ((breachesP n r).1.map Br.pv)), .c (ip (breachesP n r).2)], none⟩ := by
  refine fn_ok Try.func18 (by kernel_rfl) rfl (by rw [Try.ntmps18]; exact of_decide_eq_true rfl) (fun F hF => ?_)
  rw [Try.ntmps18] at hF
  rw [Try.results18]
  repeat (first
    | ((with_reducible refine sopsX_go ?_); simp only [go_sem, simprocAttr, hF])
    | ((with_reducible refine sopsX_end ?_); refine And.intro (by kernel_rfl) ?_; (try simp only [go_sem, simprocAttr, hF]))
    | (with_reducible (first | refine sops_go ?_ | refine headW_end ?_ | refine sops_end ?_ | refine awp_if ?_ | refine awp_skip ?_ | refine awp_ret ?_ | refine awp_exit ?_); simp only [go_sem, simprocAttr, hF])
    | ((with_reducible refine headW_go ?_); simp only [go_sem, simprocAttr, hF, hbx])
    | with_reducible refine awp_seq_k fun _ _ => ?_
    | (refine awp_any (id := 21) [] [] [] (by kernel_rfl) (by kernel_rfl) ?_)
    | (refine awp_draw' (id := 7) [] 15 (by kernel_rfl) (by kernel_rfl) rfl rfl (fun bx0 hbx => ?_); try dsimp only [List.take, List.drop])
    | (refine awp_draw' (id := 15) [] 11 (by kernel_rfl) (by kernel_rfl) rfl rfl (fun bx0 hbx => ?_); try dsimp only [List.take, List.drop])
    | (refine awp_draw' (id := 16) [] 13 (by kernel_rfl) (by kernel_rfl) rfl rfl (fun bx0 hbx => ?_); try dsimp only [List.take, List.drop])
    | with_reducible (first | refine awp_region [] ?_ | refine awp_block ?_)
    | go_step)
  refine ⟨_, ncheckR_ok n hp hpl hk hg, ?_⟩
  simp only [go_sem, simprocAttr, hF]
  by_cases hc : chkN n = 0
  case neg =>
    have hc1 : (chkN n != 0) = true := by simpa using hc
    repeat (first
      | ((refine awp_nil (c := .ret) 4 5 70 (by rw [hF]; decide) (by first | rfl | simp only [Av.look]; rfl) ?_); simp only [go_sem, simprocAttr, hF, hc1])
      | ((with_reducible refine sopsX_go ?_); simp only [go_sem, simprocAttr, hF, hc1])
      | ((with_reducible refine sopsX_end ?_); refine And.intro (by kernel_rfl) ?_; (try simp only [go_sem, simprocAttr, hF, hc1]))
      | (with_reducible (first | refine sops_go ?_ | refine headW_end ?_ | refine sops_end ?_ | refine awp_if ?_ | refine awp_skip ?_ | refine awp_ret ?_ | refine awp_exit ?_); simp only [go_sem, simprocAttr, hF, hc1])
      | ((with_reducible refine headW_go ?_); simp only [go_sem, simprocAttr, hF, hc1, hbx])
      | with_reducible refine awp_seq_k fun _ _ => ?_
      | (refine awp_any (id := 21) [] [] [] (by kernel_rfl) (by kernel_rfl) ?_)
      | (refine awp_draw' (id := 7) [] 15 (by kernel_rfl) (by kernel_rfl) rfl rfl (fun bx0 hbx => ?_); try dsimp only [List.take, List.drop])
      | (refine awp_draw' (id := 15) [] 11 (by kernel_rfl) (by kernel_rfl) rfl rfl (fun bx0 hbx => ?_); try dsimp only [List.take, List.drop])
      | (refine awp_draw' (id := 16) [] 13 (by kernel_rfl) (by kernel_rfl) rfl rfl (fun bx0 hbx => ?_); try dsimp only [List.take, List.drop])
      | with_reducible (first | refine awp_region [] ?_ | refine awp_block ?_)
      | go_step)
    rw [show breachesP n r = ([], 1) from by unfold breachesP; rw [if_pos (.inl hc)]]
    try rfl
  have hc1 : (chkN n != 0) = false := by simpa using hc
  repeat (first
    | ((with_reducible refine sopsX_go ?_); simp only [go_sem, simprocAttr, hF, hc1])
    | ((with_reducible refine sopsX_end ?_); refine And.intro (by kernel_rfl) ?_; (try simp only [go_sem, simprocAttr, hF, hc1]))
    | (with_reducible (first | refine sops_go ?_ | refine headW_end ?_ | refine sops_end ?_ | refine awp_if ?_ | refine awp_skip ?_ | refine awp_ret ?_ | refine awp_exit ?_); simp only [go_sem, simprocAttr, hF, hc1])
    | ((with_reducible refine headW_go ?_); simp only [go_sem, simprocAttr, hF, hc1, hbx])
    | with_reducible refine awp_seq_k fun _ _ => ?_
    | (refine awp_any (id := 21) [] [] [] (by kernel_rfl) (by kernel_rfl) ?_)
    | (refine awp_draw' (id := 7) [] 15 (by kernel_rfl) (by kernel_rfl) rfl rfl (fun bx0 hbx => ?_); try dsimp only [List.take, List.drop])
    | (refine awp_draw' (id := 15) [] 11 (by kernel_rfl) (by kernel_rfl) rfl rfl (fun bx0 hbx => ?_); try dsimp only [List.take, List.drop])
    | (refine awp_draw' (id := 16) [] 13 (by kernel_rfl) (by kernel_rfl) rfl rfl (fun bx0 hbx => ?_); try dsimp only [List.take, List.drop])
    | with_reducible (first | refine awp_region [] ?_ | refine awp_block ?_)
    | go_step)
  refine ⟨_, rcheck_ok r hla hld, ?_⟩
  simp only [go_sem, simprocAttr, hF]
  cases hgd : good r with
  | false =>
    have hr : rcheckE r = 1 := by rw [← check_agree, checkE, hgd]; rfl
    have hi1 : ((1 : Int) != 0) = true := rfl
    try simp only [go_sem, simprocAttr, hF, hr]
    repeat (first
      | ((refine awp_nil (c := .ret) 4 5 70 (by rw [hF]; decide) (by first | rfl | simp only [Av.look]; rfl) ?_); simp only [go_sem, simprocAttr, hF, hr, hi1])
      | ((with_reducible refine sopsX_go ?_); simp only [go_sem, simprocAttr, hF, hr, hi1])
      | ((with_reducible refine sopsX_end ?_); refine And.intro (by kernel_rfl) ?_; (try simp only [go_sem, simprocAttr, hF, hr, hi1]))
      | (with_reducible (first | refine sops_go ?_ | refine headW_end ?_ | refine sops_end ?_ | refine awp_if ?_ | refine awp_skip ?_ | refine awp_ret ?_ | refine awp_exit ?_); simp only [go_sem, simprocAttr, hF, hr, hi1])
      | ((with_reducible refine headW_go ?_); simp only [go_sem, simprocAttr, hF, hr, hi1, hbx])
      | with_reducible refine awp_seq_k fun _ _ => ?_
      | (refine awp_any (id := 21) [] [] [] (by kernel_rfl) (by kernel_rfl) ?_)
      | (refine awp_draw' (id := 7) [] 15 (by kernel_rfl) (by kernel_rfl) rfl rfl (fun bx0 hbx => ?_); try dsimp only [List.take, List.drop])
      | (refine awp_draw' (id := 15) [] 11 (by kernel_rfl) (by kernel_rfl) rfl rfl (fun bx0 hbx => ?_); try dsimp only [List.take, List.drop])
      | (refine awp_draw' (id := 16) [] 13 (by kernel_rfl) (by kernel_rfl) rfl rfl (fun bx0 hbx => ?_); try dsimp only [List.take, List.drop])
      | with_reducible (first | refine awp_region [] ?_ | refine awp_block ?_)
      | go_step)
    rw [show breachesP n r = ([], 1) from by unfold breachesP; rw [if_pos (.inr hgd)]]
    try rfl
  | true =>
    have hr : rcheckE r = 0 := by rw [← check_agree, checkE, hgd]; rfl
    have hi0 : ((0 : Int) != 0) = false := rfl
    try simp only [go_sem, simprocAttr, hF, hr]
    repeat (first
      | ((with_reducible refine sopsX_go ?_); simp only [go_sem, simprocAttr, hF, hr, hi0])
      | ((with_reducible refine sopsX_end ?_); refine And.intro (by kernel_rfl) ?_; (try simp only [go_sem, simprocAttr, hF, hr, hi0]))
      | (with_reducible (first | refine sops_go ?_ | refine headW_end ?_ | refine sops_end ?_ | refine awp_if ?_ | refine awp_skip ?_ | refine awp_ret ?_ | refine awp_exit ?_); simp only [go_sem, simprocAttr, hF, hr, hi0])
      | ((with_reducible refine headW_go ?_); simp only [go_sem, simprocAttr, hF, hr, hi0, hbx])
      | with_reducible refine awp_seq_k fun _ _ => ?_
      | (refine awp_any (id := 21) [] [] [] (by kernel_rfl) (by kernel_rfl) ?_)
      | (refine awp_draw' (id := 7) [] 15 (by kernel_rfl) (by kernel_rfl) rfl rfl (fun bx0 hbx => ?_); try dsimp only [List.take, List.drop])
      | (refine awp_draw' (id := 15) [] 11 (by kernel_rfl) (by kernel_rfl) rfl rfl (fun bx0 hbx => ?_); try dsimp only [List.take, List.drop])
      | (refine awp_draw' (id := 16) [] 13 (by kernel_rfl) (by kernel_rfl) rfl rfl (fun bx0 hbx => ?_); try dsimp only [List.take, List.drop])
      | with_reducible (first | refine awp_region [] ?_ | refine awp_block ?_)
      | go_step)
    refine awp_loop_by (ι := {k : Nat // k ≤ r.al.length ∧ (r.al.take k).any (fun a => (lossAt n.lk a.cf a.ct).isNone) = false}) (fun k σ => ⟨(7, iv (k.1 : Int)) :: keepS [2, 3, 4, 5, 6] σ.slot, σ.box, [], σ.ext⟩) (fun k => r.al.length - k.1) ⟨0, Nat.zero_le _, rfl⟩ (sub_mk ?_) (fun R hR k => ?_)
    · simp only [go_sem, simprocAttr, hF]
      repeat' (first | rfl | refine ⟨?_, ?_⟩)
    obtain ⟨k, hk1, hT⟩ := k
    dsimp only
    simp only [go_sem, simprocAttr, hF]
    by_cases hlt : k < r.al.length
    case pos =>
      obtain ⟨a, hak⟩ := get_of_lt hlt
      have hd : decide ((k : Int) < (r.al.length : Int)) = true := decide_eq_true (by omega)
      have hw : IntKind.i64.wrap ((k : Int) + 1) = ((k + 1 : Nat) : Int) := by rw [IntKind.wrap_i64]; omega
      repeat (first
        | ((with_reducible refine sopsX_go ?_); simp only [go_sem, simprocAttr, hF, hd, hak])
        | ((with_reducible refine sopsX_end ?_); refine And.intro (by kernel_rfl) ?_; (try simp only [go_sem, simprocAttr, hF, hd, hak]))
        | (with_reducible (first | refine sops_go ?_ | refine headW_end ?_ | refine sops_end ?_ | refine awp_if ?_ | refine awp_skip ?_ | refine awp_ret ?_ | refine awp_exit ?_); simp only [go_sem, simprocAttr, hF, hd, hak])
        | ((with_reducible refine headW_go ?_); simp only [go_sem, simprocAttr, hF, hd, hak, hbx])
        | with_reducible refine awp_seq_k fun _ _ => ?_
        | (refine awp_any (id := 21) [] [] [] (by kernel_rfl) (by kernel_rfl) ?_)
        | (refine awp_draw' (id := 7) [] 15 (by kernel_rfl) (by kernel_rfl) rfl rfl (fun bx0 hbx => ?_); try dsimp only [List.take, List.drop])
        | (refine awp_draw' (id := 15) [] 11 (by kernel_rfl) (by kernel_rfl) rfl rfl (fun bx0 hbx => ?_); try dsimp only [List.take, List.drop])
        | (refine awp_draw' (id := 16) [] 13 (by kernel_rfl) (by kernel_rfl) rfl rfl (fun bx0 hbx => ?_); try dsimp only [List.take, List.drop])
        | with_reducible (first | refine awp_region [] ?_ | refine awp_block ?_)
        | go_step)
      refine ⟨_, nfind_ok n a.cf a.ct hk, ?_⟩
      simp only [go_sem, simprocAttr, hF]
      cases hl : lossAt n.lk a.cf a.ct with
      | none =>
        have hf := find_none hl
        have hn1 : decide ((-1 : Int) < 0) = true := rfl
        try simp only [go_sem, simprocAttr, hF, hf]
        repeat (first
          | ((refine awp_nil (c := .ret) 4 5 70 (by rw [hF]; decide) (by first | rfl | simp only [Av.look]; rfl) ?_); simp only [go_sem, simprocAttr, hF, hf, hn1])
          | ((with_reducible refine sopsX_go ?_); simp only [go_sem, simprocAttr, hF, hf, hn1])
          | ((with_reducible refine sopsX_end ?_); refine And.intro (by kernel_rfl) ?_; (try simp only [go_sem, simprocAttr, hF, hf, hn1]))
          | (with_reducible (first | refine sops_go ?_ | refine headW_end ?_ | refine sops_end ?_ | refine awp_if ?_ | refine awp_skip ?_ | refine awp_ret ?_ | refine awp_exit ?_); simp only [go_sem, simprocAttr, hF, hf, hn1])
          | ((with_reducible refine headW_go ?_); simp only [go_sem, simprocAttr, hF, hf, hn1, hbx])
          | with_reducible refine awp_seq_k fun _ _ => ?_
          | (refine awp_any (id := 21) [] [] [] (by kernel_rfl) (by kernel_rfl) ?_)
          | (refine awp_draw' (id := 7) [] 15 (by kernel_rfl) (by kernel_rfl) rfl rfl (fun bx0 hbx => ?_); try dsimp only [List.take, List.drop])
          | (refine awp_draw' (id := 15) [] 11 (by kernel_rfl) (by kernel_rfl) rfl rfl (fun bx0 hbx => ?_); try dsimp only [List.take, List.drop])
          | (refine awp_draw' (id := 16) [] 13 (by kernel_rfl) (by kernel_rfl) rfl rfl (fun bx0 hbx => ?_); try dsimp only [List.take, List.drop])
          | with_reducible (first | refine awp_region [] ?_ | refine awp_block ?_)
          | go_step)
        rw [show breachesP n r = ([], 7) from by
          unfold breachesP
          rw [if_neg (by rintro (h | h); exact h hc; rw [hgd] at h; cases h), if_pos (List.any_eq_true.2 ⟨a, List.mem_of_getElem? hak, by rw [hl]; rfl⟩)]]
        try rfl
      | some x =>
        obtain ⟨i, y, hy, e1, hf⟩ := find_some hc hl
        have hn0 : decide ((i : Int) < 0) = false := decide_eq_false (by omega)
        try simp only [go_sem, simprocAttr, hF, hf]
        repeat (first
          | ((with_reducible refine sopsX_go ?_); simp only [go_sem, simprocAttr, hF, hf, hn0])
          | ((with_reducible refine sopsX_end ?_); refine And.intro (by kernel_rfl) ?_; (try simp only [go_sem, simprocAttr, hF, hf, hn0]))
          | (with_reducible (first | refine sops_go ?_ | refine headW_end ?_ | refine sops_end ?_ | refine awp_if ?_ | refine awp_skip ?_ | refine awp_ret ?_ | refine awp_exit ?_); simp only [go_sem, simprocAttr, hF, hf, hn0])
          | ((with_reducible refine headW_go ?_); simp only [go_sem, simprocAttr, hF, hf, hn0, hbx])
          | with_reducible refine awp_seq_k fun _ _ => ?_
          | (refine awp_any (id := 21) [] [] [] (by kernel_rfl) (by kernel_rfl) ?_)
          | (refine awp_draw' (id := 7) [] 15 (by kernel_rfl) (by kernel_rfl) rfl rfl (fun bx0 hbx => ?_); try dsimp only [List.take, List.drop])
          | (refine awp_draw' (id := 15) [] 11 (by kernel_rfl) (by kernel_rfl) rfl rfl (fun bx0 hbx => ?_); try dsimp only [List.take, List.drop])
          | (refine awp_draw' (id := 16) [] 13 (by kernel_rfl) (by kernel_rfl) rfl rfl (fun bx0 hbx => ?_); try dsimp only [List.take, List.drop])
          | with_reducible (first | refine awp_region [] ?_ | refine awp_block ?_)
          | go_step)
        refine ⟨⟨k + 1, by omega, by rw [take_snoc hak, List.any_append, hT]; simp [hl]⟩, by dsimp only; omega, hR _ _ (sub_mk ?_)⟩
        simp only [go_sem, simprocAttr, hF, hw]
    obtain rfl : k = r.al.length := by omega
    rw [List.take_length] at hT
    have hd : decide ((r.al.length : Int) < (r.al.length : Int)) = false := decide_eq_false (by omega)
    have hB : breachesP n r = (sortB (brs n.lk r.al (firstK r.al)), 0) := by
      unfold breachesP
      rw [if_neg (by rintro (h | h); exact h hc; rw [hgd] at h; cases h), if_neg (by rw [hT]; decide)]
      rfl
    rw [hB]
    repeat (first
      | ((with_reducible refine sopsX_go ?_); simp only [go_sem, simprocAttr, hF, hd])
      | ((with_reducible refine sopsX_end ?_); refine And.intro (by kernel_rfl) ?_; (try simp only [go_sem, simprocAttr, hF, hd]))
      | (with_reducible (first | refine sops_go ?_ | refine headW_end ?_ | refine sops_end ?_ | refine awp_if ?_ | refine awp_skip ?_ | refine awp_ret ?_ | refine awp_exit ?_); simp only [go_sem, simprocAttr, hF, hd])
      | ((with_reducible refine headW_go ?_); simp only [go_sem, simprocAttr, hF, hd, hbx])
      | with_reducible refine awp_seq_k fun _ _ => ?_
      | (refine awp_any (id := 21) [] [] [] (by kernel_rfl) (by kernel_rfl) ?_)
      | (refine awp_draw' (id := 7) [] 15 (by kernel_rfl) (by kernel_rfl) rfl rfl (fun bx0 hbx => ?_); try dsimp only [List.take, List.drop])
      | (refine awp_draw' (id := 15) [] 11 (by kernel_rfl) (by kernel_rfl) rfl rfl (fun bx0 hbx => ?_); try dsimp only [List.take, List.drop])
      | (refine awp_draw' (id := 16) [] 13 (by kernel_rfl) (by kernel_rfl) rfl rfl (fun bx0 hbx => ?_); try dsimp only [List.take, List.drop])
      | with_reducible (first | refine awp_region [] ?_ | refine awp_block ?_)
      | go_step)
    refine awp_nil 8 5 70 (by rw [hF]; decide) rfl ?_
    simp only [go_sem, simprocAttr, hF]
    refine awp_loop_by (ι := {k : Nat // k ≤ r.al.length}) (fun k σ => ⟨(9, iv (k.1 : Int)) :: (8, .sl 5 ((sortB (brs n.lk r.al (firstK (r.al.take k.1)))).map Br.pv)) :: keepS [2, 3, 4, 5, 6] σ.slot, σ.box, [], σ.ext⟩) (fun k => r.al.length - k.1) ⟨0, Nat.zero_le _⟩ (sub_mk ?_) (fun R2 hR2 k => ?_)
    · simp only [go_sem, simprocAttr, hF]
      repeat' (first | rfl | refine ⟨?_, ?_⟩)
    obtain ⟨k, hk2⟩ := k
    dsimp only
    simp only [go_sem, simprocAttr, hF]
    by_cases hlt : k < r.al.length
    case neg =>
      have hd : decide ((k : Int) < (r.al.length : Int)) = false := decide_eq_false (by omega)
      obtain rfl : k = r.al.length := by omega
      rw [List.take_length]
      repeat (first
        | ((with_reducible refine sopsX_go ?_); simp only [go_sem, simprocAttr, hF, hd])
        | ((with_reducible refine sopsX_end ?_); refine And.intro (by kernel_rfl) ?_; (try simp only [go_sem, simprocAttr, hF, hd]))
        | (with_reducible (first | refine sops_go ?_ | refine headW_end ?_ | refine sops_end ?_ | refine awp_if ?_ | refine awp_skip ?_ | refine awp_ret ?_ | refine awp_exit ?_); simp only [go_sem, simprocAttr, hF, hd])
        | ((with_reducible refine headW_go ?_); simp only [go_sem, simprocAttr, hF, hd, hbx])
        | with_reducible refine awp_seq_k fun _ _ => ?_
        | (refine awp_any (id := 21) [] [] [] (by kernel_rfl) (by kernel_rfl) ?_)
        | (refine awp_draw' (id := 7) [] 15 (by kernel_rfl) (by kernel_rfl) rfl rfl (fun bx0 hbx => ?_); try dsimp only [List.take, List.drop])
        | (refine awp_draw' (id := 15) [] 11 (by kernel_rfl) (by kernel_rfl) rfl rfl (fun bx0 hbx => ?_); try dsimp only [List.take, List.drop])
        | (refine awp_draw' (id := 16) [] 13 (by kernel_rfl) (by kernel_rfl) rfl rfl (fun bx0 hbx => ?_); try dsimp only [List.take, List.drop])
        | with_reducible (first | refine awp_region [] ?_ | refine awp_block ?_)
        | go_step)
      all_goals (first | rfl | rw [hB])
    obtain ⟨a, hak⟩ := get_of_lt hlt
    have hd : decide ((k : Int) < (r.al.length : Int)) = true := decide_eq_true (by omega)
    have hw : IntKind.i64.wrap ((k : Int) + 1) = ((k + 1 : Nat) : Int) := by rw [IntKind.wrap_i64]; omega
    have hfs : firstK (r.al.take (k + 1)) = if ((r.al.take k).map attK).contains (attK a) then firstK (r.al.take k) else firstK (r.al.take k) ++ [attK a] := by rw [take_snoc hak]; exact firstK_snoc _ _
    obtain ⟨x0, hx0⟩ : ∃ x, lossAt n.lk a.cf a.ct = some x := by
      cases hq : lossAt n.lk a.cf a.ct with
      | some x => exact ⟨x, rfl⟩
      | none =>
        rw [List.any_eq_false] at hT
        have := hT a (List.mem_of_getElem? hak)
        rw [hq] at this
        simp at this
    repeat (first
      | ((with_reducible refine sopsX_go ?_); simp only [go_sem, simprocAttr, hF, hd, hak])
      | ((with_reducible refine sopsX_end ?_); refine And.intro (by kernel_rfl) ?_; (try simp only [go_sem, simprocAttr, hF, hd, hak]))
      | (with_reducible (first | refine sops_go ?_ | refine headW_end ?_ | refine sops_end ?_ | refine awp_if ?_ | refine awp_skip ?_ | refine awp_ret ?_ | refine awp_exit ?_); simp only [go_sem, simprocAttr, hF, hd, hak])
      | ((with_reducible refine headW_go ?_); simp only [go_sem, simprocAttr, hF, hd, hak, hbx])
      | with_reducible refine awp_seq_k fun _ _ => ?_
      | (refine awp_any (id := 21) [] [] [] (by kernel_rfl) (by kernel_rfl) ?_)
      | (refine awp_draw' (id := 7) [] 15 (by kernel_rfl) (by kernel_rfl) rfl rfl (fun bx0 hbx => ?_); try dsimp only [List.take, List.drop])
      | (refine awp_draw' (id := 15) [] 11 (by kernel_rfl) (by kernel_rfl) rfl rfl (fun bx0 hbx => ?_); try dsimp only [List.take, List.drop])
      | (refine awp_draw' (id := 16) [] 13 (by kernel_rfl) (by kernel_rfl) rfl rfl (fun bx0 hbx => ?_); try dsimp only [List.take, List.drop])
      | with_reducible (first | refine awp_region [] ?_ | refine awp_block ?_)
      | go_step)
    refine ⟨_, first_ok r.al k a hak hla, ?_⟩
    simp only [go_sem, simprocAttr, hF]
    cases hfb : firstB r.al k a with
    | false =>
      have hfk : ((r.al.take k).map attK).contains (attK a) = true := by rw [firstB_k] at hfb; simpa using hfb
      have hN : firstK (r.al.take (k + 1)) = firstK (r.al.take k) := by rw [hfs, if_pos hfk]
      try simp only [go_sem, simprocAttr, hF, hfb]
      repeat (first
        | ((with_reducible refine sopsX_go ?_); simp only [go_sem, simprocAttr, hF, hfb])
        | ((with_reducible refine sopsX_end ?_); refine And.intro (by kernel_rfl) ?_; (try simp only [go_sem, simprocAttr, hF, hfb]))
        | (with_reducible (first | refine sops_go ?_ | refine headW_end ?_ | refine sops_end ?_ | refine awp_if ?_ | refine awp_skip ?_ | refine awp_ret ?_ | refine awp_exit ?_); simp only [go_sem, simprocAttr, hF, hfb])
        | ((with_reducible refine headW_go ?_); simp only [go_sem, simprocAttr, hF, hfb, hbx])
        | with_reducible refine awp_seq_k fun _ _ => ?_
        | (refine awp_any (id := 21) [] [] [] (by kernel_rfl) (by kernel_rfl) ?_)
        | (refine awp_draw' (id := 7) [] 15 (by kernel_rfl) (by kernel_rfl) rfl rfl (fun bx0 hbx => ?_); try dsimp only [List.take, List.drop])
        | (refine awp_draw' (id := 15) [] 11 (by kernel_rfl) (by kernel_rfl) rfl rfl (fun bx0 hbx => ?_); try dsimp only [List.take, List.drop])
        | (refine awp_draw' (id := 16) [] 13 (by kernel_rfl) (by kernel_rfl) rfl rfl (fun bx0 hbx => ?_); try dsimp only [List.take, List.drop])
        | with_reducible (first | refine awp_region [] ?_ | refine awp_block ?_)
        | go_step)
      refine ⟨⟨k + 1, by omega⟩, by dsimp only; omega, hR2 _ _ (sub_mk ?_)⟩
      simp only [go_sem, simprocAttr, hF, hw, hN]
    | true =>
      have hfk : ((r.al.take k).map attK).contains (attK a) = false := by rw [firstB_k] at hfb; simpa using hfb
      have hN : firstK (r.al.take (k + 1)) = firstK (r.al.take k) ++ [attK a] := by rw [hfs, if_neg (by rw [hfk]; decide)]
      obtain ⟨V, hV⟩ : ∃ V, V = firstK (r.al.take k) := ⟨_, rfl⟩
      have hVn : V.Nodup := by rw [hV]; exact firstK_nodup _
      have hKV : attK a ∉ V := by
        rw [hV, mem_firstK]
        rintro ⟨c, hc1, hc2⟩
        have : ((r.al.take k).map attK).contains (attK a) = true := by rw [List.contains_iff_mem]; exact List.mem_map.2 ⟨c, hc1, hc2⟩
        rw [hfk] at this; cases this
      rw [← hV] at hN ⊢
      obtain ⟨i, y, hy, e1, hf⟩ := find_some hc hx0
      have hyb := (chkN_links hc).2 y (List.mem_of_getElem? hy)
      obtain ⟨mm, hmm⟩ : ∃ mm : Nat, y.ls = (mm : Int) := ⟨y.ls.toNat, by omega⟩
      have hlo : lossOf n.lk (attK a).fm (attK a).tt = (mm : Int) := by show lossOf n.lk a.cf a.ct = _; unfold lossOf; rw [hx0]; simp [← hmm, e1]
      have hil : i < n.lk.length := (List.getElem?_eq_some_iff.1 hy).1
      try simp only [go_sem, simprocAttr, hF, hfb]
      repeat (first
        | ((with_reducible refine sopsX_go ?_); simp only [go_sem, simprocAttr, hF, hfb, hak])
        | ((with_reducible refine sopsX_end ?_); refine And.intro (by kernel_rfl) ?_; (try simp only [go_sem, simprocAttr, hF, hfb, hak]))
        | (with_reducible (first | refine sops_go ?_ | refine headW_end ?_ | refine sops_end ?_ | refine awp_if ?_ | refine awp_skip ?_ | refine awp_ret ?_ | refine awp_exit ?_); simp only [go_sem, simprocAttr, hF, hfb, hak])
        | ((with_reducible refine headW_go ?_); simp only [go_sem, simprocAttr, hF, hfb, hak, hbx])
        | with_reducible refine awp_seq_k fun _ _ => ?_
        | (refine awp_any (id := 21) [] [] [] (by kernel_rfl) (by kernel_rfl) ?_)
        | (refine awp_draw' (id := 7) [] 15 (by kernel_rfl) (by kernel_rfl) rfl rfl (fun bx0 hbx => ?_); try dsimp only [List.take, List.drop])
        | (refine awp_draw' (id := 15) [] 11 (by kernel_rfl) (by kernel_rfl) rfl rfl (fun bx0 hbx => ?_); try dsimp only [List.take, List.drop])
        | (refine awp_draw' (id := 16) [] 13 (by kernel_rfl) (by kernel_rfl) rfl rfl (fun bx0 hbx => ?_); try dsimp only [List.take, List.drop])
        | with_reducible (first | refine awp_region [] ?_ | refine awp_block ?_)
        | go_step)
      refine ⟨_, nfind_ok n a.cf a.ct hk, ?_⟩
      simp only [go_sem, simprocAttr, hF, hf]
      repeat (first
        | ((with_reducible refine sopsX_go ?_); simp only [go_sem, simprocAttr, hF, hf, hy, hmm, hak])
        | ((with_reducible refine sopsX_end ?_); refine And.intro (by kernel_rfl) ?_; (try simp only [go_sem, simprocAttr, hF, hf, hy, hmm, hak]))
        | (with_reducible (first | refine sops_go ?_ | refine headW_end ?_ | refine sops_end ?_ | refine awp_if ?_ | refine awp_skip ?_ | refine awp_ret ?_ | refine awp_exit ?_); simp only [go_sem, simprocAttr, hF, hf, hy, hmm, hak])
        | ((with_reducible refine headW_go ?_); simp only [go_sem, simprocAttr, hF, hf, hy, hmm, hak, hbx])
        | with_reducible refine awp_seq_k fun _ _ => ?_
        | (refine awp_any (id := 21) [] [] [] (by kernel_rfl) (by kernel_rfl) ?_)
        | (refine awp_draw' (id := 7) [] 15 (by kernel_rfl) (by kernel_rfl) rfl rfl (fun bx0 hbx => ?_); try dsimp only [List.take, List.drop])
        | (refine awp_draw' (id := 15) [] 11 (by kernel_rfl) (by kernel_rfl) rfl rfl (fun bx0 hbx => ?_); try dsimp only [List.take, List.drop])
        | (refine awp_draw' (id := 16) [] 13 (by kernel_rfl) (by kernel_rfl) rfl rfl (fun bx0 hbx => ?_); try dsimp only [List.take, List.drop])
        | with_reducible (first | refine awp_region [] ?_ | refine awp_block ?_)
        | go_step)
      refine ⟨_, rlosses_ok r a.cl a.f a.cf a.ct hla, ?_⟩
      simp only [go_sem, simprocAttr, hF]
      obtain ⟨runs, hruns⟩ : ∃ runs, runs = lossP r.al a.cl a.f a.cf a.ct := ⟨_, rfl⟩
      have hrl : runs.length ≤ r.al.length := by
        rw [hruns]
        show (lossP r.al (attK a).fl (attK a).fr (attK a).fm (attK a).tt).length ≤ _
        rw [lossP_k]
        exact Nat.le_trans (runsOf_len _ _ (Nat.le_refl _)) (List.length_filter_le _ _)
      rw [← hruns]
      rw [← brO_zero n.lk r.al V (attK a)]
      repeat (first
        | ((with_reducible refine sopsX_go ?_); simp only [go_sem, simprocAttr, hF])
        | ((with_reducible refine sopsX_end ?_); refine And.intro (by kernel_rfl) ?_; (try simp only [go_sem, simprocAttr, hF]))
        | (with_reducible (first | refine sops_go ?_ | refine headW_end ?_ | refine sops_end ?_ | refine awp_if ?_ | refine awp_skip ?_ | refine awp_ret ?_ | refine awp_exit ?_); simp only [go_sem, simprocAttr, hF])
        | ((with_reducible refine headW_go ?_); simp only [go_sem, simprocAttr, hF, hbx])
        | with_reducible refine awp_seq_k fun _ _ => ?_
        | (refine awp_any (id := 21) [] [] [] (by kernel_rfl) (by kernel_rfl) ?_)
        | (refine awp_draw' (id := 7) [] 15 (by kernel_rfl) (by kernel_rfl) rfl rfl (fun bx0 hbx => ?_); try dsimp only [List.take, List.drop])
        | (refine awp_draw' (id := 15) [] 11 (by kernel_rfl) (by kernel_rfl) rfl rfl (fun bx0 hbx => ?_); try dsimp only [List.take, List.drop])
        | (refine awp_draw' (id := 16) [] 13 (by kernel_rfl) (by kernel_rfl) rfl rfl (fun bx0 hbx => ?_); try dsimp only [List.take, List.drop])
        | with_reducible (first | refine awp_region [] ?_ | refine awp_block ?_)
        | go_step)
      refine awp_loop_by (ι := {j : Nat // j ≤ runs.length}) (fun j σ => ⟨(13, iv (j.1 : Int)) :: (8, .sl 5 ((sortB (brO n.lk r.al V (attK a) j.1)).map Br.pv)) :: keepS [2, 3, 4, 5, 6, 9, 10, 11, 12] σ.slot, [(10, [ip a.cs, ip a.co, ip a.cf, ip a.ct, ip a.cl]), (3, r.pv), (2, n.pv)], [], σ.ext⟩) (fun j => runs.length - j.1) ⟨0, Nat.zero_le _⟩ (sub_mk ?_) (fun R3 hR3 j => ?_)
      · simp only [go_sem, simprocAttr, hF]
        repeat' (first | rfl | refine ⟨?_, ?_⟩)
      obtain ⟨j, hj⟩ := j
      dsimp only
      simp only [go_sem, simprocAttr, hF]
      by_cases hjt : j < runs.length
      case neg =>
        have hdj : decide ((j : Int) < (runs.length : Int)) = false := decide_eq_false (by omega)
        rw [brO_all n.lk r.al V (attK a) (j := j) (by show (lossP r.al a.cl a.f a.cf a.ct).length ≤ j; rw [← hruns]; omega)]
        repeat (first
          | ((with_reducible refine sopsX_go ?_); simp only [go_sem, simprocAttr, hF, hdj])
          | ((with_reducible refine sopsX_end ?_); refine And.intro (by kernel_rfl) ?_; (try simp only [go_sem, simprocAttr, hF, hdj]))
          | (with_reducible (first | refine sops_go ?_ | refine headW_end ?_ | refine sops_end ?_ | refine awp_if ?_ | refine awp_skip ?_ | refine awp_ret ?_ | refine awp_exit ?_); simp only [go_sem, simprocAttr, hF, hdj])
          | ((with_reducible refine headW_go ?_); simp only [go_sem, simprocAttr, hF, hdj, hbx])
          | with_reducible refine awp_seq_k fun _ _ => ?_
          | (refine awp_any (id := 21) [] [] [] (by kernel_rfl) (by kernel_rfl) ?_)
          | (refine awp_draw' (id := 7) [] 15 (by kernel_rfl) (by kernel_rfl) rfl rfl (fun bx0 hbx => ?_); try dsimp only [List.take, List.drop])
          | (refine awp_draw' (id := 15) [] 11 (by kernel_rfl) (by kernel_rfl) rfl rfl (fun bx0 hbx => ?_); try dsimp only [List.take, List.drop])
          | (refine awp_draw' (id := 16) [] 13 (by kernel_rfl) (by kernel_rfl) rfl rfl (fun bx0 hbx => ?_); try dsimp only [List.take, List.drop])
          | with_reducible (first | refine awp_region [] ?_ | refine awp_block ?_)
          | go_step)
        refine ⟨⟨k + 1, by omega⟩, by dsimp only; omega, hR2 _ _ (sub_mk ?_)⟩
        simp only [go_sem, simprocAttr, hF, hw, hN]
      obtain ⟨x, hxj⟩ := get_of_lt hjt
      have hdj : decide ((j : Int) < (runs.length : Int)) = true := decide_eq_true (by omega)
      have hwj : IntKind.i64.wrap ((j : Int) + 1) = ((j + 1 : Nat) : Int) := by rw [IntKind.wrap_i64]; omega
      have hst := brO_step (lk := n.lk) (al := r.al) (V := V) (K := attK a) (j := j) (x := x) (by show (lossP r.al a.cl a.f a.cf a.ct)[j]? = _; rw [← hruns]; exact hxj)
      rw [hlo] at hst
      have hxl : x.length ≤ r.al.length := runs_of_len (k := attK a) (j := j) (by show (lossP r.al a.cl a.f a.cf a.ct)[j]? = _; rw [← hruns]; exact hxj)
      by_cases hmx : (mm : Int) < (x.length : Int)
      case neg =>
        have hdm : decide ((mm : Int) < (x.length : Int)) = false := decide_eq_false hmx
        have hO : brO n.lk r.al V (attK a) (j + 1) = brO n.lk r.al V (attK a) j := by rw [hst, if_neg hmx]
        repeat (first
          | ((with_reducible refine sopsX_go ?_); simp only [go_sem, simprocAttr, hF, hdj, hxj, hdm])
          | ((with_reducible refine sopsX_end ?_); refine And.intro (by kernel_rfl) ?_; (try simp only [go_sem, simprocAttr, hF, hdj, hxj, hdm]))
          | (with_reducible (first | refine sops_go ?_ | refine headW_end ?_ | refine sops_end ?_ | refine awp_if ?_ | refine awp_skip ?_ | refine awp_ret ?_ | refine awp_exit ?_); simp only [go_sem, simprocAttr, hF, hdj, hxj, hdm])
          | ((with_reducible refine headW_go ?_); simp only [go_sem, simprocAttr, hF, hdj, hxj, hdm, hbx])
          | with_reducible refine awp_seq_k fun _ _ => ?_
          | (refine awp_any (id := 21) [] [] [] (by kernel_rfl) (by kernel_rfl) ?_)
          | (refine awp_draw' (id := 7) [] 15 (by kernel_rfl) (by kernel_rfl) rfl rfl (fun bx0 hbx => ?_); try dsimp only [List.take, List.drop])
          | (refine awp_draw' (id := 15) [] 11 (by kernel_rfl) (by kernel_rfl) rfl rfl (fun bx0 hbx => ?_); try dsimp only [List.take, List.drop])
          | (refine awp_draw' (id := 16) [] 13 (by kernel_rfl) (by kernel_rfl) rfl rfl (fun bx0 hbx => ?_); try dsimp only [List.take, List.drop])
          | with_reducible (first | refine awp_region [] ?_ | refine awp_block ?_)
          | go_step)
        refine ⟨⟨j + 1, by omega⟩, by dsimp only; omega, hR3 _ _ (sub_mk ?_)⟩
        simp only [go_sem, simprocAttr, hF, hwj, hO]
      have hdm : decide ((mm : Int) < (x.length : Int)) = true := decide_eq_true hmx
      have hwm : IntKind.i64.wrap ((mm : Int) + 1) = ((mm + 1 : Nat) : Int) := by rw [IntKind.wrap_i64]; omega
      obtain ⟨B, hB1⟩ : ∃ B : Br, B = ⟨a.cl, a.f, a.cf, a.ct, x.take (mm + 1)⟩ := ⟨_, rfl⟩
      have hO : sortB (brO n.lk r.al V (attK a) (j + 1)) = insB (sortB (brO n.lk r.al V (attK a) j)) B := by
        rw [hst, if_pos hmx, sortB_snoc, hB1]
        have : ((mm : Int) + 1).toNat = mm + 1 := by omega
        rw [this]
        rfl
      have hBn : B.sl ≠ [] := by
        rw [hB1]
        intro h
        have := congrArg List.length h
        rw [List.length_take] at this
        simp only [List.length_nil] at this
        omega
      have s1 : mm + 1 ≤ x.length := by omega
      have s2 : List.take (mm + 1) (List.map (fun z => [ip z]) x) = List.map (fun z => [ip z]) (x.take (mm + 1)) := by rw [List.map_take]
      have s3 : (List.take (mm + 1) x).length = mm + 1 := by rw [List.length_take]; omega
      have s4 : mm ≤ 99999999 := by omega
      have s5 : mm + 1 ≤ 100000000 := by omega
      repeat (first
        | ((with_reducible refine sopsX_go ?_); simp only [go_sem, simprocAttr, hF, hdj, hxj, hak, hdm, hwm, s1, s2, s3, s4, s5, Nat.zero_le, List.nil_append])
        | ((with_reducible refine sopsX_end ?_); refine And.intro (by kernel_rfl) ?_; (try simp only [go_sem, simprocAttr, hF, hdj, hxj, hak, hdm, hwm, s1, s2, s3, s4, s5, Nat.zero_le, List.nil_append]))
        | (with_reducible (first | refine sops_go ?_ | refine headW_end ?_ | refine sops_end ?_ | refine awp_if ?_ | refine awp_skip ?_ | refine awp_ret ?_ | refine awp_exit ?_); simp only [go_sem, simprocAttr, hF, hdj, hxj, hak, hdm, hwm, s1, s2, s3, s4, s5, Nat.zero_le, List.nil_append])
        | ((with_reducible refine headW_go ?_); simp only [go_sem, simprocAttr, hF, hdj, hxj, hak, hdm, hwm, s1, s2, s3, s4, s5, Nat.zero_le, List.nil_append, hbx])
        | with_reducible refine awp_seq_k fun _ _ => ?_
        | (refine awp_any (id := 21) [] [] [] (by kernel_rfl) (by kernel_rfl) ?_)
        | (refine awp_draw' (id := 7) [] 15 (by kernel_rfl) (by kernel_rfl) rfl rfl (fun bx0 hbx => ?_); try dsimp only [List.take, List.drop])
        | (refine awp_draw' (id := 15) [] 11 (by kernel_rfl) (by kernel_rfl) rfl rfl (fun bx0 hbx => ?_); try dsimp only [List.take, List.drop])
        | (refine awp_draw' (id := 16) [] 13 (by kernel_rfl) (by kernel_rfl) rfl rfl (fun bx0 hbx => ?_); try dsimp only [List.take, List.drop])
        | with_reducible (first | refine awp_region [] ?_ | refine awp_block ?_)
        | go_step)
      rw [show ([ip a.cl, ip a.f, ip a.cf, ip a.ct, PV.sl 1 (List.map (fun z => [ip z]) (List.take (mm + 1) x))] : List PV) = B.pv from by rw [hB1]; rfl]
      refine ⟨_, insert_ok (sortB (brO n.lk r.al V (attK a) j)) B (Nat.le_trans (brO_len hVn hKV) hla) (brO_ne hc) hBn, ?_⟩
      simp only [go_sem, simprocAttr, hF]
      repeat (first
        | ((with_reducible refine sopsX_go ?_); simp only [go_sem, simprocAttr, hF])
        | ((with_reducible refine sopsX_end ?_); refine And.intro (by kernel_rfl) ?_; (try simp only [go_sem, simprocAttr, hF]))
        | (with_reducible (first | refine sops_go ?_ | refine headW_end ?_ | refine sops_end ?_ | refine awp_if ?_ | refine awp_skip ?_ | refine awp_ret ?_ | refine awp_exit ?_); simp only [go_sem, simprocAttr, hF])
        | ((with_reducible refine headW_go ?_); simp only [go_sem, simprocAttr, hF, hbx])
        | with_reducible refine awp_seq_k fun _ _ => ?_
        | (refine awp_any (id := 21) [] [] [] (by kernel_rfl) (by kernel_rfl) ?_)
        | (refine awp_draw' (id := 7) [] 15 (by kernel_rfl) (by kernel_rfl) rfl rfl (fun bx0 hbx => ?_); try dsimp only [List.take, List.drop])
        | (refine awp_draw' (id := 15) [] 11 (by kernel_rfl) (by kernel_rfl) rfl rfl (fun bx0 hbx => ?_); try dsimp only [List.take, List.drop])
        | (refine awp_draw' (id := 16) [] 13 (by kernel_rfl) (by kernel_rfl) rfl rfl (fun bx0 hbx => ?_); try dsimp only [List.take, List.drop])
        | with_reducible (first | refine awp_region [] ?_ | refine awp_block ?_)
        | go_step)
      refine ⟨⟨j + 1, by omega⟩, by dsimp only; omega, hR3 _ _ (sub_mk ?_)⟩
      simp only [go_sem, simprocAttr, hF, hwj, hO]
/- By abstract states: equal lists of breaches. -/
attribute [local go_sem] Br.pv
set_option maxHeartbeats 20000000 in
theorem samebr_ok (a b : List Br) (ha : a.length ≤ 1000000) (hs : ∀ x ∈ a, x.sl.length ≤ 1000000) : FnOK Try.prog 21 [.sl 5 (a.map Br.pv), .sl 5 (b.map Br.pv)] ⟨bv (decide (a = b)), none⟩ := by
  refine fn_ok Try.func21 (by kernel_rfl) rfl (by rw [Try.ntmps21]; exact of_decide_eq_true rfl) (fun F hF => ?_)
  rw [Try.ntmps21] at hF
  rw [Try.results21]
  have hal : ((a.length : Int) != (b.length : Int)) = !decide (a.length = b.length) := by rw [Bool.eq_iff_iff]; simp; omega
  by_cases hl : a.length = b.length
  case neg =>
    have hn : decide (a.length = b.length) = false := decide_eq_false hl
    repeat (first
      | (with_reducible (first | refine sops_go ?_ | refine headW_end ?_ | refine sops_end ?_ | refine awp_if ?_ | refine awp_skip ?_ | refine awp_ret ?_ | refine awp_exit ?_); simp only [go_sem, simprocAttr, hF, hal, hn])
      | ((with_reducible refine headW_go ?_); simp only [go_sem, simprocAttr, hF, hal, hn, hbx])
      | with_reducible refine awp_seq_k fun _ _ => ?_
      | (refine awp_draw' (id := 11) [] 17 (by kernel_rfl) (by kernel_rfl) rfl rfl (fun bx0 hbx => ?_); try dsimp only [List.take, List.drop])
      | (refine awp_draw' (id := 6) [] 65 (by kernel_rfl) (by kernel_rfl) rfl rfl (fun bx0 hbx => ?_); try dsimp only [List.take, List.drop])
      | with_reducible (first | refine awp_region [] ?_ | refine awp_block ?_)
      | go_step)
    rw [decide_eq_false (fun h => hl (by rw [h]))]
  have hn : decide (a.length = b.length) = true := decide_eq_true hl
  repeat (first
    | (with_reducible (first | refine sops_go ?_ | refine headW_end ?_ | refine sops_end ?_ | refine awp_if ?_ | refine awp_skip ?_ | refine awp_ret ?_ | refine awp_exit ?_); simp only [go_sem, simprocAttr, hF, hal, hn])
    | ((with_reducible refine headW_go ?_); simp only [go_sem, simprocAttr, hF, hal, hn, hbx])
    | with_reducible refine awp_seq_k fun _ _ => ?_
    | (refine awp_draw' (id := 11) [] 17 (by kernel_rfl) (by kernel_rfl) rfl rfl (fun bx0 hbx => ?_); try dsimp only [List.take, List.drop])
    | (refine awp_draw' (id := 6) [] 65 (by kernel_rfl) (by kernel_rfl) rfl rfl (fun bx0 hbx => ?_); try dsimp only [List.take, List.drop])
    | with_reducible (first | refine awp_region [] ?_ | refine awp_block ?_)
    | go_step)
  refine awp_loop_by (ι := {k : Nat // k ≤ a.length ∧ decide (a = b) = decide (a.drop k = b.drop k)}) (fun k σ => ⟨(5, iv (k.1 : Int)) :: keepS [0, 1, 4] σ.slot, σ.box, [], σ.ext⟩) (fun k => a.length - k.1) ⟨0, by omega, rfl⟩ (sub_mk ?_) (fun R hR k => ?_)
  · simp only [go_sem, simprocAttr, hF]
    repeat' (first | rfl | refine ⟨?_, ?_⟩)
  obtain ⟨k, hk, hT⟩ := k
  dsimp only
  simp only [go_sem, simprocAttr, hF]
  by_cases hlt : k < a.length
  case neg =>
    have hd : decide ((k : Int) < (a.length : Int)) = false := decide_eq_false (by omega)
    repeat (first
      | (with_reducible (first | refine sops_go ?_ | refine headW_end ?_ | refine sops_end ?_ | refine awp_if ?_ | refine awp_skip ?_ | refine awp_ret ?_ | refine awp_exit ?_); simp only [go_sem, simprocAttr, hF, hd])
      | ((with_reducible refine headW_go ?_); simp only [go_sem, simprocAttr, hF, hd, hbx])
      | with_reducible refine awp_seq_k fun _ _ => ?_
      | (refine awp_draw' (id := 11) [] 17 (by kernel_rfl) (by kernel_rfl) rfl rfl (fun bx0 hbx => ?_); try dsimp only [List.take, List.drop])
      | (refine awp_draw' (id := 6) [] 65 (by kernel_rfl) (by kernel_rfl) rfl rfl (fun bx0 hbx => ?_); try dsimp only [List.take, List.drop])
      | with_reducible (first | refine awp_region [] ?_ | refine awp_block ?_)
      | go_step)
    rw [hT, List.drop_of_length_le (by omega), List.drop_of_length_le (by omega)]
    rfl
  obtain ⟨x, hxk⟩ := get_of_lt hlt
  obtain ⟨y, hyk⟩ := get_of_lt (l := b) (k := k) (by omega)
  have hd : decide ((k : Int) < (a.length : Int)) = true := decide_eq_true (by omega)
  have hw : IntKind.i64.wrap ((k : Int) + 1) = ((k + 1 : Nat) : Int) := by rw [IntKind.wrap_i64]; omega
  have hxs := hs x (List.mem_of_getElem? hxk)
  have hT' : decide (a = b) = (decide (x = y) && decide (a.drop (k + 1) = b.drop (k + 1))) := by
    rw [hT, drop_of_get hxk, drop_of_get hyk, Bool.eq_iff_iff]
    simp
  have bad : decide (x = y) = false → decide (a = b) = false := fun h => by rw [hT', h]; rfl
  by_cases h0 : x.fl = y.fl
  case neg =>
    have g0 : (x.fl != y.fl) = true := by simpa using h0
    repeat (first
      | (with_reducible (first | refine sops_go ?_ | refine headW_end ?_ | refine sops_end ?_ | refine awp_if ?_ | refine awp_skip ?_ | refine awp_ret ?_ | refine awp_exit ?_); simp only [go_sem, simprocAttr, hF, hd, hxk, hyk, g0])
      | ((with_reducible refine headW_go ?_); simp only [go_sem, simprocAttr, hF, hd, hxk, hyk, g0, hbx])
      | with_reducible refine awp_seq_k fun _ _ => ?_
      | (refine awp_draw' (id := 11) [] 17 (by kernel_rfl) (by kernel_rfl) rfl rfl (fun bx0 hbx => ?_); try dsimp only [List.take, List.drop])
      | (with_reducible refine awp_region (id := 0) [] ?_)
      | (with_reducible refine awp_region (id := 1) [] ?_)
      | (with_reducible refine awp_region (id := 2) [] ?_)
      | (with_reducible refine awp_region (id := 3) [] ?_)
      | (with_reducible refine awp_region (id := 4) [] ?_)
      | (with_reducible refine awp_region (id := 7) [] ?_)
      | (with_reducible refine awp_region (id := 8) [] ?_)
      | (with_reducible refine awp_region (id := 9) [] ?_)
      | (with_reducible refine awp_region (id := 12) [] ?_)
      | (with_reducible refine awp_region (id := 10) [] ?_)
      | (with_reducible refine awp_region (id := 5) [] ?_)
      | (with_reducible refine awp_region (id := 13) [] ?_)
      | (with_reducible refine awp_block ?_)
      | go_step)
    try simp only [List.append_eq, List.cons_append, List.nil_append]
    repeat (first
      | (with_reducible (first | refine sops_go ?_ | refine headW_end ?_ | refine sops_end ?_ | refine awp_if ?_ | refine awp_skip ?_ | refine awp_ret ?_ | refine awp_exit ?_); simp only [go_sem, simprocAttr, hF, hd, hxk, hyk, g0])
      | ((with_reducible refine headW_go ?_); simp only [go_sem, simprocAttr, hF, hd, hxk, hyk, g0, hbx])
      | with_reducible refine awp_seq_k fun _ _ => ?_
      | (refine awp_draw' (id := 11) [] 17 (by kernel_rfl) (by kernel_rfl) rfl rfl (fun bx0 hbx => ?_); try dsimp only [List.take, List.drop])
      | (refine awp_draw' (id := 6) [] 65 (by kernel_rfl) (by kernel_rfl) rfl rfl (fun bx0 hbx => ?_); try dsimp only [List.take, List.drop])
      | with_reducible (first | refine awp_region [] ?_ | refine awp_block ?_)
      | go_step)
    rw [bad (decide_eq_false fun h => h0 (by rw [h]))]
  have g0 : (x.fl != y.fl) = false := by simpa using h0
  by_cases h1 : x.fr = y.fr
  case neg =>
    have g1 : (x.fr != y.fr) = true := by simpa using h1
    repeat (first
      | (with_reducible (first | refine sops_go ?_ | refine headW_end ?_ | refine sops_end ?_ | refine awp_if ?_ | refine awp_skip ?_ | refine awp_ret ?_ | refine awp_exit ?_); simp only [go_sem, simprocAttr, hF, hd, hxk, hyk, g0, g1])
      | ((with_reducible refine headW_go ?_); simp only [go_sem, simprocAttr, hF, hd, hxk, hyk, g0, g1, hbx])
      | with_reducible refine awp_seq_k fun _ _ => ?_
      | (refine awp_draw' (id := 11) [] 17 (by kernel_rfl) (by kernel_rfl) rfl rfl (fun bx0 hbx => ?_); try dsimp only [List.take, List.drop])
      | (with_reducible refine awp_region (id := 0) [] ?_)
      | (with_reducible refine awp_region (id := 1) [] ?_)
      | (with_reducible refine awp_region (id := 2) [] ?_)
      | (with_reducible refine awp_region (id := 3) [] ?_)
      | (with_reducible refine awp_region (id := 4) [] ?_)
      | (with_reducible refine awp_region (id := 7) [] ?_)
      | (with_reducible refine awp_region (id := 8) [] ?_)
      | (with_reducible refine awp_region (id := 9) [] ?_)
      | (with_reducible refine awp_region (id := 12) [] ?_)
      | (with_reducible refine awp_region (id := 10) [] ?_)
      | (with_reducible refine awp_region (id := 5) [] ?_)
      | (with_reducible refine awp_region (id := 13) [] ?_)
      | (with_reducible refine awp_block ?_)
      | go_step)
    try simp only [List.append_eq, List.cons_append, List.nil_append]
    repeat (first
      | (with_reducible (first | refine sops_go ?_ | refine headW_end ?_ | refine sops_end ?_ | refine awp_if ?_ | refine awp_skip ?_ | refine awp_ret ?_ | refine awp_exit ?_); simp only [go_sem, simprocAttr, hF, hd, hxk, hyk, g0, g1])
      | ((with_reducible refine headW_go ?_); simp only [go_sem, simprocAttr, hF, hd, hxk, hyk, g0, g1, hbx])
      | with_reducible refine awp_seq_k fun _ _ => ?_
      | (refine awp_draw' (id := 11) [] 17 (by kernel_rfl) (by kernel_rfl) rfl rfl (fun bx0 hbx => ?_); try dsimp only [List.take, List.drop])
      | (refine awp_draw' (id := 6) [] 65 (by kernel_rfl) (by kernel_rfl) rfl rfl (fun bx0 hbx => ?_); try dsimp only [List.take, List.drop])
      | with_reducible (first | refine awp_region [] ?_ | refine awp_block ?_)
      | go_step)
    rw [bad (decide_eq_false fun h => h1 (by rw [h]))]
  have g1 : (x.fr != y.fr) = false := by simpa using h1
  by_cases h2 : x.fm = y.fm
  case neg =>
    have g2 : (x.fm != y.fm) = true := by simpa using h2
    repeat (first
      | (with_reducible (first | refine sops_go ?_ | refine headW_end ?_ | refine sops_end ?_ | refine awp_if ?_ | refine awp_skip ?_ | refine awp_ret ?_ | refine awp_exit ?_); simp only [go_sem, simprocAttr, hF, hd, hxk, hyk, g0, g1, g2])
      | ((with_reducible refine headW_go ?_); simp only [go_sem, simprocAttr, hF, hd, hxk, hyk, g0, g1, g2, hbx])
      | with_reducible refine awp_seq_k fun _ _ => ?_
      | (refine awp_draw' (id := 11) [] 17 (by kernel_rfl) (by kernel_rfl) rfl rfl (fun bx0 hbx => ?_); try dsimp only [List.take, List.drop])
      | (with_reducible refine awp_region (id := 0) [] ?_)
      | (with_reducible refine awp_region (id := 1) [] ?_)
      | (with_reducible refine awp_region (id := 2) [] ?_)
      | (with_reducible refine awp_region (id := 3) [] ?_)
      | (with_reducible refine awp_region (id := 4) [] ?_)
      | (with_reducible refine awp_region (id := 7) [] ?_)
      | (with_reducible refine awp_region (id := 8) [] ?_)
      | (with_reducible refine awp_region (id := 9) [] ?_)
      | (with_reducible refine awp_region (id := 12) [] ?_)
      | (with_reducible refine awp_region (id := 10) [] ?_)
      | (with_reducible refine awp_region (id := 5) [] ?_)
      | (with_reducible refine awp_region (id := 13) [] ?_)
      | (with_reducible refine awp_block ?_)
      | go_step)
    try simp only [List.append_eq, List.cons_append, List.nil_append]
    repeat (first
      | (with_reducible (first | refine sops_go ?_ | refine headW_end ?_ | refine sops_end ?_ | refine awp_if ?_ | refine awp_skip ?_ | refine awp_ret ?_ | refine awp_exit ?_); simp only [go_sem, simprocAttr, hF, hd, hxk, hyk, g0, g1, g2])
      | ((with_reducible refine headW_go ?_); simp only [go_sem, simprocAttr, hF, hd, hxk, hyk, g0, g1, g2, hbx])
      | with_reducible refine awp_seq_k fun _ _ => ?_
      | (refine awp_draw' (id := 11) [] 17 (by kernel_rfl) (by kernel_rfl) rfl rfl (fun bx0 hbx => ?_); try dsimp only [List.take, List.drop])
      | (refine awp_draw' (id := 6) [] 65 (by kernel_rfl) (by kernel_rfl) rfl rfl (fun bx0 hbx => ?_); try dsimp only [List.take, List.drop])
      | with_reducible (first | refine awp_region [] ?_ | refine awp_block ?_)
      | go_step)
    rw [bad (decide_eq_false fun h => h2 (by rw [h]))]
  have g2 : (x.fm != y.fm) = false := by simpa using h2
  by_cases h3 : x.tt = y.tt
  case neg =>
    have g3 : (x.tt != y.tt) = true := by simpa using h3
    repeat (first
      | (with_reducible (first | refine sops_go ?_ | refine headW_end ?_ | refine sops_end ?_ | refine awp_if ?_ | refine awp_skip ?_ | refine awp_ret ?_ | refine awp_exit ?_); simp only [go_sem, simprocAttr, hF, hd, hxk, hyk, g0, g1, g2, g3])
      | ((with_reducible refine headW_go ?_); simp only [go_sem, simprocAttr, hF, hd, hxk, hyk, g0, g1, g2, g3, hbx])
      | with_reducible refine awp_seq_k fun _ _ => ?_
      | (refine awp_draw' (id := 11) [] 17 (by kernel_rfl) (by kernel_rfl) rfl rfl (fun bx0 hbx => ?_); try dsimp only [List.take, List.drop])
      | (with_reducible refine awp_region (id := 0) [] ?_)
      | (with_reducible refine awp_region (id := 1) [] ?_)
      | (with_reducible refine awp_region (id := 2) [] ?_)
      | (with_reducible refine awp_region (id := 3) [] ?_)
      | (with_reducible refine awp_region (id := 4) [] ?_)
      | (with_reducible refine awp_region (id := 7) [] ?_)
      | (with_reducible refine awp_region (id := 8) [] ?_)
      | (with_reducible refine awp_region (id := 9) [] ?_)
      | (with_reducible refine awp_region (id := 12) [] ?_)
      | (with_reducible refine awp_region (id := 10) [] ?_)
      | (with_reducible refine awp_region (id := 5) [] ?_)
      | (with_reducible refine awp_region (id := 13) [] ?_)
      | (with_reducible refine awp_block ?_)
      | go_step)
    try simp only [List.append_eq, List.cons_append, List.nil_append]
    repeat (first
      | (with_reducible (first | refine sops_go ?_ | refine headW_end ?_ | refine sops_end ?_ | refine awp_if ?_ | refine awp_skip ?_ | refine awp_ret ?_ | refine awp_exit ?_); simp only [go_sem, simprocAttr, hF, hd, hxk, hyk, g0, g1, g2, g3])
      | ((with_reducible refine headW_go ?_); simp only [go_sem, simprocAttr, hF, hd, hxk, hyk, g0, g1, g2, g3, hbx])
      | with_reducible refine awp_seq_k fun _ _ => ?_
      | (refine awp_draw' (id := 11) [] 17 (by kernel_rfl) (by kernel_rfl) rfl rfl (fun bx0 hbx => ?_); try dsimp only [List.take, List.drop])
      | (refine awp_draw' (id := 6) [] 65 (by kernel_rfl) (by kernel_rfl) rfl rfl (fun bx0 hbx => ?_); try dsimp only [List.take, List.drop])
      | with_reducible (first | refine awp_region [] ?_ | refine awp_block ?_)
      | go_step)
    rw [bad (decide_eq_false fun h => h3 (by rw [h]))]
  have g3 : (x.tt != y.tt) = false := by simpa using h3
  have hal5 : ((x.sl.length : Int) != (y.sl.length : Int)) = !decide (x.sl.length = y.sl.length) := by rw [Bool.eq_iff_iff]; simp; omega
  by_cases h5 : x.sl.length = y.sl.length
  case neg =>
    have g5 : ((x.sl.length : Int) != (y.sl.length : Int)) = true := by rw [hal5]; simp [h5]
    repeat (first
      | (with_reducible (first | refine sops_go ?_ | refine headW_end ?_ | refine sops_end ?_ | refine awp_if ?_ | refine awp_skip ?_ | refine awp_ret ?_ | refine awp_exit ?_); simp only [go_sem, simprocAttr, hF, hd, hxk, hyk, g0, g1, g2, g3, g5])
      | ((with_reducible refine headW_go ?_); simp only [go_sem, simprocAttr, hF, hd, hxk, hyk, g0, g1, g2, g3, g5, hbx])
      | with_reducible refine awp_seq_k fun _ _ => ?_
      | (refine awp_draw' (id := 11) [] 17 (by kernel_rfl) (by kernel_rfl) rfl rfl (fun bx0 hbx => ?_); try dsimp only [List.take, List.drop])
      | (with_reducible refine awp_region (id := 0) [] ?_)
      | (with_reducible refine awp_region (id := 1) [] ?_)
      | (with_reducible refine awp_region (id := 2) [] ?_)
      | (with_reducible refine awp_region (id := 3) [] ?_)
      | (with_reducible refine awp_region (id := 4) [] ?_)
      | (with_reducible refine awp_region (id := 7) [] ?_)
      | (with_reducible refine awp_region (id := 8) [] ?_)
      | (with_reducible refine awp_region (id := 9) [] ?_)
      | (with_reducible refine awp_region (id := 12) [] ?_)
      | (with_reducible refine awp_region (id := 10) [] ?_)
      | (with_reducible refine awp_region (id := 5) [] ?_)
      | (with_reducible refine awp_region (id := 13) [] ?_)
      | (with_reducible refine awp_block ?_)
      | go_step)
    try simp only [List.append_eq, List.cons_append, List.nil_append]
    repeat (first
      | (with_reducible (first | refine sops_go ?_ | refine headW_end ?_ | refine sops_end ?_ | refine awp_if ?_ | refine awp_skip ?_ | refine awp_ret ?_ | refine awp_exit ?_); simp only [go_sem, simprocAttr, hF, hd, hxk, hyk, g0, g1, g2, g3, g5])
      | ((with_reducible refine headW_go ?_); simp only [go_sem, simprocAttr, hF, hd, hxk, hyk, g0, g1, g2, g3, g5, hbx])
      | with_reducible refine awp_seq_k fun _ _ => ?_
      | (refine awp_draw' (id := 11) [] 17 (by kernel_rfl) (by kernel_rfl) rfl rfl (fun bx0 hbx => ?_); try dsimp only [List.take, List.drop])
      | (refine awp_draw' (id := 6) [] 65 (by kernel_rfl) (by kernel_rfl) rfl rfl (fun bx0 hbx => ?_); try dsimp only [List.take, List.drop])
      | with_reducible (first | refine awp_region [] ?_ | refine awp_block ?_)
      | go_step)
    rw [bad (decide_eq_false fun h => h5 (by rw [h]))]
  have g5 : ((x.sl.length : Int) != (y.sl.length : Int)) = false := by rw [hal5]; simp [h5]
  repeat (first
    | (with_reducible (first | refine sops_go ?_ | refine headW_end ?_ | refine sops_end ?_ | refine awp_if ?_ | refine awp_skip ?_ | refine awp_ret ?_ | refine awp_exit ?_); simp only [go_sem, simprocAttr, hF, hd, hxk, hyk, g0, g1, g2, g3, g5])
    | ((with_reducible refine headW_go ?_); simp only [go_sem, simprocAttr, hF, hd, hxk, hyk, g0, g1, g2, g3, g5, hbx])
    | with_reducible refine awp_seq_k fun _ _ => ?_
    | (refine awp_draw' (id := 11) [] 17 (by kernel_rfl) (by kernel_rfl) rfl rfl (fun bx0 hbx => ?_); try dsimp only [List.take, List.drop])
    | (with_reducible refine awp_region (id := 0) [] ?_)
    | (with_reducible refine awp_region (id := 1) [] ?_)
    | (with_reducible refine awp_region (id := 2) [] ?_)
    | (with_reducible refine awp_region (id := 3) [] ?_)
    | (with_reducible refine awp_region (id := 4) [] ?_)
    | (with_reducible refine awp_region (id := 7) [] ?_)
    | (with_reducible refine awp_region (id := 8) [] ?_)
    | (with_reducible refine awp_region (id := 9) [] ?_)
    | (with_reducible refine awp_region (id := 12) [] ?_)
    | (with_reducible refine awp_region (id := 10) [] ?_)
    | (with_reducible refine awp_region (id := 5) [] ?_)
    | (with_reducible refine awp_region (id := 13) [] ?_)
    | (with_reducible refine awp_block ?_)
    | go_step)
  try simp only [List.append_eq, List.cons_append, List.nil_append]
  repeat (first
    | (with_reducible (first | refine sops_go ?_ | refine headW_end ?_ | refine sops_end ?_ | refine awp_if ?_ | refine awp_skip ?_ | refine awp_ret ?_ | refine awp_exit ?_); simp only [go_sem, simprocAttr, hF, hd, hxk, hyk, g0, g1, g2, g3, g5])
    | ((with_reducible refine headW_go ?_); simp only [go_sem, simprocAttr, hF, hd, hxk, hyk, g0, g1, g2, g3, g5, hbx])
    | with_reducible refine awp_seq_k fun _ _ => ?_
    | (refine awp_draw' (id := 11) [] 17 (by kernel_rfl) (by kernel_rfl) rfl rfl (fun bx0 hbx => ?_); try dsimp only [List.take, List.drop])
    | (refine awp_draw' (id := 6) [] 65 (by kernel_rfl) (by kernel_rfl) rfl rfl (fun bx0 hbx => ?_); try dsimp only [List.take, List.drop])
    | with_reducible (first | refine awp_region [] ?_ | refine awp_block ?_)
    | go_step)
  refine awp_loop_by (ι := {j : Nat // j ≤ x.sl.length ∧ decide (x.sl = y.sl) = decide (x.sl.drop j = y.sl.drop j)}) (fun j σ => ⟨(6, iv (j.1 : Int)) :: keepS [0, 1, 4, 5] σ.slot, σ.box, [], σ.ext⟩) (fun j => x.sl.length - j.1) ⟨0, by omega, rfl⟩ (sub_mk ?_) (fun R2 hR2 j => ?_)
  · simp only [go_sem, simprocAttr, hF]
    repeat' (first | rfl | refine ⟨?_, ?_⟩)
  obtain ⟨j, hj, hU⟩ := j
  dsimp only
  simp only [go_sem, simprocAttr, hF]
  by_cases hjt : j < x.sl.length
  case neg =>
    have hdj : decide ((j : Int) < (x.sl.length : Int)) = false := decide_eq_false (by omega)
    have hxy : decide (x = y) = true := by
      rw [List.drop_of_length_le (by omega), List.drop_of_length_le (by omega)] at hU
      have hsl : x.sl = y.sl := of_decide_eq_true hU
      refine decide_eq_true ?_
      obtain ⟨x1, x2, x3, x4, x5⟩ := x
      obtain ⟨y1, y2, y3, y4, y5⟩ := y
      simp only [Br.mk.injEq]
      exact ⟨h0, h1, h2, h3, hsl⟩
    repeat (first
      | (with_reducible (first | refine sops_go ?_ | refine headW_end ?_ | refine sops_end ?_ | refine awp_if ?_ | refine awp_skip ?_ | refine awp_ret ?_ | refine awp_exit ?_); simp only [go_sem, simprocAttr, hF, hxk, hyk, hdj])
      | ((with_reducible refine headW_go ?_); simp only [go_sem, simprocAttr, hF, hxk, hyk, hdj, hbx])
      | with_reducible refine awp_seq_k fun _ _ => ?_
      | (refine awp_draw' (id := 11) [] 17 (by kernel_rfl) (by kernel_rfl) rfl rfl (fun bx0 hbx => ?_); try dsimp only [List.take, List.drop])
      | (refine awp_draw' (id := 6) [] 65 (by kernel_rfl) (by kernel_rfl) rfl rfl (fun bx0 hbx => ?_); try dsimp only [List.take, List.drop])
      | with_reducible (first | refine awp_region [] ?_ | refine awp_block ?_)
      | go_step)
    refine ⟨⟨k + 1, by omega, by rw [hT', hxy, Bool.true_and]⟩, by dsimp only; omega, hR _ _ (sub_mk ?_)⟩
    simp only [go_sem, simprocAttr, hF, hw]
  obtain ⟨s, hsj⟩ := get_of_lt hjt
  obtain ⟨t, htj⟩ := get_of_lt (l := y.sl) (k := j) (by omega)
  have hdj : decide ((j : Int) < (x.sl.length : Int)) = true := decide_eq_true (by omega)
  have hwj : IntKind.i64.wrap ((j : Int) + 1) = ((j + 1 : Nat) : Int) := by rw [IntKind.wrap_i64]; omega
  have hU' : decide (x.sl = y.sl) = ((s == t) && decide (x.sl.drop (j + 1) = y.sl.drop (j + 1))) := by
    rw [hU, drop_of_get hsj, drop_of_get htj, Bool.eq_iff_iff]
    simp
  cases e1 : (s == t) with
  | false =>
    have e2 : (s != t) = true := by rw [bne, e1]; rfl
    repeat (first
      | (with_reducible (first | refine sops_go ?_ | refine headW_end ?_ | refine sops_end ?_ | refine awp_if ?_ | refine awp_skip ?_ | refine awp_ret ?_ | refine awp_exit ?_); simp only [go_sem, simprocAttr, hF, hxk, hyk, hdj, hsj, htj, e2])
      | ((with_reducible refine headW_go ?_); simp only [go_sem, simprocAttr, hF, hxk, hyk, hdj, hsj, htj, e2, hbx])
      | with_reducible refine awp_seq_k fun _ _ => ?_
      | (refine awp_draw' (id := 11) [] 17 (by kernel_rfl) (by kernel_rfl) rfl rfl (fun bx0 hbx => ?_); try dsimp only [List.take, List.drop])
      | (refine awp_draw' (id := 6) [] 65 (by kernel_rfl) (by kernel_rfl) rfl rfl (fun bx0 hbx => ?_); try dsimp only [List.take, List.drop])
      | with_reducible (first | refine awp_region [] ?_ | refine awp_block ?_)
      | go_step)
    rw [bad (decide_eq_false fun h => by rw [h, e1] at hU'; simp at hU')]
  | true =>
    have e2 : (s != t) = false := by rw [bne, e1]; rfl
    repeat (first
      | (with_reducible (first | refine sops_go ?_ | refine headW_end ?_ | refine sops_end ?_ | refine awp_if ?_ | refine awp_skip ?_ | refine awp_ret ?_ | refine awp_exit ?_); simp only [go_sem, simprocAttr, hF, hxk, hyk, hdj, hsj, htj, e2])
      | ((with_reducible refine headW_go ?_); simp only [go_sem, simprocAttr, hF, hxk, hyk, hdj, hsj, htj, e2, hbx])
      | with_reducible refine awp_seq_k fun _ _ => ?_
      | (refine awp_draw' (id := 11) [] 17 (by kernel_rfl) (by kernel_rfl) rfl rfl (fun bx0 hbx => ?_); try dsimp only [List.take, List.drop])
      | (refine awp_draw' (id := 6) [] 65 (by kernel_rfl) (by kernel_rfl) rfl rfl (fun bx0 hbx => ?_); try dsimp only [List.take, List.drop])
      | with_reducible (first | refine awp_region [] ?_ | refine awp_block ?_)
      | go_step)
    refine ⟨⟨j + 1, by omega, by rw [hU', e1, Bool.true_and]⟩, by dsimp only; omega, hR2 _ _ (sub_mk ?_)⟩
    simp only [go_sem, simprocAttr, hF, hwj]
/- By abstract states: deliveries twice. -/
theorem sameFr_comm (x y : Dlv) : sameFr x y = (y.fl == x.fl && y.fr == x.fr) := by rw [sameFr, Bool.eq_iff_iff]; simp only [Bool.and_eq_true, beq_iff_eq]; constructor <;> rintro ⟨h1, h2⟩ <;> exact ⟨h1.symm, h2.symm⟩
theorem twGo_snoc (d : Dlv) : ∀ (l S : List Dlv), twGo S (l ++ [d]) = twGo S l ++ (if (S ++ l).any (sameFr d) = true then [d] else [])
  | [], S => by simp only [twGo, List.nil_append, List.append_nil]
  | x :: l, S => by
    rw [List.cons_append, twGo, twGo, twGo_snoc d l, List.append_assoc, List.singleton_append]
    split <;> simp only [List.cons_append]

set_option maxHeartbeats 2000000 in
theorem rtwice_ok (r : Rec) (hla : r.al.length ≤ 1000000) (hld : r.dl.length ≤ 1000000) : FnOK Try.prog 20 [.agg r.pv] ⟨.tup [.c (.sl 3 ((twice r).1.map Dlv.pv)), .c (ip (twice r).2)], none⟩ := by
  refine fn_ok Try.func20 (by kernel_rfl) rfl (by rw [Try.ntmps20]; exact of_decide_eq_true rfl) (fun F hF => ?_)
  rw [Try.ntmps20] at hF
  rw [Try.results20]
  repeat (first
    | (with_reducible (first | refine sops_go ?_ | refine headW_end ?_ | refine sops_end ?_ | refine awp_if ?_ | refine awp_skip ?_ | refine awp_ret ?_ | refine awp_exit ?_); simp only [go_sem, ↓reduceIte, Nat.reduceEqDiff, Nat.reduceLT, Nat.reduceLeDiff, Nat.reduceAdd, Nat.reduceMul, Nat.reduceSub, Nat.reduceBEq, reduceCtorEq, Int.reduceBNe, Int.reduceBEq, Int.reduceLT, Int.reduceLE, Int.reduceGT, Int.reduceGE, ne_eq, eq_self, hF])
    | ((with_reducible refine headW_go ?_); simp only [go_sem, ↓reduceIte, Nat.reduceEqDiff, Nat.reduceLT, Nat.reduceLeDiff, Nat.reduceAdd, Nat.reduceMul, Nat.reduceSub, Nat.reduceBEq, reduceCtorEq, Int.reduceBNe, Int.reduceBEq, Int.reduceLT, Int.reduceLE, Int.reduceGT, Int.reduceGE, ne_eq, eq_self, hF, hbx])
    | with_reducible refine awp_seq_k fun _ _ => ?_
    | (refine awp_draw' (id := 12) [54] 27 (by kernel_rfl) (by kernel_rfl) rfl rfl (fun bx0 hbx => ?_); try dsimp only [List.take, List.drop])
    | with_reducible (first | refine awp_region [54] ?_ | refine awp_block ?_)
    | go_step)
  refine ⟨_, rcheck_ok r hla hld, ?_⟩
  simp only [go_sem, ↓reduceIte, Nat.reduceEqDiff, Nat.reduceLT, Nat.reduceLeDiff, Nat.reduceAdd, Nat.reduceMul, Nat.reduceSub, Nat.reduceBEq, reduceCtorEq, Int.reduceBNe, Int.reduceBEq, Int.reduceLT, Int.reduceLE, Int.reduceGT, Int.reduceGE, ne_eq, eq_self, hF]
  cases hg : good r with
  | false =>
    have hr : rcheckE r = 1 := by rw [← check_agree, checkE, hg]; rfl
    repeat (first
      | ((refine awp_nil (c := .ret) 2 3 54 (by rw [hF]; decide) (by first | rfl | simp only [Av.look]; rfl) ?_); simp only [go_sem, ↓reduceIte, Nat.reduceEqDiff, Nat.reduceLT, Nat.reduceLeDiff, Nat.reduceAdd, Nat.reduceMul, Nat.reduceSub, Nat.reduceBEq, reduceCtorEq, Int.reduceBNe, Int.reduceBEq, Int.reduceLT, Int.reduceLE, Int.reduceGT, Int.reduceGE, ne_eq, eq_self, hF, hr])
      | (with_reducible (first | refine sops_go ?_ | refine headW_end ?_ | refine sops_end ?_ | refine awp_if ?_ | refine awp_skip ?_ | refine awp_ret ?_ | refine awp_exit ?_); simp only [go_sem, ↓reduceIte, Nat.reduceEqDiff, Nat.reduceLT, Nat.reduceLeDiff, Nat.reduceAdd, Nat.reduceMul, Nat.reduceSub, Nat.reduceBEq, reduceCtorEq, Int.reduceBNe, Int.reduceBEq, Int.reduceLT, Int.reduceLE, Int.reduceGT, Int.reduceGE, ne_eq, eq_self, hF, hr])
      | ((with_reducible refine headW_go ?_); simp only [go_sem, ↓reduceIte, Nat.reduceEqDiff, Nat.reduceLT, Nat.reduceLeDiff, Nat.reduceAdd, Nat.reduceMul, Nat.reduceSub, Nat.reduceBEq, reduceCtorEq, Int.reduceBNe, Int.reduceBEq, Int.reduceLT, Int.reduceLE, Int.reduceGT, Int.reduceGE, ne_eq, eq_self, hF, hr, hbx])
      | with_reducible refine awp_seq_k fun _ _ => ?_
      | (refine awp_draw' (id := 12) [54] 27 (by kernel_rfl) (by kernel_rfl) rfl rfl (fun bx0 hbx => ?_); try dsimp only [List.take, List.drop])
      | with_reducible (first | refine awp_region [54] ?_ | refine awp_block ?_)
      | go_step)
    rw [show twice r = ([], 1) from by rw [twice, hg]; rfl]
    try rfl
  | true =>
    have hr : rcheckE r = 0 := by rw [← check_agree, checkE, hg]; rfl
    repeat (first
      | (with_reducible (first | refine sops_go ?_ | refine headW_end ?_ | refine sops_end ?_ | refine awp_if ?_ | refine awp_skip ?_ | refine awp_ret ?_ | refine awp_exit ?_); simp only [go_sem, ↓reduceIte, Nat.reduceEqDiff, Nat.reduceLT, Nat.reduceLeDiff, Nat.reduceAdd, Nat.reduceMul, Nat.reduceSub, Nat.reduceBEq, reduceCtorEq, Int.reduceBNe, Int.reduceBEq, Int.reduceLT, Int.reduceLE, Int.reduceGT, Int.reduceGE, ne_eq, eq_self, hF, hr])
      | ((with_reducible refine headW_go ?_); simp only [go_sem, ↓reduceIte, Nat.reduceEqDiff, Nat.reduceLT, Nat.reduceLeDiff, Nat.reduceAdd, Nat.reduceMul, Nat.reduceSub, Nat.reduceBEq, reduceCtorEq, Int.reduceBNe, Int.reduceBEq, Int.reduceLT, Int.reduceLE, Int.reduceGT, Int.reduceGE, ne_eq, eq_self, hF, hr, hbx])
      | with_reducible refine awp_seq_k fun _ _ => ?_
      | (refine awp_draw' (id := 12) [54] 27 (by kernel_rfl) (by kernel_rfl) rfl rfl (fun bx0 hbx => ?_); try dsimp only [List.take, List.drop])
      | with_reducible (first | refine awp_region [54] ?_ | refine awp_block ?_)
      | go_step)
    refine awp_nil 4 3 54 (by rw [hF]; decide) rfl ?_
    simp only [go_sem, ↓reduceIte, Nat.reduceEqDiff, Nat.reduceLT, Nat.reduceLeDiff, Nat.reduceAdd, Nat.reduceMul, Nat.reduceSub, Nat.reduceBEq, reduceCtorEq, Int.reduceBNe, Int.reduceBEq, Int.reduceLT, Int.reduceLE, Int.reduceGT, Int.reduceGE, ne_eq, eq_self, hF]
    repeat (first
      | (with_reducible (first | refine sops_go ?_ | refine headW_end ?_ | refine sops_end ?_ | refine awp_if ?_ | refine awp_skip ?_ | refine awp_ret ?_ | refine awp_exit ?_); simp only [go_sem, ↓reduceIte, Nat.reduceEqDiff, Nat.reduceLT, Nat.reduceLeDiff, Nat.reduceAdd, Nat.reduceMul, Nat.reduceSub, Nat.reduceBEq, reduceCtorEq, Int.reduceBNe, Int.reduceBEq, Int.reduceLT, Int.reduceLE, Int.reduceGT, Int.reduceGE, ne_eq, eq_self, hF])
      | ((with_reducible refine headW_go ?_); simp only [go_sem, ↓reduceIte, Nat.reduceEqDiff, Nat.reduceLT, Nat.reduceLeDiff, Nat.reduceAdd, Nat.reduceMul, Nat.reduceSub, Nat.reduceBEq, reduceCtorEq, Int.reduceBNe, Int.reduceBEq, Int.reduceLT, Int.reduceLE, Int.reduceGT, Int.reduceGE, ne_eq, eq_self, hF, hbx])
      | with_reducible refine awp_seq_k fun _ _ => ?_
      | (refine awp_draw' (id := 12) [54] 27 (by kernel_rfl) (by kernel_rfl) rfl rfl (fun bx0 hbx => ?_); try dsimp only [List.take, List.drop])
      | with_reducible (first | refine awp_region [54] ?_ | refine awp_block ?_)
      | go_step)
    refine awp_loop_by (ι := {k : Nat // k ≤ r.dl.length}) (fun k σ => ⟨(6, iv (k.1 : Int)) :: (4, .sl 3 ((twGo [] (r.dl.take k.1)).map Dlv.pv)) :: keepS [5] σ.slot, σ.box, [(.s 4, (54, 3))], σ.ext⟩) (fun k => r.dl.length - k.1) ⟨0, by omega⟩ (sub_mk ?_) (fun R hR k => ?_)
    · simp only [go_sem, ↓reduceIte, Nat.reduceEqDiff, Nat.reduceLT, Nat.reduceLeDiff, Nat.reduceAdd, Nat.reduceMul, Nat.reduceSub, Nat.reduceBEq, reduceCtorEq, Int.reduceBNe, Int.reduceBEq, Int.reduceLT, Int.reduceLE, Int.reduceGT, Int.reduceGE, ne_eq, eq_self, hF]
      repeat' (first | rfl | refine ⟨?_, ?_⟩)
    obtain ⟨k, hk⟩ := k
    dsimp only
    simp only [go_sem, ↓reduceIte, Nat.reduceEqDiff, Nat.reduceLT, Nat.reduceLeDiff, Nat.reduceAdd, Nat.reduceMul, Nat.reduceSub, Nat.reduceBEq, reduceCtorEq, Int.reduceBNe, Int.reduceBEq, Int.reduceLT, Int.reduceLE, Int.reduceGT, Int.reduceGE, ne_eq, eq_self, hF]
    by_cases hlt : k < r.dl.length
    case neg =>
      have hd : decide ((k : Int) < (r.dl.length : Int)) = false := decide_eq_false (by omega)
      obtain rfl : k = r.dl.length := by omega
      rw [List.take_length]
      repeat (first
        | (with_reducible (first | refine sops_go ?_ | refine headW_end ?_ | refine sops_end ?_ | refine awp_if ?_ | refine awp_skip ?_ | refine awp_ret ?_ | refine awp_exit ?_); simp only [go_sem, ↓reduceIte, Nat.reduceEqDiff, Nat.reduceLT, Nat.reduceLeDiff, Nat.reduceAdd, Nat.reduceMul, Nat.reduceSub, Nat.reduceBEq, reduceCtorEq, Int.reduceBNe, Int.reduceBEq, Int.reduceLT, Int.reduceLE, Int.reduceGT, Int.reduceGE, ne_eq, eq_self, hF, hd])
        | ((with_reducible refine headW_go ?_); simp only [go_sem, ↓reduceIte, Nat.reduceEqDiff, Nat.reduceLT, Nat.reduceLeDiff, Nat.reduceAdd, Nat.reduceMul, Nat.reduceSub, Nat.reduceBEq, reduceCtorEq, Int.reduceBNe, Int.reduceBEq, Int.reduceLT, Int.reduceLE, Int.reduceGT, Int.reduceGE, ne_eq, eq_self, hF, hd, hbx])
        | with_reducible refine awp_seq_k fun _ _ => ?_
        | (refine awp_draw' (id := 12) [54] 27 (by kernel_rfl) (by kernel_rfl) rfl rfl (fun bx0 hbx => ?_); try dsimp only [List.take, List.drop])
        | with_reducible (first | refine awp_region [54] ?_ | refine awp_block ?_)
        | go_step)
      rw [show twice r = (twGo [] r.dl, 0) from by rw [twice, hg]; rfl]
      try rfl
    obtain ⟨d, hdk⟩ := get_of_lt hlt
    have hd : decide ((k : Int) < (r.dl.length : Int)) = true := decide_eq_true (by omega)
    have hw : IntKind.i64.wrap ((k : Int) + 1) = ((k + 1 : Nat) : Int) := by rw [IntKind.wrap_i64]; omega
    have hL : (twGo [] (List.take k r.dl)).length ≤ 99999999 := by
      have h1 := twGo_len (r.dl.take k) []
      have h2 : (r.dl.take k).length ≤ k := by rw [List.length_take]; omega
      omega
    have hT : List.take (k + 1) r.dl = List.take k r.dl ++ [d] := by rw [List.take_add_one, hdk]; rfl
    repeat (first
      | (with_reducible (first | refine sops_go ?_ | refine headW_end ?_ | refine sops_end ?_ | refine awp_if ?_ | refine awp_skip ?_ | refine awp_ret ?_ | refine awp_exit ?_); simp only [go_sem, ↓reduceIte, Nat.reduceEqDiff, Nat.reduceLT, Nat.reduceLeDiff, Nat.reduceAdd, Nat.reduceMul, Nat.reduceSub, Nat.reduceBEq, reduceCtorEq, Int.reduceBNe, Int.reduceBEq, Int.reduceLT, Int.reduceLE, Int.reduceGT, Int.reduceGE, ne_eq, eq_self, hF, hd, hdk])
      | ((with_reducible refine headW_go ?_); simp only [go_sem, ↓reduceIte, Nat.reduceEqDiff, Nat.reduceLT, Nat.reduceLeDiff, Nat.reduceAdd, Nat.reduceMul, Nat.reduceSub, Nat.reduceBEq, reduceCtorEq, Int.reduceBNe, Int.reduceBEq, Int.reduceLT, Int.reduceLE, Int.reduceGT, Int.reduceGE, ne_eq, eq_self, hF, hd, hdk, hbx])
      | with_reducible refine awp_seq_k fun _ _ => ?_
      | (refine awp_draw' (id := 12) [54] 27 (by kernel_rfl) (by kernel_rfl) rfl rfl (fun bx0 hbx => ?_); try dsimp only [List.take, List.drop])
      | with_reducible (first | refine awp_region [54] ?_ | refine awp_block ?_)
      | go_step)
    refine awp_loop_by (ι := {j : Nat // j ≤ k}) (fun j σ => ⟨(8, iv (j.1 : Int)) :: (7, bv ((r.dl.take j.1).any (fun x => x.fl == d.fl && x.fr == d.fr))) :: keepS [4, 5, 6] σ.slot, σ.box, [(.s 4, (54, 3))], σ.ext⟩) (fun j => k - j.1) ⟨0, by omega⟩ (sub_mk ?_) (fun R2 hR2 j => ?_)
    · simp only [go_sem, ↓reduceIte, Nat.reduceEqDiff, Nat.reduceLT, Nat.reduceLeDiff, Nat.reduceAdd, Nat.reduceMul, Nat.reduceSub, Nat.reduceBEq, reduceCtorEq, Int.reduceBNe, Int.reduceBEq, Int.reduceLT, Int.reduceLE, Int.reduceGT, Int.reduceGE, ne_eq, eq_self, hF]
      repeat' (first | rfl | refine ⟨?_, ?_⟩)
    obtain ⟨j, hj⟩ := j
    dsimp only
    simp only [go_sem, ↓reduceIte, Nat.reduceEqDiff, Nat.reduceLT, Nat.reduceLeDiff, Nat.reduceAdd, Nat.reduceMul, Nat.reduceSub, Nat.reduceBEq, reduceCtorEq, Int.reduceBNe, Int.reduceBEq, Int.reduceLT, Int.reduceLE, Int.reduceGT, Int.reduceGE, ne_eq, eq_self, hF]
    by_cases hjt : j < k
    case neg =>
      have hdj : decide ((j : Int) < (k : Int)) = false := decide_eq_false (by omega)
      obtain rfl : j = k := by omega
      have hsn : twGo [] (List.take (j + 1) r.dl) = twGo [] (List.take j r.dl) ++ (if ((r.dl.take j).any (fun x => x.fl == d.fl && x.fr == d.fr)) = true then [d] else []) := by
        rw [hT, twGo_snoc, List.nil_append]
        congr 1
        rw [show sameFr d = (fun x => x.fl == d.fl && x.fr == d.fr) from by funext x; exact sameFr_comm d x]
      cases hb : (r.dl.take j).any (fun x => x.fl == d.fl && x.fr == d.fr) with
      | false =>
        rw [hb, if_neg (by decide), List.append_nil] at hsn
        repeat (first
          | (with_reducible (first | refine sops_go ?_ | refine headW_end ?_ | refine sops_end ?_ | refine awp_if ?_ | refine awp_skip ?_ | refine awp_ret ?_ | refine awp_exit ?_); simp only [go_sem, ↓reduceIte, Nat.reduceEqDiff, Nat.reduceLT, Nat.reduceLeDiff, Nat.reduceAdd, Nat.reduceMul, Nat.reduceSub, Nat.reduceBEq, reduceCtorEq, Int.reduceBNe, Int.reduceBEq, Int.reduceLT, Int.reduceLE, Int.reduceGT, Int.reduceGE, ne_eq, eq_self, hF, hdj, hb])
          | ((with_reducible refine headW_go ?_); simp only [go_sem, ↓reduceIte, Nat.reduceEqDiff, Nat.reduceLT, Nat.reduceLeDiff, Nat.reduceAdd, Nat.reduceMul, Nat.reduceSub, Nat.reduceBEq, reduceCtorEq, Int.reduceBNe, Int.reduceBEq, Int.reduceLT, Int.reduceLE, Int.reduceGT, Int.reduceGE, ne_eq, eq_self, hF, hdj, hb, hbx])
          | with_reducible refine awp_seq_k fun _ _ => ?_
          | (refine awp_draw' (id := 12) [54] 27 (by kernel_rfl) (by kernel_rfl) rfl rfl (fun bx0 hbx => ?_); try dsimp only [List.take, List.drop])
          | with_reducible (first | refine awp_region [54] ?_ | refine awp_block ?_)
          | go_step)
        refine ⟨⟨j + 1, by omega⟩, by dsimp only; omega, hR _ _ (sub_mk ?_)⟩
        simp only [go_sem, ↓reduceIte, Nat.reduceEqDiff, Nat.reduceLT, Nat.reduceLeDiff, Nat.reduceAdd, Nat.reduceMul, Nat.reduceSub, Nat.reduceBEq, reduceCtorEq, Int.reduceBNe, Int.reduceBEq, Int.reduceLT, Int.reduceLE, Int.reduceGT, Int.reduceGE, ne_eq, eq_self, hF, hw, hsn, List.map_append]
      | true =>
        rw [hb, if_pos rfl] at hsn
        repeat (first
          | (with_reducible (first | refine sops_go ?_ | refine headW_end ?_ | refine sops_end ?_ | refine awp_if ?_ | refine awp_skip ?_ | refine awp_ret ?_ | refine awp_exit ?_); simp only [go_sem, ↓reduceIte, Nat.reduceEqDiff, Nat.reduceLT, Nat.reduceLeDiff, Nat.reduceAdd, Nat.reduceMul, Nat.reduceSub, Nat.reduceBEq, reduceCtorEq, Int.reduceBNe, Int.reduceBEq, Int.reduceLT, Int.reduceLE, Int.reduceGT, Int.reduceGE, ne_eq, eq_self, hF, hdj, hb, hdk, hL])
          | ((with_reducible refine headW_go ?_); simp only [go_sem, ↓reduceIte, Nat.reduceEqDiff, Nat.reduceLT, Nat.reduceLeDiff, Nat.reduceAdd, Nat.reduceMul, Nat.reduceSub, Nat.reduceBEq, reduceCtorEq, Int.reduceBNe, Int.reduceBEq, Int.reduceLT, Int.reduceLE, Int.reduceGT, Int.reduceGE, ne_eq, eq_self, hF, hdj, hb, hdk, hL, hbx])
          | with_reducible refine awp_seq_k fun _ _ => ?_
          | (refine awp_draw' (id := 12) [54] 27 (by kernel_rfl) (by kernel_rfl) rfl rfl (fun bx0 hbx => ?_); try dsimp only [List.take, List.drop])
          | with_reducible (first | refine awp_region [54] ?_ | refine awp_block ?_)
          | go_step)
        refine ⟨⟨j + 1, by omega⟩, by dsimp only; omega, hR _ _ (sub_mk ?_)⟩
        simp only [go_sem, ↓reduceIte, Nat.reduceEqDiff, Nat.reduceLT, Nat.reduceLeDiff, Nat.reduceAdd, Nat.reduceMul, Nat.reduceSub, Nat.reduceBEq, reduceCtorEq, Int.reduceBNe, Int.reduceBEq, Int.reduceLT, Int.reduceLE, Int.reduceGT, Int.reduceGE, ne_eq, eq_self, hF, hw, hsn, List.map_append]
    obtain ⟨x, hxj⟩ := get_of_lt (l := r.dl) (k := j) (by omega)
    have hdj : decide ((j : Int) < (k : Int)) = true := decide_eq_true (by omega)
    have hwj : IntKind.i64.wrap ((j : Int) + 1) = ((j + 1 : Nat) : Int) := by rw [IntKind.wrap_i64]; omega
    have hTj : List.take (j + 1) r.dl = List.take j r.dl ++ [x] := by rw [List.take_add_one, hxj]; rfl
    have hA : (List.take (j + 1) r.dl).any (fun x => x.fl == d.fl && x.fr == d.fr) = ((List.take j r.dl).any (fun x => x.fl == d.fl && x.fr == d.fr) || (x.fl == d.fl && x.fr == d.fr)) := by rw [hTj, List.any_append, List.any_cons, List.any_nil, Bool.or_false]
    cases hb : (List.take j r.dl).any (fun x => x.fl == d.fl && x.fr == d.fr) with
    | true =>
      rw [hb, Bool.true_or] at hA
      repeat (first
        | (with_reducible (first | refine sops_go ?_ | refine headW_end ?_ | refine sops_end ?_ | refine awp_if ?_ | refine awp_skip ?_ | refine awp_ret ?_ | refine awp_exit ?_); simp only [go_sem, ↓reduceIte, Nat.reduceEqDiff, Nat.reduceLT, Nat.reduceLeDiff, Nat.reduceAdd, Nat.reduceMul, Nat.reduceSub, Nat.reduceBEq, reduceCtorEq, Int.reduceBNe, Int.reduceBEq, Int.reduceLT, Int.reduceLE, Int.reduceGT, Int.reduceGE, ne_eq, eq_self, hF, hdj, hb])
        | ((with_reducible refine headW_go ?_); simp only [go_sem, ↓reduceIte, Nat.reduceEqDiff, Nat.reduceLT, Nat.reduceLeDiff, Nat.reduceAdd, Nat.reduceMul, Nat.reduceSub, Nat.reduceBEq, reduceCtorEq, Int.reduceBNe, Int.reduceBEq, Int.reduceLT, Int.reduceLE, Int.reduceGT, Int.reduceGE, ne_eq, eq_self, hF, hdj, hb, hbx])
        | with_reducible refine awp_seq_k fun _ _ => ?_
        | (refine awp_draw' (id := 12) [54] 27 (by kernel_rfl) (by kernel_rfl) rfl rfl (fun bx0 hbx => ?_); try dsimp only [List.take, List.drop])
        | with_reducible (first | refine awp_region [54] ?_ | refine awp_block ?_)
        | go_step)
      refine ⟨⟨j + 1, by omega⟩, by dsimp only; omega, hR2 _ _ (sub_mk ?_)⟩
      simp only [go_sem, ↓reduceIte, Nat.reduceEqDiff, Nat.reduceLT, Nat.reduceLeDiff, Nat.reduceAdd, Nat.reduceMul, Nat.reduceSub, Nat.reduceBEq, reduceCtorEq, Int.reduceBNe, Int.reduceBEq, Int.reduceLT, Int.reduceLE, Int.reduceGT, Int.reduceGE, ne_eq, eq_self, hF, hwj, hA]
    | false =>
      rw [hb, Bool.false_or] at hA
      cases e1 : (x.fl == d.fl) with
      | false =>
        rw [e1, Bool.false_and] at hA
        repeat (first
          | (with_reducible (first | refine sops_go ?_ | refine headW_end ?_ | refine sops_end ?_ | refine awp_if ?_ | refine awp_skip ?_ | refine awp_ret ?_ | refine awp_exit ?_); simp only [go_sem, ↓reduceIte, Nat.reduceEqDiff, Nat.reduceLT, Nat.reduceLeDiff, Nat.reduceAdd, Nat.reduceMul, Nat.reduceSub, Nat.reduceBEq, reduceCtorEq, Int.reduceBNe, Int.reduceBEq, Int.reduceLT, Int.reduceLE, Int.reduceGT, Int.reduceGE, ne_eq, eq_self, hF, hdj, hb, hdk, hxj, e1])
          | ((with_reducible refine headW_go ?_); simp only [go_sem, ↓reduceIte, Nat.reduceEqDiff, Nat.reduceLT, Nat.reduceLeDiff, Nat.reduceAdd, Nat.reduceMul, Nat.reduceSub, Nat.reduceBEq, reduceCtorEq, Int.reduceBNe, Int.reduceBEq, Int.reduceLT, Int.reduceLE, Int.reduceGT, Int.reduceGE, ne_eq, eq_self, hF, hdj, hb, hdk, hxj, e1, hbx])
          | with_reducible refine awp_seq_k fun _ _ => ?_
          | (refine awp_draw' (id := 12) [54] 27 (by kernel_rfl) (by kernel_rfl) rfl rfl (fun bx0 hbx => ?_); try dsimp only [List.take, List.drop])
          | with_reducible (first | refine awp_region [54] ?_ | refine awp_block ?_)
          | go_step)
        refine ⟨⟨j + 1, by omega⟩, by dsimp only; omega, hR2 _ _ (sub_mk ?_)⟩
        simp only [go_sem, ↓reduceIte, Nat.reduceEqDiff, Nat.reduceLT, Nat.reduceLeDiff, Nat.reduceAdd, Nat.reduceMul, Nat.reduceSub, Nat.reduceBEq, reduceCtorEq, Int.reduceBNe, Int.reduceBEq, Int.reduceLT, Int.reduceLE, Int.reduceGT, Int.reduceGE, ne_eq, eq_self, hF, hwj, hA]
      | true =>
        rw [e1, Bool.true_and] at hA
        repeat (first
          | (with_reducible (first | refine sops_go ?_ | refine headW_end ?_ | refine sops_end ?_ | refine awp_if ?_ | refine awp_skip ?_ | refine awp_ret ?_ | refine awp_exit ?_); simp only [go_sem, ↓reduceIte, Nat.reduceEqDiff, Nat.reduceLT, Nat.reduceLeDiff, Nat.reduceAdd, Nat.reduceMul, Nat.reduceSub, Nat.reduceBEq, reduceCtorEq, Int.reduceBNe, Int.reduceBEq, Int.reduceLT, Int.reduceLE, Int.reduceGT, Int.reduceGE, ne_eq, eq_self, hF, hdj, hb, hdk, hxj, e1])
          | ((with_reducible refine headW_go ?_); simp only [go_sem, ↓reduceIte, Nat.reduceEqDiff, Nat.reduceLT, Nat.reduceLeDiff, Nat.reduceAdd, Nat.reduceMul, Nat.reduceSub, Nat.reduceBEq, reduceCtorEq, Int.reduceBNe, Int.reduceBEq, Int.reduceLT, Int.reduceLE, Int.reduceGT, Int.reduceGE, ne_eq, eq_self, hF, hdj, hb, hdk, hxj, e1, hbx])
          | with_reducible refine awp_seq_k fun _ _ => ?_
          | (refine awp_draw' (id := 12) [54] 27 (by kernel_rfl) (by kernel_rfl) rfl rfl (fun bx0 hbx => ?_); try dsimp only [List.take, List.drop])
          | with_reducible (first | refine awp_region [54] ?_ | refine awp_block ?_)
          | go_step)
        refine ⟨⟨j + 1, by omega⟩, by dsimp only; omega, hR2 _ _ (sub_mk ?_)⟩
        simp only [go_sem, ↓reduceIte, Nat.reduceEqDiff, Nat.reduceLT, Nat.reduceLeDiff, Nat.reduceAdd, Nat.reduceMul, Nat.reduceSub, Nat.reduceBEq, reduceCtorEq, Int.reduceBNe, Int.reduceBEq, Int.reduceLT, Int.reduceLE, Int.reduceGT, Int.reduceGE, ne_eq, eq_self, hF, hwj, hA]
/- MonitorBreaches by abstract states. -/
theorem nfewB_of {n : Net} (h : nfewB n = true) : (∀ l ∈ n.pow, l.length ≤ 1000000) ∧ n.pow.length ≤ 1000000 ∧ n.lk.length ≤ 1000000 ∧ n.mg.length ≤ 1000000 := by
  simp only [nfewB, Bool.and_eq_true, List.all_eq_true, decide_eq_true_eq] at h
  obtain ⟨h1, h2, h3, h4⟩ := h
  exact ⟨fun l hl => by have := h1 l hl; omega, by omega, by omega, by omega⟩

set_option maxHeartbeats 20000000 in
theorem lawBreaches_ok (n : Net) (r : Rec) (hp0 : n.pow.length ≤ 9223372036854775807) : FnOK Try.prog 4 [.agg n.pv, .agg r.pv] ⟨bv true, none⟩ := by
  refine fn_ok Try.func4 (by kernel_rfl) rfl (by rw [Try.ntmps4]; exact of_decide_eq_true rfl) (fun F hF => ?_)
  rw [Try.ntmps4] at hF
  rw [Try.results4]
  repeat (first
    | (with_reducible (first | refine sops_go ?_ | refine headW_end ?_ | refine sops_end ?_ | refine awp_if ?_ | refine awp_skip ?_ | refine awp_ret ?_ | refine awp_exit ?_); simp only [go_sem, simprocAttr, hF])
    | ((with_reducible refine headW_go ?_); simp only [go_sem, simprocAttr, hF, hbx])
    | with_reducible refine awp_seq_k fun _ _ => ?_
    | (refine awp_draw' (id := 3) [] 9 (by kernel_rfl) (by kernel_rfl) rfl rfl (fun bx0 hbx => ?_); try dsimp only [List.take, List.drop])
    | with_reducible (first | refine awp_region [] ?_ | refine awp_block ?_)
    | go_step)
  refine ⟨_, awake_ok, ?_⟩
  simp only [go_sem, simprocAttr, hF]
  repeat (first
    | (with_reducible (first | refine sops_go ?_ | refine headW_end ?_ | refine sops_end ?_ | refine awp_if ?_ | refine awp_skip ?_ | refine awp_ret ?_ | refine awp_exit ?_); simp only [go_sem, simprocAttr, hF])
    | ((with_reducible refine headW_go ?_); simp only [go_sem, simprocAttr, hF, hbx])
    | with_reducible refine awp_seq_k fun _ _ => ?_
    | (refine awp_draw' (id := 3) [] 9 (by kernel_rfl) (by kernel_rfl) rfl rfl (fun bx0 hbx => ?_); try dsimp only [List.take, List.drop])
    | with_reducible (first | refine awp_region [] ?_ | refine awp_block ?_)
    | go_step)
  refine ⟨_, fnOK_le (few_ok [] r) (.cons (.nil 6) (.cons (.refl _) .nil)), ?_⟩
  simp only [go_sem, simprocAttr, hF]
  cases hfw : fewB [] r with
  | false =>
    try simp only [go_sem, simprocAttr, hF, hfw]
    repeat (first
      | (with_reducible (first | refine sops_go ?_ | refine headW_end ?_ | refine sops_end ?_ | refine awp_if ?_ | refine awp_skip ?_ | refine awp_ret ?_ | refine awp_exit ?_); simp only [go_sem, simprocAttr, hF, hfw])
      | ((with_reducible refine headW_go ?_); simp only [go_sem, simprocAttr, hF, hfw, hbx])
      | with_reducible refine awp_seq_k fun _ _ => ?_
      | (refine awp_draw' (id := 3) [] 9 (by kernel_rfl) (by kernel_rfl) rfl rfl (fun bx0 hbx => ?_); try dsimp only [List.take, List.drop])
      | with_reducible (first | refine awp_region [] ?_ | refine awp_block ?_)
      | go_step)
    refine ⟨_, awake_ok, ?_⟩
    simp only [go_sem, simprocAttr, hF]
    repeat (first
      | (with_reducible (first | refine sops_go ?_ | refine headW_end ?_ | refine sops_end ?_ | refine awp_if ?_ | refine awp_skip ?_ | refine awp_ret ?_ | refine awp_exit ?_); simp only [go_sem, simprocAttr, hF])
      | ((with_reducible refine headW_go ?_); simp only [go_sem, simprocAttr, hF, hbx])
      | with_reducible refine awp_seq_k fun _ _ => ?_
      | (refine awp_draw' (id := 3) [] 9 (by kernel_rfl) (by kernel_rfl) rfl rfl (fun bx0 hbx => ?_); try dsimp only [List.take, List.drop])
      | with_reducible (first | refine awp_region [] ?_ | refine awp_block ?_)
      | go_step)
    all_goals (try rfl)
  | true =>
    try simp only [go_sem, simprocAttr, hF, hfw]
    repeat (first
      | (with_reducible (first | refine sops_go ?_ | refine headW_end ?_ | refine sops_end ?_ | refine awp_if ?_ | refine awp_skip ?_ | refine awp_ret ?_ | refine awp_exit ?_); simp only [go_sem, simprocAttr, hF, hfw])
      | ((with_reducible refine headW_go ?_); simp only [go_sem, simprocAttr, hF, hfw, hbx])
      | with_reducible refine awp_seq_k fun _ _ => ?_
      | (refine awp_draw' (id := 3) [] 9 (by kernel_rfl) (by kernel_rfl) rfl rfl (fun bx0 hbx => ?_); try dsimp only [List.take, List.drop])
      | with_reducible (first | refine awp_region [] ?_ | refine awp_block ?_)
      | go_step)
    refine ⟨_, nfew_ok n hp0, ?_⟩
    simp only [go_sem, simprocAttr, hF, hfw]
    cases hnf : nfewB n with
    | false =>
      try simp only [go_sem, simprocAttr, hF, hnf]
      repeat (first
        | (with_reducible (first | refine sops_go ?_ | refine headW_end ?_ | refine sops_end ?_ | refine awp_if ?_ | refine awp_skip ?_ | refine awp_ret ?_ | refine awp_exit ?_); simp only [go_sem, simprocAttr, hF, hnf])
        | ((with_reducible refine headW_go ?_); simp only [go_sem, simprocAttr, hF, hnf, hbx])
        | with_reducible refine awp_seq_k fun _ _ => ?_
        | (refine awp_draw' (id := 3) [] 9 (by kernel_rfl) (by kernel_rfl) rfl rfl (fun bx0 hbx => ?_); try dsimp only [List.take, List.drop])
        | with_reducible (first | refine awp_region [] ?_ | refine awp_block ?_)
        | go_step)
      refine ⟨_, awake_ok, ?_⟩
      simp only [go_sem, simprocAttr, hF]
      repeat (first
        | (with_reducible (first | refine sops_go ?_ | refine headW_end ?_ | refine sops_end ?_ | refine awp_if ?_ | refine awp_skip ?_ | refine awp_ret ?_ | refine awp_exit ?_); simp only [go_sem, simprocAttr, hF])
        | ((with_reducible refine headW_go ?_); simp only [go_sem, simprocAttr, hF, hbx])
        | with_reducible refine awp_seq_k fun _ _ => ?_
        | (refine awp_draw' (id := 3) [] 9 (by kernel_rfl) (by kernel_rfl) rfl rfl (fun bx0 hbx => ?_); try dsimp only [List.take, List.drop])
        | with_reducible (first | refine awp_region [] ?_ | refine awp_block ?_)
        | go_step)
      all_goals (try rfl)
    | true =>
      obtain ⟨-, hla', hld'⟩ := fewB_of hfw
      have hla : r.al.length ≤ 1000000 := by omega
      have hld : r.dl.length ≤ 1000000 := by omega
      obtain ⟨hpl, hp, hk, hg⟩ := nfewB_of hnf
      have hbl : (breachesP n r).1.length ≤ 1000000 ∧ ∀ x ∈ (breachesP n r).1, x.sl.length ≤ 1000000 := by
        unfold breachesP
        by_cases hbad : chkN n ≠ 0 ∨ good r = false
        · rw [if_pos hbad]; exact ⟨Nat.zero_le _, fun x hx => by cases hx⟩
        · rw [if_neg hbad]
          cases hno : r.al.any (fun a => (lossAt n.lk a.cf a.ct).isNone) with
          | true => exact ⟨Nat.zero_le _, fun x hx => by cases hx⟩
          | false =>
            have hn : chkN n = 0 := Classical.byContradiction fun h => hbad (.inl h)
            have hgd : good r = true := by cases h : good r with | true => rfl | false => exact absurd (.inr h) hbad
            refine ⟨by show (sortB (brAll n.lk r.al)).length ≤ _; rw [(sortB_perm _).length_eq]; exact Nat.le_trans (brs_len (firstK_nodup _)) hla, fun b hb => ?_⟩
            obtain ⟨i, p, y, h⟩ := losses_law hn hgd hno ((sortB_perm _).mem_iff.1 hb)
            have := h.room
            have h2 : (ownL r.al b).length ≤ r.al.length := Nat.le_trans (List.length_filter_le _ _) (List.length_filter_le _ _)
            omega
      have htl : (twice r).1.length ≤ 1000000 := by
        unfold twice
        split
        · exact Nat.le_trans (twGo_len _ _) hld
        · exact Nat.zero_le _
      have hee : ((breachesP n r).2 == (breachesP n r).2) = true := by simp
      have hgg : ((twice r).2 == (twice r).2) = true := by simp
      try simp only [go_sem, simprocAttr, hF, hnf]
      repeat (first
        | (with_reducible (first | refine sops_go ?_ | refine headW_end ?_ | refine sops_end ?_ | refine awp_if ?_ | refine awp_skip ?_ | refine awp_ret ?_ | refine awp_exit ?_); simp only [go_sem, simprocAttr, hF, hnf])
        | ((with_reducible refine headW_go ?_); simp only [go_sem, simprocAttr, hF, hnf, hbx])
        | with_reducible refine awp_seq_k fun _ _ => ?_
        | (refine awp_draw' (id := 3) [] 9 (by kernel_rfl) (by kernel_rfl) rfl rfl (fun bx0 hbx => ?_); try dsimp only [List.take, List.drop])
        | with_reducible (first | refine awp_region [] ?_ | refine awp_block ?_)
        | go_step)
      refine ⟨_, cp_ok r hla hld, ?_⟩
      simp only [go_sem, simprocAttr, hF]
      repeat (first
        | (with_reducible (first | refine sops_go ?_ | refine headW_end ?_ | refine sops_end ?_ | refine awp_if ?_ | refine awp_skip ?_ | refine awp_ret ?_ | refine awp_exit ?_); simp only [go_sem, simprocAttr, hF])
        | ((with_reducible refine headW_go ?_); simp only [go_sem, simprocAttr, hF, hbx])
        | with_reducible refine awp_seq_k fun _ _ => ?_
        | (refine awp_draw' (id := 3) [] 9 (by kernel_rfl) (by kernel_rfl) rfl rfl (fun bx0 hbx => ?_); try dsimp only [List.take, List.drop])
        | with_reducible (first | refine awp_region [] ?_ | refine awp_block ?_)
        | go_step)
      refine ⟨_, breaches_ok n r hp hpl hk hg hla hld, ?_⟩
      simp only [go_sem, simprocAttr, hF]
      repeat (first
        | (with_reducible (first | refine sops_go ?_ | refine headW_end ?_ | refine sops_end ?_ | refine awp_if ?_ | refine awp_skip ?_ | refine awp_ret ?_ | refine awp_exit ?_); simp only [go_sem, simprocAttr, hF])
        | ((with_reducible refine headW_go ?_); simp only [go_sem, simprocAttr, hF, hbx])
        | with_reducible refine awp_seq_k fun _ _ => ?_
        | (refine awp_draw' (id := 3) [] 9 (by kernel_rfl) (by kernel_rfl) rfl rfl (fun bx0 hbx => ?_); try dsimp only [List.take, List.drop])
        | with_reducible (first | refine awp_region [] ?_ | refine awp_block ?_)
        | go_step)
      refine ⟨_, breachesR_ok n r hp hpl hk hg hla hld, ?_⟩
      simp only [go_sem, simprocAttr, hF]
      repeat (first
        | (with_reducible (first | refine sops_go ?_ | refine headW_end ?_ | refine sops_end ?_ | refine awp_if ?_ | refine awp_skip ?_ | refine awp_ret ?_ | refine awp_exit ?_); simp only [go_sem, simprocAttr, hF])
        | ((with_reducible refine headW_go ?_); simp only [go_sem, simprocAttr, hF, hbx])
        | with_reducible refine awp_seq_k fun _ _ => ?_
        | (refine awp_draw' (id := 3) [] 9 (by kernel_rfl) (by kernel_rfl) rfl rfl (fun bx0 hbx => ?_); try dsimp only [List.take, List.drop])
        | with_reducible (first | refine awp_region [] ?_ | refine awp_block ?_)
        | go_step)
      refine ⟨_, cp_ok r hla hld, ?_⟩
      simp only [go_sem, simprocAttr, hF]
      repeat (first
        | (with_reducible (first | refine sops_go ?_ | refine headW_end ?_ | refine sops_end ?_ | refine awp_if ?_ | refine awp_skip ?_ | refine awp_ret ?_ | refine awp_exit ?_); simp only [go_sem, simprocAttr, hF])
        | ((with_reducible refine headW_go ?_); simp only [go_sem, simprocAttr, hF, hbx])
        | with_reducible refine awp_seq_k fun _ _ => ?_
        | (refine awp_draw' (id := 3) [] 9 (by kernel_rfl) (by kernel_rfl) rfl rfl (fun bx0 hbx => ?_); try dsimp only [List.take, List.drop])
        | with_reducible (first | refine awp_region [] ?_ | refine awp_block ?_)
        | go_step)
      refine ⟨_, twice_ok r hla hld, ?_⟩
      simp only [go_sem, simprocAttr, hF]
      repeat (first
        | (with_reducible (first | refine sops_go ?_ | refine headW_end ?_ | refine sops_end ?_ | refine awp_if ?_ | refine awp_skip ?_ | refine awp_ret ?_ | refine awp_exit ?_); simp only [go_sem, simprocAttr, hF])
        | ((with_reducible refine headW_go ?_); simp only [go_sem, simprocAttr, hF, hbx])
        | with_reducible refine awp_seq_k fun _ _ => ?_
        | (refine awp_draw' (id := 3) [] 9 (by kernel_rfl) (by kernel_rfl) rfl rfl (fun bx0 hbx => ?_); try dsimp only [List.take, List.drop])
        | with_reducible (first | refine awp_region [] ?_ | refine awp_block ?_)
        | go_step)
      refine ⟨_, rtwice_ok r hla hld, ?_⟩
      simp only [go_sem, simprocAttr, hF]
      repeat (first
        | (with_reducible (first | refine sops_go ?_ | refine headW_end ?_ | refine sops_end ?_ | refine awp_if ?_ | refine awp_skip ?_ | refine awp_ret ?_ | refine awp_exit ?_); simp only [go_sem, simprocAttr, hF])
        | ((with_reducible refine headW_go ?_); simp only [go_sem, simprocAttr, hF, hbx])
        | with_reducible refine awp_seq_k fun _ _ => ?_
        | (refine awp_draw' (id := 3) [] 9 (by kernel_rfl) (by kernel_rfl) rfl rfl (fun bx0 hbx => ?_); try dsimp only [List.take, List.drop])
        | with_reducible (first | refine awp_region [] ?_ | refine awp_block ?_)
        | go_step)
      refine ⟨_, samebr_ok _ _ hbl.1 hbl.2, ?_⟩
      simp only [go_sem, simprocAttr, hF, decide_true]
      repeat (first
        | (with_reducible (first | refine sops_go ?_ | refine headW_end ?_ | refine sops_end ?_ | refine awp_if ?_ | refine awp_skip ?_ | refine awp_ret ?_ | refine awp_exit ?_); simp only [go_sem, simprocAttr, hF, hee, decide_true])
        | ((with_reducible refine headW_go ?_); simp only [go_sem, simprocAttr, hF, hee, decide_true, hbx])
        | with_reducible refine awp_seq_k fun _ _ => ?_
        | (refine awp_draw' (id := 3) [] 9 (by kernel_rfl) (by kernel_rfl) rfl rfl (fun bx0 hbx => ?_); try dsimp only [List.take, List.drop])
        | with_reducible (first | refine awp_region [] ?_ | refine awp_block ?_)
        | go_step)
      refine ⟨_, eqD_ok _ _ htl, ?_⟩
      simp only [go_sem, simprocAttr, hF, decide_true]
      repeat (first
        | (with_reducible (first | refine sops_go ?_ | refine headW_end ?_ | refine sops_end ?_ | refine awp_if ?_ | refine awp_skip ?_ | refine awp_ret ?_ | refine awp_exit ?_); simp only [go_sem, simprocAttr, hF, hgg, decide_true])
        | ((with_reducible refine headW_go ?_); simp only [go_sem, simprocAttr, hF, hgg, decide_true, hbx])
        | with_reducible refine awp_seq_k fun _ _ => ?_
        | (refine awp_draw' (id := 3) [] 9 (by kernel_rfl) (by kernel_rfl) rfl rfl (fun bx0 hbx => ?_); try dsimp only [List.take, List.drop])
        | with_reducible (first | refine awp_region [] ?_ | refine awp_block ?_)
        | go_step)
      all_goals (try rfl)
end Go.Proofs.Ytkdigdnacggknaa

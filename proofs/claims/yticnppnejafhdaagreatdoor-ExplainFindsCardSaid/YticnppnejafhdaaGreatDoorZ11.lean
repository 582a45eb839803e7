import Derived.Test.YticnppnejafhdaaGreatDoorZ10
set_option linter.unusedVariables false
set_option linter.unusedSimpArgs false
/- The reference of networks by abstract states: link. -/
namespace Go.Proofs.YticnppnejafhdaaGreatDoor
open Go.RowKit
open Nd Rc Mo
open Av
set_option maxRecDepth 100000
set_option linter.unusedSimpArgs false
attribute [local go_sem] Av.guardB Av.sop Av.hopx Av.hop Av.hopCall Av.hopF Av.hopB Av.evo Av.evos Av.avCells Av.loadK Av.bound Av.abin Av.aun Av.partsC Av.lfill Av.placesB Av.setAt Av.stl Av.takes Av.src Av.bxOf Av.ownOf Av.St.res Av.St.put Av.St.addBox Av.St.putOwn Av.delL Av.delS Av.look Av.lookL Av.storeSt Av.stealSt Av.St.setBox Av.keepL Av.hitB Av.snap Av.snaps Av.snapCaps Av.AV.lit Av.AV.refs Av.capRefs Av.PV.av Av.CV.av Av.startSt Av.steals Av.athen Av.ablock Av.appK Av.AllS Av.AllO Av.AllR Av.keepS Av.St.avAt Av.RetOK Av.retAll Av.retOne Av.intsOf Av.ptrB TypeDesc.isRow List.range_zero Option.some.injEq exists_eq_left' exists_eq_left exists_eq' exists_and_left exists_and_right exists_const true_and and_true and_self false_and and_false or_false false_or or_true true_or if_true if_false Bool.false_eq_true List.zipIdx_cons List.zipIdx_nil List.map_cons List.map_nil List.filter_cons List.filter_nil List.contains_cons List.contains_nil List.drop_succ_cons List.drop_zero List.take_succ_cons List.take_zero List.take_nil List.drop_nil List.length_cons List.length_nil List.cons_append List.nil_append List.append_nil List.getElem?_cons_zero List.getElem?_cons_succ List.getElem?_nil Option.bind_some Option.bind_none Option.map_some Option.map_none Option.isNone_none Option.isNone_some Option.isSome_some Option.isSome_none Bool.and_true Bool.true_and Bool.and_false Bool.false_and Bool.or_false Bool.false_or Bool.not_true Bool.not_false beq_true beq_false Bool.true_beq Bool.false_beq Loc.s.injEq Loc.b.injEq decide_true decide_false beq_self_eq_true Nat.zero_add Nat.add_zero List.getElem?_toArray List.toList_toArray List.size_toArray Value.oneCell' List.all_cons List.all_nil Value.int.injEq AV.v.injEq AV.sl.injEq AV.agg.injEq AV.ref.injEq AV.ept.injEq AV.tup.injEq Value.bool.injEq PV.v.injEq PV.sl.injEq List.isEmpty_nil List.isEmpty_cons forall_const not_true_eq_false not_false_eq_true true_implies false_implies Value.string.injEq List.length_map List.getElem?_map Int.toNat_natCast Int.natCast_nonneg List.length_append Value.cells implies_true TypeDesc.struct.injEq TypeDesc.slice.injEq TypeDesc.array.injEq List.getElem?_toArray Prod.mk.injEq and_assoc exists_false List.cons.injEq Operand.tmp.injEq ite_self AV.fnv.injEq AV.clo.injEq ne_eq eq_self Tryz.sz3 Tryz.zr3 Tryz.by3 Tryz.pl3 Tryz.is3 Tryz.underlying3 Tryz.sz4 Tryz.zr4 Tryz.by4 Tryz.pl4 Tryz.is4 Tryz.underlying4 Tryz.sz43 Tryz.zr43 Tryz.by43 Tryz.pl43 Tryz.is43 Tryz.underlying43 Tryz.sz35 Tryz.zr35 Tryz.by35 Tryz.pl35 Tryz.is35 Tryz.underlying35 Tryz.sz33 Tryz.zr33 Tryz.by33 Tryz.pl33 Tryz.is33 Tryz.underlying33 Tryz.sz28 Tryz.zr28 Tryz.by28 Tryz.pl28 Tryz.is28 Tryz.underlying28 Tryz.sz39 Tryz.zr39 Tryz.by39 Tryz.pl39 Tryz.is39 Tryz.underlying39 Tryz.sz57 Tryz.zr57 Tryz.by57 Tryz.pl57 Tryz.is57 Tryz.underlying57 Tryz.sz137 Tryz.zr137 Tryz.by137 Tryz.pl137 Tryz.is137 Tryz.underlying137 Tryz.sz66 Tryz.zr66 Tryz.by66 Tryz.pl66 Tryz.is66 Tryz.underlying66 Tryz.sz64 Tryz.zr64 Tryz.by64 Tryz.pl64 Tryz.is64 Tryz.underlying64 Tryz.sz60 Tryz.zr60 Tryz.by60 Tryz.pl60 Tryz.is60 Tryz.underlying60 Tryz.sz100 Tryz.zr100 Tryz.by100 Tryz.pl100 Tryz.is100 Tryz.underlying100 Tryz.sz103 Tryz.zr103 Tryz.by103 Tryz.pl103 Tryz.is103 Tryz.underlying103 Tryz.sz26 Tryz.zr26 Tryz.by26 Tryz.pl26 Tryz.is26 Tryz.underlying26 Tryz.sz120 Tryz.zr120 Tryz.by120 Tryz.pl120 Tryz.is120 Tryz.underlying120 Tryz.sz117 Tryz.zr117 Tryz.by117 Tryz.pl117 Tryz.is117 Tryz.underlying117 Tryz.sz30 Tryz.zr30 Tryz.by30 Tryz.pl30 Tryz.is30 Tryz.underlying30 Tryz.sz31 Tryz.zr31 Tryz.by31 Tryz.pl31 Tryz.is31 Tryz.underlying31 Tryz.sz40 Tryz.zr40 Tryz.by40 Tryz.pl40 Tryz.is40 Tryz.underlying40 Tryz.sz23 Tryz.zr23 Tryz.by23 Tryz.pl23 Tryz.is23 Tryz.underlying23 Tryz.sz24 Tryz.zr24 Tryz.by24 Tryz.pl24 Tryz.is24 Tryz.underlying24 Tryz.sz22 Tryz.zr22 Tryz.by22 Tryz.pl22 Tryz.is22 Tryz.underlying22 Tryz.sz141 Tryz.zr141 Tryz.by141 Tryz.pl141 Tryz.is141 Tryz.underlying141 Tryz.sz42 Tryz.zr42 Tryz.by42 Tryz.pl42 Tryz.is42 Tryz.underlying42 Tryz.sz29 Tryz.zr29 Tryz.by29 Tryz.pl29 Tryz.is29 Tryz.underlying29 Tryz.sz83 Tryz.zr83 Tryz.by83 Tryz.pl83 Tryz.is83 Tryz.underlying83 Tryz.sz67 Tryz.zr67 Tryz.by67 Tryz.pl67 Tryz.is67 Tryz.underlying67 Tryz.sz20 Tryz.zr20 Tryz.by20 Tryz.pl20 Tryz.is20 Tryz.underlying20 Tryz.sz89 Tryz.zr89 Tryz.by89 Tryz.pl89 Tryz.is89 Tryz.underlying89 Tryz.sz132 Tryz.zr132 Tryz.by132 Tryz.pl132 Tryz.is132 Tryz.underlying132 Tryz.sz113 Tryz.zr113 Tryz.by113 Tryz.pl113 Tryz.is113 Tryz.underlying113 Tryz.sz9 Tryz.zr9 Tryz.by9 Tryz.pl9 Tryz.is9 Tryz.underlying9 Tryz.it39 Tryz.eg39 Tryz.it137 Tryz.eg137 Tryz.it66 Tryz.eg66 Tryz.it28 Tryz.eg28 Tryz.it60 Tryz.eg60 all_arr loc_ss loc_sb loc_bs loc_bb arr_two arr_one rg1 rg2 rg3 rg4 rg5 rg6 rg7 rg8 ResultVar.tmp.injEq Bool.not_true Bool.not_false undef Rc.Rec.pv Nd.Fl.pv Rc.Dlv.pv Rc.Att.pv Mo.Lt.pv Fn.func.injEq Mo.Net.pv Mo.Lk.pv prow_pv irow_pv
theorem lkB_cases {nodes : Int} {l : Lk} : lkB nodes l = (inR l.fr 0 (nodes - 1) && (inR l.tt 0 (nodes - 1) && (!(l.fr == l.tt) && inR l.ls 0 7))) := rfl

set_option maxHeartbeats 20000000 in
theorem link_ok (n : Net) (k : Nat) (d : Lk) (m : Int) (hp : n.pow.length ≤ 1000000) (hl : n.lk.length ≤ 1000000) (hd : n.lk[k]? = some d) (hm : n.mg[k]? = some m) (hpe : powE n.nodes n.pow = 0) (hn : 2 ≤ n.nodes ∧ n.nodes ≤ 32) : FnOK Tryz.prog 116 [.agg n.pv, iv (k : Int)] ⟨iv (lkE n.nodes n.pow (if k = 0 then none else n.lk[k - 1]?) d m), none⟩ := by
  have hmul : ∀ l ∈ n.pow, (l.length : Int) = n.nodes ∧ (n.pow.length : Int) = n.nodes := fun l hl => by
    unfold powE at hpe
    split at hpe
    · cases hpe
    · rename_i hc
      refine ⟨?_, Classical.byContradiction fun h => hc (.inl h)⟩
      refine Classical.byContradiction fun h => hc (.inr (List.any_eq_true.2 ⟨l, hl, by simpa using h⟩))
  have hnl : (n.pow.length : Int) = n.nodes := by
    unfold powE at hpe
    split at hpe
    · cases hpe
    · rename_i hc
      exact Classical.byContradiction fun h => hc (.inl h)
  have hwn : IntKind.i64.wrap (n.nodes - 1) = n.nodes - 1 := by rw [IntKind.wrap_i64]; omega
  have hklt : k < n.lk.length := (List.getElem?_eq_some_iff.1 hd).1
  obtain ⟨p, hp0⟩ : ∃ p, p = (if k = 0 then none else n.lk[k - 1]?) := ⟨_, rfl⟩
  rw [← hp0]
  refine fn_ok Tryz.func116 (by kernel_rfl) rfl (by rw [Tryz.ntmps116]; exact of_decide_eq_true rfl) (fun F hF => ?_)
  rw [Tryz.ntmps116] at hF
  rw [Tryz.results116]
  repeat (first
    | (with_reducible (first | refine sops_go ?_ | refine headW_end ?_ | refine sops_end ?_ | refine awp_if ?_ | refine awp_skip ?_ | refine awp_ret ?_ | refine awp_exit ?_); simp only [go_sem, simprocAttr, hF, hd, hwn])
    | ((with_reducible refine headW_go ?_); simp only [go_sem, simprocAttr, hF, hd, hwn, hbx])
    | with_reducible refine awp_seq_k fun _ _ => ?_
    | (refine awp_draw' (id := 4) [] 38 (by kernel_rfl) (by kernel_rfl) rfl rfl (fun bx0 hbx => ?_); try dsimp only [List.take, List.drop])
    | (refine awp_draw' (id := 6) [] 17 (by kernel_rfl) (by kernel_rfl) rfl rfl (fun bx0 hbx => ?_); try dsimp only [List.take, List.drop])
    | with_reducible (first | refine awp_region [] ?_ | refine awp_block ?_)
    | go_step)
  refine ⟨_, in31_ok d.fr 0 (n.nodes - 1), ?_⟩
  simp only [go_sem, simprocAttr, hF]
  cases b1 : inR d.fr 0 (n.nodes - 1) with
  | false =>
    try simp only [go_sem, simprocAttr, hF, b1]
    repeat (first
      | (with_reducible (first | refine sops_go ?_ | refine headW_end ?_ | refine sops_end ?_ | refine awp_if ?_ | refine awp_skip ?_ | refine awp_ret ?_ | refine awp_exit ?_); simp only [go_sem, simprocAttr, hF, b1])
      | ((with_reducible refine headW_go ?_); simp only [go_sem, simprocAttr, hF, b1, hbx])
      | with_reducible refine awp_seq_k fun _ _ => ?_
      | (refine awp_draw' (id := 4) [] 38 (by kernel_rfl) (by kernel_rfl) rfl rfl (fun bx0 hbx => ?_); try dsimp only [List.take, List.drop])
      | (refine awp_draw' (id := 6) [] 17 (by kernel_rfl) (by kernel_rfl) rfl rfl (fun bx0 hbx => ?_); try dsimp only [List.take, List.drop])
      | with_reducible (first | refine awp_region [] ?_ | refine awp_block ?_)
      | go_step)
    unfold lkE
    rw [if_pos (by rw [lkB_cases]; simp [b1])]
  | true =>
    try simp only [go_sem, simprocAttr, hF, b1]
    repeat (first
      | (with_reducible (first | refine sops_go ?_ | refine headW_end ?_ | refine sops_end ?_ | refine awp_if ?_ | refine awp_skip ?_ | refine awp_ret ?_ | refine awp_exit ?_); simp only [go_sem, simprocAttr, hF, b1, hwn])
      | ((with_reducible refine headW_go ?_); simp only [go_sem, simprocAttr, hF, b1, hwn, hbx])
      | with_reducible refine awp_seq_k fun _ _ => ?_
      | (refine awp_draw' (id := 4) [] 38 (by kernel_rfl) (by kernel_rfl) rfl rfl (fun bx0 hbx => ?_); try dsimp only [List.take, List.drop])
      | (refine awp_draw' (id := 6) [] 17 (by kernel_rfl) (by kernel_rfl) rfl rfl (fun bx0 hbx => ?_); try dsimp only [List.take, List.drop])
      | with_reducible (first | refine awp_region [] ?_ | refine awp_block ?_)
      | go_step)
    refine ⟨_, in31_ok d.tt 0 (n.nodes - 1), ?_⟩
    simp only [go_sem, simprocAttr, hF]
    cases b2 : inR d.tt 0 (n.nodes - 1) with
    | false =>
      try simp only [go_sem, simprocAttr, hF, b2]
      repeat (first
        | (with_reducible (first | refine sops_go ?_ | refine headW_end ?_ | refine sops_end ?_ | refine awp_if ?_ | refine awp_skip ?_ | refine awp_ret ?_ | refine awp_exit ?_); simp only [go_sem, simprocAttr, hF, b2])
        | ((with_reducible refine headW_go ?_); simp only [go_sem, simprocAttr, hF, b2, hbx])
        | with_reducible refine awp_seq_k fun _ _ => ?_
        | (refine awp_draw' (id := 4) [] 38 (by kernel_rfl) (by kernel_rfl) rfl rfl (fun bx0 hbx => ?_); try dsimp only [List.take, List.drop])
        | (refine awp_draw' (id := 6) [] 17 (by kernel_rfl) (by kernel_rfl) rfl rfl (fun bx0 hbx => ?_); try dsimp only [List.take, List.drop])
        | with_reducible (first | refine awp_region [] ?_ | refine awp_block ?_)
        | go_step)
      unfold lkE
      rw [if_pos (by rw [lkB_cases]; simp [b1, b2])]
    | true =>
      cases b3 : (d.fr == d.tt) with
      | true =>
        try simp only [go_sem, simprocAttr, hF, b2, b3]
        repeat (first
          | (with_reducible (first | refine sops_go ?_ | refine headW_end ?_ | refine sops_end ?_ | refine awp_if ?_ | refine awp_skip ?_ | refine awp_ret ?_ | refine awp_exit ?_); simp only [go_sem, simprocAttr, hF, b2, b3])
          | ((with_reducible refine headW_go ?_); simp only [go_sem, simprocAttr, hF, b2, b3, hbx])
          | with_reducible refine awp_seq_k fun _ _ => ?_
          | (refine awp_draw' (id := 4) [] 38 (by kernel_rfl) (by kernel_rfl) rfl rfl (fun bx0 hbx => ?_); try dsimp only [List.take, List.drop])
          | (refine awp_draw' (id := 6) [] 17 (by kernel_rfl) (by kernel_rfl) rfl rfl (fun bx0 hbx => ?_); try dsimp only [List.take, List.drop])
          | with_reducible (first | refine awp_region [] ?_ | refine awp_block ?_)
          | go_step)
        have b3e : d.fr = d.tt := by simpa using b3
        unfold lkE
        rw [if_pos (by rw [lkB_cases]; simp [b1, b2, b3e])]
      | false =>
        try simp only [go_sem, simprocAttr, hF, b2, b3]
        repeat (first
          | (with_reducible (first | refine sops_go ?_ | refine headW_end ?_ | refine sops_end ?_ | refine awp_if ?_ | refine awp_skip ?_ | refine awp_ret ?_ | refine awp_exit ?_); simp only [go_sem, simprocAttr, hF, b2, b3])
          | ((with_reducible refine headW_go ?_); simp only [go_sem, simprocAttr, hF, b2, b3, hbx])
          | with_reducible refine awp_seq_k fun _ _ => ?_
          | (refine awp_draw' (id := 4) [] 38 (by kernel_rfl) (by kernel_rfl) rfl rfl (fun bx0 hbx => ?_); try dsimp only [List.take, List.drop])
          | (refine awp_draw' (id := 6) [] 17 (by kernel_rfl) (by kernel_rfl) rfl rfl (fun bx0 hbx => ?_); try dsimp only [List.take, List.drop])
          | with_reducible (first | refine awp_region [] ?_ | refine awp_block ?_)
          | go_step)
        refine ⟨_, in31_ok d.ls 0 7, ?_⟩
        simp only [go_sem, simprocAttr, hF]
        cases b4 : inR d.ls 0 7 with
        | false =>
          try simp only [go_sem, simprocAttr, hF, b4]
          repeat (first
            | (with_reducible (first | refine sops_go ?_ | refine headW_end ?_ | refine sops_end ?_ | refine awp_if ?_ | refine awp_skip ?_ | refine awp_ret ?_ | refine awp_exit ?_); simp only [go_sem, simprocAttr, hF, b4])
            | ((with_reducible refine headW_go ?_); simp only [go_sem, simprocAttr, hF, b4, hbx])
            | with_reducible refine awp_seq_k fun _ _ => ?_
            | (refine awp_draw' (id := 4) [] 38 (by kernel_rfl) (by kernel_rfl) rfl rfl (fun bx0 hbx => ?_); try dsimp only [List.take, List.drop])
            | (refine awp_draw' (id := 6) [] 17 (by kernel_rfl) (by kernel_rfl) rfl rfl (fun bx0 hbx => ?_); try dsimp only [List.take, List.drop])
            | with_reducible (first | refine awp_region [] ?_ | refine awp_block ?_)
            | go_step)
          unfold lkE
          rw [if_pos (by rw [lkB_cases]; simp [b1, b2, b4])]
        | true =>
          have hB : lkB n.nodes d = true := by rw [lkB_cases, b1, b2, b3, b4]; rfl
          have q1 : 0 ≤ d.fr ∧ d.fr ≤ n.nodes - 1 := by simpa [inR] using b1
          have q2 : 0 ≤ d.tt ∧ d.tt ≤ n.nodes - 1 := by simpa [inR] using b2
          obtain ⟨row, hrow⟩ := get_of_lt (l := n.pow) (k := d.fr.toNat) (by omega)
          have hrl := (hmul row (List.mem_of_getElem? hrow)).1
          obtain ⟨v, hv⟩ := get_of_lt (l := row) (k := d.tt.toNat) (by omega)
          have hpa : powAt n.pow d.fr d.tt = v := by
            unfold powAt
            rw [List.getD_eq_getElem?_getD, List.getD_eq_getElem?_getD, hrow, Option.getD_some, hv, Option.getD_some]
          have q10 : 0 ≤ d.fr := q1.1
          have q20 : 0 ≤ d.tt := q2.1
          by_cases hk0 : k = 0
          · have z0 : decide ((0 : Int) < (k : Int)) = false := decide_eq_false (by omega)
            have hpb : ¬ prevBadL p d = true := by rw [hp0, if_pos hk0]; simp [prevBadL]
            try simp only [go_sem, simprocAttr, hF, b4]
            repeat (first
              | (with_reducible (first | refine sops_go ?_ | refine headW_end ?_ | refine sops_end ?_ | refine awp_if ?_ | refine awp_skip ?_ | refine awp_ret ?_ | refine awp_exit ?_); simp only [go_sem, simprocAttr, hF, b4, z0])
              | ((with_reducible refine headW_go ?_); simp only [go_sem, simprocAttr, hF, b4, z0, hbx])
              | with_reducible refine awp_seq_k fun _ _ => ?_
              | (refine awp_draw' (id := 4) [] 38 (by kernel_rfl) (by kernel_rfl) rfl rfl (fun bx0 hbx => ?_); try dsimp only [List.take, List.drop])
              | (refine awp_draw' (id := 6) [] 17 (by kernel_rfl) (by kernel_rfl) rfl rfl (fun bx0 hbx => ?_); try dsimp only [List.take, List.drop])
              | with_reducible (first | refine awp_region [] ?_ | refine awp_block ?_)
              | go_step)
            try simp only [go_sem, simprocAttr, hF, hm, hrow, hv, q10, q20]
            repeat (first
              | (with_reducible (first | refine sops_go ?_ | refine headW_end ?_ | refine sops_end ?_ | refine awp_if ?_ | refine awp_skip ?_ | refine awp_ret ?_ | refine awp_exit ?_); simp only [go_sem, simprocAttr, hF, hm, hrow, hv, q10, q20])
              | ((with_reducible refine headW_go ?_); simp only [go_sem, simprocAttr, hF, hm, hrow, hv, q10, q20, hbx])
              | with_reducible refine awp_seq_k fun _ _ => ?_
              | (refine awp_draw' (id := 4) [] 38 (by kernel_rfl) (by kernel_rfl) rfl rfl (fun bx0 hbx => ?_); try dsimp only [List.take, List.drop])
              | (refine awp_draw' (id := 6) [] 17 (by kernel_rfl) (by kernel_rfl) rfl rfl (fun bx0 hbx => ?_); try dsimp only [List.take, List.drop])
              | with_reducible (first | refine awp_region [] ?_ | refine awp_block ?_)
              | go_step)
            refine ⟨_, in31_ok m 0 v, ?_⟩
            simp only [go_sem, simprocAttr, hF]
            cases b5 : inR m 0 v with
            | false =>
              have hb5 : m < 0 ∨ v < m := by
                unfold inR at b5
                simp only [Bool.and_eq_false_iff, decide_eq_false_iff_not] at b5
                omega
              try simp only [go_sem, simprocAttr, hF, b5]
              repeat (first
                | (with_reducible (first | refine sops_go ?_ | refine headW_end ?_ | refine sops_end ?_ | refine awp_if ?_ | refine awp_skip ?_ | refine awp_ret ?_ | refine awp_exit ?_); simp only [go_sem, simprocAttr, hF, b5])
                | ((with_reducible refine headW_go ?_); simp only [go_sem, simprocAttr, hF, b5, hbx])
                | with_reducible refine awp_seq_k fun _ _ => ?_
                | (refine awp_draw' (id := 4) [] 38 (by kernel_rfl) (by kernel_rfl) rfl rfl (fun bx0 hbx => ?_); try dsimp only [List.take, List.drop])
                | (refine awp_draw' (id := 6) [] 17 (by kernel_rfl) (by kernel_rfl) rfl rfl (fun bx0 hbx => ?_); try dsimp only [List.take, List.drop])
                | with_reducible (first | refine awp_region [] ?_ | refine awp_block ?_)
                | go_step)
              unfold lkE
              rw [if_neg (by rw [hB]; decide), if_neg hpb, hpa, if_pos hb5]
            | true =>
              have hb5 : ¬ (m < 0 ∨ v < m) := by
                unfold inR at b5
                simp only [Bool.and_eq_true, decide_eq_true_eq] at b5
                omega
              try simp only [go_sem, simprocAttr, hF, b5]
              repeat (first
                | (with_reducible (first | refine sops_go ?_ | refine headW_end ?_ | refine sops_end ?_ | refine awp_if ?_ | refine awp_skip ?_ | refine awp_ret ?_ | refine awp_exit ?_); simp only [go_sem, simprocAttr, hF, b5])
                | ((with_reducible refine headW_go ?_); simp only [go_sem, simprocAttr, hF, b5, hbx])
                | with_reducible refine awp_seq_k fun _ _ => ?_
                | (refine awp_draw' (id := 4) [] 38 (by kernel_rfl) (by kernel_rfl) rfl rfl (fun bx0 hbx => ?_); try dsimp only [List.take, List.drop])
                | (refine awp_draw' (id := 6) [] 17 (by kernel_rfl) (by kernel_rfl) rfl rfl (fun bx0 hbx => ?_); try dsimp only [List.take, List.drop])
                | with_reducible (first | refine awp_region [] ?_ | refine awp_block ?_)
                | go_step)
              unfold lkE
              rw [if_neg (by rw [hB]; decide), if_neg hpb, hpa, if_neg hb5]
          have z0 : decide ((0 : Int) < (k : Int)) = true := decide_eq_true (by omega)
          obtain ⟨q, hq⟩ := get_of_lt (l := n.lk) (k := k - 1) (by omega)
          have hwk : IntKind.i64.wrap ((k : Int) - 1) = ((k - 1 : Nat) : Int) := by rw [IntKind.wrap_i64]; omega
          cases e1 : decide (d.fr < q.fr) with
          | true =>
            have hpb : prevBadL p d = true := by rw [hp0, if_neg hk0, hq]; simp [prevBadL, e1]
            try simp only [go_sem, simprocAttr, hF, b4]
            repeat (first
              | (with_reducible (first | refine sops_go ?_ | refine headW_end ?_ | refine sops_end ?_ | refine awp_if ?_ | refine awp_skip ?_ | refine awp_ret ?_ | refine awp_exit ?_); simp only [go_sem, simprocAttr, hF, b4, z0, hwk, hq, e1])
              | ((with_reducible refine headW_go ?_); simp only [go_sem, simprocAttr, hF, b4, z0, hwk, hq, e1, hbx])
              | with_reducible refine awp_seq_k fun _ _ => ?_
              | (refine awp_draw' (id := 4) [] 38 (by kernel_rfl) (by kernel_rfl) rfl rfl (fun bx0 hbx => ?_); try dsimp only [List.take, List.drop])
              | (refine awp_draw' (id := 6) [] 17 (by kernel_rfl) (by kernel_rfl) rfl rfl (fun bx0 hbx => ?_); try dsimp only [List.take, List.drop])
              | with_reducible (first | refine awp_region [] ?_ | refine awp_block ?_)
              | go_step)
            unfold lkE
            rw [if_neg (by rw [hB]; decide), if_pos hpb]
          | false =>
            cases e2 : (q.fr == d.fr) with
            | false =>
              have hpb : ¬ prevBadL p d = true := by rw [hp0, if_neg hk0, hq]; simp [prevBadL, e1, e2]
              try simp only [go_sem, simprocAttr, hF, b4]
              repeat (first
                | (with_reducible (first | refine sops_go ?_ | refine headW_end ?_ | refine sops_end ?_ | refine awp_if ?_ | refine awp_skip ?_ | refine awp_ret ?_ | refine awp_exit ?_); simp only [go_sem, simprocAttr, hF, b4, z0, hwk, hq, e1, e2])
                | ((with_reducible refine headW_go ?_); simp only [go_sem, simprocAttr, hF, b4, z0, hwk, hq, e1, e2, hbx])
                | with_reducible refine awp_seq_k fun _ _ => ?_
                | (refine awp_draw' (id := 4) [] 38 (by kernel_rfl) (by kernel_rfl) rfl rfl (fun bx0 hbx => ?_); try dsimp only [List.take, List.drop])
                | (refine awp_draw' (id := 6) [] 17 (by kernel_rfl) (by kernel_rfl) rfl rfl (fun bx0 hbx => ?_); try dsimp only [List.take, List.drop])
                | with_reducible (first | refine awp_region [] ?_ | refine awp_block ?_)
                | go_step)
              try simp only [go_sem, simprocAttr, hF, hm, hrow, hv, q10, q20]
              repeat (first
                | (with_reducible (first | refine sops_go ?_ | refine headW_end ?_ | refine sops_end ?_ | refine awp_if ?_ | refine awp_skip ?_ | refine awp_ret ?_ | refine awp_exit ?_); simp only [go_sem, simprocAttr, hF, hm, hrow, hv, q10, q20])
                | ((with_reducible refine headW_go ?_); simp only [go_sem, simprocAttr, hF, hm, hrow, hv, q10, q20, hbx])
                | with_reducible refine awp_seq_k fun _ _ => ?_
                | (refine awp_draw' (id := 4) [] 38 (by kernel_rfl) (by kernel_rfl) rfl rfl (fun bx0 hbx => ?_); try dsimp only [List.take, List.drop])
                | (refine awp_draw' (id := 6) [] 17 (by kernel_rfl) (by kernel_rfl) rfl rfl (fun bx0 hbx => ?_); try dsimp only [List.take, List.drop])
                | with_reducible (first | refine awp_region [] ?_ | refine awp_block ?_)
                | go_step)
              refine ⟨_, in31_ok m 0 v, ?_⟩
              simp only [go_sem, simprocAttr, hF]
              cases b5 : inR m 0 v with
              | false =>
                have hb5 : m < 0 ∨ v < m := by
                  unfold inR at b5
                  simp only [Bool.and_eq_false_iff, decide_eq_false_iff_not] at b5
                  omega
                try simp only [go_sem, simprocAttr, hF, b5]
                repeat (first
                  | (with_reducible (first | refine sops_go ?_ | refine headW_end ?_ | refine sops_end ?_ | refine awp_if ?_ | refine awp_skip ?_ | refine awp_ret ?_ | refine awp_exit ?_); simp only [go_sem, simprocAttr, hF, b5])
                  | ((with_reducible refine headW_go ?_); simp only [go_sem, simprocAttr, hF, b5, hbx])
                  | with_reducible refine awp_seq_k fun _ _ => ?_
                  | (refine awp_draw' (id := 4) [] 38 (by kernel_rfl) (by kernel_rfl) rfl rfl (fun bx0 hbx => ?_); try dsimp only [List.take, List.drop])
                  | (refine awp_draw' (id := 6) [] 17 (by kernel_rfl) (by kernel_rfl) rfl rfl (fun bx0 hbx => ?_); try dsimp only [List.take, List.drop])
                  | with_reducible (first | refine awp_region [] ?_ | refine awp_block ?_)
                  | go_step)
                unfold lkE
                rw [if_neg (by rw [hB]; decide), if_neg hpb, hpa, if_pos hb5]
              | true =>
                have hb5 : ¬ (m < 0 ∨ v < m) := by
                  unfold inR at b5
                  simp only [Bool.and_eq_true, decide_eq_true_eq] at b5
                  omega
                try simp only [go_sem, simprocAttr, hF, b5]
                repeat (first
                  | (with_reducible (first | refine sops_go ?_ | refine headW_end ?_ | refine sops_end ?_ | refine awp_if ?_ | refine awp_skip ?_ | refine awp_ret ?_ | refine awp_exit ?_); simp only [go_sem, simprocAttr, hF, b5])
                  | ((with_reducible refine headW_go ?_); simp only [go_sem, simprocAttr, hF, b5, hbx])
                  | with_reducible refine awp_seq_k fun _ _ => ?_
                  | (refine awp_draw' (id := 4) [] 38 (by kernel_rfl) (by kernel_rfl) rfl rfl (fun bx0 hbx => ?_); try dsimp only [List.take, List.drop])
                  | (refine awp_draw' (id := 6) [] 17 (by kernel_rfl) (by kernel_rfl) rfl rfl (fun bx0 hbx => ?_); try dsimp only [List.take, List.drop])
                  | with_reducible (first | refine awp_region [] ?_ | refine awp_block ?_)
                  | go_step)
                unfold lkE
                rw [if_neg (by rw [hB]; decide), if_neg hpb, hpa, if_neg hb5]
            | true =>
              cases e3 : decide (d.tt ≤ q.tt) with
              | true =>
                have hpb : prevBadL p d = true := by rw [hp0, if_neg hk0, hq]; simp [prevBadL, e1, e2, e3]
                try simp only [go_sem, simprocAttr, hF, b4]
                repeat (first
                  | (with_reducible (first | refine sops_go ?_ | refine headW_end ?_ | refine sops_end ?_ | refine awp_if ?_ | refine awp_skip ?_ | refine awp_ret ?_ | refine awp_exit ?_); simp only [go_sem, simprocAttr, hF, b4, z0, hwk, hq, e1, e2, e3])
                  | ((with_reducible refine headW_go ?_); simp only [go_sem, simprocAttr, hF, b4, z0, hwk, hq, e1, e2, e3, hbx])
                  | with_reducible refine awp_seq_k fun _ _ => ?_
                  | (refine awp_draw' (id := 4) [] 38 (by kernel_rfl) (by kernel_rfl) rfl rfl (fun bx0 hbx => ?_); try dsimp only [List.take, List.drop])
                  | (refine awp_draw' (id := 6) [] 17 (by kernel_rfl) (by kernel_rfl) rfl rfl (fun bx0 hbx => ?_); try dsimp only [List.take, List.drop])
                  | with_reducible (first | refine awp_region [] ?_ | refine awp_block ?_)
                  | go_step)
                unfold lkE
                rw [if_neg (by rw [hB]; decide), if_pos hpb]
              | false =>
                have hpb : ¬ prevBadL p d = true := by rw [hp0, if_neg hk0, hq]; simp [prevBadL, e1, e2, e3]
                try simp only [go_sem, simprocAttr, hF, b4]
                repeat (first
                  | (with_reducible (first | refine sops_go ?_ | refine headW_end ?_ | refine sops_end ?_ | refine awp_if ?_ | refine awp_skip ?_ | refine awp_ret ?_ | refine awp_exit ?_); simp only [go_sem, simprocAttr, hF, b4, z0, hwk, hq, e1, e2, e3])
                  | ((with_reducible refine headW_go ?_); simp only [go_sem, simprocAttr, hF, b4, z0, hwk, hq, e1, e2, e3, hbx])
                  | with_reducible refine awp_seq_k fun _ _ => ?_
                  | (refine awp_draw' (id := 4) [] 38 (by kernel_rfl) (by kernel_rfl) rfl rfl (fun bx0 hbx => ?_); try dsimp only [List.take, List.drop])
                  | (refine awp_draw' (id := 6) [] 17 (by kernel_rfl) (by kernel_rfl) rfl rfl (fun bx0 hbx => ?_); try dsimp only [List.take, List.drop])
                  | with_reducible (first | refine awp_region [] ?_ | refine awp_block ?_)
                  | go_step)
                try simp only [go_sem, simprocAttr, hF, hm, hrow, hv, q10, q20]
                repeat (first
                  | (with_reducible (first | refine sops_go ?_ | refine headW_end ?_ | refine sops_end ?_ | refine awp_if ?_ | refine awp_skip ?_ | refine awp_ret ?_ | refine awp_exit ?_); simp only [go_sem, simprocAttr, hF, hm, hrow, hv, q10, q20])
                  | ((with_reducible refine headW_go ?_); simp only [go_sem, simprocAttr, hF, hm, hrow, hv, q10, q20, hbx])
                  | with_reducible refine awp_seq_k fun _ _ => ?_
                  | (refine awp_draw' (id := 4) [] 38 (by kernel_rfl) (by kernel_rfl) rfl rfl (fun bx0 hbx => ?_); try dsimp only [List.take, List.drop])
                  | (refine awp_draw' (id := 6) [] 17 (by kernel_rfl) (by kernel_rfl) rfl rfl (fun bx0 hbx => ?_); try dsimp only [List.take, List.drop])
                  | with_reducible (first | refine awp_region [] ?_ | refine awp_block ?_)
                  | go_step)
                refine ⟨_, in31_ok m 0 v, ?_⟩
                simp only [go_sem, simprocAttr, hF]
                cases b5 : inR m 0 v with
                | false =>
                  have hb5 : m < 0 ∨ v < m := by
                    unfold inR at b5
                    simp only [Bool.and_eq_false_iff, decide_eq_false_iff_not] at b5
                    omega
                  try simp only [go_sem, simprocAttr, hF, b5]
                  repeat (first
                    | (with_reducible (first | refine sops_go ?_ | refine headW_end ?_ | refine sops_end ?_ | refine awp_if ?_ | refine awp_skip ?_ | refine awp_ret ?_ | refine awp_exit ?_); simp only [go_sem, simprocAttr, hF, b5])
                    | ((with_reducible refine headW_go ?_); simp only [go_sem, simprocAttr, hF, b5, hbx])
                    | with_reducible refine awp_seq_k fun _ _ => ?_
                    | (refine awp_draw' (id := 4) [] 38 (by kernel_rfl) (by kernel_rfl) rfl rfl (fun bx0 hbx => ?_); try dsimp only [List.take, List.drop])
                    | (refine awp_draw' (id := 6) [] 17 (by kernel_rfl) (by kernel_rfl) rfl rfl (fun bx0 hbx => ?_); try dsimp only [List.take, List.drop])
                    | with_reducible (first | refine awp_region [] ?_ | refine awp_block ?_)
                    | go_step)
                  unfold lkE
                  rw [if_neg (by rw [hB]; decide), if_neg hpb, hpa, if_pos hb5]
                | true =>
                  have hb5 : ¬ (m < 0 ∨ v < m) := by
                    unfold inR at b5
                    simp only [Bool.and_eq_true, decide_eq_true_eq] at b5
                    omega
                  try simp only [go_sem, simprocAttr, hF, b5]
                  repeat (first
                    | (with_reducible (first | refine sops_go ?_ | refine headW_end ?_ | refine sops_end ?_ | refine awp_if ?_ | refine awp_skip ?_ | refine awp_ret ?_ | refine awp_exit ?_); simp only [go_sem, simprocAttr, hF, b5])
                    | ((with_reducible refine headW_go ?_); simp only [go_sem, simprocAttr, hF, b5, hbx])
                    | with_reducible refine awp_seq_k fun _ _ => ?_
                    | (refine awp_draw' (id := 4) [] 38 (by kernel_rfl) (by kernel_rfl) rfl rfl (fun bx0 hbx => ?_); try dsimp only [List.take, List.drop])
                    | (refine awp_draw' (id := 6) [] 17 (by kernel_rfl) (by kernel_rfl) rfl rfl (fun bx0 hbx => ?_); try dsimp only [List.take, List.drop])
                    | with_reducible (first | refine awp_region [] ?_ | refine awp_block ?_)
                    | go_step)
                  unfold lkE
                  rw [if_neg (by rw [hB]; decide), if_neg hpb, hpa, if_neg hb5]
/- The reference of networks by abstract states: Check. -/
set_option maxHeartbeats 20000000 in
theorem ncheckR_ok (n : Net) (hp : n.pow.length ≤ 1000000) (hpl : ∀ l ∈ n.pow, l.length ≤ 1000000) (hk' : n.lk.length ≤ 1000000) (hg : n.mg.length ≤ 1000000) : FnOK Tryz.prog 83 [.agg n.pv] ⟨iv (chkN n), none⟩ := by
  refine fn_ok Tryz.func83 (by kernel_rfl) rfl (by rw [Tryz.ntmps83]; exact of_decide_eq_true rfl) (fun F hF => ?_)
  rw [Tryz.ntmps83] at hF
  rw [Tryz.results83]
  repeat (first
    | (with_reducible (first | refine sops_go ?_ | refine headW_end ?_ | refine sops_end ?_ | refine awp_if ?_ | refine awp_skip ?_ | refine awp_ret ?_ | refine awp_exit ?_); simp only [go_sem, simprocAttr, hF])
    | with_reducible (first | refine awp_seq_k fun _ _ => ?_ | refine awp_region [] ?_ | refine awp_block ?_)
    | go_step)
  refine ⟨_, in31_ok n.nodes 2 32, ?_⟩
  simp only [go_sem, simprocAttr, hF]
  cases b1 : inR n.nodes 2 32 with
  | false =>
    have hb : n.nodes < 2 ∨ 32 < n.nodes := by
      unfold inR at b1
      simp only [Bool.and_eq_false_iff, decide_eq_false_iff_not] at b1
      omega
    try simp only [go_sem, simprocAttr, hF, b1]
    repeat (first
      | (with_reducible (first | refine sops_go ?_ | refine headW_end ?_ | refine sops_end ?_ | refine awp_if ?_ | refine awp_skip ?_ | refine awp_ret ?_ | refine awp_exit ?_); simp only [go_sem, simprocAttr, hF, b1])
      | with_reducible (first | refine awp_seq_k fun _ _ => ?_ | refine awp_region [] ?_ | refine awp_block ?_)
      | go_step)
    rw [chkN, if_pos hb]
  | true =>
    have hn : 2 ≤ n.nodes ∧ n.nodes ≤ 32 := by
      unfold inR at b1
      simpa using b1
    have hb : ¬ (n.nodes < 2 ∨ 32 < n.nodes) := by omega
    try simp only [go_sem, simprocAttr, hF, b1]
    repeat (first
      | (with_reducible (first | refine sops_go ?_ | refine headW_end ?_ | refine sops_end ?_ | refine awp_if ?_ | refine awp_skip ?_ | refine awp_ret ?_ | refine awp_exit ?_); simp only [go_sem, simprocAttr, hF, b1])
      | with_reducible (first | refine awp_seq_k fun _ _ => ?_ | refine awp_region [] ?_ | refine awp_block ?_)
      | go_step)
    refine ⟨_, table_ok n hp hpl, ?_⟩
    simp only [go_sem, simprocAttr, hF]
    by_cases hpe : powE n.nodes n.pow = 0
    case neg =>
      have he : (powE n.nodes n.pow != 0) = true := by simpa using hpe
      try simp only [go_sem, simprocAttr, hF, he]
      repeat (first
        | (with_reducible (first | refine sops_go ?_ | refine headW_end ?_ | refine sops_end ?_ | refine awp_if ?_ | refine awp_skip ?_ | refine awp_ret ?_ | refine awp_exit ?_); simp only [go_sem, simprocAttr, hF, he])
        | with_reducible (first | refine awp_seq_k fun _ _ => ?_ | refine awp_region [] ?_ | refine awp_block ?_)
        | go_step)
      rw [chkN, if_neg hb, if_pos hpe]
    have he : (powE n.nodes n.pow != 0) = false := by simpa using hpe
    try simp only [go_sem, simprocAttr, hF, he]
    repeat (first
      | (with_reducible (first | refine sops_go ?_ | refine headW_end ?_ | refine sops_end ?_ | refine awp_if ?_ | refine awp_skip ?_ | refine awp_ret ?_ | refine awp_exit ?_); simp only [go_sem, simprocAttr, hF, he])
      | with_reducible (first | refine awp_seq_k fun _ _ => ?_ | refine awp_region [] ?_ | refine awp_block ?_)
      | go_step)
    refine ⟨_, in31_ok n.noise 0 68719476736, ?_⟩
    simp only [go_sem, simprocAttr, hF]
    cases b2 : inR n.noise 0 68719476736 with
    | false =>
      try simp only [go_sem, simprocAttr, hF, b2]
      repeat (first
        | (with_reducible (first | refine sops_go ?_ | refine headW_end ?_ | refine sops_end ?_ | refine awp_if ?_ | refine awp_skip ?_ | refine awp_ret ?_ | refine awp_exit ?_); simp only [go_sem, simprocAttr, hF, b2])
        | with_reducible (first | refine awp_seq_k fun _ _ => ?_ | refine awp_region [] ?_ | refine awp_block ?_)
        | go_step)
      rw [chkN, if_neg hb, if_neg (by rw [hpe]; decide), if_pos (.inl b2)]
    | true =>
      try simp only [go_sem, simprocAttr, hF, b2]
      repeat (first
        | (with_reducible (first | refine sops_go ?_ | refine headW_end ?_ | refine sops_end ?_ | refine awp_if ?_ | refine awp_skip ?_ | refine awp_ret ?_ | refine awp_exit ?_); simp only [go_sem, simprocAttr, hF, b2])
        | with_reducible (first | refine awp_seq_k fun _ _ => ?_ | refine awp_region [] ?_ | refine awp_block ?_)
        | go_step)
      refine ⟨_, in31_ok n.thr 1000 100000, ?_⟩
      simp only [go_sem, simprocAttr, hF]
      cases b3 : inR n.thr 1000 100000 with
      | false =>
        try simp only [go_sem, simprocAttr, hF, b3]
        repeat (first
          | (with_reducible (first | refine sops_go ?_ | refine headW_end ?_ | refine sops_end ?_ | refine awp_if ?_ | refine awp_skip ?_ | refine awp_ret ?_ | refine awp_exit ?_); simp only [go_sem, simprocAttr, hF, b3])
          | with_reducible (first | refine awp_seq_k fun _ _ => ?_ | refine awp_region [] ?_ | refine awp_block ?_)
          | go_step)
        rw [chkN, if_neg hb, if_neg (by rw [hpe]; decide), if_pos (.inr b3)]
      | true =>
        have hb4 : ¬ (Nd.inB n.noise 0 68719476736 = false ∨ Nd.inB n.thr 1000 100000 = false) := by
          rintro (h | h)
          · rw [show Nd.inB n.noise 0 68719476736 = true from b2] at h; cases h
          · rw [show Nd.inB n.thr 1000 100000 = true from b3] at h; cases h
        by_cases h128 : 128 < n.lk.length
        case pos =>
          have h1 : decide ((128 : Int) < (n.lk.length : Int)) = true := decide_eq_true (by omega)
          try simp only [go_sem, simprocAttr, hF, b3]
          repeat (first
            | (with_reducible (first | refine sops_go ?_ | refine headW_end ?_ | refine sops_end ?_ | refine awp_if ?_ | refine awp_skip ?_ | refine awp_ret ?_ | refine awp_exit ?_); simp only [go_sem, simprocAttr, hF, b3, h1])
            | with_reducible (first | refine awp_seq_k fun _ _ => ?_ | refine awp_region [] ?_ | refine awp_block ?_)
            | go_step)
          rw [chkN, if_neg hb, if_neg (by rw [hpe]; decide), if_neg hb4, if_pos h128]
        have h1 : decide ((128 : Int) < (n.lk.length : Int)) = false := decide_eq_false (by omega)
        by_cases hml : n.mg.length = n.lk.length
        case neg =>
          have h2 : ((n.mg.length : Int) != (n.lk.length : Int)) = true := by simpa using fun h => hml (by omega)
          try simp only [go_sem, simprocAttr, hF, b3]
          repeat (first
            | (with_reducible (first | refine sops_go ?_ | refine headW_end ?_ | refine sops_end ?_ | refine awp_if ?_ | refine awp_skip ?_ | refine awp_ret ?_ | refine awp_exit ?_); simp only [go_sem, simprocAttr, hF, b3, h1, h2])
            | with_reducible (first | refine awp_seq_k fun _ _ => ?_ | refine awp_region [] ?_ | refine awp_block ?_)
            | go_step)
          rw [chkN, if_neg hb, if_neg (by rw [hpe]; decide), if_neg hb4, if_neg h128, if_pos hml]
        have h2 : ((n.mg.length : Int) != (n.lk.length : Int)) = false := by simp [hml]
        have hC : chkN n = lkGo n.nodes n.pow none n.lk n.mg := by rw [chkN, if_neg hb, if_neg (by rw [hpe]; decide), if_neg hb4, if_neg h128, if_neg (by rw [hml]; simp)]
        try simp only [go_sem, simprocAttr, hF, b3]
        repeat (first
          | (with_reducible (first | refine sops_go ?_ | refine headW_end ?_ | refine sops_end ?_ | refine awp_if ?_ | refine awp_skip ?_ | refine awp_ret ?_ | refine awp_exit ?_); simp only [go_sem, simprocAttr, hF, b3, h1, h2])
          | with_reducible (first | refine awp_seq_k fun _ _ => ?_ | refine awp_region [] ?_ | refine awp_block ?_)
          | go_step)
        refine awp_loop_by (ι := {k : Nat // k ≤ n.lk.length ∧ lkGo n.nodes n.pow none n.lk n.mg = lkGo n.nodes n.pow (if k = 0 then none else n.lk[k - 1]?) (n.lk.drop k) (n.mg.drop k)}) (fun k σ => ⟨(4, iv (k.1 : Int)) :: keepS [1, 2] σ.slot, σ.box, [], σ.ext⟩) (fun k => n.lk.length - k.1) ⟨0, by omega, rfl⟩ (sub_mk ?_) (fun R hR k => ?_)
        · simp only [go_sem, simprocAttr, hF]
          repeat' (first | rfl | refine ⟨?_, ?_⟩)
        obtain ⟨k, hk, hT⟩ := k
        dsimp only
        simp only [go_sem, simprocAttr, hF]
        by_cases hlt : k < n.lk.length
        case neg =>
          have hd : decide ((k : Int) < (n.lk.length : Int)) = false := decide_eq_false (by omega)
          repeat (first
            | (with_reducible (first | refine sops_go ?_ | refine headW_end ?_ | refine sops_end ?_ | refine awp_if ?_ | refine awp_skip ?_ | refine awp_ret ?_ | refine awp_exit ?_); simp only [go_sem, simprocAttr, hF, hd])
            | with_reducible (first | refine awp_seq_k fun _ _ => ?_ | refine awp_region [] ?_ | refine awp_block ?_)
            | go_step)
          rw [hC, hT, List.drop_of_length_le (by omega), lkGo]
        obtain ⟨d, hdk⟩ := get_of_lt hlt
        obtain ⟨m, hmk⟩ := get_of_lt (l := n.mg) (k := k) (by omega)
        have hd : decide ((k : Int) < (n.lk.length : Int)) = true := decide_eq_true (by omega)
        have hw : IntKind.i64.wrap ((k : Int) + 1) = ((k + 1 : Nat) : Int) := by rw [IntKind.wrap_i64]; omega
        obtain ⟨E, hE⟩ : ∃ E, E = lkE n.nodes n.pow (if k = 0 then none else n.lk[k - 1]?) d m := ⟨_, rfl⟩
        have hlk := link_ok n k d m hp hk' hdk hmk hpe hn
        rw [← hE] at hlk
        have hT' : lkGo n.nodes n.pow none n.lk n.mg = if E = 0 then lkGo n.nodes n.pow (some d) (n.lk.drop (k + 1)) (n.mg.drop (k + 1)) else E := by
          rw [hT, drop_of_get hdk, drop_of_get hmk, lkGo, hE]
          rfl
        repeat (first
          | (with_reducible (first | refine sops_go ?_ | refine headW_end ?_ | refine sops_end ?_ | refine awp_if ?_ | refine awp_skip ?_ | refine awp_ret ?_ | refine awp_exit ?_); simp only [go_sem, simprocAttr, hF, hd])
          | with_reducible (first | refine awp_seq_k fun _ _ => ?_ | refine awp_region [] ?_ | refine awp_block ?_)
          | go_step)
        refine ⟨_, hlk, ?_⟩
        simp only [go_sem, simprocAttr, hF]
        by_cases h0 : E = 0
        case neg =>
          have h1 : (E != 0) = true := by simpa using h0
          try simp only [go_sem, simprocAttr, hF, h1]
          repeat (first
            | (with_reducible (first | refine sops_go ?_ | refine headW_end ?_ | refine sops_end ?_ | refine awp_if ?_ | refine awp_skip ?_ | refine awp_ret ?_ | refine awp_exit ?_); simp only [go_sem, simprocAttr, hF, h1])
            | with_reducible (first | refine awp_seq_k fun _ _ => ?_ | refine awp_region [] ?_ | refine awp_block ?_)
            | go_step)
          rw [hC, hT', if_neg h0]
        have h1 : (E != 0) = false := by simpa using h0
        try simp only [go_sem, simprocAttr, hF, h1]
        repeat (first
          | (with_reducible (first | refine sops_go ?_ | refine headW_end ?_ | refine sops_end ?_ | refine awp_if ?_ | refine awp_skip ?_ | refine awp_ret ?_ | refine awp_exit ?_); simp only [go_sem, simprocAttr, hF, h1])
          | with_reducible (first | refine awp_seq_k fun _ _ => ?_ | refine awp_region [] ?_ | refine awp_block ?_)
          | go_step)
        refine ⟨⟨k + 1, by omega, by rw [hT', if_pos h0, if_neg (by omega), Nat.add_sub_cancel, hdk]⟩, by dsimp only; omega, hR _ _ (sub_mk ?_)⟩
        simp only [go_sem, simprocAttr, hF, hw]
/- The reference of routes, by abstract states. -/
attribute [local go_sem] Br.pv
set_option maxHeartbeats 2000000 in
theorem heard_ok (n : Net) (s : Int) (hN : NetOK n) (h0 : 0 ≤ s) (h1 : s ≤ 68719476736) : FnOK Tryz.prog 170 [.agg n.pv, iv s, iv 0] ⟨bv (heardB n s), none⟩ := by
  obtain ⟨w1, w2, w3⟩ := heard_nums hN h0 h1
  unfold heardB
  refine fn_ok Tryz.func170 (by kernel_rfl) rfl (by rw [Tryz.ntmps170]; exact of_decide_eq_true rfl) (fun F hF => ?_)
  rw [Tryz.ntmps170] at hF
  rw [Tryz.results170]
  repeat (first
    | (with_reducible (first | refine sops_go ?_ | refine headW_end ?_ | refine sops_end ?_ | refine awp_if ?_ | refine awp_skip ?_ | refine awp_ret ?_ | refine awp_exit ?_); simp only [go_sem, simprocAttr, hF, w1, w2, w3])
    | with_reducible (first | refine awp_seq_k fun _ _ => ?_ | refine awp_region [] ?_ | refine awp_block ?_)
    | go_step)
  all_goals (try rfl)

set_option maxHeartbeats 2000000 in
theorem rnode_ok (n : Net) (x : Int) : FnOK Tryz.prog 153 [.agg n.pv, iv x] ⟨bv (!outN n x), none⟩ := by
  refine fn_ok Tryz.func153 (by kernel_rfl) rfl (by rw [Tryz.ntmps153]; exact of_decide_eq_true rfl) (fun F hF => ?_)
  rw [Tryz.ntmps153] at hF
  rw [Tryz.results153]
  have g1 : decide (0 ≤ x) = !decide (x < 0) := by rw [Bool.eq_iff_iff]; simp
  have g2 : decide (x < n.nodes) = !decide (n.nodes ≤ x) := by rw [Bool.eq_iff_iff]; simp
  unfold outN
  cases h1 : decide (x < 0) <;> cases h2 : decide (n.nodes ≤ x) <;> rw [h1] at g1 <;> rw [h2] at g2
  · repeat (first
      | (with_reducible (first | refine sops_go ?_ | refine headW_end ?_ | refine sops_end ?_ | refine awp_if ?_ | refine awp_skip ?_ | refine awp_ret ?_ | refine awp_exit ?_); simp only [go_sem, simprocAttr, hF, g1, g2, Bool.not_true, Bool.not_false])
      | with_reducible (first | refine awp_seq_k fun _ _ => ?_ | refine awp_region [] ?_ | refine awp_block ?_)
      | go_step)
    all_goals (try rfl)
  · repeat (first
      | (with_reducible (first | refine sops_go ?_ | refine headW_end ?_ | refine sops_end ?_ | refine awp_if ?_ | refine awp_skip ?_ | refine awp_ret ?_ | refine awp_exit ?_); simp only [go_sem, simprocAttr, hF, g1, g2, Bool.not_true, Bool.not_false])
      | with_reducible (first | refine awp_seq_k fun _ _ => ?_ | refine awp_region [] ?_ | refine awp_block ?_)
      | go_step)
    all_goals (try rfl)
  · repeat (first
      | (with_reducible (first | refine sops_go ?_ | refine headW_end ?_ | refine sops_end ?_ | refine awp_if ?_ | refine awp_skip ?_ | refine awp_ret ?_ | refine awp_exit ?_); simp only [go_sem, simprocAttr, hF, g1, g2, Bool.not_true, Bool.not_false])
      | with_reducible (first | refine awp_seq_k fun _ _ => ?_ | refine awp_region [] ?_ | refine awp_block ?_)
      | go_step)
    all_goals (try rfl)
  · repeat (first
      | (with_reducible (first | refine sops_go ?_ | refine headW_end ?_ | refine sops_end ?_ | refine awp_if ?_ | refine awp_skip ?_ | refine awp_ret ?_ | refine awp_exit ?_); simp only [go_sem, simprocAttr, hF, g1, g2, Bool.not_true, Bool.not_false])
      | with_reducible (first | refine awp_seq_k fun _ _ => ?_ | refine awp_region [] ?_ | refine awp_block ?_)
      | go_step)
    all_goals (try rfl)

set_option maxHeartbeats 20000000 in
theorem rgood_ok (n : Net) (a b : Int) (hS : SmallN n) (hN : NetOK n) : FnOK Tryz.prog 154 [.agg n.pv, iv a, iv b] ⟨bv (goodL n a b), none⟩ := by
  unfold goodL
  have hab : idxP (fun l : Lk => l.fr == a && l.tt == b) n.lk 0 = idxL n a b := rfl
  have hba : idxP (fun l : Lk => l.fr == b && l.tt == a) n.lk 0 = idxL n b a := rfl
  refine fn_ok Tryz.func154 (by kernel_rfl) rfl (by rw [Tryz.ntmps154]; exact of_decide_eq_true rfl) (fun F hF => ?_)
  rw [Tryz.ntmps154] at hF
  rw [Tryz.results154]
  repeat (first
    | (with_reducible (first | refine sops_go ?_ | refine headW_end ?_ | refine sops_end ?_ | refine awp_if ?_ | refine awp_skip ?_ | refine awp_ret ?_ | refine awp_exit ?_); simp only [go_sem, simprocAttr, hF])
    | ((with_reducible refine headW_go ?_); simp only [go_sem, simprocAttr, hF, hbx])
    | with_reducible refine awp_seq_k fun _ _ => ?_
    | (refine awp_draw' (id := 1) [] 10 (by kernel_rfl) (by kernel_rfl) rfl rfl (fun bx0 hbx => ?_); try dsimp only [List.take, List.drop])
    | (refine awp_draw' (id := 2) [] 24 (by kernel_rfl) (by kernel_rfl) rfl rfl (fun bx0 hbx => ?_); try dsimp only [List.take, List.drop])
    | with_reducible (first | refine awp_region [] ?_ | refine awp_block ?_)
    | go_step)
  refine ⟨_, nfind_ok n a b hS.lk, ?_⟩
  simp only [go_sem, simprocAttr, hF, hab]
  repeat (first
    | (with_reducible (first | refine sops_go ?_ | refine headW_end ?_ | refine sops_end ?_ | refine awp_if ?_ | refine awp_skip ?_ | refine awp_ret ?_ | refine awp_exit ?_); simp only [go_sem, simprocAttr, hF, hab])
    | ((with_reducible refine headW_go ?_); simp only [go_sem, simprocAttr, hF, hab, hbx])
    | with_reducible refine awp_seq_k fun _ _ => ?_
    | (refine awp_draw' (id := 1) [] 10 (by kernel_rfl) (by kernel_rfl) rfl rfl (fun bx0 hbx => ?_); try dsimp only [List.take, List.drop])
    | (refine awp_draw' (id := 2) [] 24 (by kernel_rfl) (by kernel_rfl) rfl rfl (fun bx0 hbx => ?_); try dsimp only [List.take, List.drop])
    | with_reducible (first | refine awp_region [] ?_ | refine awp_block ?_)
    | go_step)
  refine ⟨_, nfind_ok n b a hS.lk, ?_⟩
  simp only [go_sem, simprocAttr, hF, hba]
  have dm : decide ((0 : Int) ≤ -1) = false := rfl
  rcases idxL_cases n a b with hk | ⟨k, y, hy, _, _, hk⟩
  · rw [hk]
    try simp only [go_sem, simprocAttr, hF, hab, hba, hk, dm]
    repeat (first
      | (with_reducible (first | refine sops_go ?_ | refine headW_end ?_ | refine sops_end ?_ | refine awp_if ?_ | refine awp_skip ?_ | refine awp_ret ?_ | refine awp_exit ?_); simp only [go_sem, simprocAttr, hF, hab, hba, hk, dm])
      | ((with_reducible refine headW_go ?_); simp only [go_sem, simprocAttr, hF, hab, hba, hk, dm, hbx])
      | with_reducible refine awp_seq_k fun _ _ => ?_
      | (refine awp_draw' (id := 1) [] 10 (by kernel_rfl) (by kernel_rfl) rfl rfl (fun bx0 hbx => ?_); try dsimp only [List.take, List.drop])
      | (refine awp_draw' (id := 2) [] 24 (by kernel_rfl) (by kernel_rfl) rfl rfl (fun bx0 hbx => ?_); try dsimp only [List.take, List.drop])
      | with_reducible (first | refine awp_region [] ?_ | refine awp_block ?_)
      | go_step)
    all_goals (try rfl)
  have dk : decide ((0 : Int) ≤ (k : Int)) = true := decide_eq_true (by omega)
  have hkl := (List.getElem?_eq_some_iff.1 hy).1
  obtain ⟨m1, hm1⟩ := get_of_lt (l := n.mg) (k := k) (by rw [hN.mg]; exact hkl)
  obtain ⟨p0, p1⟩ := hN.mgb k m1 hm1
  have hg1 : n.mg.getD (k : Int).toNat 0 = m1 := by rw [Int.toNat_natCast, List.getD_eq_getElem?_getD, hm1]; rfl
  have hk1 : n.mg.getD k 0 = m1 := by rw [List.getD_eq_getElem?_getD, hm1]; rfl
  rcases idxL_cases n b a with hq | ⟨q, z, hz, _, _, hq⟩
  · rw [hk, hq]
    try simp only [go_sem, simprocAttr, hF, hab, hba, hk, hq, dm, dk]
    repeat (first
      | (with_reducible (first | refine sops_go ?_ | refine headW_end ?_ | refine sops_end ?_ | refine awp_if ?_ | refine awp_skip ?_ | refine awp_ret ?_ | refine awp_exit ?_); simp only [go_sem, simprocAttr, hF, hab, hba, hk, hq, dm, dk])
      | ((with_reducible refine headW_go ?_); simp only [go_sem, simprocAttr, hF, hab, hba, hk, hq, dm, dk, hbx])
      | with_reducible refine awp_seq_k fun _ _ => ?_
      | (refine awp_draw' (id := 1) [] 10 (by kernel_rfl) (by kernel_rfl) rfl rfl (fun bx0 hbx => ?_); try dsimp only [List.take, List.drop])
      | (refine awp_draw' (id := 2) [] 24 (by kernel_rfl) (by kernel_rfl) rfl rfl (fun bx0 hbx => ?_); try dsimp only [List.take, List.drop])
      | with_reducible (first | refine awp_region [] ?_ | refine awp_block ?_)
      | go_step)
    all_goals (try rfl)
  have dq : decide ((0 : Int) ≤ (q : Int)) = true := decide_eq_true (by omega)
  have hql := (List.getElem?_eq_some_iff.1 hz).1
  obtain ⟨m2, hm2⟩ := get_of_lt (l := n.mg) (k := q) (by rw [hN.mg]; exact hql)
  obtain ⟨q0, q1⟩ := hN.mgb q m2 hm2
  have hg2 : n.mg.getD (q : Int).toNat 0 = m2 := by rw [Int.toNat_natCast, List.getD_eq_getElem?_getD, hm2]; rfl
  have hk2 : n.mg.getD q 0 = m2 := by rw [List.getD_eq_getElem?_getD, hm2]; rfl
  rw [hk, hq, hg1, hg2, dk, dq]
  try simp only [go_sem, simprocAttr, hF, hab, hba, hk, hq, dk, dq, hm1, hm2]
  repeat (first
    | (with_reducible (first | refine sops_go ?_ | refine headW_end ?_ | refine sops_end ?_ | refine awp_if ?_ | refine awp_skip ?_ | refine awp_ret ?_ | refine awp_exit ?_); simp only [go_sem, simprocAttr, hF, hab, hba, hk, hq, dk, dq, hm1, hm2])
    | ((with_reducible refine headW_go ?_); simp only [go_sem, simprocAttr, hF, hab, hba, hk, hq, dk, dq, hm1, hm2, hbx])
    | with_reducible refine awp_seq_k fun _ _ => ?_
    | (refine awp_draw' (id := 1) [] 10 (by kernel_rfl) (by kernel_rfl) rfl rfl (fun bx0 hbx => ?_); try dsimp only [List.take, List.drop])
    | (refine awp_draw' (id := 2) [] 24 (by kernel_rfl) (by kernel_rfl) rfl rfl (fun bx0 hbx => ?_); try dsimp only [List.take, List.drop])
    | with_reducible (first | refine awp_region [] ?_ | refine awp_block ?_)
    | go_step)
  refine ⟨_, heard_ok n m1 hN p0 p1, ?_⟩
  simp only [go_sem, simprocAttr, hF, hab, hba, hk, hq, dk, dq, hm1, hm2]
  cases e1 : heardB n m1 with
  | false =>
    try simp only [go_sem, simprocAttr, hF, hab, hba, hk, hq, dk, dq, hm1, hm2, e1]
    repeat (first
      | (with_reducible (first | refine sops_go ?_ | refine headW_end ?_ | refine sops_end ?_ | refine awp_if ?_ | refine awp_skip ?_ | refine awp_ret ?_ | refine awp_exit ?_); simp only [go_sem, simprocAttr, hF, hab, hba, hk, hq, dk, dq, hm1, hm2, e1])
      | ((with_reducible refine headW_go ?_); simp only [go_sem, simprocAttr, hF, hab, hba, hk, hq, dk, dq, hm1, hm2, e1, hbx])
      | with_reducible refine awp_seq_k fun _ _ => ?_
      | (refine awp_draw' (id := 1) [] 10 (by kernel_rfl) (by kernel_rfl) rfl rfl (fun bx0 hbx => ?_); try dsimp only [List.take, List.drop])
      | (refine awp_draw' (id := 2) [] 24 (by kernel_rfl) (by kernel_rfl) rfl rfl (fun bx0 hbx => ?_); try dsimp only [List.take, List.drop])
      | with_reducible (first | refine awp_region [] ?_ | refine awp_block ?_)
      | go_step)
    all_goals (try rw [hk1, hk2, e1])
    all_goals (try rfl)
  | true =>
    try simp only [go_sem, simprocAttr, hF, hab, hba, hk, hq, dk, dq, hm1, hm2, e1]
    repeat (first
      | (with_reducible (first | refine sops_go ?_ | refine headW_end ?_ | refine sops_end ?_ | refine awp_if ?_ | refine awp_skip ?_ | refine awp_ret ?_ | refine awp_exit ?_); simp only [go_sem, simprocAttr, hF, hab, hba, hk, hq, dk, dq, hm1, hm2, e1])
      | ((with_reducible refine headW_go ?_); simp only [go_sem, simprocAttr, hF, hab, hba, hk, hq, dk, dq, hm1, hm2, e1, hbx])
      | with_reducible refine awp_seq_k fun _ _ => ?_
      | (refine awp_draw' (id := 1) [] 10 (by kernel_rfl) (by kernel_rfl) rfl rfl (fun bx0 hbx => ?_); try dsimp only [List.take, List.drop])
      | (refine awp_draw' (id := 2) [] 24 (by kernel_rfl) (by kernel_rfl) rfl rfl (fun bx0 hbx => ?_); try dsimp only [List.take, List.drop])
      | with_reducible (first | refine awp_region [] ?_ | refine awp_block ?_)
      | go_step)
    refine ⟨_, heard_ok n m2 hN q0 q1, ?_⟩
    simp only [go_sem, simprocAttr, hF, hab, hba, hk, hq, dk, dq, hm1, hm2]
    repeat (first
      | (with_reducible (first | refine sops_go ?_ | refine headW_end ?_ | refine sops_end ?_ | refine awp_if ?_ | refine awp_skip ?_ | refine awp_ret ?_ | refine awp_exit ?_); simp only [go_sem, simprocAttr, hF, hab, hba, hk, hq, dk, dq, hm1, hm2])
      | ((with_reducible refine headW_go ?_); simp only [go_sem, simprocAttr, hF, hab, hba, hk, hq, dk, dq, hm1, hm2, hbx])
      | with_reducible refine awp_seq_k fun _ _ => ?_
      | (refine awp_draw' (id := 1) [] 10 (by kernel_rfl) (by kernel_rfl) rfl rfl (fun bx0 hbx => ?_); try dsimp only [List.take, List.drop])
      | (refine awp_draw' (id := 2) [] 24 (by kernel_rfl) (by kernel_rfl) rfl rfl (fun bx0 hbx => ?_); try dsimp only [List.take, List.drop])
      | with_reducible (first | refine awp_region [] ?_ | refine awp_block ?_)
      | go_step)
    all_goals (try rw [hk1, hk2, e1])
    all_goals (try rfl)

set_option maxHeartbeats 2000000 in
theorem rends33_ok (n : Net) (a b : Int) (hS : SmallN n) (hc : chkN n = 0) (ha : 0 ≤ a ∧ a < n.nodes) (hb : 0 ≤ b ∧ b < n.nodes) (hab : a ≠ b) : FnOK Tryz.prog 107 [.agg n.pv, iv a, iv b] ⟨iv 0, none⟩ := by
  have he : (chkN n != 0) = false := by rw [hc]; rfl
  have o1 : outN n a = false := by unfold outN; rw [decide_eq_false (by omega), decide_eq_false (by omega)]; rfl
  have o2 : outN n b = false := by unfold outN; rw [decide_eq_false (by omega), decide_eq_false (by omega)]; rfl
  have h3 : (a == b) = false := by simpa using hab
  refine fn_ok Tryz.func107 (by kernel_rfl) rfl (by rw [Tryz.ntmps107]; exact of_decide_eq_true rfl) (fun F hF => ?_)
  rw [Tryz.ntmps107] at hF
  rw [Tryz.results107]
  repeat (first
    | (with_reducible (first | refine sops_go ?_ | refine headW_end ?_ | refine sops_end ?_ | refine awp_if ?_ | refine awp_skip ?_ | refine awp_ret ?_ | refine awp_exit ?_); simp only [go_sem, simprocAttr, hF])
    | with_reducible (first | refine awp_seq_k fun _ _ => ?_ | refine awp_region [] ?_ | refine awp_block ?_)
    | go_step)
  refine ⟨_, ncheckR_ok n hS.pow hS.rows hS.lk hS.mg, ?_⟩
  simp only [go_sem, simprocAttr, hF, he]
  repeat (first
    | (with_reducible (first | refine sops_go ?_ | refine headW_end ?_ | refine sops_end ?_ | refine awp_if ?_ | refine awp_skip ?_ | refine awp_ret ?_ | refine awp_exit ?_); simp only [go_sem, simprocAttr, hF, he])
    | with_reducible (first | refine awp_seq_k fun _ _ => ?_ | refine awp_region [] ?_ | refine awp_block ?_)
    | go_step)
  refine ⟨_, rnode_ok n a, ?_⟩
  simp only [go_sem, simprocAttr, hF, o1]
  repeat (first
    | (with_reducible (first | refine sops_go ?_ | refine headW_end ?_ | refine sops_end ?_ | refine awp_if ?_ | refine awp_skip ?_ | refine awp_ret ?_ | refine awp_exit ?_); simp only [go_sem, simprocAttr, hF, o1])
    | with_reducible (first | refine awp_seq_k fun _ _ => ?_ | refine awp_region [] ?_ | refine awp_block ?_)
    | go_step)
  refine ⟨_, rnode_ok n b, ?_⟩
  simp only [go_sem, simprocAttr, hF, o2]
  repeat (first
    | (with_reducible (first | refine sops_go ?_ | refine headW_end ?_ | refine sops_end ?_ | refine awp_if ?_ | refine awp_skip ?_ | refine awp_ret ?_ | refine awp_exit ?_); simp only [go_sem, simprocAttr, hF, o2, h3])
    | with_reducible (first | refine awp_seq_k fun _ _ => ?_ | refine awp_region [] ?_ | refine awp_block ?_)
    | go_step)
  all_goals (try rfl)

set_option maxHeartbeats 20000000 in
theorem rfault33_ok (n : Net) (a b : Int) (p : List Int) (hS : SmallN n) (hc : chkN n = 0) (hl : p.length ≤ 1000000) : FnOK Tryz.prog 108 [.agg n.pv, iv a, iv b, .sl 1 (p.map irow_pv)] ⟨iv (routeE n a b p), none⟩ := by
  have hlen : p.length ≤ 1000000 := hl
  have hN := netOK hc
  refine fn_ok Tryz.func108 (by kernel_rfl) rfl (by rw [Tryz.ntmps108]; exact of_decide_eq_true rfl) (fun F hF => ?_)
  rw [Tryz.ntmps108] at hF
  rw [Tryz.results108]
  by_cases c1 : p.length < 2
  case pos =>
    have e1 : decide ((p.length : Int) < 2) = true := by first | exact decide_eq_true (by omega) | simpa using c1
    repeat (first
      | (with_reducible (first | refine sops_go ?_ | refine headW_end ?_ | refine sops_end ?_ | refine awp_if ?_ | refine awp_skip ?_ | refine awp_ret ?_ | refine awp_exit ?_); simp only [go_sem, simprocAttr, hF, e1])
      | ((with_reducible refine headW_go ?_); simp only [go_sem, simprocAttr, hF, e1, hbx])
      | with_reducible refine awp_seq_k fun _ _ => ?_
      | (refine awp_draw' (id := 8) [] 7 (by kernel_rfl) (by kernel_rfl) rfl rfl (fun bx0 hbx => ?_); try dsimp only [List.take, List.drop])
      | (refine awp_draw' (id := 18) [] 9 (by kernel_rfl) (by kernel_rfl) rfl rfl (fun bx0 hbx => ?_); try dsimp only [List.take, List.drop])
      | (refine awp_draw' (id := 23) [] 12 (by kernel_rfl) (by kernel_rfl) rfl rfl (fun bx0 hbx => ?_); try dsimp only [List.take, List.drop])
      | with_reducible (first | refine awp_region [] ?_ | refine awp_block ?_)
      | go_step)
    rw [routeE, if_pos c1]
  have e1 : decide ((p.length : Int) < 2) = false := by first | exact decide_eq_false (by omega) | simpa using c1
  have w1 : IntKind.i64.wrap ((p.length : Int) - 1) = ((p.length - 1 : Nat) : Int) := by rw [IntKind.wrap_i64]; omega
  by_cases c2 : 9 < p.length
  case pos =>
    have e2 : decide ((8 : Int) < ((p.length - 1 : Nat) : Int)) = true := by first | exact decide_eq_true (by omega) | simpa using c2
    repeat (first
      | (with_reducible (first | refine sops_go ?_ | refine headW_end ?_ | refine sops_end ?_ | refine awp_if ?_ | refine awp_skip ?_ | refine awp_ret ?_ | refine awp_exit ?_); simp only [go_sem, simprocAttr, hF, e1, w1, e2])
      | ((with_reducible refine headW_go ?_); simp only [go_sem, simprocAttr, hF, e1, w1, e2, hbx])
      | with_reducible refine awp_seq_k fun _ _ => ?_
      | (refine awp_draw' (id := 8) [] 7 (by kernel_rfl) (by kernel_rfl) rfl rfl (fun bx0 hbx => ?_); try dsimp only [List.take, List.drop])
      | (refine awp_draw' (id := 18) [] 9 (by kernel_rfl) (by kernel_rfl) rfl rfl (fun bx0 hbx => ?_); try dsimp only [List.take, List.drop])
      | (refine awp_draw' (id := 23) [] 12 (by kernel_rfl) (by kernel_rfl) rfl rfl (fun bx0 hbx => ?_); try dsimp only [List.take, List.drop])
      | with_reducible (first | refine awp_region [] ?_ | refine awp_block ?_)
      | go_step)
    rw [routeE, if_neg c1, if_pos c2]
  have e2 : decide ((8 : Int) < ((p.length - 1 : Nat) : Int)) = false := by first | exact decide_eq_false (by omega) | simpa using c2
  repeat (first
    | (with_reducible (first | refine sops_go ?_ | refine headW_end ?_ | refine sops_end ?_ | refine awp_if ?_ | refine awp_skip ?_ | refine awp_ret ?_ | refine awp_exit ?_); simp only [go_sem, simprocAttr, hF, e1, w1, e2])
    | ((with_reducible refine headW_go ?_); simp only [go_sem, simprocAttr, hF, e1, w1, e2, hbx])
    | with_reducible refine awp_seq_k fun _ _ => ?_
    | (refine awp_draw' (id := 8) [] 7 (by kernel_rfl) (by kernel_rfl) rfl rfl (fun bx0 hbx => ?_); try dsimp only [List.take, List.drop])
    | (refine awp_draw' (id := 18) [] 9 (by kernel_rfl) (by kernel_rfl) rfl rfl (fun bx0 hbx => ?_); try dsimp only [List.take, List.drop])
    | (refine awp_draw' (id := 23) [] 12 (by kernel_rfl) (by kernel_rfl) rfl rfl (fun bx0 hbx => ?_); try dsimp only [List.take, List.drop])
    | with_reducible (first | refine awp_region [] ?_ | refine awp_block ?_)
    | go_step)
  refine awp_loop_by (ι := {k : Nat // k ≤ p.length ∧ (p.take k).any (outN n) = false}) (fun k σ => ⟨(9, iv (k.1 : Int)) :: keepS [1, 2, 3, 4] σ.slot, keepS [4] σ.box, [], σ.ext⟩) (fun k => p.length - k.1) ⟨0, by omega, rfl⟩ (sub_mk ?_) (fun R hR k => ?_)
  · simp only [go_sem, simprocAttr, hF]
    repeat' (first | rfl | refine ⟨?_, ?_⟩)
  obtain ⟨k, hk, hT⟩ := k
  dsimp only
  simp only [go_sem, simprocAttr, hF]
  by_cases hlt : k < p.length
  case pos =>
    obtain ⟨d, hdk⟩ := get_of_lt hlt
    have hd : decide ((k : Int) < (p.length : Int)) = true := decide_eq_true (by omega)
    have hw : IntKind.i64.wrap ((k : Int) + 1) = ((k + 1 : Nat) : Int) := by rw [IntKind.wrap_i64]; omega
    repeat (first
      | (with_reducible (first | refine sops_go ?_ | refine headW_end ?_ | refine sops_end ?_ | refine awp_if ?_ | refine awp_skip ?_ | refine awp_ret ?_ | refine awp_exit ?_); simp only [go_sem, simprocAttr, hF, hd, hdk])
      | ((with_reducible refine headW_go ?_); simp only [go_sem, simprocAttr, hF, hd, hdk, hbx])
      | with_reducible refine awp_seq_k fun _ _ => ?_
      | (refine awp_draw' (id := 8) [] 7 (by kernel_rfl) (by kernel_rfl) rfl rfl (fun bx0 hbx => ?_); try dsimp only [List.take, List.drop])
      | (refine awp_draw' (id := 18) [] 9 (by kernel_rfl) (by kernel_rfl) rfl rfl (fun bx0 hbx => ?_); try dsimp only [List.take, List.drop])
      | (refine awp_draw' (id := 23) [] 12 (by kernel_rfl) (by kernel_rfl) rfl rfl (fun bx0 hbx => ?_); try dsimp only [List.take, List.drop])
      | with_reducible (first | refine awp_region [] ?_ | refine awp_block ?_)
      | go_step)
    refine ⟨_, rnode_ok n d, ?_⟩
    simp only [go_sem, simprocAttr, hF]
    cases eo : outN n d with
    | true =>
      have hany : p.any (outN n) = true := List.any_eq_true.2 ⟨d, List.mem_of_getElem? hdk, eo⟩
      try simp only [go_sem, simprocAttr, hF, eo]
      repeat (first
        | (with_reducible (first | refine sops_go ?_ | refine headW_end ?_ | refine sops_end ?_ | refine awp_if ?_ | refine awp_skip ?_ | refine awp_ret ?_ | refine awp_exit ?_); simp only [go_sem, simprocAttr, hF, eo])
        | ((with_reducible refine headW_go ?_); simp only [go_sem, simprocAttr, hF, eo, hbx])
        | with_reducible refine awp_seq_k fun _ _ => ?_
        | (refine awp_draw' (id := 8) [] 7 (by kernel_rfl) (by kernel_rfl) rfl rfl (fun bx0 hbx => ?_); try dsimp only [List.take, List.drop])
        | (refine awp_draw' (id := 18) [] 9 (by kernel_rfl) (by kernel_rfl) rfl rfl (fun bx0 hbx => ?_); try dsimp only [List.take, List.drop])
        | (refine awp_draw' (id := 23) [] 12 (by kernel_rfl) (by kernel_rfl) rfl rfl (fun bx0 hbx => ?_); try dsimp only [List.take, List.drop])
        | with_reducible (first | refine awp_region [] ?_ | refine awp_block ?_)
        | go_step)
      rw [routeE, if_neg c1, if_neg c2, if_pos hany]
    | false =>
      try simp only [go_sem, simprocAttr, hF, eo]
      repeat (first
        | (with_reducible (first | refine sops_go ?_ | refine headW_end ?_ | refine sops_end ?_ | refine awp_if ?_ | refine awp_skip ?_ | refine awp_ret ?_ | refine awp_exit ?_); simp only [go_sem, simprocAttr, hF, eo])
        | ((with_reducible refine headW_go ?_); simp only [go_sem, simprocAttr, hF, eo, hbx])
        | with_reducible refine awp_seq_k fun _ _ => ?_
        | (refine awp_draw' (id := 8) [] 7 (by kernel_rfl) (by kernel_rfl) rfl rfl (fun bx0 hbx => ?_); try dsimp only [List.take, List.drop])
        | (refine awp_draw' (id := 18) [] 9 (by kernel_rfl) (by kernel_rfl) rfl rfl (fun bx0 hbx => ?_); try dsimp only [List.take, List.drop])
        | (refine awp_draw' (id := 23) [] 12 (by kernel_rfl) (by kernel_rfl) rfl rfl (fun bx0 hbx => ?_); try dsimp only [List.take, List.drop])
        | with_reducible (first | refine awp_region [] ?_ | refine awp_block ?_)
        | go_step)
      refine ⟨⟨k + 1, by omega, by rw [List.take_add_one, hdk, List.any_append, hT]; simp [eo]⟩, by dsimp only; omega, hR _ _ (sub_mk ?_)⟩
      simp only [go_sem, simprocAttr, hF, hw]
  have hd : decide ((k : Int) < (p.length : Int)) = false := decide_eq_false (by omega)
  rw [List.take_of_length_le (by omega)] at hT
  have hne3 : ¬ p.any (outN n) = true := by rw [hT]; decide
  obtain ⟨x0, hx0⟩ := get_of_lt (l := p) (k := 0) (by omega)
  obtain ⟨x1, hx1⟩ := get_of_lt (l := p) (k := p.length - 1) (by omega)
  have q0 : p.getD 0 0 = x0 := by rw [List.getD_eq_getElem?_getD, hx0]; rfl
  have q1 : p.getD (p.length - 1) 0 = x1 := by rw [List.getD_eq_getElem?_getD, hx1]; rfl
  have z0 : Int.toNat 0 = 0 := rfl
  by_cases h4 : x0 = a
  case neg =>
    have e4 : (x0 != a) = true := by simpa using h4
    repeat (first
      | (with_reducible (first | refine sops_go ?_ | refine headW_end ?_ | refine sops_end ?_ | refine awp_if ?_ | refine awp_skip ?_ | refine awp_ret ?_ | refine awp_exit ?_); simp only [go_sem, simprocAttr, hF, hd, z0, hx0, e4])
      | ((with_reducible refine headW_go ?_); simp only [go_sem, simprocAttr, hF, hd, z0, hx0, e4, hbx])
      | with_reducible refine awp_seq_k fun _ _ => ?_
      | (refine awp_draw' (id := 8) [] 7 (by kernel_rfl) (by kernel_rfl) rfl rfl (fun bx0 hbx => ?_); try dsimp only [List.take, List.drop])
      | (refine awp_draw' (id := 18) [] 9 (by kernel_rfl) (by kernel_rfl) rfl rfl (fun bx0 hbx => ?_); try dsimp only [List.take, List.drop])
      | (refine awp_draw' (id := 23) [] 12 (by kernel_rfl) (by kernel_rfl) rfl rfl (fun bx0 hbx => ?_); try dsimp only [List.take, List.drop])
      | with_reducible (first | refine awp_region [] ?_ | refine awp_block ?_)
      | go_step)
    rw [routeE, if_neg c1, if_neg c2, if_neg hne3, if_pos (.inl (by rw [q0]; exact h4))]
  have e4 : (x0 != a) = false := by simpa using h4
  by_cases h5 : x1 = b
  case neg =>
    have e5 : (x1 != b) = true := by simpa using h5
    repeat (first
      | (with_reducible (first | refine sops_go ?_ | refine headW_end ?_ | refine sops_end ?_ | refine awp_if ?_ | refine awp_skip ?_ | refine awp_ret ?_ | refine awp_exit ?_); simp only [go_sem, simprocAttr, hF, hd, z0, hx0, e4, w1, hx1, e5])
      | ((with_reducible refine headW_go ?_); simp only [go_sem, simprocAttr, hF, hd, z0, hx0, e4, w1, hx1, e5, hbx])
      | with_reducible refine awp_seq_k fun _ _ => ?_
      | (refine awp_draw' (id := 8) [] 7 (by kernel_rfl) (by kernel_rfl) rfl rfl (fun bx0 hbx => ?_); try dsimp only [List.take, List.drop])
      | (refine awp_draw' (id := 18) [] 9 (by kernel_rfl) (by kernel_rfl) rfl rfl (fun bx0 hbx => ?_); try dsimp only [List.take, List.drop])
      | (refine awp_draw' (id := 23) [] 12 (by kernel_rfl) (by kernel_rfl) rfl rfl (fun bx0 hbx => ?_); try dsimp only [List.take, List.drop])
      | with_reducible (first | refine awp_region [] ?_ | refine awp_block ?_)
      | go_step)
    rw [routeE, if_neg c1, if_neg c2, if_neg hne3, if_pos (.inr (by rw [q1]; exact h5))]
  have e5 : (x1 != b) = false := by simpa using h5
  have hne4 : ¬ (p.getD 0 0 ≠ a ∨ p.getD (p.length - 1) 0 ≠ b) := by rw [q0, q1]; rintro (h | h); exact h h4; exact h h5
  have hRt : routeE n a b p = if dupB p = true then 6 else if gapB n p = true then 17 else 0 := by rw [routeE, if_neg c1, if_neg c2, if_neg hne3, if_neg hne4]
  repeat (first
    | (with_reducible (first | refine sops_go ?_ | refine headW_end ?_ | refine sops_end ?_ | refine awp_if ?_ | refine awp_skip ?_ | refine awp_ret ?_ | refine awp_exit ?_); simp only [go_sem, simprocAttr, hF, hd, z0, hx0, e4, w1, hx1, e5])
    | ((with_reducible refine headW_go ?_); simp only [go_sem, simprocAttr, hF, hd, z0, hx0, e4, w1, hx1, e5, hbx])
    | with_reducible refine awp_seq_k fun _ _ => ?_
    | (refine awp_draw' (id := 8) [] 7 (by kernel_rfl) (by kernel_rfl) rfl rfl (fun bx0 hbx => ?_); try dsimp only [List.take, List.drop])
    | (refine awp_draw' (id := 18) [] 9 (by kernel_rfl) (by kernel_rfl) rfl rfl (fun bx0 hbx => ?_); try dsimp only [List.take, List.drop])
    | (refine awp_draw' (id := 23) [] 12 (by kernel_rfl) (by kernel_rfl) rfl rfl (fun bx0 hbx => ?_); try dsimp only [List.take, List.drop])
    | with_reducible (first | refine awp_region [] ?_ | refine awp_block ?_)
    | go_step)
  refine awp_loop_by (ι := {i : Nat // i ≤ p.length ∧ (List.range i).any (dupAt p) = false}) (fun i σ => ⟨(10, iv (i.1 : Int)) :: keepS [3, 4] σ.slot, keepS [4] σ.box, [], σ.ext⟩) (fun i => p.length - i.1) ⟨0, by omega, rfl⟩ (sub_mk ?_) (fun R2 hR2 i => ?_)
  · simp only [go_sem, simprocAttr, hF]
    repeat' (first | rfl | refine ⟨?_, ?_⟩)
  obtain ⟨i, hi, hU⟩ := i
  dsimp only
  simp only [go_sem, simprocAttr, hF]
  by_cases hit : i < p.length
  case pos =>
    obtain ⟨x, hx⟩ := get_of_lt hit
    have hdi : decide ((i : Int) < (p.length : Int)) = true := decide_eq_true (by omega)
    have hwi : IntKind.i64.wrap ((i : Int) + 1) = ((i + 1 : Nat) : Int) := by rw [IntKind.wrap_i64]; omega
    have hD : dupAt p i = (p.take i).any (fun y => x == y) := by unfold dupAt; rw [List.getD_eq_getElem?_getD, hx]; rfl
    repeat (first
      | (with_reducible (first | refine sops_go ?_ | refine headW_end ?_ | refine sops_end ?_ | refine awp_if ?_ | refine awp_skip ?_ | refine awp_ret ?_ | refine awp_exit ?_); simp only [go_sem, simprocAttr, hF, hdi])
      | ((with_reducible refine headW_go ?_); simp only [go_sem, simprocAttr, hF, hdi, hbx])
      | with_reducible refine awp_seq_k fun _ _ => ?_
      | (refine awp_draw' (id := 8) [] 7 (by kernel_rfl) (by kernel_rfl) rfl rfl (fun bx0 hbx => ?_); try dsimp only [List.take, List.drop])
      | (refine awp_draw' (id := 18) [] 9 (by kernel_rfl) (by kernel_rfl) rfl rfl (fun bx0 hbx => ?_); try dsimp only [List.take, List.drop])
      | (refine awp_draw' (id := 23) [] 12 (by kernel_rfl) (by kernel_rfl) rfl rfl (fun bx0 hbx => ?_); try dsimp only [List.take, List.drop])
      | with_reducible (first | refine awp_region [] ?_ | refine awp_block ?_)
      | go_step)
    refine awp_loop_by (ι := {j : Nat // j ≤ i ∧ (p.take j).any (fun y => x == y) = false}) (fun j σ => ⟨(11, iv (j.1 : Int)) :: keepS [3, 4, 10] σ.slot, keepS [4] σ.box, [], σ.ext⟩) (fun j => i - j.1) ⟨0, by omega, rfl⟩ (sub_mk ?_) (fun R3 hR3 j => ?_)
    · simp only [go_sem, simprocAttr, hF]
      repeat' (first | rfl | refine ⟨?_, ?_⟩)
    obtain ⟨j, hj, hV⟩ := j
    dsimp only
    simp only [go_sem, simprocAttr, hF]
    by_cases hjt : j < i
    case pos =>
      obtain ⟨y, hy⟩ := get_of_lt (l := p) (k := j) (by omega)
      have hdj : decide ((j : Int) < (i : Int)) = true := decide_eq_true (by omega)
      have hwj : IntKind.i64.wrap ((j : Int) + 1) = ((j + 1 : Nat) : Int) := by rw [IntKind.wrap_i64]; omega
      cases exy : (x == y) with
      | true =>
        have hdup : dupB p = true := List.any_eq_true.2 ⟨i, List.mem_range.2 hit, by rw [hD]; exact List.any_eq_true.2 ⟨y, List.mem_of_getElem? (i := j) (by rw [List.getElem?_take_of_lt hjt, hy]), exy⟩⟩
        repeat (first
          | (with_reducible (first | refine sops_go ?_ | refine headW_end ?_ | refine sops_end ?_ | refine awp_if ?_ | refine awp_skip ?_ | refine awp_ret ?_ | refine awp_exit ?_); simp only [go_sem, simprocAttr, hF, hdj, hx, hy, exy])
          | ((with_reducible refine headW_go ?_); simp only [go_sem, simprocAttr, hF, hdj, hx, hy, exy, hbx])
          | with_reducible refine awp_seq_k fun _ _ => ?_
          | (refine awp_draw' (id := 8) [] 7 (by kernel_rfl) (by kernel_rfl) rfl rfl (fun bx0 hbx => ?_); try dsimp only [List.take, List.drop])
          | (refine awp_draw' (id := 18) [] 9 (by kernel_rfl) (by kernel_rfl) rfl rfl (fun bx0 hbx => ?_); try dsimp only [List.take, List.drop])
          | (refine awp_draw' (id := 23) [] 12 (by kernel_rfl) (by kernel_rfl) rfl rfl (fun bx0 hbx => ?_); try dsimp only [List.take, List.drop])
          | with_reducible (first | refine awp_region [] ?_ | refine awp_block ?_)
          | go_step)
        rw [hRt, if_pos hdup]
      | false =>
        repeat (first
          | (with_reducible (first | refine sops_go ?_ | refine headW_end ?_ | refine sops_end ?_ | refine awp_if ?_ | refine awp_skip ?_ | refine awp_ret ?_ | refine awp_exit ?_); simp only [go_sem, simprocAttr, hF, hdj, hx, hy, exy])
          | ((with_reducible refine headW_go ?_); simp only [go_sem, simprocAttr, hF, hdj, hx, hy, exy, hbx])
          | with_reducible refine awp_seq_k fun _ _ => ?_
          | (refine awp_draw' (id := 8) [] 7 (by kernel_rfl) (by kernel_rfl) rfl rfl (fun bx0 hbx => ?_); try dsimp only [List.take, List.drop])
          | (refine awp_draw' (id := 18) [] 9 (by kernel_rfl) (by kernel_rfl) rfl rfl (fun bx0 hbx => ?_); try dsimp only [List.take, List.drop])
          | (refine awp_draw' (id := 23) [] 12 (by kernel_rfl) (by kernel_rfl) rfl rfl (fun bx0 hbx => ?_); try dsimp only [List.take, List.drop])
          | with_reducible (first | refine awp_region [] ?_ | refine awp_block ?_)
          | go_step)
        refine ⟨⟨j + 1, by omega, by rw [List.take_add_one, hy, List.any_append, hV]; simp [exy]⟩, by dsimp only; omega, hR3 _ _ (sub_mk ?_)⟩
        simp only [go_sem, simprocAttr, hF, hwj]
    have hdj : decide ((j : Int) < (i : Int)) = false := decide_eq_false (by omega)
    obtain rfl : j = i := by omega
    repeat (first
      | (with_reducible (first | refine sops_go ?_ | refine headW_end ?_ | refine sops_end ?_ | refine awp_if ?_ | refine awp_skip ?_ | refine awp_ret ?_ | refine awp_exit ?_); simp only [go_sem, simprocAttr, hF, hdj])
      | ((with_reducible refine headW_go ?_); simp only [go_sem, simprocAttr, hF, hdj, hbx])
      | with_reducible refine awp_seq_k fun _ _ => ?_
      | (refine awp_draw' (id := 8) [] 7 (by kernel_rfl) (by kernel_rfl) rfl rfl (fun bx0 hbx => ?_); try dsimp only [List.take, List.drop])
      | (refine awp_draw' (id := 18) [] 9 (by kernel_rfl) (by kernel_rfl) rfl rfl (fun bx0 hbx => ?_); try dsimp only [List.take, List.drop])
      | (refine awp_draw' (id := 23) [] 12 (by kernel_rfl) (by kernel_rfl) rfl rfl (fun bx0 hbx => ?_); try dsimp only [List.take, List.drop])
      | with_reducible (first | refine awp_region [] ?_ | refine awp_block ?_)
      | go_step)
    refine ⟨⟨j + 1, by omega, by rw [List.range_succ, List.any_append, hU, List.any_cons, hD, hV]; rfl⟩, by dsimp only; omega, hR2 _ _ (sub_mk ?_)⟩
    simp only [go_sem, simprocAttr, hF, hwi]
  have hdi : decide ((i : Int) < (p.length : Int)) = false := decide_eq_false (by omega)
  obtain rfl : i = p.length := by omega
  have hdup : ¬ dupB p = true := by unfold dupB; rw [hU]; decide
  repeat (first
    | (with_reducible (first | refine sops_go ?_ | refine headW_end ?_ | refine sops_end ?_ | refine awp_if ?_ | refine awp_skip ?_ | refine awp_ret ?_ | refine awp_exit ?_); simp only [go_sem, simprocAttr, hF, hdi])
    | ((with_reducible refine headW_go ?_); simp only [go_sem, simprocAttr, hF, hdi, hbx])
    | with_reducible refine awp_seq_k fun _ _ => ?_
    | (refine awp_draw' (id := 8) [] 7 (by kernel_rfl) (by kernel_rfl) rfl rfl (fun bx0 hbx => ?_); try dsimp only [List.take, List.drop])
    | (refine awp_draw' (id := 18) [] 9 (by kernel_rfl) (by kernel_rfl) rfl rfl (fun bx0 hbx => ?_); try dsimp only [List.take, List.drop])
    | (refine awp_draw' (id := 23) [] 12 (by kernel_rfl) (by kernel_rfl) rfl rfl (fun bx0 hbx => ?_); try dsimp only [List.take, List.drop])
    | with_reducible (first | refine awp_region [] ?_ | refine awp_block ?_)
    | go_step)
  refine awp_loop_by (ι := {s : Nat // 1 ≤ s ∧ s ≤ p.length ∧ (List.range (s - 1)).any (gapAt n p) = false}) (fun s σ => ⟨(12, iv (s.1 : Int)) :: keepS [3, 4] σ.slot, keepS [4] σ.box, [], σ.ext⟩) (fun s => p.length - s.1) ⟨1, by omega, by omega, rfl⟩ (sub_mk ?_) (fun R4 hR4 s => ?_)
  · simp only [go_sem, simprocAttr, hF]
    repeat' (first | rfl | exact True.intro | refine ⟨?_, ?_⟩)
  obtain ⟨s, hs1, hs, hV⟩ := s
  dsimp only
  simp only [go_sem, simprocAttr, hF]
  by_cases hst : s < p.length
  case neg =>
    have hds : decide ((s : Int) < (p.length : Int)) = false := decide_eq_false (by omega)
    obtain rfl : s = p.length := by omega
    have hgap : ¬ gapB n p = true := by unfold gapB; rw [hV]; decide
    repeat (first
      | (with_reducible (first | refine sops_go ?_ | refine headW_end ?_ | refine sops_end ?_ | refine awp_if ?_ | refine awp_skip ?_ | refine awp_ret ?_ | refine awp_exit ?_); simp only [go_sem, simprocAttr, hF, hds])
      | ((with_reducible refine headW_go ?_); simp only [go_sem, simprocAttr, hF, hds, hbx])
      | with_reducible refine awp_seq_k fun _ _ => ?_
      | (refine awp_draw' (id := 8) [] 7 (by kernel_rfl) (by kernel_rfl) rfl rfl (fun bx0 hbx => ?_); try dsimp only [List.take, List.drop])
      | (refine awp_draw' (id := 18) [] 9 (by kernel_rfl) (by kernel_rfl) rfl rfl (fun bx0 hbx => ?_); try dsimp only [List.take, List.drop])
      | (refine awp_draw' (id := 23) [] 12 (by kernel_rfl) (by kernel_rfl) rfl rfl (fun bx0 hbx => ?_); try dsimp only [List.take, List.drop])
      | with_reducible (first | refine awp_region [] ?_ | refine awp_block ?_)
      | go_step)
    rw [hRt, if_neg hdup, if_neg hgap]
  have hds : decide ((s : Int) < (p.length : Int)) = true := decide_eq_true (by omega)
  have hws : IntKind.i64.wrap ((s : Int) + 1) = ((s + 1 : Nat) : Int) := by rw [IntKind.wrap_i64]; omega
  have wm : IntKind.i64.wrap ((s : Int) - 1) = ((s - 1 : Nat) : Int) := by rw [IntKind.wrap_i64]; omega
  obtain ⟨x, hx⟩ := get_of_lt (l := p) (k := s - 1) (by omega)
  obtain ⟨y, hy⟩ := get_of_lt (l := p) (k := s) hst
  have hG : gapAt n p (s - 1) = !goodL n x y := by unfold gapAt; rw [List.getD_eq_getElem?_getD, List.getD_eq_getElem?_getD, hx, show s - 1 + 1 = s by omega, hy]; rfl
  repeat (first
    | (with_reducible (first | refine sops_go ?_ | refine headW_end ?_ | refine sops_end ?_ | refine awp_if ?_ | refine awp_skip ?_ | refine awp_ret ?_ | refine awp_exit ?_); simp only [go_sem, simprocAttr, hF, hds, wm, hx, hy])
    | ((with_reducible refine headW_go ?_); simp only [go_sem, simprocAttr, hF, hds, wm, hx, hy, hbx])
    | with_reducible refine awp_seq_k fun _ _ => ?_
    | (refine awp_draw' (id := 8) [] 7 (by kernel_rfl) (by kernel_rfl) rfl rfl (fun bx0 hbx => ?_); try dsimp only [List.take, List.drop])
    | (refine awp_draw' (id := 18) [] 9 (by kernel_rfl) (by kernel_rfl) rfl rfl (fun bx0 hbx => ?_); try dsimp only [List.take, List.drop])
    | (refine awp_draw' (id := 23) [] 12 (by kernel_rfl) (by kernel_rfl) rfl rfl (fun bx0 hbx => ?_); try dsimp only [List.take, List.drop])
    | with_reducible (first | refine awp_region [] ?_ | refine awp_block ?_)
    | go_step)
  refine ⟨_, rgood_ok n x y hS hN, ?_⟩
  simp only [go_sem, simprocAttr, hF]
  cases eg : goodL n x y with
  | false =>
    have hgap : gapB n p = true := List.any_eq_true.2 ⟨s - 1, List.mem_range.2 (by omega), by rw [hG, eg]; rfl⟩
    try simp only [go_sem, simprocAttr, hF, eg]
    repeat (first
      | (with_reducible (first | refine sops_go ?_ | refine headW_end ?_ | refine sops_end ?_ | refine awp_if ?_ | refine awp_skip ?_ | refine awp_ret ?_ | refine awp_exit ?_); simp only [go_sem, simprocAttr, hF, eg])
      | ((with_reducible refine headW_go ?_); simp only [go_sem, simprocAttr, hF, eg, hbx])
      | with_reducible refine awp_seq_k fun _ _ => ?_
      | (refine awp_draw' (id := 8) [] 7 (by kernel_rfl) (by kernel_rfl) rfl rfl (fun bx0 hbx => ?_); try dsimp only [List.take, List.drop])
      | (refine awp_draw' (id := 18) [] 9 (by kernel_rfl) (by kernel_rfl) rfl rfl (fun bx0 hbx => ?_); try dsimp only [List.take, List.drop])
      | (refine awp_draw' (id := 23) [] 12 (by kernel_rfl) (by kernel_rfl) rfl rfl (fun bx0 hbx => ?_); try dsimp only [List.take, List.drop])
      | with_reducible (first | refine awp_region [] ?_ | refine awp_block ?_)
      | go_step)
    rw [hRt, if_neg hdup, if_pos hgap]
  | true =>
    try simp only [go_sem, simprocAttr, hF, eg]
    repeat (first
      | (with_reducible (first | refine sops_go ?_ | refine headW_end ?_ | refine sops_end ?_ | refine awp_if ?_ | refine awp_skip ?_ | refine awp_ret ?_ | refine awp_exit ?_); simp only [go_sem, simprocAttr, hF, eg])
      | ((with_reducible refine headW_go ?_); simp only [go_sem, simprocAttr, hF, eg, hbx])
      | with_reducible refine awp_seq_k fun _ _ => ?_
      | (refine awp_draw' (id := 8) [] 7 (by kernel_rfl) (by kernel_rfl) rfl rfl (fun bx0 hbx => ?_); try dsimp only [List.take, List.drop])
      | (refine awp_draw' (id := 18) [] 9 (by kernel_rfl) (by kernel_rfl) rfl rfl (fun bx0 hbx => ?_); try dsimp only [List.take, List.drop])
      | (refine awp_draw' (id := 23) [] 12 (by kernel_rfl) (by kernel_rfl) rfl rfl (fun bx0 hbx => ?_); try dsimp only [List.take, List.drop])
      | with_reducible (first | refine awp_region [] ?_ | refine awp_block ?_)
      | go_step)
    refine ⟨⟨s + 1, by omega, by omega, by rw [show s + 1 - 1 = (s - 1) + 1 by omega, List.range_succ, List.any_append, hV, List.any_cons, hG, eg]; rfl⟩, by dsimp only; omega, hR4 _ _ (sub_mk ?_)⟩
    simp only [go_sem, simprocAttr, hF, hws]

set_option maxHeartbeats 2000000 in
theorem rcheck33_ok (n : Net) (a b : Int) (p : List Int) (hS : SmallN n) (hc : chkN n = 0) (ha : 0 ≤ a ∧ a < n.nodes) (hb : 0 ≤ b ∧ b < n.nodes) (hab : a ≠ b) (hl : p.length ≤ 1000000) : FnOK Tryz.prog 77 [.agg n.pv, iv a, iv b, .sl 1 (p.map irow_pv)] ⟨iv (routeE n a b p), none⟩ := by
  have h0 : ((0 : Int) != 0) = false := rfl
  refine fn_ok Tryz.func77 (by kernel_rfl) rfl (by rw [Tryz.ntmps77]; exact of_decide_eq_true rfl) (fun F hF => ?_)
  rw [Tryz.ntmps77] at hF
  rw [Tryz.results77]
  repeat (first
    | (with_reducible (first | refine sops_go ?_ | refine headW_end ?_ | refine sops_end ?_ | refine awp_if ?_ | refine awp_skip ?_ | refine awp_ret ?_ | refine awp_exit ?_); simp only [go_sem, simprocAttr, hF])
    | with_reducible (first | refine awp_seq_k fun _ _ => ?_ | refine awp_region [] ?_ | refine awp_block ?_)
    | go_step)
  refine ⟨_, rends33_ok n a b hS hc ha hb hab, ?_⟩
  simp only [go_sem, simprocAttr, hF, h0]
  repeat (first
    | (with_reducible (first | refine sops_go ?_ | refine headW_end ?_ | refine sops_end ?_ | refine awp_if ?_ | refine awp_skip ?_ | refine awp_ret ?_ | refine awp_exit ?_); simp only [go_sem, simprocAttr, hF, h0])
    | with_reducible (first | refine awp_seq_k fun _ _ => ?_ | refine awp_region [] ?_ | refine awp_block ?_)
    | go_step)
  refine ⟨_, rfault33_ok n a b p hS hc hl, ?_⟩
  simp only [go_sem, simprocAttr, hF]
  repeat (first
    | (with_reducible (first | refine sops_go ?_ | refine headW_end ?_ | refine sops_end ?_ | refine awp_if ?_ | refine awp_skip ?_ | refine awp_ret ?_ | refine awp_exit ?_); simp only [go_sem, simprocAttr, hF])
    | with_reducible (first | refine awp_seq_k fun _ _ => ?_ | refine awp_region [] ?_ | refine awp_block ?_)
    | go_step)
  all_goals (try rfl)
end Go.Proofs.YticnppnejafhdaaGreatDoor

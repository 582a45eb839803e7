import Derived.Test.YticnppnejafhdaaGreatDoorZ9
set_option linter.unusedVariables false
set_option linter.unusedSimpArgs false
/- explain.Check, by abstract states. -/
namespace Go.Proofs.YticnppnejafhdaaGreatDoor
open Go.RowKit
open Nd Rc Mo
open Av
set_option maxRecDepth 100000
set_option linter.unusedSimpArgs false
attribute [local go_sem] Av.guardB Av.sop Av.hopx Av.hop Av.hopCall Av.hopF Av.hopB Av.evo Av.evos Av.avCells Av.loadK Av.bound Av.abin Av.aun Av.partsC Av.lfill Av.placesB Av.setAt Av.stl Av.takes Av.src Av.bxOf Av.ownOf Av.St.res Av.St.put Av.St.addBox Av.St.putOwn Av.delL Av.delS Av.look Av.lookL Av.storeSt Av.stealSt Av.St.setBox Av.keepL Av.hitB Av.snap Av.snaps Av.snapCaps Av.AV.lit Av.AV.refs Av.capRefs Av.PV.av Av.CV.av Av.startSt Av.steals Av.athen Av.ablock Av.appK Av.AllS Av.AllO Av.AllR Av.keepS Av.St.avAt Av.RetOK Av.retAll Av.retOne Av.intsOf Av.ptrB TypeDesc.isRow List.range_zero Option.some.injEq exists_eq_left' exists_eq_left exists_eq' exists_and_left exists_and_right exists_const true_and and_true and_self false_and and_false or_false false_or or_true true_or if_true if_false Bool.false_eq_true List.zipIdx_cons List.zipIdx_nil List.map_cons List.map_nil List.filter_cons List.filter_nil List.contains_cons List.contains_nil List.drop_succ_cons List.drop_zero List.take_succ_cons List.take_zero List.take_nil List.drop_nil List.length_cons List.length_nil List.cons_append List.nil_append List.append_nil List.getElem?_cons_zero List.getElem?_cons_succ List.getElem?_nil Option.bind_some Option.bind_none Option.map_some Option.map_none Option.isNone_none Option.isNone_some Option.isSome_some Option.isSome_none Bool.and_true Bool.true_and Bool.and_false Bool.false_and Bool.or_false Bool.false_or Bool.not_true Bool.not_false beq_true beq_false Bool.true_beq Bool.false_beq Loc.s.injEq Loc.b.injEq decide_true decide_false beq_self_eq_true Nat.zero_add Nat.add_zero List.getElem?_toArray List.toList_toArray List.size_toArray Value.oneCell' List.all_cons List.all_nil Value.int.injEq AV.v.injEq AV.sl.injEq AV.agg.injEq AV.ref.injEq AV.ept.injEq AV.tup.injEq Value.bool.injEq PV.v.injEq PV.sl.injEq List.isEmpty_nil List.isEmpty_cons forall_const not_true_eq_false not_false_eq_true true_implies false_implies Value.string.injEq List.length_map List.getElem?_map Int.toNat_natCast Int.natCast_nonneg List.length_append Value.cells implies_true TypeDesc.struct.injEq TypeDesc.slice.injEq TypeDesc.array.injEq List.getElem?_toArray Prod.mk.injEq and_assoc exists_false List.cons.injEq Operand.tmp.injEq ite_self AV.fnv.injEq AV.clo.injEq ne_eq eq_self Tryz.sz3 Tryz.zr3 Tryz.by3 Tryz.pl3 Tryz.is3 Tryz.underlying3 Tryz.sz4 Tryz.zr4 Tryz.by4 Tryz.pl4 Tryz.is4 Tryz.underlying4 Tryz.sz43 Tryz.zr43 Tryz.by43 Tryz.pl43 Tryz.is43 Tryz.underlying43 Tryz.sz35 Tryz.zr35 Tryz.by35 Tryz.pl35 Tryz.is35 Tryz.underlying35 Tryz.sz33 Tryz.zr33 Tryz.by33 Tryz.pl33 Tryz.is33 Tryz.underlying33 Tryz.sz28 Tryz.zr28 Tryz.by28 Tryz.pl28 Tryz.is28 Tryz.underlying28 Tryz.sz39 Tryz.zr39 Tryz.by39 Tryz.pl39 Tryz.is39 Tryz.underlying39 Tryz.sz57 Tryz.zr57 Tryz.by57 Tryz.pl57 Tryz.is57 Tryz.underlying57 Tryz.sz137 Tryz.zr137 Tryz.by137 Tryz.pl137 Tryz.is137 Tryz.underlying137 Tryz.sz66 Tryz.zr66 Tryz.by66 Tryz.pl66 Tryz.is66 Tryz.underlying66 Tryz.sz64 Tryz.zr64 Tryz.by64 Tryz.pl64 Tryz.is64 Tryz.underlying64 Tryz.sz60 Tryz.zr60 Tryz.by60 Tryz.pl60 Tryz.is60 Tryz.underlying60 Tryz.sz100 Tryz.zr100 Tryz.by100 Tryz.pl100 Tryz.is100 Tryz.underlying100 Tryz.sz103 Tryz.zr103 Tryz.by103 Tryz.pl103 Tryz.is103 Tryz.underlying103 Tryz.sz26 Tryz.zr26 Tryz.by26 Tryz.pl26 Tryz.is26 Tryz.underlying26 Tryz.sz120 Tryz.zr120 Tryz.by120 Tryz.pl120 Tryz.is120 Tryz.underlying120 Tryz.sz117 Tryz.zr117 Tryz.by117 Tryz.pl117 Tryz.is117 Tryz.underlying117 Tryz.sz30 Tryz.zr30 Tryz.by30 Tryz.pl30 Tryz.is30 Tryz.underlying30 Tryz.sz31 Tryz.zr31 Tryz.by31 Tryz.pl31 Tryz.is31 Tryz.underlying31 Tryz.sz40 Tryz.zr40 Tryz.by40 Tryz.pl40 Tryz.is40 Tryz.underlying40 Tryz.sz23 Tryz.zr23 Tryz.by23 Tryz.pl23 Tryz.is23 Tryz.underlying23 Tryz.sz24 Tryz.zr24 Tryz.by24 Tryz.pl24 Tryz.is24 Tryz.underlying24 Tryz.sz22 Tryz.zr22 Tryz.by22 Tryz.pl22 Tryz.is22 Tryz.underlying22 Tryz.sz141 Tryz.zr141 Tryz.by141 Tryz.pl141 Tryz.is141 Tryz.underlying141 Tryz.sz42 Tryz.zr42 Tryz.by42 Tryz.pl42 Tryz.is42 Tryz.underlying42 Tryz.sz29 Tryz.zr29 Tryz.by29 Tryz.pl29 Tryz.is29 Tryz.underlying29 Tryz.sz83 Tryz.zr83 Tryz.by83 Tryz.pl83 Tryz.is83 Tryz.underlying83 Tryz.sz67 Tryz.zr67 Tryz.by67 Tryz.pl67 Tryz.is67 Tryz.underlying67 Tryz.it39 Tryz.eg39 Tryz.it137 Tryz.eg137 Tryz.it66 Tryz.eg66 Tryz.it28 Tryz.eg28 Tryz.it60 Tryz.eg60 all_arr loc_ss loc_sb loc_bs loc_bb arr_two arr_one rg1 rg2 rg3 rg4 rg5 rg6 rg7 rg8 ResultVar.tmp.injEq Bool.not_true Bool.not_false undef Rc.Rec.pv Nd.Fl.pv Rc.Dlv.pv Rc.Att.pv Mo.Lt.pv Fn.func.injEq Mo.Net.pv Mo.Lk.pv prow_pv irow_pv Br.pv Ex.pv
set_option maxHeartbeats 2000000 in
theorem ck1_ok (b c : Br) (hb : b.sl.length ≤ 1000000) : FnOK Tryz.prog 49 [.agg b.pv, .ept c.pv] ⟨bv (decide (b.sl = c.sl)), none⟩ := by
  refine fn_ok Tryz.func49 (by kernel_rfl) rfl (by rw [Tryz.ntmps49]; exact of_decide_eq_true rfl) (fun F hF => ?_)
  rw [Tryz.ntmps49] at hF
  rw [Tryz.results49]
  repeat (first
    | (with_reducible (first | refine sops_go ?_ | refine headW_end ?_ | refine sops_end ?_ | refine awp_if ?_ | refine awp_skip ?_ | refine awp_ret ?_ | refine awp_exit ?_); simp only [go_sem, simprocAttr, hF])
    | with_reducible (first | refine awp_seq_k fun _ _ => ?_ | refine awp_region [] ?_ | refine awp_block ?_)
    | go_step)
  refine ⟨_, eqI_ok b.sl c.sl hb, ?_⟩
  simp only [go_sem, simprocAttr, hF]
  repeat (first
    | (with_reducible (first | refine sops_go ?_ | refine headW_end ?_ | refine sops_end ?_ | refine awp_if ?_ | refine awp_skip ?_ | refine awp_ret ?_ | refine awp_exit ?_); simp only [go_sem, simprocAttr, hF])
    | with_reducible (first | refine awp_seq_k fun _ _ => ?_ | refine awp_region [] ?_ | refine awp_block ?_)
    | go_step)
  all_goals (try rfl)

set_option maxHeartbeats 20000000 in
theorem check_okX (n : Net) (f : Fl) (ps : List (List Int)) (r : Rec) (x : Ex) (hS : SmallN n) (hla : r.al.length ≤ 1000000) (hld : r.dl.length ≤ 1000000) (hps : ps.length ≤ 1000000) (hpl : ∀ p ∈ ps, p.length ≤ 1000000) : FnOK Tryz.prog 20 [.agg n.pv, .agg f.pv, .sl 1 (ps.map prow_pv), .agg r.pv, .agg x.pv] ⟨iv (checkX n f ps r x), none⟩ := by
  refine fn_ok Tryz.func20 (by kernel_rfl) rfl (by rw [Tryz.ntmps20]; exact of_decide_eq_true rfl) (fun F hF => ?_)
  rw [Tryz.ntmps20] at hF
  rw [Tryz.results20]
  repeat (first
    | (with_reducible (first | refine sops_go ?_ | refine headW_end ?_ | refine sops_end ?_ | refine awp_if ?_ | refine awp_skip ?_ | refine awp_ret ?_ | refine awp_exit ?_); simp only [go_sem, simprocAttr, hF])
    | ((with_reducible refine headW_go ?_); simp only [go_sem, simprocAttr, hF, hbx])
    | with_reducible refine awp_seq_k fun _ _ => ?_
    | (refine awp_draw' (id := 11) [] 33 (by kernel_rfl) (by kernel_rfl) rfl rfl (fun bx0 hbx => ?_); try dsimp only [List.take, List.drop])
    | with_reducible (first | refine awp_region [] ?_ | refine awp_block ?_)
    | go_step)
  refine ⟨_, checkL_ok n f ps r x.lt.fr hS hla hld hps hpl, ?_⟩
  simp only [go_sem, simprocAttr, hF]
  by_cases hL : (lateX n f ps r x.lt.fr).2 = 0
  case neg =>
    have e1 : ((lateX n f ps r x.lt.fr).2 != 0) = true := by simpa using hL
    have hX : checkX n f ps r x = (lateX n f ps r x.lt.fr).2 := by unfold checkX; rw [if_pos hL]
    try simp only [go_sem, simprocAttr, hF, e1]
    repeat (first
      | (with_reducible (first | refine sops_go ?_ | refine headW_end ?_ | refine sops_end ?_ | refine awp_if ?_ | refine awp_skip ?_ | refine awp_ret ?_ | refine awp_exit ?_); simp only [go_sem, simprocAttr, hF, e1])
      | ((with_reducible refine headW_go ?_); simp only [go_sem, simprocAttr, hF, e1, hbx])
      | with_reducible refine awp_seq_k fun _ _ => ?_
      | (refine awp_draw' (id := 11) [] 33 (by kernel_rfl) (by kernel_rfl) rfl rfl (fun bx0 hbx => ?_); try dsimp only [List.take, List.drop])
      | with_reducible (first | refine awp_region [] ?_ | refine awp_block ?_)
      | go_step)
    all_goals (try rw [hX])
    all_goals (try rfl)
  have e1 : ((lateX n f ps r x.lt.fr).2 != 0) = false := by rw [hL]; rfl
  have LO := lateX_ok hL
  have hN := netOK (basicB_inv LO.base).1
  obtain ⟨y, hy⟩ : ∃ y, y = (lateX n f ps r x.lt.fr).1 := ⟨_, rfl⟩
  rw [← hy]
  have hxl : (([x.lt.fl, x.lt.fr, x.lt.sl] == [y.fl, y.fr, y.sl]) = false ∧ y ≠ x.lt) ∨ (([x.lt.fl, x.lt.fr, x.lt.sl] == [y.fl, y.fr, y.sl]) = true ∧ y = x.lt) := by
    obtain ⟨⟨x1, x2, x3⟩, ca⟩ := x
    obtain ⟨y1, y2, y3⟩ := y
    by_cases h : x1 = y1 ∧ x2 = y2 ∧ x3 = y3
    · obtain ⟨rfl, rfl, rfl⟩ := h
      exact .inr ⟨by simp, rfl⟩
    · refine .inl ⟨?_, fun h2 => h ?_⟩
      · simp only [beq_eq_false_iff_ne, ne_eq, List.cons.injEq, and_true]
        exact h
      · injection h2 with h2 h3 h4
        exact ⟨h2.symm, h3.symm, h4.symm⟩
  rcases hxl with ⟨e2, hne⟩ | ⟨e2, hyx⟩
  case inl =>
    have hX : checkX n f ps r x = 20 := by unfold checkX; rw [if_neg (fun h => h hL), if_pos (.inl (by rw [← hy]; exact hne))]
    try simp only [go_sem, simprocAttr, hF, e1, e2]
    repeat (first
      | (with_reducible (first | refine sops_go ?_ | refine headW_end ?_ | refine sops_end ?_ | refine awp_if ?_ | refine awp_skip ?_ | refine awp_ret ?_ | refine awp_exit ?_); simp only [go_sem, simprocAttr, hF, e1, e2])
      | ((with_reducible refine headW_go ?_); simp only [go_sem, simprocAttr, hF, e1, e2, hbx])
      | with_reducible refine awp_seq_k fun _ _ => ?_
      | (refine awp_draw' (id := 11) [] 33 (by kernel_rfl) (by kernel_rfl) rfl rfl (fun bx0 hbx => ?_); try dsimp only [List.take, List.drop])
      | with_reducible (first | refine awp_region [] ?_ | refine awp_block ?_)
      | go_step)
    all_goals (try rw [hX])
    all_goals (try rfl)
  subst hyx
  by_cases hcl : x.ca.length = ps.length
  case neg =>
    have e3 : ((x.ca.length : Int) != (ps.length : Int)) = true := by rw [bne_iff_ne]; omega
    have hX : checkX n f ps r x = 20 := by unfold checkX; rw [if_neg (fun h => h hL), if_pos (.inr hcl)]
    try simp only [go_sem, simprocAttr, hF, e1, e2, e3]
    repeat (first
      | (with_reducible (first | refine sops_go ?_ | refine headW_end ?_ | refine sops_end ?_ | refine awp_if ?_ | refine awp_skip ?_ | refine awp_ret ?_ | refine awp_exit ?_); simp only [go_sem, simprocAttr, hF, e1, e2, e3])
      | ((with_reducible refine headW_go ?_); simp only [go_sem, simprocAttr, hF, e1, e2, e3, hbx])
      | with_reducible refine awp_seq_k fun _ _ => ?_
      | (refine awp_draw' (id := 11) [] 33 (by kernel_rfl) (by kernel_rfl) rfl rfl (fun bx0 hbx => ?_); try dsimp only [List.take, List.drop])
      | with_reducible (first | refine awp_region [] ?_ | refine awp_block ?_)
      | go_step)
    all_goals (try rw [hX])
    all_goals (try rfl)
  have e3 : ((x.ca.length : Int) != (ps.length : Int)) = false := by rw [hcl]; simp
  have hX : checkX n f ps r x = if (List.zip ps x.ca).all (fun q => okC n f r x.lt.fr q.1 q.2) = true then 0 else 20 := by unfold checkX; rw [if_neg (fun h => h hL), if_neg (by rintro (h | h); exact h hy.symm; exact h hcl)]
  clear hy
  try simp only [go_sem, simprocAttr, hF, e1, e2, e3]
  repeat (first
    | (with_reducible (first | refine sops_go ?_ | refine headW_end ?_ | refine sops_end ?_ | refine awp_if ?_ | refine awp_skip ?_ | refine awp_ret ?_ | refine awp_exit ?_); simp only [go_sem, simprocAttr, hF, e1, e2, e3])
    | ((with_reducible refine headW_go ?_); simp only [go_sem, simprocAttr, hF, e1, e2, e3, hbx])
    | with_reducible refine awp_seq_k fun _ _ => ?_
    | (refine awp_draw' (id := 11) [] 33 (by kernel_rfl) (by kernel_rfl) rfl rfl (fun bx0 hbx => ?_); try dsimp only [List.take, List.drop])
    | with_reducible (first | refine awp_region [] ?_ | refine awp_block ?_)
    | go_step)
  refine awp_loop_by (ι := {k : Nat // k ≤ x.ca.length ∧ ∀ j, j < k → ∀ p c, ps[j]? = some p → x.ca[j]? = some c → okC n f r x.lt.fr p c = true}) (fun k σ => ⟨(47, iv (k.1 : Int)) :: keepS [2, 5, 6, 8, 9, 11, 45, 46] σ.slot, (11, [ip x.lt.fl, ip x.lt.fr, ip x.lt.sl]) :: keepS [5, 6, 8, 9] σ.box, [], σ.ext⟩) (fun k => x.ca.length - k.1) ⟨0, by omega, fun j hj => absurd hj (Nat.not_lt_zero _)⟩ (sub_mk ?_) (fun R hR k => ?_)
  · simp only [go_sem, simprocAttr, hF]
    repeat' (first | rfl | exact True.intro | refine ⟨?_, ?_⟩ | skip)
  obtain ⟨k, hk, hT⟩ := k
  dsimp only
  simp only [go_sem, simprocAttr, hF]
  by_cases hlt : k < x.ca.length
  case neg =>
    have hd : decide ((k : Int) < (x.ca.length : Int)) = false := decide_eq_false (by omega)
    have hgood : checkX n f ps r x = 0 := by
      rw [hX, zip_all (q := fun q => okC n f r x.lt.fr q.1 q.2) (fun j p c h1 h2 => hT j (by have := (List.getElem?_eq_some_iff.1 h2).1; omega) p c h1 h2)]
      rfl
    repeat (first
      | (with_reducible (first | refine sops_go ?_ | refine headW_end ?_ | refine sops_end ?_ | refine awp_if ?_ | refine awp_skip ?_ | refine awp_ret ?_ | refine awp_exit ?_); simp only [go_sem, simprocAttr, hF, hd])
      | ((with_reducible refine headW_go ?_); simp only [go_sem, simprocAttr, hF, hd, hbx])
      | with_reducible refine awp_seq_k fun _ _ => ?_
      | (refine awp_draw' (id := 11) [] 33 (by kernel_rfl) (by kernel_rfl) rfl rfl (fun bx0 hbx => ?_); try dsimp only [List.take, List.drop])
      | with_reducible (first | refine awp_region [] ?_ | refine awp_block ?_)
      | go_step)
    all_goals (try rw [hgood])
    all_goals (try rfl)
  have hd : decide ((k : Int) < (x.ca.length : Int)) = true := decide_eq_true (by omega)
  have hw : IntKind.i64.wrap ((k : Int) + 1) = ((k + 1 : Nat) : Int) := by rw [IntKind.wrap_i64]; omega
  obtain ⟨c, hc2⟩ := get_of_lt hlt
  obtain ⟨p, hp⟩ := get_of_lt (l := ps) (k := k) (by omega)
  have hrt := LO.rt p (List.mem_of_getElem? hp)
  obtain ⟨r1, r2, r3⟩ := route_inv hrt
  repeat (first
    | (with_reducible (first | refine sops_go ?_ | refine headW_end ?_ | refine sops_end ?_ | refine awp_if ?_ | refine awp_skip ?_ | refine awp_ret ?_ | refine awp_exit ?_); simp only [go_sem, simprocAttr, hF, hd, hp, hc2])
    | ((with_reducible refine headW_go ?_); simp only [go_sem, simprocAttr, hF, hd, hp, hc2, hbx])
    | with_reducible refine awp_seq_k fun _ _ => ?_
    | (refine awp_draw' (id := 11) [] 33 (by kernel_rfl) (by kernel_rfl) rfl rfl (fun bx0 hbx => ?_); try dsimp only [List.take, List.drop])
    | with_reducible (first | refine awp_region [] ?_ | refine awp_block ?_)
    | go_step)
  refine ⟨_, sidx_ok p c.fm (by omega), ?_⟩
  simp only [go_sem, simprocAttr, hF]
  rcases find_idx (fun y => c.fm == y) p 0 with ⟨q1, q2⟩ | ⟨i, z, q0, q1, q2, q3⟩
  case inl =>
    have e3 : decide ((-1 : Int) < 0) = true := rfl
    have hbad : checkX n f ps r x = 20 := by
      rw [hX, zip_not hp hc2 (q := fun q => okC n f r x.lt.fr q.1 q.2) (by
        unfold okC
        rw [Bool.and_eq_false_iff]
        left
        rw [Bool.eq_false_iff]
        intro h
        obtain ⟨j, h1, _⟩ := onB_iff.1 h
        have := List.find?_eq_none.1 q1 c.fm (List.mem_of_getElem? h1)
        simp at this
      )]
      rfl
    try simp only [go_sem, simprocAttr, hF, q2, e3]
    repeat (first
      | (with_reducible (first | refine sops_go ?_ | refine headW_end ?_ | refine sops_end ?_ | refine awp_if ?_ | refine awp_skip ?_ | refine awp_ret ?_ | refine awp_exit ?_); simp only [go_sem, simprocAttr, hF, q2, e3])
      | ((with_reducible refine headW_go ?_); simp only [go_sem, simprocAttr, hF, q2, e3, hbx])
      | with_reducible refine awp_seq_k fun _ _ => ?_
      | (refine awp_draw' (id := 11) [] 33 (by kernel_rfl) (by kernel_rfl) rfl rfl (fun bx0 hbx => ?_); try dsimp only [List.take, List.drop])
      | with_reducible (first | refine awp_region [] ?_ | refine awp_block ?_)
      | go_step)
    all_goals (try rw [hbad])
    all_goals (try rfl)
  obtain rfl : c.fm = z := by simpa using q3
  rw [Int.zero_add] at q2
  have e3 : decide ((i : Int) < 0) = false := decide_eq_false (by omega)
  have wi : IntKind.i64.wrap ((i : Int) + 1) = ((i + 1 : Nat) : Int) := by
    have := (List.getElem?_eq_some_iff.1 q0).1
    rw [IntKind.wrap_i64]; omega
  have hon := onB_at hrt (y := c.tt) q0
  by_cases c4 : p.length ≤ i + 1
  case pos =>
    have e4 : decide ((p.length : Int) ≤ ((i + 1 : Nat) : Int)) = true := decide_eq_true (by omega)
    have hbad : checkX n f ps r x = 20 := by
      rw [hX, zip_not hp hc2 (q := fun q => okC n f r x.lt.fr q.1 q.2) (by
        unfold okC
        rw [Bool.and_eq_false_iff]
        left
        rw [Bool.eq_false_iff]
        intro h
        rw [hon, List.getElem?_eq_none c4] at h
        cases h
      )]
      rfl
    try simp only [go_sem, simprocAttr, hF, q2, e3, wi, hp, hc2, e4]
    repeat (first
      | (with_reducible (first | refine sops_go ?_ | refine headW_end ?_ | refine sops_end ?_ | refine awp_if ?_ | refine awp_skip ?_ | refine awp_ret ?_ | refine awp_exit ?_); simp only [go_sem, simprocAttr, hF, q2, e3, wi, hp, hc2, e4])
      | ((with_reducible refine headW_go ?_); simp only [go_sem, simprocAttr, hF, q2, e3, wi, hp, hc2, e4, hbx])
      | with_reducible refine awp_seq_k fun _ _ => ?_
      | (refine awp_draw' (id := 11) [] 33 (by kernel_rfl) (by kernel_rfl) rfl rfl (fun bx0 hbx => ?_); try dsimp only [List.take, List.drop])
      | with_reducible (first | refine awp_region [] ?_ | refine awp_block ?_)
      | go_step)
    all_goals (try rw [hbad])
    all_goals (try rfl)
  have e4 : decide ((p.length : Int) ≤ ((i + 1 : Nat) : Int)) = false := decide_eq_false (by omega)
  obtain ⟨u, hu⟩ := get_of_lt (l := p) (k := i + 1) (by omega)
  by_cases c5 : u = c.tt
  case neg =>
    have e5 : (u != c.tt) = true := by simpa using c5
    have hbad : checkX n f ps r x = 20 := by
      rw [hX, zip_not hp hc2 (q := fun q => okC n f r x.lt.fr q.1 q.2) (by
        unfold okC
        rw [Bool.and_eq_false_iff]
        left
        rw [Bool.eq_false_iff]
        intro h
        rw [hon, hu] at h
        exact c5 (Option.some.inj h)
      )]
      rfl
    try simp only [go_sem, simprocAttr, hF, q2, e3, wi, hp, hc2, e4, hu, e5]
    repeat (first
      | (with_reducible (first | refine sops_go ?_ | refine headW_end ?_ | refine sops_end ?_ | refine awp_if ?_ | refine awp_skip ?_ | refine awp_ret ?_ | refine awp_exit ?_); simp only [go_sem, simprocAttr, hF, q2, e3, wi, hp, hc2, e4, hu, e5])
      | ((with_reducible refine headW_go ?_); simp only [go_sem, simprocAttr, hF, q2, e3, wi, hp, hc2, e4, hu, e5, hbx])
      | with_reducible refine awp_seq_k fun _ _ => ?_
      | (refine awp_draw' (id := 11) [] 33 (by kernel_rfl) (by kernel_rfl) rfl rfl (fun bx0 hbx => ?_); try dsimp only [List.take, List.drop])
      | with_reducible (first | refine awp_region [] ?_ | refine awp_block ?_)
      | go_step)
    all_goals (try rw [hbad])
    all_goals (try rfl)
  have e5 : (u != c.tt) = false := by simpa using c5
  have honT : onB p c.fm c.tt = true := hon.2 (by rw [hu, c5])
  have hokc : okC n f r x.lt.fr p c = (c.fl == f.id && (c.fr == x.lt.fr && (causesX n f r x.lt.fr c.fm c.tt).any fun y => decide (y.sl = c.sl))) := by unfold okC; rw [honT, Bool.true_and, contains_X]
  by_cases c6 : c.fl = f.id
  case neg =>
    have e6 : (c.fl != f.id) = true := by simpa using c6
    have hbad : checkX n f ps r x = 20 := by
      rw [hX, zip_not hp hc2 (q := fun q => okC n f r x.lt.fr q.1 q.2) (by
        rw [hokc, show (c.fl == f.id) = false by simpa using c6]
        rfl
      )]
      rfl
    try simp only [go_sem, simprocAttr, hF, q2, e3, wi, hp, hc2, e4, hu, e5, e6]
    repeat (first
      | (with_reducible (first | refine sops_go ?_ | refine headW_end ?_ | refine sops_end ?_ | refine awp_if ?_ | refine awp_skip ?_ | refine awp_ret ?_ | refine awp_exit ?_); simp only [go_sem, simprocAttr, hF, q2, e3, wi, hp, hc2, e4, hu, e5, e6])
      | ((with_reducible refine headW_go ?_); simp only [go_sem, simprocAttr, hF, q2, e3, wi, hp, hc2, e4, hu, e5, e6, hbx])
      | with_reducible refine awp_seq_k fun _ _ => ?_
      | (refine awp_draw' (id := 11) [] 33 (by kernel_rfl) (by kernel_rfl) rfl rfl (fun bx0 hbx => ?_); try dsimp only [List.take, List.drop])
      | with_reducible (first | refine awp_region [] ?_ | refine awp_block ?_)
      | go_step)
    all_goals (try rw [hbad])
    all_goals (try rfl)
  have e6 : (c.fl != f.id) = false := by simpa using c6
  by_cases c7 : c.fr = x.lt.fr
  case neg =>
    have e7 : (c.fr != x.lt.fr) = true := by simpa using c7
    have hbad : checkX n f ps r x = 20 := by
      rw [hX, zip_not hp hc2 (q := fun q => okC n f r x.lt.fr q.1 q.2) (by
        rw [hokc, show (c.fr == x.lt.fr) = false by simpa using c7, Bool.false_and, Bool.and_false]
      )]
      rfl
    try simp only [go_sem, simprocAttr, hF, q2, e3, wi, hp, hc2, e4, hu, e5, e6, e7]
    repeat (first
      | (with_reducible (first | refine sops_go ?_ | refine headW_end ?_ | refine sops_end ?_ | refine awp_if ?_ | refine awp_skip ?_ | refine awp_ret ?_ | refine awp_exit ?_); simp only [go_sem, simprocAttr, hF, q2, e3, wi, hp, hc2, e4, hu, e5, e6, e7])
      | ((with_reducible refine headW_go ?_); simp only [go_sem, simprocAttr, hF, q2, e3, wi, hp, hc2, e4, hu, e5, e6, e7, hbx])
      | with_reducible refine awp_seq_k fun _ _ => ?_
      | (refine awp_draw' (id := 11) [] 33 (by kernel_rfl) (by kernel_rfl) rfl rfl (fun bx0 hbx => ?_); try dsimp only [List.take, List.drop])
      | with_reducible (first | refine awp_region [] ?_ | refine awp_block ?_)
      | go_step)
    all_goals (try rw [hbad])
    all_goals (try rfl)
  have e7 : (c.fr != x.lt.fr) = false := by simpa using c7
  have hix := r3 i c.fm c.tt q0 (by rw [hu, c5])
  have hok2 : okC n f r x.lt.fr p c = ((causesX n f r x.lt.fr c.fm c.tt).any fun y => decide (y.sl = c.sl)) := by rw [hokc, show (c.fl == f.id) = true by simpa using c6, show (c.fr == x.lt.fr) = true by simpa using c7]; rfl
  try simp only [go_sem, simprocAttr, hF, q2, e3, wi, hp, hc2, e4, hu, e5, e6, e7]
  repeat (first
    | (with_reducible (first | refine sops_go ?_ | refine headW_end ?_ | refine sops_end ?_ | refine awp_if ?_ | refine awp_skip ?_ | refine awp_ret ?_ | refine awp_exit ?_); simp only [go_sem, simprocAttr, hF, q2, e3, wi, hp, hc2, e4, hu, e5, e6, e7])
    | ((with_reducible refine headW_go ?_); simp only [go_sem, simprocAttr, hF, q2, e3, wi, hp, hc2, e4, hu, e5, e6, e7, hbx])
    | with_reducible refine awp_seq_k fun _ _ => ?_
    | (refine awp_draw' (id := 11) [] 33 (by kernel_rfl) (by kernel_rfl) rfl rfl (fun bx0 hbx => ?_); try dsimp only [List.take, List.drop])
    | with_reducible (first | refine awp_region [] ?_ | refine awp_block ?_)
    | go_step)
  refine ⟨_, causes_ok n f r x.lt.fr c.fm c.tt hS LO.base ⟨LO.fr0, LO.fr1⟩ hix hla, ?_⟩
  simp only [go_sem, simprocAttr, hF]
  repeat (first
    | (with_reducible (first | refine sops_go ?_ | refine headW_end ?_ | refine sops_end ?_ | refine awp_if ?_ | refine awp_skip ?_ | refine awp_ret ?_ | refine awp_exit ?_); simp only [go_sem, simprocAttr, hF])
    | ((with_reducible refine headW_go ?_); simp only [go_sem, simprocAttr, hF, hbx])
    | with_reducible refine awp_seq_k fun _ _ => ?_
    | (refine awp_draw' (id := 11) [] 33 (by kernel_rfl) (by kernel_rfl) rfl rfl (fun bx0 hbx => ?_); try dsimp only [List.take, List.drop])
    | with_reducible (first | refine awp_region [] ?_ | refine awp_block ?_)
    | go_step)
  refine ⟨_, contB_ok _ [c.pv] (fun y => decide (y.sl = c.sl)) (causesX n f r x.lt.fr c.fm c.tt) (Nat.le_trans causesX_len hla) (fun y hy => ck1_ok y c (Nat.le_trans (sl_len hy) hla)), ?_⟩
  simp only [go_sem, simprocAttr, hF]
  cases ha : (causesX n f r x.lt.fr c.fm c.tt).any fun y => decide (y.sl = c.sl) with
  | false =>
    have hbad : checkX n f ps r x = 20 := by
      rw [hX, zip_not hp hc2 (q := fun q => okC n f r x.lt.fr q.1 q.2) (by
        rw [hok2, ha]
      )]
      rfl
    try simp only [go_sem, simprocAttr, hF, ha]
    repeat (first
      | (with_reducible (first | refine sops_go ?_ | refine headW_end ?_ | refine sops_end ?_ | refine awp_if ?_ | refine awp_skip ?_ | refine awp_ret ?_ | refine awp_exit ?_); simp only [go_sem, simprocAttr, hF, ha])
      | ((with_reducible refine headW_go ?_); simp only [go_sem, simprocAttr, hF, ha, hbx])
      | with_reducible refine awp_seq_k fun _ _ => ?_
      | (refine awp_draw' (id := 11) [] 33 (by kernel_rfl) (by kernel_rfl) rfl rfl (fun bx0 hbx => ?_); try dsimp only [List.take, List.drop])
      | with_reducible (first | refine awp_region [] ?_ | refine awp_block ?_)
      | go_step)
    all_goals (try rw [hbad])
    all_goals (try rfl)
  | true =>
    try simp only [go_sem, simprocAttr, hF, ha]
    repeat (first
      | (with_reducible (first | refine sops_go ?_ | refine headW_end ?_ | refine sops_end ?_ | refine awp_if ?_ | refine awp_skip ?_ | refine awp_ret ?_ | refine awp_exit ?_); simp only [go_sem, simprocAttr, hF, ha])
      | ((with_reducible refine headW_go ?_); simp only [go_sem, simprocAttr, hF, ha, hbx])
      | with_reducible refine awp_seq_k fun _ _ => ?_
      | (refine awp_draw' (id := 11) [] 33 (by kernel_rfl) (by kernel_rfl) rfl rfl (fun bx0 hbx => ?_); try dsimp only [List.take, List.drop])
      | with_reducible (first | refine awp_region [] ?_ | refine awp_block ?_)
      | go_step)
    refine ⟨⟨k + 1, by omega, fun j hj p' c' h1 h2 => by
        by_cases hjk : j = k
        · subst hjk
          rw [hp] at h1; rw [hc2] at h2; cases h1; cases h2
          rw [hok2, ha]
        · exact hT j (by omega) p' c' h1 h2⟩, by dsimp only; omega, hR _ _ (sub_mk ?_)⟩
    simp only [go_sem, simprocAttr, hF, hw]
/- explain.Causes, by abstract states. -/
set_option maxHeartbeats 20000000 in
theorem causesR_ok (n : Net) (f : Fl) (r : Rec) (fr a b : Int) (hS : SmallN n) (hla : r.al.length ≤ 1000000) (hld : r.dl.length ≤ 1000000) : FnOK Tryz.prog 13 [.agg n.pv, .agg f.pv, .agg r.pv, iv fr, iv a, iv b] ⟨.tup [.c (.sl 5 ((causesR n f r fr a b).1.map Br.pv)), .c (ip (causesR n f r fr a b).2)], none⟩ := by
  refine fn_ok Tryz.func13 (by kernel_rfl) rfl (by rw [Tryz.ntmps13]; exact of_decide_eq_true rfl) (fun F hF => ?_)
  rw [Tryz.ntmps13] at hF
  rw [Tryz.results13]
  cases hB : basicB n f r with
  | false =>
    repeat (first
      | (with_reducible (first | refine sops_go ?_ | refine headW_end ?_ | refine sops_end ?_ | refine awp_if ?_ | refine awp_skip ?_ | refine awp_ret ?_ | refine awp_exit ?_); simp only [go_sem, simprocAttr, hF])
      | with_reducible (first | refine awp_seq_k fun _ _ => ?_ | refine awp_region [] ?_ | refine awp_block ?_)
      | go_step)
    refine ⟨_, base_ok n f r hS hla hld, ?_⟩
    simp only [go_sem, simprocAttr, hF, hB]
    repeat (first
      | ((refine awp_nil (c := .ret) 12 5 57 (by rw [hF]; decide) (by first | rfl | simp only [Av.look]; rfl) ?_); simp only [go_sem, simprocAttr, hF, hB])
      | (with_reducible (first | refine sops_go ?_ | refine headW_end ?_ | refine sops_end ?_ | refine awp_if ?_ | refine awp_skip ?_ | refine awp_ret ?_ | refine awp_exit ?_); simp only [go_sem, simprocAttr, hF, hB])
      | with_reducible (first | refine awp_seq_k fun _ _ => ?_ | refine awp_region [] ?_ | refine awp_block ?_)
      | go_step)
    rw [show causesR n f r fr a b = ([], 1) from by unfold causesR; rw [if_pos hB]]
    all_goals (try rfl)
  | true =>
    have hB' : ¬ basicB n f r = false := by rw [hB]; decide
    obtain ⟨hc, _⟩ := basicB_inv hB
    by_cases c1 : fr < 0
    case pos =>
      have e1 : decide (fr < 0) = true := by first | exact decide_eq_true (by omega) | simpa using c1
      repeat (first
        | (with_reducible (first | refine sops_go ?_ | refine headW_end ?_ | refine sops_end ?_ | refine awp_if ?_ | refine awp_skip ?_ | refine awp_ret ?_ | refine awp_exit ?_); simp only [go_sem, simprocAttr, hF, hB])
        | with_reducible (first | refine awp_seq_k fun _ _ => ?_ | refine awp_region [] ?_ | refine awp_block ?_)
        | go_step)
      refine ⟨_, base_ok n f r hS hla hld, ?_⟩
      simp only [go_sem, simprocAttr, hF, hB]
      repeat (first
        | ((refine awp_nil (c := .ret) 12 5 57 (by rw [hF]; decide) (by first | rfl | simp only [Av.look]; rfl) ?_); simp only [go_sem, simprocAttr, hF, hB, e1])
        | (with_reducible (first | refine sops_go ?_ | refine headW_end ?_ | refine sops_end ?_ | refine awp_if ?_ | refine awp_skip ?_ | refine awp_ret ?_ | refine awp_exit ?_); simp only [go_sem, simprocAttr, hF, hB, e1])
        | with_reducible (first | refine awp_seq_k fun _ _ => ?_ | refine awp_region [] ?_ | refine awp_block ?_)
        | go_step)
      rw [show causesR n f r fr a b = ([], 2) from by unfold causesR; rw [if_neg hB', if_pos (.inl c1)]]
      all_goals (try rfl)
    have e1 : decide (fr < 0) = false := by first | exact decide_eq_false (by omega) | simpa using c1
    by_cases c2 : 1048576 ≤ fr
    case pos =>
      have e2 : decide (fr ≥ 1048576) = true := by first | exact decide_eq_true (by omega) | simpa using c2
      repeat (first
        | (with_reducible (first | refine sops_go ?_ | refine headW_end ?_ | refine sops_end ?_ | refine awp_if ?_ | refine awp_skip ?_ | refine awp_ret ?_ | refine awp_exit ?_); simp only [go_sem, simprocAttr, hF, hB])
        | with_reducible (first | refine awp_seq_k fun _ _ => ?_ | refine awp_region [] ?_ | refine awp_block ?_)
        | go_step)
      refine ⟨_, base_ok n f r hS hla hld, ?_⟩
      simp only [go_sem, simprocAttr, hF, hB]
      repeat (first
        | ((refine awp_nil (c := .ret) 12 5 57 (by rw [hF]; decide) (by first | rfl | simp only [Av.look]; rfl) ?_); simp only [go_sem, simprocAttr, hF, hB, e1, e2])
        | (with_reducible (first | refine sops_go ?_ | refine headW_end ?_ | refine sops_end ?_ | refine awp_if ?_ | refine awp_skip ?_ | refine awp_ret ?_ | refine awp_exit ?_); simp only [go_sem, simprocAttr, hF, hB, e1, e2])
        | with_reducible (first | refine awp_seq_k fun _ _ => ?_ | refine awp_region [] ?_ | refine awp_block ?_)
        | go_step)
      rw [show causesR n f r fr a b = ([], 2) from by unfold causesR; rw [if_neg hB', if_pos (.inr c2)]]
      all_goals (try rfl)
    have e2 : decide (fr ≥ 1048576) = false := by first | exact decide_eq_false (by omega) | simpa using c2
    by_cases c3 : idxL n a b < 0
    case pos =>
      have e3 : decide (idxL n a b < 0) = true := by first | exact decide_eq_true (by omega) | simpa using c3
      repeat (first
        | (with_reducible (first | refine sops_go ?_ | refine headW_end ?_ | refine sops_end ?_ | refine awp_if ?_ | refine awp_skip ?_ | refine awp_ret ?_ | refine awp_exit ?_); simp only [go_sem, simprocAttr, hF, hB])
        | with_reducible (first | refine awp_seq_k fun _ _ => ?_ | refine awp_region [] ?_ | refine awp_block ?_)
        | go_step)
      refine ⟨_, base_ok n f r hS hla hld, ?_⟩
      simp only [go_sem, simprocAttr, hF, hB]
      repeat (first
        | (with_reducible (first | refine sops_go ?_ | refine headW_end ?_ | refine sops_end ?_ | refine awp_if ?_ | refine awp_skip ?_ | refine awp_ret ?_ | refine awp_exit ?_); simp only [go_sem, simprocAttr, hF, hB, e1, e2])
        | with_reducible (first | refine awp_seq_k fun _ _ => ?_ | refine awp_region [] ?_ | refine awp_block ?_)
        | go_step)
      refine ⟨_, nindex_ok n a b hS hc, ?_⟩
      simp only [go_sem, simprocAttr, hF]
      try simp only [go_sem, simprocAttr, hF, e3]
      repeat (first
        | ((refine awp_nil (c := .ret) 12 5 57 (by rw [hF]; decide) (by first | rfl | simp only [Av.look]; rfl) ?_); simp only [go_sem, simprocAttr, hF, e3])
        | (with_reducible (first | refine sops_go ?_ | refine headW_end ?_ | refine sops_end ?_ | refine awp_if ?_ | refine awp_skip ?_ | refine awp_ret ?_ | refine awp_exit ?_); simp only [go_sem, simprocAttr, hF, e3])
        | with_reducible (first | refine awp_seq_k fun _ _ => ?_ | refine awp_region [] ?_ | refine awp_block ?_)
        | go_step)
      rw [show causesR n f r fr a b = ([], 7) from by unfold causesR; rw [if_neg hB', if_neg (by omega), if_pos c3]]
      all_goals (try rfl)
    have e3 : decide (idxL n a b < 0) = false := by first | exact decide_eq_false (by omega) | simpa using c3
    have hR : causesR n f r fr a b = (causesX n f r fr a b, 0) := by unfold causesR; rw [if_neg hB', if_neg (by omega), if_neg c3]
    repeat (first
      | (with_reducible (first | refine sops_go ?_ | refine headW_end ?_ | refine sops_end ?_ | refine awp_if ?_ | refine awp_skip ?_ | refine awp_ret ?_ | refine awp_exit ?_); simp only [go_sem, simprocAttr, hF, hB])
      | with_reducible (first | refine awp_seq_k fun _ _ => ?_ | refine awp_region [] ?_ | refine awp_block ?_)
      | go_step)
    refine ⟨_, base_ok n f r hS hla hld, ?_⟩
    simp only [go_sem, simprocAttr, hF, hB]
    repeat (first
      | (with_reducible (first | refine sops_go ?_ | refine headW_end ?_ | refine sops_end ?_ | refine awp_if ?_ | refine awp_skip ?_ | refine awp_ret ?_ | refine awp_exit ?_); simp only [go_sem, simprocAttr, hF, hB, e1, e2])
      | with_reducible (first | refine awp_seq_k fun _ _ => ?_ | refine awp_region [] ?_ | refine awp_block ?_)
      | go_step)
    refine ⟨_, nindex_ok n a b hS hc, ?_⟩
    simp only [go_sem, simprocAttr, hF]
    try simp only [go_sem, simprocAttr, hF, e3]
    repeat (first
      | (with_reducible (first | refine sops_go ?_ | refine headW_end ?_ | refine sops_end ?_ | refine awp_if ?_ | refine awp_skip ?_ | refine awp_ret ?_ | refine awp_exit ?_); simp only [go_sem, simprocAttr, hF, e3])
      | with_reducible (first | refine awp_seq_k fun _ _ => ?_ | refine awp_region [] ?_ | refine awp_block ?_)
      | go_step)
    refine ⟨_, causes_ok n f r fr a b hS hB ⟨by omega, by omega⟩ (by omega) hla, ?_⟩
    simp only [go_sem, simprocAttr, hF]
    repeat (first
      | (with_reducible (first | refine sops_go ?_ | refine headW_end ?_ | refine sops_end ?_ | refine awp_if ?_ | refine awp_skip ?_ | refine awp_ret ?_ | refine awp_exit ?_); simp only [go_sem, simprocAttr, hF])
      | with_reducible (first | refine awp_seq_k fun _ _ => ?_ | refine awp_region [] ?_ | refine awp_block ?_)
      | go_step)
    all_goals (try rw [hR])
    all_goals (try rfl)
/- The example holds, by abstract states. -/
attribute [local go_sem] Tryz.sz20 Tryz.zr20 Tryz.by20 Tryz.pl20 Tryz.is20 Tryz.underlying20 Tryz.sz89 Tryz.zr89 Tryz.by89 Tryz.pl89 Tryz.is89 Tryz.underlying89 Tryz.sz132 Tryz.zr132 Tryz.by132 Tryz.pl132 Tryz.is132 Tryz.underlying132 Tryz.sz113 Tryz.zr113 Tryz.by113 Tryz.pl113 Tryz.is113 Tryz.underlying113 Tryz.sz9 Tryz.zr9 Tryz.by9 Tryz.pl9 Tryz.is9 Tryz.underlying9
theorem smallL : SmallN nL := ⟨by decide, by decide, by decide, by decide⟩
theorem awF3 : FnOK Tryz.prog 11 [.agg nL.pv, .agg fL.pv, .sl 1 (psL.map prow_pv), .agg rL.pv, iv 3] ⟨.tup [.g xL.pv, .c (ip 0)], none⟩ := by
  have h := find_okX nL fL psL rL 3 smallL (by decide) (by decide) (by decide) (by decide)
  rw [aw_find3] at h
  exact h
theorem awF2 : FnOK Tryz.prog 11 [.agg nL.pv, .agg fL.pv, .sl 1 (psL.map prow_pv), .agg rL.pv, iv 2] ⟨.tup [.g ex0.pv, .c (ip 7)], none⟩ := by
  have h := find_okX nL fL psL rL 2 smallL (by decide) (by decide) (by decide) (by decide)
  rw [aw_find2] at h
  exact h
theorem awCs : FnOK Tryz.prog 13 [.agg nL.pv, .agg fL.pv, .agg rL.pv, iv 3, iv 2, iv 1] ⟨.tup [.c (.sl 5 ([bL].map Br.pv)), .c (ip 0)], none⟩ := by
  have h := causesR_ok nL fL rL 3 2 1 smallL (by decide) (by decide)
  rw [aw_causes] at h
  exact h
theorem awC1 : FnOK Tryz.prog 20 [.agg nL.pv, .agg fL.pv, .sl 1 (psL.map prow_pv), .agg rL.pv, .agg xL.pv] ⟨iv 0, none⟩ := by
  have h := check_okX nL fL psL rL xL smallL (by decide) (by decide) (by decide) (by decide)
  rw [aw_ck] at h
  exact h
theorem awC2 : FnOK Tryz.prog 20 [.agg nL.pv, .agg fL.pv, .sl 1 (psL.map prow_pv), .agg rL.pv, .agg [ip 6, ip 3, ip (-1), .v (.slice none 0 0)]] ⟨iv 20, none⟩ := by
  have h := check_okX nL fL psL rL yL smallL (by decide) (by decide) (by decide) (by decide)
  rw [aw_ck2] at h
  exact fnOK_le h (.cons (.refl _) (.cons (.refl _) (.cons (.refl _) (.cons (.refl _) (.cons (.agg (.cons (.refl _) (.cons (.refl _) (.cons (.refl _) (.cons (.nil 5) .nil))))) .nil)))))
theorem awFm : FnOK Tryz.prog 18 [.agg xL.pv] ⟨.tup [.c (.v (.string sL)), .c (ip 0)], none⟩ := by
  have h := (format_okC (fun _ => True) (fun _ h => h) xL (by decide) (by decide) (fun i hi h => by
    have hlt : i < 100 := by
      rcases h with rfl | rfl | rfl | ⟨c, hc, h⟩
      · decide
      · decide
      · decide
      · obtain rfl : c = bL := List.mem_singleton.1 hc
        rcases h with rfl | rfl | h
        · decide
        · decide
        · rcases List.mem_cons.1 h with rfl | h
          · decide
          · obtain rfl := List.mem_singleton.1 h
            decide
    have := itoaS_ok i.toNat (by omega)
    rw [Int.toNat_of_nonneg hi.1] at this
    exact this.c)).plain
  rw [aw_fmt] at h
  exact h

set_option maxHeartbeats 20000000 in
theorem awake_ok : FnOK Tryz.prog 9 [] ⟨bv true, none⟩ := by
  have hca : xL.ca = [bL] := rfl
  have hx1 : xL.lt.fl = 6 := rfl
  have hx2 : xL.lt.fr = 3 := rfl
  have hx3 : xL.lt.sl = -1 := rfl
  have hs : (sL.toList == (⟨#[102, 108, 111, 119, 32, 54, 32, 102, 114, 97, 109, 101, 32, 51, 32, 110, 111, 116, 32, 100, 101, 108, 105, 118, 101, 114, 101, 100, 10, 108, 105, 110, 107, 32, 50, 32, 116, 111, 32, 49, 32, 108, 111, 115, 116, 32, 105, 110, 32, 115, 108, 111, 116, 115, 32, 50, 53, 32, 50, 54, 10]⟩ : ByteArray).toList) = true := beq_self_eq_true sL.toList
  have heq : decide (bL.sl = [25, 26]) = true := by decide
  refine fn_ok Tryz.func9 (by kernel_rfl) rfl (by rw [Tryz.ntmps9]; exact of_decide_eq_true rfl) (fun F hF => ?_)
  rw [Tryz.ntmps9] at hF
  rw [Tryz.results9]
  repeat (first
    | (with_reducible (first | refine sops_go ?_ | refine headW_end ?_ | refine sops_end ?_ | refine awp_if ?_ | refine awp_skip ?_ | refine awp_ret ?_ | refine awp_exit ?_); simp only [go_sem, simprocAttr, hF, cz0, cz1, cz2, cz3, cz4, tz0, tz1, tz2, tz3])
    | with_reducible (first | refine awp_seq_k fun _ _ => ?_ | refine awp_region [29] ?_ | refine awp_block ?_)
    | go_step)
  refine ⟨_, lineL_ok, ?_⟩
  simp only [go_sem, simprocAttr, hF]
  repeat (first
    | (with_reducible (first | refine sops_go ?_ | refine headW_end ?_ | refine sops_end ?_ | refine awp_if ?_ | refine awp_skip ?_ | refine awp_ret ?_ | refine awp_exit ?_); simp only [go_sem, simprocAttr, hF, cz0, cz1, cz2, cz3, cz4, tz0, tz1, tz2, tz3])
    | with_reducible (first | refine awp_seq_k fun _ _ => ?_ | refine awp_region [29] ?_ | refine awp_block ?_)
    | go_step)
  refine awp_nilB 4 1 8 66 (cs := _) rfl rfl ?_
  simp only [go_sem, simprocAttr, hF, cz0, cz1, cz2, cz3, cz4, tz0, tz1, tz2, tz3]
  refine awp_nilB 4 2 3 137 (cs := _) rfl rfl ?_
  simp only [go_sem, simprocAttr, hF, cz0, cz1, cz2, cz3, cz4, tz0, tz1, tz2, tz3]
  repeat (first
    | (with_reducible (first | refine sops_go ?_ | refine headW_end ?_ | refine sops_end ?_ | refine awp_if ?_ | refine awp_skip ?_ | refine awp_ret ?_ | refine awp_exit ?_); simp only [go_sem, simprocAttr, hF, cz0, cz1, cz2, cz3, cz4, tz0, tz1, tz2, tz3])
    | with_reducible (first | refine awp_seq_k fun _ _ => ?_ | refine awp_region [29] ?_ | refine awp_block ?_)
    | go_step)
  refine awp_loop_by (ι := {k : Nat // k ≤ 2}) (fun k σ => ⟨(23, iv (k.1 : Int)) :: keepS [0, 1, 2, 3, 4, 21, 22] σ.slot, [(4, [ip 32, .sl 8 ((rL.al.take k.1).map Att.pv), .sl 3 []]), (1, nL.pv), (2, fL.pv)], [(.b 4 1, (66, 8)), (.b 4 2, (137, 3))], σ.ext⟩) (fun k => 2 - k.1) ⟨0, by omega⟩ (sub_mk ?_) (fun R hR k => ?_)
  · simp only [go_sem, simprocAttr, hF]
    repeat' (first | rfl | exact True.intro | refine ⟨?_, ?_⟩)
  obtain ⟨k, hk⟩ := k
  dsimp only
  simp only [go_sem, simprocAttr, hF]
  have hks : k = 0 ∨ k = 1 ∨ k = 2 := by omega
  rcases hks with rfl | rfl | rfl
  · have hd : decide (((0 : Nat) : Int) < 2) = true := rfl
    have hw : IntKind.i64.wrap (((0 : Nat) : Int) + 1) = ((1 : Nat) : Int) := rfl
    have hTk : (rL.al.take 0).length ≤ 99999999 := by decide
    repeat (first
      | (with_reducible (first | refine sops_go ?_ | refine headW_end ?_ | refine sops_end ?_ | refine awp_if ?_ | refine awp_skip ?_ | refine awp_ret ?_ | refine awp_exit ?_); simp only [go_sem, simprocAttr, hF, hd, hTk, Int.toNat_natCast, tz0, tz1, tz2, tz3])
      | with_reducible (first | refine awp_seq_k fun _ _ => ?_ | refine awp_region [29] ?_ | refine awp_block ?_)
      | go_step)
    refine ⟨⟨1, by omega⟩, by dsimp only; omega, hR _ _ (sub_mk ?_)⟩
    simp only [go_sem, simprocAttr, hF, hw]
    repeat' (first | rfl | exact True.intro | refine ⟨?_, ?_⟩)
  · have hd : decide (((1 : Nat) : Int) < 2) = true := rfl
    have hw : IntKind.i64.wrap (((1 : Nat) : Int) + 1) = ((2 : Nat) : Int) := rfl
    have hTk : (rL.al.take 1).length ≤ 99999999 := by decide
    repeat (first
      | (with_reducible (first | refine sops_go ?_ | refine headW_end ?_ | refine sops_end ?_ | refine awp_if ?_ | refine awp_skip ?_ | refine awp_ret ?_ | refine awp_exit ?_); simp only [go_sem, simprocAttr, hF, hd, hTk, Int.toNat_natCast, tz0, tz1, tz2, tz3])
      | with_reducible (first | refine awp_seq_k fun _ _ => ?_ | refine awp_region [29] ?_ | refine awp_block ?_)
      | go_step)
    refine ⟨⟨2, by omega⟩, by dsimp only; omega, hR _ _ (sub_mk ?_)⟩
    simp only [go_sem, simprocAttr, hF, hw]
    repeat' (first | rfl | exact True.intro | refine ⟨?_, ?_⟩)
  · have hd : decide (((2 : Nat) : Int) < 2) = false := rfl
    repeat (first
      | (with_reducible (first | refine sops_go ?_ | refine headW_end ?_ | refine sops_end ?_ | refine awp_if ?_ | refine awp_skip ?_ | refine awp_ret ?_ | refine awp_exit ?_); simp only [go_sem, simprocAttr, hF, hd])
      | with_reducible (first | refine awp_seq_k fun _ _ => ?_ | refine awp_region [29] ?_ | refine awp_block ?_)
      | go_step)
    refine ⟨_, awF3, ?_⟩
    simp only [go_sem, simprocAttr, hF]
    repeat (first
      | (with_reducible (first | refine sops_go ?_ | refine headW_end ?_ | refine sops_end ?_ | refine awp_if ?_ | refine awp_skip ?_ | refine awp_ret ?_ | refine awp_exit ?_); simp only [go_sem, simprocAttr, hF, hx1, hx2, hx3, hca, cz0, cz1, cz2, cz3, cz4, tz0, tz1, tz2, tz3])
      | with_reducible (first | refine awp_seq_k fun _ _ => ?_ | refine awp_region [29] ?_ | refine awp_block ?_)
      | go_step)
    refine ⟨_, awFm, ?_⟩
    simp only [go_sem, simprocAttr, hF, hx1, hx2, hx3, hca, cz0, cz1, cz2, cz3, cz4, tz0, tz1, tz2, tz3]
    repeat (first
      | (with_reducible (first | refine sops_go ?_ | refine headW_end ?_ | refine sops_end ?_ | refine awp_if ?_ | refine awp_skip ?_ | refine awp_ret ?_ | refine awp_exit ?_); simp only [go_sem, simprocAttr, hF, hx1, hx2, hx3, hca, cz0, cz1, cz2, cz3, cz4, tz0, tz1, tz2, tz3])
      | with_reducible (first | refine awp_seq_k fun _ _ => ?_ | refine awp_region [29] ?_ | refine awp_block ?_)
      | go_step)
    refine ⟨_, awF2, ?_⟩
    simp only [go_sem, simprocAttr, hF, hx1, hx2, hx3, hca, cz0, cz1, cz2, cz3, cz4, tz0, tz1, tz2, tz3]
    repeat (first
      | (with_reducible (first | refine sops_go ?_ | refine headW_end ?_ | refine sops_end ?_ | refine awp_if ?_ | refine awp_skip ?_ | refine awp_ret ?_ | refine awp_exit ?_); simp only [go_sem, simprocAttr, hF, hx1, hx2, hx3, hca, cz0, cz1, cz2, cz3, cz4, tz0, tz1, tz2, tz3])
      | with_reducible (first | refine awp_seq_k fun _ _ => ?_ | refine awp_region [29] ?_ | refine awp_block ?_)
      | go_step)
    refine ⟨_, awCs, ?_⟩
    simp only [go_sem, simprocAttr, hF, hx1, hx2, hx3, hca, cz0, cz1, cz2, cz3, cz4, tz0, tz1, tz2, tz3]
    repeat (first
      | (with_reducible (first | refine sops_go ?_ | refine headW_end ?_ | refine sops_end ?_ | refine awp_if ?_ | refine awp_skip ?_ | refine awp_ret ?_ | refine awp_exit ?_); simp only [go_sem, simprocAttr, hF, hx1, hx2, hx3, hca, cz0, cz1, cz2, cz3, cz4, tz0, tz1, tz2, tz3])
      | with_reducible (first | refine awp_seq_k fun _ _ => ?_ | refine awp_region [29] ?_ | refine awp_block ?_)
      | go_step)
    refine ⟨_, eqI_ok bL.sl [25, 26] (by decide), ?_⟩
    simp only [go_sem, simprocAttr, hF, heq]
    repeat (first
      | (with_reducible (first | refine sops_go ?_ | refine headW_end ?_ | refine sops_end ?_ | refine awp_if ?_ | refine awp_skip ?_ | refine awp_ret ?_ | refine awp_exit ?_); simp only [go_sem, simprocAttr, hF, hx1, hx2, hx3, hca, cz0, cz1, cz2, cz3, cz4, tz0, tz1, tz2, tz3, hs, heq])
      | with_reducible (first | refine awp_seq_k fun _ _ => ?_ | refine awp_region [29] ?_ | refine awp_block ?_)
      | go_step)
    refine ⟨_, awC1, ?_⟩
    simp only [go_sem, simprocAttr, hF, hx1, hx2, hx3, hca, cz0, cz1, cz2, cz3, cz4, tz0, tz1, tz2, tz3]
    repeat (first
      | (with_reducible (first | refine sops_go ?_ | refine headW_end ?_ | refine sops_end ?_ | refine awp_if ?_ | refine awp_skip ?_ | refine awp_ret ?_ | refine awp_exit ?_); simp only [go_sem, simprocAttr, hF, hx1, hx2, hx3, hca, cz0, cz1, cz2, cz3, cz4, tz0, tz1, tz2, tz3])
      | with_reducible (first | refine awp_seq_k fun _ _ => ?_ | refine awp_region [29] ?_ | refine awp_block ?_)
      | go_step)
    refine ⟨_, awC2, ?_⟩
    simp only [go_sem, simprocAttr, hF, hx1, hx2, hx3, hca, cz0, cz1, cz2, cz3, cz4, tz0, tz1, tz2, tz3]
    repeat (first
      | (with_reducible (first | refine sops_go ?_ | refine headW_end ?_ | refine sops_end ?_ | refine awp_if ?_ | refine awp_skip ?_ | refine awp_ret ?_ | refine awp_exit ?_); simp only [go_sem, simprocAttr, hF, hx1, hx2, hx3, hca, cz0, cz1, cz2, cz3, cz4, tz0, tz1, tz2, tz3])
      | with_reducible (first | refine awp_seq_k fun _ _ => ?_ | refine awp_region [29] ?_ | refine awp_block ?_)
      | go_step)
    all_goals (try rfl)
/- What is small, by abstract states. -/
def nfewB (n : Net) : Bool := n.pow.all (fun l => decide (l.length ≤ 40)) && (decide ((n.pow.length : Int) ≤ 8) && (decide ((n.lk.length : Int) ≤ 60) && decide ((n.mg.length : Int) ≤ 60)))

def rfewB (r : Rec) : Bool := decide ((r.al.length : Int) ≤ 150) && decide ((r.dl.length : Int) ≤ 100)

def fewRB (ps : List (List Int)) : Bool := ps.all (fun p => decide (p.length ≤ 20)) && decide ((ps.length : Int) ≤ 4)
def few57B (n : Net) (ps : List (List Int)) (r : Rec) : Bool := nfewB n && (fewRB ps && rfewB r)
theorem few57_inv {n : Net} {ps : List (List Int)} {r : Rec} (h : few57B n ps r = true) : SmallN n ∧ ps.length ≤ 4 ∧ (∀ p ∈ ps, p.length ≤ 20) ∧ r.al.length ≤ 150 ∧ r.dl.length ≤ 100 := by
  unfold few57B nfewB fewRB rfewB at h
  simp only [Bool.and_eq_true, decide_eq_true_eq, List.all_eq_true] at h
  obtain ⟨⟨h1, h2, h3, h4⟩, ⟨h5, h6⟩, h7, h8⟩ := h
  exact ⟨⟨by omega, fun l hl => Nat.le_trans (h1 l hl) (by decide), by omega, by omega⟩, by omega, h5, by omega, by omega⟩
set_option maxHeartbeats 2000000 in
theorem nfew_ok (n : Net) (hp : n.pow.length ≤ 9223372036854775807) : FnOK Tryz.prog 33 [.agg n.pv] ⟨bv (nfewB n), none⟩ := by
  refine fn_ok Tryz.func33 (by kernel_rfl) rfl (by rw [Tryz.ntmps33]; exact of_decide_eq_true rfl) (fun F hF => ?_)
  rw [Tryz.ntmps33] at hF
  rw [Tryz.results33]
  repeat (first
    | (with_reducible (first | refine sops_go ?_ | refine headW_end ?_ | refine sops_end ?_ | refine awp_if ?_ | refine awp_skip ?_ | refine awp_ret ?_ | refine awp_exit ?_); simp only [go_sem, simprocAttr, hF])
    | with_reducible (first | refine awp_seq_k fun _ _ => ?_ | refine awp_region [] ?_ | refine awp_block ?_)
    | go_step)
  refine awp_loop_by (ι := {k : Nat // k ≤ n.pow.length ∧ ∀ l ∈ n.pow.take k, l.length ≤ 40}) (fun k σ => ⟨(3, iv (k.1 : Int)) :: keepS [1, 2] σ.slot, σ.box, [], σ.ext⟩) (fun k => n.pow.length - k.1) ⟨0, by omega, by simp⟩ (sub_mk ?_) (fun R hR k => ?_)
  · simp only [go_sem, simprocAttr, hF]
    repeat' (first | rfl | refine ⟨?_, ?_⟩)
  obtain ⟨k, hk, hT⟩ := k
  dsimp only
  simp only [go_sem, simprocAttr, hF]
  by_cases hlt : k < n.pow.length
  case neg =>
    have hd : decide ((k : Int) < (n.pow.length : Int)) = false := decide_eq_false (by omega)
    rw [List.take_of_length_le (by omega)] at hT
    have hall : n.pow.all (fun l => decide (l.length ≤ 40)) = true := List.all_eq_true.2 fun l hl => decide_eq_true (hT l hl)
    cases h1 : decide ((n.pow.length : Int) ≤ 8) <;> cases h2 : decide ((n.lk.length : Int) ≤ 60) <;> cases h3 : decide ((n.mg.length : Int) ≤ 60)
    · repeat (first
        | (with_reducible (first | refine sops_go ?_ | refine headW_end ?_ | refine sops_end ?_ | refine awp_if ?_ | refine awp_skip ?_ | refine awp_ret ?_ | refine awp_exit ?_); simp only [go_sem, simprocAttr, hF, hd, h1, h2, h3])
        | with_reducible (first | refine awp_seq_k fun _ _ => ?_ | refine awp_region [] ?_ | refine awp_block ?_)
        | go_step)
      rw [nfewB, hall, h1, h2, h3]
      try rfl
    · repeat (first
        | (with_reducible (first | refine sops_go ?_ | refine headW_end ?_ | refine sops_end ?_ | refine awp_if ?_ | refine awp_skip ?_ | refine awp_ret ?_ | refine awp_exit ?_); simp only [go_sem, simprocAttr, hF, hd, h1, h2, h3])
        | with_reducible (first | refine awp_seq_k fun _ _ => ?_ | refine awp_region [] ?_ | refine awp_block ?_)
        | go_step)
      rw [nfewB, hall, h1, h2, h3]
      try rfl
    · repeat (first
        | (with_reducible (first | refine sops_go ?_ | refine headW_end ?_ | refine sops_end ?_ | refine awp_if ?_ | refine awp_skip ?_ | refine awp_ret ?_ | refine awp_exit ?_); simp only [go_sem, simprocAttr, hF, hd, h1, h2, h3])
        | with_reducible (first | refine awp_seq_k fun _ _ => ?_ | refine awp_region [] ?_ | refine awp_block ?_)
        | go_step)
      rw [nfewB, hall, h1, h2, h3]
      try rfl
    · repeat (first
        | (with_reducible (first | refine sops_go ?_ | refine headW_end ?_ | refine sops_end ?_ | refine awp_if ?_ | refine awp_skip ?_ | refine awp_ret ?_ | refine awp_exit ?_); simp only [go_sem, simprocAttr, hF, hd, h1, h2, h3])
        | with_reducible (first | refine awp_seq_k fun _ _ => ?_ | refine awp_region [] ?_ | refine awp_block ?_)
        | go_step)
      rw [nfewB, hall, h1, h2, h3]
      try rfl
    · repeat (first
        | (with_reducible (first | refine sops_go ?_ | refine headW_end ?_ | refine sops_end ?_ | refine awp_if ?_ | refine awp_skip ?_ | refine awp_ret ?_ | refine awp_exit ?_); simp only [go_sem, simprocAttr, hF, hd, h1, h2, h3])
        | with_reducible (first | refine awp_seq_k fun _ _ => ?_ | refine awp_region [] ?_ | refine awp_block ?_)
        | go_step)
      rw [nfewB, hall, h1, h2, h3]
      try rfl
    · repeat (first
        | (with_reducible (first | refine sops_go ?_ | refine headW_end ?_ | refine sops_end ?_ | refine awp_if ?_ | refine awp_skip ?_ | refine awp_ret ?_ | refine awp_exit ?_); simp only [go_sem, simprocAttr, hF, hd, h1, h2, h3])
        | with_reducible (first | refine awp_seq_k fun _ _ => ?_ | refine awp_region [] ?_ | refine awp_block ?_)
        | go_step)
      rw [nfewB, hall, h1, h2, h3]
      try rfl
    · repeat (first
        | (with_reducible (first | refine sops_go ?_ | refine headW_end ?_ | refine sops_end ?_ | refine awp_if ?_ | refine awp_skip ?_ | refine awp_ret ?_ | refine awp_exit ?_); simp only [go_sem, simprocAttr, hF, hd, h1, h2, h3])
        | with_reducible (first | refine awp_seq_k fun _ _ => ?_ | refine awp_region [] ?_ | refine awp_block ?_)
        | go_step)
      rw [nfewB, hall, h1, h2, h3]
      try rfl
    · repeat (first
        | (with_reducible (first | refine sops_go ?_ | refine headW_end ?_ | refine sops_end ?_ | refine awp_if ?_ | refine awp_skip ?_ | refine awp_ret ?_ | refine awp_exit ?_); simp only [go_sem, simprocAttr, hF, hd, h1, h2, h3])
        | with_reducible (first | refine awp_seq_k fun _ _ => ?_ | refine awp_region [] ?_ | refine awp_block ?_)
        | go_step)
      rw [nfewB, hall, h1, h2, h3]
      try rfl
  obtain ⟨d, hdk⟩ := get_of_lt hlt
  have hd : decide ((k : Int) < (n.pow.length : Int)) = true := decide_eq_true (by omega)
  have hw : IntKind.i64.wrap ((k : Int) + 1) = ((k + 1 : Nat) : Int) := by rw [IntKind.wrap_i64]; omega
  by_cases h40 : d.length ≤ 40
  case neg =>
    have he : decide ((40 : Int) < (d.length : Int)) = true := decide_eq_true (by omega)
    have hall : n.pow.all (fun l => decide (l.length ≤ 40)) = false := by
      refine Bool.eq_false_iff.2 fun h => h40 ?_
      exact of_decide_eq_true (List.all_eq_true.1 h d (List.mem_of_getElem? hdk))
    repeat (first
      | (with_reducible (first | refine sops_go ?_ | refine headW_end ?_ | refine sops_end ?_ | refine awp_if ?_ | refine awp_skip ?_ | refine awp_ret ?_ | refine awp_exit ?_); simp only [go_sem, simprocAttr, hF, hd, hdk, he])
      | with_reducible (first | refine awp_seq_k fun _ _ => ?_ | refine awp_region [] ?_ | refine awp_block ?_)
      | go_step)
    rw [nfewB, hall]
    rfl
  have he : decide ((40 : Int) < (d.length : Int)) = false := decide_eq_false (by omega)
  repeat (first
    | (with_reducible (first | refine sops_go ?_ | refine headW_end ?_ | refine sops_end ?_ | refine awp_if ?_ | refine awp_skip ?_ | refine awp_ret ?_ | refine awp_exit ?_); simp only [go_sem, simprocAttr, hF, hd, hdk, he])
    | with_reducible (first | refine awp_seq_k fun _ _ => ?_ | refine awp_region [] ?_ | refine awp_block ?_)
    | go_step)
  refine ⟨⟨k + 1, by omega, fun l hl => by
      rw [List.take_add_one, hdk] at hl
      rcases List.mem_append.1 hl with hl | hl
      · exact hT l hl
      · simp at hl; subst hl; exact h40⟩, by dsimp only; omega, hR _ _ (sub_mk ?_)⟩
  simp only [go_sem, simprocAttr, hF, hw]

set_option maxHeartbeats 2000000 in
theorem rfew_ok (r : Rec) : FnOK Tryz.prog 35 [.agg r.pv] ⟨bv (rfewB r), none⟩ := by
  refine fn_ok Tryz.func35 (by kernel_rfl) rfl (by rw [Tryz.ntmps35]; exact of_decide_eq_true rfl) (fun F hF => ?_)
  rw [Tryz.ntmps35] at hF
  rw [Tryz.results35]
  unfold rfewB
  cases h1 : decide ((r.al.length : Int) ≤ 150) <;> cases h2 : decide ((r.dl.length : Int) ≤ 100)
  · repeat (first
      | (with_reducible (first | refine sops_go ?_ | refine headW_end ?_ | refine sops_end ?_ | refine awp_if ?_ | refine awp_skip ?_ | refine awp_ret ?_ | refine awp_exit ?_); simp only [go_sem, simprocAttr, hF, h1, h2])
      | with_reducible (first | refine awp_seq_k fun _ _ => ?_ | refine awp_region [] ?_ | refine awp_block ?_)
      | go_step)
    all_goals (try rfl)
  · repeat (first
      | (with_reducible (first | refine sops_go ?_ | refine headW_end ?_ | refine sops_end ?_ | refine awp_if ?_ | refine awp_skip ?_ | refine awp_ret ?_ | refine awp_exit ?_); simp only [go_sem, simprocAttr, hF, h1, h2])
      | with_reducible (first | refine awp_seq_k fun _ _ => ?_ | refine awp_region [] ?_ | refine awp_block ?_)
      | go_step)
    all_goals (try rfl)
  · repeat (first
      | (with_reducible (first | refine sops_go ?_ | refine headW_end ?_ | refine sops_end ?_ | refine awp_if ?_ | refine awp_skip ?_ | refine awp_ret ?_ | refine awp_exit ?_); simp only [go_sem, simprocAttr, hF, h1, h2])
      | with_reducible (first | refine awp_seq_k fun _ _ => ?_ | refine awp_region [] ?_ | refine awp_block ?_)
      | go_step)
    all_goals (try rfl)
  · repeat (first
      | (with_reducible (first | refine sops_go ?_ | refine headW_end ?_ | refine sops_end ?_ | refine awp_if ?_ | refine awp_skip ?_ | refine awp_ret ?_ | refine awp_exit ?_); simp only [go_sem, simprocAttr, hF, h1, h2])
      | with_reducible (first | refine awp_seq_k fun _ _ => ?_ | refine awp_region [] ?_ | refine awp_block ?_)
      | go_step)
    all_goals (try rfl)

set_option maxHeartbeats 2000000 in
theorem fewR_ok (ps : List (List Int)) (hps : ps.length ≤ 9223372036854775807) : FnOK Tryz.prog 34 [.sl 1 (ps.map prow_pv)] ⟨bv (fewRB ps), none⟩ := by
  refine fn_ok Tryz.func34 (by kernel_rfl) rfl (by rw [Tryz.ntmps34]; exact of_decide_eq_true rfl) (fun F hF => ?_)
  rw [Tryz.ntmps34] at hF
  rw [Tryz.results34]
  repeat (first
    | (with_reducible (first | refine sops_go ?_ | refine headW_end ?_ | refine sops_end ?_ | refine awp_if ?_ | refine awp_skip ?_ | refine awp_ret ?_ | refine awp_exit ?_); simp only [go_sem, simprocAttr, hF])
    | with_reducible (first | refine awp_seq_k fun _ _ => ?_ | refine awp_region [] ?_ | refine awp_block ?_)
    | go_step)
  refine awp_loop_by (ι := {k : Nat // k ≤ ps.length ∧ ∀ y ∈ ps.take k, y.length ≤ 20}) (fun k σ => ⟨(3, iv (k.1 : Int)) :: keepS [0] σ.slot, σ.box, [], σ.ext⟩) (fun k => ps.length - k.1) ⟨0, by omega, by simp⟩ (sub_mk ?_) (fun R hR k => ?_)
  · simp only [go_sem, simprocAttr, hF]
    repeat' (first | rfl | refine ⟨?_, ?_⟩)
  obtain ⟨k, hk, hT⟩ := k
  dsimp only
  simp only [go_sem, simprocAttr, hF]
  by_cases hlt : k < ps.length
  case neg =>
    have hd : decide ((k : Int) < (ps.length : Int)) = false := decide_eq_false (by omega)
    rw [List.take_of_length_le (by omega)] at hT
    have hall : ps.all (fun y => decide (y.length ≤ 20)) = true := List.all_eq_true.2 fun l hl => decide_eq_true (hT l hl)
    cases h1 : decide ((ps.length : Int) ≤ 4)
    · repeat (first
        | (with_reducible (first | refine sops_go ?_ | refine headW_end ?_ | refine sops_end ?_ | refine awp_if ?_ | refine awp_skip ?_ | refine awp_ret ?_ | refine awp_exit ?_); simp only [go_sem, simprocAttr, hF, hd, h1])
        | with_reducible (first | refine awp_seq_k fun _ _ => ?_ | refine awp_region [] ?_ | refine awp_block ?_)
        | go_step)
      rw [fewRB, hall, h1]
      try rfl
    · repeat (first
        | (with_reducible (first | refine sops_go ?_ | refine headW_end ?_ | refine sops_end ?_ | refine awp_if ?_ | refine awp_skip ?_ | refine awp_ret ?_ | refine awp_exit ?_); simp only [go_sem, simprocAttr, hF, hd, h1])
        | with_reducible (first | refine awp_seq_k fun _ _ => ?_ | refine awp_region [] ?_ | refine awp_block ?_)
        | go_step)
      rw [fewRB, hall, h1]
      try rfl
  obtain ⟨d, hdk⟩ := get_of_lt hlt
  have hd : decide ((k : Int) < (ps.length : Int)) = true := decide_eq_true (by omega)
  have hw : IntKind.i64.wrap ((k : Int) + 1) = ((k + 1 : Nat) : Int) := by rw [IntKind.wrap_i64]; omega
  by_cases h40 : d.length ≤ 20
  case neg =>
    have he : decide ((20 : Int) < (d.length : Int)) = true := decide_eq_true (by omega)
    have hall : ps.all (fun y => decide (y.length ≤ 20)) = false := by
      refine Bool.eq_false_iff.2 fun h => h40 ?_
      exact of_decide_eq_true (List.all_eq_true.1 h d (List.mem_of_getElem? hdk))
    repeat (first
      | (with_reducible (first | refine sops_go ?_ | refine headW_end ?_ | refine sops_end ?_ | refine awp_if ?_ | refine awp_skip ?_ | refine awp_ret ?_ | refine awp_exit ?_); simp only [go_sem, simprocAttr, hF, hd, hdk, he])
      | with_reducible (first | refine awp_seq_k fun _ _ => ?_ | refine awp_region [] ?_ | refine awp_block ?_)
      | go_step)
    rw [fewRB, hall]
    rfl
  have he : decide ((20 : Int) < (d.length : Int)) = false := decide_eq_false (by omega)
  repeat (first
    | (with_reducible (first | refine sops_go ?_ | refine headW_end ?_ | refine sops_end ?_ | refine awp_if ?_ | refine awp_skip ?_ | refine awp_ret ?_ | refine awp_exit ?_); simp only [go_sem, simprocAttr, hF, hd, hdk, he])
    | with_reducible (first | refine awp_seq_k fun _ _ => ?_ | refine awp_region [] ?_ | refine awp_block ?_)
    | go_step)
  refine ⟨⟨k + 1, by omega, fun l hl => by
      rw [List.take_add_one, hdk] at hl
      rcases List.mem_append.1 hl with hl | hl
      · exact hT l hl
      · simp at hl; subst hl; exact h40⟩, by dsimp only; omega, hR _ _ (sub_mk ?_)⟩
  simp only [go_sem, simprocAttr, hF, hw]

set_option maxHeartbeats 2000000 in
theorem few57_ok (n : Net) (ps : List (List Int)) (r : Rec) (hp : n.pow.length ≤ 9223372036854775807) (hps : ps.length ≤ 9223372036854775807) : FnOK Tryz.prog 10 [.agg n.pv, .sl 1 (ps.map prow_pv), .agg r.pv] ⟨bv (few57B n ps r), none⟩ := by
  refine fn_ok Tryz.func10 (by kernel_rfl) rfl (by rw [Tryz.ntmps10]; exact of_decide_eq_true rfl) (fun F hF => ?_)
  rw [Tryz.ntmps10] at hF
  rw [Tryz.results10]
  unfold few57B
  cases h1 : nfewB n <;> cases h2 : fewRB ps <;> cases h3 : rfewB r
  · repeat (first
      | (with_reducible (first | refine sops_go ?_ | refine headW_end ?_ | refine sops_end ?_ | refine awp_if ?_ | refine awp_skip ?_ | refine awp_ret ?_ | refine awp_exit ?_); simp only [go_sem, simprocAttr, hF, h1, h2, h3])
      | with_reducible (first | refine awp_seq_k fun _ _ => ?_ | refine awp_region [] ?_ | refine awp_block ?_)
      | go_step)
    refine ⟨_, nfew_ok n hp, ?_⟩
    simp only [go_sem, simprocAttr, hF, h1, h2, h3]
    repeat (first
      | (with_reducible (first | refine sops_go ?_ | refine headW_end ?_ | refine sops_end ?_ | refine awp_if ?_ | refine awp_skip ?_ | refine awp_ret ?_ | refine awp_exit ?_); simp only [go_sem, simprocAttr, hF, h1, h2, h3])
      | with_reducible (first | refine awp_seq_k fun _ _ => ?_ | refine awp_region [] ?_ | refine awp_block ?_)
      | go_step)
    all_goals (try rfl)
  · repeat (first
      | (with_reducible (first | refine sops_go ?_ | refine headW_end ?_ | refine sops_end ?_ | refine awp_if ?_ | refine awp_skip ?_ | refine awp_ret ?_ | refine awp_exit ?_); simp only [go_sem, simprocAttr, hF, h1, h2, h3])
      | with_reducible (first | refine awp_seq_k fun _ _ => ?_ | refine awp_region [] ?_ | refine awp_block ?_)
      | go_step)
    refine ⟨_, nfew_ok n hp, ?_⟩
    simp only [go_sem, simprocAttr, hF, h1, h2, h3]
    repeat (first
      | (with_reducible (first | refine sops_go ?_ | refine headW_end ?_ | refine sops_end ?_ | refine awp_if ?_ | refine awp_skip ?_ | refine awp_ret ?_ | refine awp_exit ?_); simp only [go_sem, simprocAttr, hF, h1, h2, h3])
      | with_reducible (first | refine awp_seq_k fun _ _ => ?_ | refine awp_region [] ?_ | refine awp_block ?_)
      | go_step)
    all_goals (try rfl)
  · repeat (first
      | (with_reducible (first | refine sops_go ?_ | refine headW_end ?_ | refine sops_end ?_ | refine awp_if ?_ | refine awp_skip ?_ | refine awp_ret ?_ | refine awp_exit ?_); simp only [go_sem, simprocAttr, hF, h1, h2, h3])
      | with_reducible (first | refine awp_seq_k fun _ _ => ?_ | refine awp_region [] ?_ | refine awp_block ?_)
      | go_step)
    refine ⟨_, nfew_ok n hp, ?_⟩
    simp only [go_sem, simprocAttr, hF, h1, h2, h3]
    repeat (first
      | (with_reducible (first | refine sops_go ?_ | refine headW_end ?_ | refine sops_end ?_ | refine awp_if ?_ | refine awp_skip ?_ | refine awp_ret ?_ | refine awp_exit ?_); simp only [go_sem, simprocAttr, hF, h1, h2, h3])
      | with_reducible (first | refine awp_seq_k fun _ _ => ?_ | refine awp_region [] ?_ | refine awp_block ?_)
      | go_step)
    all_goals (try rfl)
  · repeat (first
      | (with_reducible (first | refine sops_go ?_ | refine headW_end ?_ | refine sops_end ?_ | refine awp_if ?_ | refine awp_skip ?_ | refine awp_ret ?_ | refine awp_exit ?_); simp only [go_sem, simprocAttr, hF, h1, h2, h3])
      | with_reducible (first | refine awp_seq_k fun _ _ => ?_ | refine awp_region [] ?_ | refine awp_block ?_)
      | go_step)
    refine ⟨_, nfew_ok n hp, ?_⟩
    simp only [go_sem, simprocAttr, hF, h1, h2, h3]
    repeat (first
      | (with_reducible (first | refine sops_go ?_ | refine headW_end ?_ | refine sops_end ?_ | refine awp_if ?_ | refine awp_skip ?_ | refine awp_ret ?_ | refine awp_exit ?_); simp only [go_sem, simprocAttr, hF, h1, h2, h3])
      | with_reducible (first | refine awp_seq_k fun _ _ => ?_ | refine awp_region [] ?_ | refine awp_block ?_)
      | go_step)
    all_goals (try rfl)
  · repeat (first
      | (with_reducible (first | refine sops_go ?_ | refine headW_end ?_ | refine sops_end ?_ | refine awp_if ?_ | refine awp_skip ?_ | refine awp_ret ?_ | refine awp_exit ?_); simp only [go_sem, simprocAttr, hF, h1, h2, h3])
      | with_reducible (first | refine awp_seq_k fun _ _ => ?_ | refine awp_region [] ?_ | refine awp_block ?_)
      | go_step)
    refine ⟨_, nfew_ok n hp, ?_⟩
    simp only [go_sem, simprocAttr, hF, h1, h2, h3]
    repeat (first
      | (with_reducible (first | refine sops_go ?_ | refine headW_end ?_ | refine sops_end ?_ | refine awp_if ?_ | refine awp_skip ?_ | refine awp_ret ?_ | refine awp_exit ?_); simp only [go_sem, simprocAttr, hF, h1, h2, h3])
      | with_reducible (first | refine awp_seq_k fun _ _ => ?_ | refine awp_region [] ?_ | refine awp_block ?_)
      | go_step)
    refine ⟨_, fewR_ok ps hps, ?_⟩
    simp only [go_sem, simprocAttr, hF, h1, h2, h3]
    repeat (first
      | (with_reducible (first | refine sops_go ?_ | refine headW_end ?_ | refine sops_end ?_ | refine awp_if ?_ | refine awp_skip ?_ | refine awp_ret ?_ | refine awp_exit ?_); simp only [go_sem, simprocAttr, hF, h1, h2, h3])
      | with_reducible (first | refine awp_seq_k fun _ _ => ?_ | refine awp_region [] ?_ | refine awp_block ?_)
      | go_step)
    all_goals (try rfl)
  · repeat (first
      | (with_reducible (first | refine sops_go ?_ | refine headW_end ?_ | refine sops_end ?_ | refine awp_if ?_ | refine awp_skip ?_ | refine awp_ret ?_ | refine awp_exit ?_); simp only [go_sem, simprocAttr, hF, h1, h2, h3])
      | with_reducible (first | refine awp_seq_k fun _ _ => ?_ | refine awp_region [] ?_ | refine awp_block ?_)
      | go_step)
    refine ⟨_, nfew_ok n hp, ?_⟩
    simp only [go_sem, simprocAttr, hF, h1, h2, h3]
    repeat (first
      | (with_reducible (first | refine sops_go ?_ | refine headW_end ?_ | refine sops_end ?_ | refine awp_if ?_ | refine awp_skip ?_ | refine awp_ret ?_ | refine awp_exit ?_); simp only [go_sem, simprocAttr, hF, h1, h2, h3])
      | with_reducible (first | refine awp_seq_k fun _ _ => ?_ | refine awp_region [] ?_ | refine awp_block ?_)
      | go_step)
    refine ⟨_, fewR_ok ps hps, ?_⟩
    simp only [go_sem, simprocAttr, hF, h1, h2, h3]
    repeat (first
      | (with_reducible (first | refine sops_go ?_ | refine headW_end ?_ | refine sops_end ?_ | refine awp_if ?_ | refine awp_skip ?_ | refine awp_ret ?_ | refine awp_exit ?_); simp only [go_sem, simprocAttr, hF, h1, h2, h3])
      | with_reducible (first | refine awp_seq_k fun _ _ => ?_ | refine awp_region [] ?_ | refine awp_block ?_)
      | go_step)
    all_goals (try rfl)
  · repeat (first
      | (with_reducible (first | refine sops_go ?_ | refine headW_end ?_ | refine sops_end ?_ | refine awp_if ?_ | refine awp_skip ?_ | refine awp_ret ?_ | refine awp_exit ?_); simp only [go_sem, simprocAttr, hF, h1, h2, h3])
      | with_reducible (first | refine awp_seq_k fun _ _ => ?_ | refine awp_region [] ?_ | refine awp_block ?_)
      | go_step)
    refine ⟨_, nfew_ok n hp, ?_⟩
    simp only [go_sem, simprocAttr, hF, h1, h2, h3]
    repeat (first
      | (with_reducible (first | refine sops_go ?_ | refine headW_end ?_ | refine sops_end ?_ | refine awp_if ?_ | refine awp_skip ?_ | refine awp_ret ?_ | refine awp_exit ?_); simp only [go_sem, simprocAttr, hF, h1, h2, h3])
      | with_reducible (first | refine awp_seq_k fun _ _ => ?_ | refine awp_region [] ?_ | refine awp_block ?_)
      | go_step)
    refine ⟨_, fewR_ok ps hps, ?_⟩
    simp only [go_sem, simprocAttr, hF, h1, h2, h3]
    repeat (first
      | (with_reducible (first | refine sops_go ?_ | refine headW_end ?_ | refine sops_end ?_ | refine awp_if ?_ | refine awp_skip ?_ | refine awp_ret ?_ | refine awp_exit ?_); simp only [go_sem, simprocAttr, hF, h1, h2, h3])
      | with_reducible (first | refine awp_seq_k fun _ _ => ?_ | refine awp_region [] ?_ | refine awp_block ?_)
      | go_step)
    refine ⟨_, rfew_ok r, ?_⟩
    simp only [go_sem, simprocAttr, hF, h1, h2, h3]
    repeat (first
      | (with_reducible (first | refine sops_go ?_ | refine headW_end ?_ | refine sops_end ?_ | refine awp_if ?_ | refine awp_skip ?_ | refine awp_ret ?_ | refine awp_exit ?_); simp only [go_sem, simprocAttr, hF, h1, h2, h3])
      | with_reducible (first | refine awp_seq_k fun _ _ => ?_ | refine awp_region [] ?_ | refine awp_block ?_)
      | go_step)
    all_goals (try rfl)
  · repeat (first
      | (with_reducible (first | refine sops_go ?_ | refine headW_end ?_ | refine sops_end ?_ | refine awp_if ?_ | refine awp_skip ?_ | refine awp_ret ?_ | refine awp_exit ?_); simp only [go_sem, simprocAttr, hF, h1, h2, h3])
      | with_reducible (first | refine awp_seq_k fun _ _ => ?_ | refine awp_region [] ?_ | refine awp_block ?_)
      | go_step)
    refine ⟨_, nfew_ok n hp, ?_⟩
    simp only [go_sem, simprocAttr, hF, h1, h2, h3]
    repeat (first
      | (with_reducible (first | refine sops_go ?_ | refine headW_end ?_ | refine sops_end ?_ | refine awp_if ?_ | refine awp_skip ?_ | refine awp_ret ?_ | refine awp_exit ?_); simp only [go_sem, simprocAttr, hF, h1, h2, h3])
      | with_reducible (first | refine awp_seq_k fun _ _ => ?_ | refine awp_region [] ?_ | refine awp_block ?_)
      | go_step)
    refine ⟨_, fewR_ok ps hps, ?_⟩
    simp only [go_sem, simprocAttr, hF, h1, h2, h3]
    repeat (first
      | (with_reducible (first | refine sops_go ?_ | refine headW_end ?_ | refine sops_end ?_ | refine awp_if ?_ | refine awp_skip ?_ | refine awp_ret ?_ | refine awp_exit ?_); simp only [go_sem, simprocAttr, hF, h1, h2, h3])
      | with_reducible (first | refine awp_seq_k fun _ _ => ?_ | refine awp_region [] ?_ | refine awp_block ?_)
      | go_step)
    refine ⟨_, rfew_ok r, ?_⟩
    simp only [go_sem, simprocAttr, hF, h1, h2, h3]
    repeat (first
      | (with_reducible (first | refine sops_go ?_ | refine headW_end ?_ | refine sops_end ?_ | refine awp_if ?_ | refine awp_skip ?_ | refine awp_ret ?_ | refine awp_exit ?_); simp only [go_sem, simprocAttr, hF, h1, h2, h3])
      | with_reducible (first | refine awp_seq_k fun _ _ => ?_ | refine awp_region [] ?_ | refine awp_block ?_)
      | go_step)
    all_goals (try rfl)
/- The reference of networks by abstract states: in, Find. -/
set_option maxHeartbeats 2000000 in
theorem in31_ok (n a b : Int) : FnOK Tryz.prog 114 [iv n, iv a, iv b] ⟨bv (inR n a b), none⟩ := by
  refine fn_ok Tryz.func114 (by kernel_rfl) rfl (by rw [Tryz.ntmps114]; exact of_decide_eq_true rfl) (fun F hF => ?_)
  rw [Tryz.ntmps114] at hF
  rw [Tryz.results114]
  unfold inR
  cases h1 : decide (a ≤ n) <;> cases h2 : decide (n ≤ b)
  · repeat (first
      | (with_reducible (first | refine sops_go ?_ | refine headW_end ?_ | refine sops_end ?_ | refine awp_if ?_ | refine awp_skip ?_ | refine awp_ret ?_ | refine awp_exit ?_); simp only [go_sem, simprocAttr, hF, h1, h2])
      | with_reducible (first | refine awp_seq_k fun _ _ => ?_ | refine awp_region [] ?_ | refine awp_block ?_)
      | go_step)
    all_goals (try rfl)
  · repeat (first
      | (with_reducible (first | refine sops_go ?_ | refine headW_end ?_ | refine sops_end ?_ | refine awp_if ?_ | refine awp_skip ?_ | refine awp_ret ?_ | refine awp_exit ?_); simp only [go_sem, simprocAttr, hF, h1, h2])
      | with_reducible (first | refine awp_seq_k fun _ _ => ?_ | refine awp_region [] ?_ | refine awp_block ?_)
      | go_step)
    all_goals (try rfl)
  · repeat (first
      | (with_reducible (first | refine sops_go ?_ | refine headW_end ?_ | refine sops_end ?_ | refine awp_if ?_ | refine awp_skip ?_ | refine awp_ret ?_ | refine awp_exit ?_); simp only [go_sem, simprocAttr, hF, h1, h2])
      | with_reducible (first | refine awp_seq_k fun _ _ => ?_ | refine awp_region [] ?_ | refine awp_block ?_)
      | go_step)
    all_goals (try rfl)
  · repeat (first
      | (with_reducible (first | refine sops_go ?_ | refine headW_end ?_ | refine sops_end ?_ | refine awp_if ?_ | refine awp_skip ?_ | refine awp_ret ?_ | refine awp_exit ?_); simp only [go_sem, simprocAttr, hF, h1, h2])
      | with_reducible (first | refine awp_seq_k fun _ _ => ?_ | refine awp_region [] ?_ | refine awp_block ?_)
      | go_step)
    all_goals (try rfl)

set_option maxHeartbeats 2000000 in
theorem nfind_ok (n : Net) (a b : Int) (hk : n.lk.length ≤ 1000000) : FnOK Tryz.prog 43 [.agg n.pv, iv a, iv b] ⟨iv (idxP (fun l : Lk => l.fr == a && l.tt == b) n.lk 0), none⟩ := by
  refine fn_ok Tryz.func43 (by kernel_rfl) rfl (by rw [Tryz.ntmps43]; exact of_decide_eq_true rfl) (fun F hF => ?_)
  rw [Tryz.ntmps43] at hF
  rw [Tryz.results43]
  repeat (first
    | (with_reducible (first | refine sops_go ?_ | refine headW_end ?_ | refine sops_end ?_ | refine awp_if ?_ | refine awp_skip ?_ | refine awp_ret ?_ | refine awp_exit ?_); simp only [go_sem, simprocAttr, hF])
    | with_reducible (first | refine awp_seq_k fun _ _ => ?_ | refine awp_region [] ?_ | refine awp_block ?_)
    | go_step)
  refine awp_loop_by (ι := {k : Nat // k ≤ n.lk.length ∧ idxP (fun l : Lk => l.fr == a && l.tt == b) n.lk 0 = idxP (fun l : Lk => l.fr == a && l.tt == b) (n.lk.drop k) (k : Int)}) (fun k σ => ⟨(7, iv (k.1 : Int)) :: keepS [1, 2, 3, 6] σ.slot, σ.box, [], σ.ext⟩) (fun k => n.lk.length - k.1) ⟨0, by omega, rfl⟩ (sub_mk ?_) (fun R hR k => ?_)
  · simp only [go_sem, simprocAttr, hF]
    repeat' (first | rfl | refine ⟨?_, ?_⟩)
  obtain ⟨k, hk, hT⟩ := k
  dsimp only
  simp only [go_sem, simprocAttr, hF]
  by_cases hlt : k < n.lk.length
  case neg =>
    have hd : decide ((k : Int) < (n.lk.length : Int)) = false := decide_eq_false (by omega)
    repeat (first
      | (with_reducible (first | refine sops_go ?_ | refine headW_end ?_ | refine sops_end ?_ | refine awp_if ?_ | refine awp_skip ?_ | refine awp_ret ?_ | refine awp_exit ?_); simp only [go_sem, simprocAttr, hF, hd])
      | with_reducible (first | refine awp_seq_k fun _ _ => ?_ | refine awp_region [] ?_ | refine awp_block ?_)
      | go_step)
    rw [hT, List.drop_of_length_le (by omega)]
    rfl
  obtain ⟨d, hdk⟩ := get_of_lt hlt
  have hd : decide ((k : Int) < (n.lk.length : Int)) = true := decide_eq_true (by omega)
  have hw : IntKind.i64.wrap ((k : Int) + 1) = ((k + 1 : Nat) : Int) := by rw [IntKind.wrap_i64]; omega
  have hT' : idxP (fun l : Lk => l.fr == a && l.tt == b) n.lk 0 = if (d.fr == a && d.tt == b) = true then (k : Int) else idxP (fun l : Lk => l.fr == a && l.tt == b) (n.lk.drop (k + 1)) ((k + 1 : Nat) : Int) := by rw [hT, drop_of_get hdk, idxP]; rfl
  cases e1 : (d.fr == a) with
  | false =>
    repeat (first
      | (with_reducible (first | refine sops_go ?_ | refine headW_end ?_ | refine sops_end ?_ | refine awp_if ?_ | refine awp_skip ?_ | refine awp_ret ?_ | refine awp_exit ?_); simp only [go_sem, simprocAttr, hF, hd, hdk, e1])
      | with_reducible (first | refine awp_seq_k fun _ _ => ?_ | refine awp_region [] ?_ | refine awp_block ?_)
      | go_step)
    refine ⟨⟨k + 1, by omega, by rw [hT', e1]; rfl⟩, by dsimp only; omega, hR _ _ (sub_mk ?_)⟩
    simp only [go_sem, simprocAttr, hF, hw]
  | true =>
    cases e2 : (d.tt == b) with
    | false =>
      repeat (first
        | (with_reducible (first | refine sops_go ?_ | refine headW_end ?_ | refine sops_end ?_ | refine awp_if ?_ | refine awp_skip ?_ | refine awp_ret ?_ | refine awp_exit ?_); simp only [go_sem, simprocAttr, hF, hd, hdk, e1, e2])
        | with_reducible (first | refine awp_seq_k fun _ _ => ?_ | refine awp_region [] ?_ | refine awp_block ?_)
        | go_step)
      refine ⟨⟨k + 1, by omega, by rw [hT', e1, e2]; rfl⟩, by dsimp only; omega, hR _ _ (sub_mk ?_)⟩
      simp only [go_sem, simprocAttr, hF, hw]
    | true =>
      repeat (first
        | (with_reducible (first | refine sops_go ?_ | refine headW_end ?_ | refine sops_end ?_ | refine awp_if ?_ | refine awp_skip ?_ | refine awp_ret ?_ | refine awp_exit ?_); simp only [go_sem, simprocAttr, hF, hd, hdk, e1, e2])
        | with_reducible (first | refine awp_seq_k fun _ _ => ?_ | refine awp_region [] ?_ | refine awp_block ?_)
        | go_step)
      rw [hT', e1, e2]
      rfl
/- The reference of networks by abstract states: table. -/
set_option maxHeartbeats 20000000 in
theorem table_ok (n : Net) (hp : n.pow.length ≤ 1000000) (hpl : ∀ l ∈ n.pow, l.length ≤ 1000000) : FnOK Tryz.prog 115 [.agg n.pv] ⟨iv (powE n.nodes n.pow), none⟩ := by
  have hp1 := hp
  refine fn_ok Tryz.func115 (by kernel_rfl) rfl (by rw [Tryz.ntmps115]; exact of_decide_eq_true rfl) (fun F hF => ?_)
  rw [Tryz.ntmps115] at hF
  rw [Tryz.results115]
  by_cases hlen : (n.pow.length : Int) = n.nodes
  case neg =>
    have he : ((n.pow.length : Int) != n.nodes) = true := by simpa using hlen
    repeat (first
      | (with_reducible (first | refine sops_go ?_ | refine headW_end ?_ | refine sops_end ?_ | refine awp_if ?_ | refine awp_skip ?_ | refine awp_ret ?_ | refine awp_exit ?_); simp only [go_sem, simprocAttr, hF, he])
      | ((with_reducible refine headW_go ?_); simp only [go_sem, simprocAttr, hF, he, hbx])
      | with_reducible refine awp_seq_k fun _ _ => ?_
      | (refine awp_draw' (id := 6) [] 9 (by kernel_rfl) (by kernel_rfl) rfl rfl (fun bx0 hbx => ?_); try dsimp only [List.take, List.drop])
      | with_reducible (first | refine awp_region [] ?_ | refine awp_block ?_)
      | go_step)
    rw [powE, if_pos (.inl hlen)]
  have he : ((n.pow.length : Int) != n.nodes) = false := by simpa using hlen
  repeat (first
    | (with_reducible (first | refine sops_go ?_ | refine headW_end ?_ | refine sops_end ?_ | refine awp_if ?_ | refine awp_skip ?_ | refine awp_ret ?_ | refine awp_exit ?_); simp only [go_sem, simprocAttr, hF, he])
    | ((with_reducible refine headW_go ?_); simp only [go_sem, simprocAttr, hF, he, hbx])
    | with_reducible refine awp_seq_k fun _ _ => ?_
    | (refine awp_draw' (id := 6) [] 9 (by kernel_rfl) (by kernel_rfl) rfl rfl (fun bx0 hbx => ?_); try dsimp only [List.take, List.drop])
    | with_reducible (first | refine awp_region [] ?_ | refine awp_block ?_)
    | go_step)
  refine awp_loop_by (ι := {k : Nat // k ≤ n.pow.length ∧ ∀ l ∈ n.pow.take k, (l.length : Int) = n.nodes}) (fun k σ => ⟨(3, iv (k.1 : Int)) :: keepS [1, 2] σ.slot, σ.box, [], σ.ext⟩) (fun k => n.pow.length - k.1) ⟨0, by omega, by simp⟩ (sub_mk ?_) (fun R hR k => ?_)
  · simp only [go_sem, simprocAttr, hF]
    repeat' (first | rfl | refine ⟨?_, ?_⟩)
  obtain ⟨k, hk, hT⟩ := k
  dsimp only
  simp only [go_sem, simprocAttr, hF]
  by_cases hlt : k < n.pow.length
  case neg =>
    have hd : decide ((k : Int) < n.nodes) = false := decide_eq_false (by omega)
    rw [List.take_of_length_le (by omega)] at hT
    have hA : (n.pow.any fun r => !(((r.length : Nat) : Int) == n.nodes)) = false := by
      rw [List.any_eq_false]
      intro l hl
      simp [hT l hl]
    repeat (first
      | (with_reducible (first | refine sops_go ?_ | refine headW_end ?_ | refine sops_end ?_ | refine awp_if ?_ | refine awp_skip ?_ | refine awp_ret ?_ | refine awp_exit ?_); simp only [go_sem, simprocAttr, hF, hd])
      | ((with_reducible refine headW_go ?_); simp only [go_sem, simprocAttr, hF, hd, hbx])
      | with_reducible refine awp_seq_k fun _ _ => ?_
      | (refine awp_draw' (id := 6) [] 9 (by kernel_rfl) (by kernel_rfl) rfl rfl (fun bx0 hbx => ?_); try dsimp only [List.take, List.drop])
      | with_reducible (first | refine awp_region [] ?_ | refine awp_block ?_)
      | go_step)
    refine awp_loop_by (ι := {k : Nat // k ≤ n.pow.length ∧ (n.pow.take k).any (fun r => r.any outP) = false}) (fun k σ => ⟨(4, iv (k.1 : Int)) :: keepS [1, 2] σ.slot, σ.box, [], σ.ext⟩) (fun k => n.pow.length - k.1) ⟨0, by omega, rfl⟩ (sub_mk ?_) (fun R2 hR2 j => ?_)
    · simp only [go_sem, simprocAttr, hF]
      repeat' (first | rfl | refine ⟨?_, ?_⟩)
    obtain ⟨j, hj, hU⟩ := j
    dsimp only
    simp only [go_sem, simprocAttr, hF]
    by_cases hjt : j < n.pow.length
    case neg =>
      have hdj : decide ((j : Int) < n.nodes) = false := decide_eq_false (by omega)
      rw [List.take_of_length_le (by omega)] at hU
      repeat (first
        | (with_reducible (first | refine sops_go ?_ | refine headW_end ?_ | refine sops_end ?_ | refine awp_if ?_ | refine awp_skip ?_ | refine awp_ret ?_ | refine awp_exit ?_); simp only [go_sem, simprocAttr, hF, hdj])
        | ((with_reducible refine headW_go ?_); simp only [go_sem, simprocAttr, hF, hdj, hbx])
        | with_reducible refine awp_seq_k fun _ _ => ?_
        | (refine awp_draw' (id := 6) [] 9 (by kernel_rfl) (by kernel_rfl) rfl rfl (fun bx0 hbx => ?_); try dsimp only [List.take, List.drop])
        | with_reducible (first | refine awp_region [] ?_ | refine awp_block ?_)
        | go_step)
      rw [powE, if_neg (by rintro (h | h); exact h hlen; rw [hA] at h; cases h), if_neg (by rw [hU]; decide)]
    obtain ⟨row, hrow⟩ := get_of_lt hjt
    have hrl := hT row (List.mem_of_getElem? hrow)
    have hdj : decide ((j : Int) < n.nodes) = true := decide_eq_true (by omega)
    have hwj : IntKind.i64.wrap ((j : Int) + 1) = ((j + 1 : Nat) : Int) := by rw [IntKind.wrap_i64]; omega
    have hTj : n.pow.take (j + 1) = n.pow.take j ++ [row] := by rw [List.take_add_one, hrow]; rfl
    repeat (first
      | (with_reducible (first | refine sops_go ?_ | refine headW_end ?_ | refine sops_end ?_ | refine awp_if ?_ | refine awp_skip ?_ | refine awp_ret ?_ | refine awp_exit ?_); simp only [go_sem, simprocAttr, hF, hdj])
      | ((with_reducible refine headW_go ?_); simp only [go_sem, simprocAttr, hF, hdj, hbx])
      | with_reducible refine awp_seq_k fun _ _ => ?_
      | (refine awp_draw' (id := 6) [] 9 (by kernel_rfl) (by kernel_rfl) rfl rfl (fun bx0 hbx => ?_); try dsimp only [List.take, List.drop])
      | with_reducible (first | refine awp_region [] ?_ | refine awp_block ?_)
      | go_step)
    refine awp_loop_by (ι := {i : Nat // i ≤ row.length ∧ (row.take i).any outP = false}) (fun i σ => ⟨(5, iv (i.1 : Int)) :: keepS [1, 2, 4] σ.slot, σ.box, [], σ.ext⟩) (fun i => row.length - i.1) ⟨0, by omega, rfl⟩ (sub_mk ?_) (fun R3 hR3 i => ?_)
    · simp only [go_sem, simprocAttr, hF]
      repeat' (first | rfl | refine ⟨?_, ?_⟩)
    obtain ⟨i, hi, hV⟩ := i
    dsimp only
    simp only [go_sem, simprocAttr, hF]
    by_cases hit : i < row.length
    case neg =>
      have hdi : decide ((i : Int) < n.nodes) = false := decide_eq_false (by omega)
      rw [List.take_of_length_le (by omega)] at hV
      repeat (first
        | (with_reducible (first | refine sops_go ?_ | refine headW_end ?_ | refine sops_end ?_ | refine awp_if ?_ | refine awp_skip ?_ | refine awp_ret ?_ | refine awp_exit ?_); simp only [go_sem, simprocAttr, hF, hdi])
        | ((with_reducible refine headW_go ?_); simp only [go_sem, simprocAttr, hF, hdi, hbx])
        | with_reducible refine awp_seq_k fun _ _ => ?_
        | (refine awp_draw' (id := 6) [] 9 (by kernel_rfl) (by kernel_rfl) rfl rfl (fun bx0 hbx => ?_); try dsimp only [List.take, List.drop])
        | with_reducible (first | refine awp_region [] ?_ | refine awp_block ?_)
        | go_step)
      refine ⟨⟨j + 1, by omega, by rw [hTj, List.any_append, hU, List.any_cons, hV]; rfl⟩, by dsimp only; omega, hR2 _ _ (sub_mk ?_)⟩
      simp only [go_sem, simprocAttr, hF, hwj]
    obtain ⟨x, hx⟩ := get_of_lt hit
    have hdi : decide ((i : Int) < n.nodes) = true := decide_eq_true (by omega)
    have hwi : IntKind.i64.wrap ((i : Int) + 1) = ((i + 1 : Nat) : Int) := by rw [IntKind.wrap_i64]; omega
    repeat (first
      | (with_reducible (first | refine sops_go ?_ | refine headW_end ?_ | refine sops_end ?_ | refine awp_if ?_ | refine awp_skip ?_ | refine awp_ret ?_ | refine awp_exit ?_); simp only [go_sem, simprocAttr, hF, hdi, hrow, hx])
      | ((with_reducible refine headW_go ?_); simp only [go_sem, simprocAttr, hF, hdi, hrow, hx, hbx])
      | with_reducible refine awp_seq_k fun _ _ => ?_
      | (refine awp_draw' (id := 6) [] 9 (by kernel_rfl) (by kernel_rfl) rfl rfl (fun bx0 hbx => ?_); try dsimp only [List.take, List.drop])
      | with_reducible (first | refine awp_region [] ?_ | refine awp_block ?_)
      | go_step)
    refine ⟨_, in31_ok x 0 68719476736, ?_⟩
    simp only [go_sem, simprocAttr, hF]
    cases ho : inR x 0 68719476736 with
    | false =>
      have hout : outP x = true := by
        unfold outP
        unfold inR at ho
        simp only [Bool.and_eq_false_iff, decide_eq_false_iff_not] at ho
        simp only [Bool.or_eq_true, decide_eq_true_eq]
        omega
      have hB : (n.pow.any fun r => r.any outP) = true := List.any_eq_true.2 ⟨row, List.mem_of_getElem? hrow, List.any_eq_true.2 ⟨x, List.mem_of_getElem? hx, hout⟩⟩
      try simp only [go_sem, simprocAttr, hF, ho]
      repeat (first
        | (with_reducible (first | refine sops_go ?_ | refine headW_end ?_ | refine sops_end ?_ | refine awp_if ?_ | refine awp_skip ?_ | refine awp_ret ?_ | refine awp_exit ?_); simp only [go_sem, simprocAttr, hF, ho])
        | ((with_reducible refine headW_go ?_); simp only [go_sem, simprocAttr, hF, ho, hbx])
        | with_reducible refine awp_seq_k fun _ _ => ?_
        | (refine awp_draw' (id := 6) [] 9 (by kernel_rfl) (by kernel_rfl) rfl rfl (fun bx0 hbx => ?_); try dsimp only [List.take, List.drop])
        | with_reducible (first | refine awp_region [] ?_ | refine awp_block ?_)
        | go_step)
      rw [powE, if_neg (by rintro (h | h); exact h hlen; rw [hA] at h; cases h), if_pos hB]
    | true =>
      have hout : outP x = false := by
        unfold outP
        unfold inR at ho
        simp only [Bool.and_eq_true, decide_eq_true_eq] at ho
        simp only [Bool.or_eq_false_iff, decide_eq_false_iff_not]
        omega
      try simp only [go_sem, simprocAttr, hF, ho]
      repeat (first
        | (with_reducible (first | refine sops_go ?_ | refine headW_end ?_ | refine sops_end ?_ | refine awp_if ?_ | refine awp_skip ?_ | refine awp_ret ?_ | refine awp_exit ?_); simp only [go_sem, simprocAttr, hF, ho])
        | ((with_reducible refine headW_go ?_); simp only [go_sem, simprocAttr, hF, ho, hbx])
        | with_reducible refine awp_seq_k fun _ _ => ?_
        | (refine awp_draw' (id := 6) [] 9 (by kernel_rfl) (by kernel_rfl) rfl rfl (fun bx0 hbx => ?_); try dsimp only [List.take, List.drop])
        | with_reducible (first | refine awp_region [] ?_ | refine awp_block ?_)
        | go_step)
      refine ⟨⟨i + 1, by omega, by rw [List.take_add_one, hx, List.any_append, hV]; simp [hout]⟩, by dsimp only; omega, hR3 _ _ (sub_mk ?_)⟩
      simp only [go_sem, simprocAttr, hF, hwi]
  obtain ⟨d, hdk⟩ := get_of_lt hlt
  have hd : decide ((k : Int) < n.nodes) = true := decide_eq_true (by omega)
  have hw : IntKind.i64.wrap ((k : Int) + 1) = ((k + 1 : Nat) : Int) := by rw [IntKind.wrap_i64]; omega
  by_cases hne : (d.length : Int) = n.nodes
  case neg =>
    have h1 : ((d.length : Int) != n.nodes) = true := by simpa using hne
    have hA : (n.pow.any fun r => !(((r.length : Nat) : Int) == n.nodes)) = true := List.any_eq_true.2 ⟨d, List.mem_of_getElem? hdk, by simpa using hne⟩
    repeat (first
      | (with_reducible (first | refine sops_go ?_ | refine headW_end ?_ | refine sops_end ?_ | refine awp_if ?_ | refine awp_skip ?_ | refine awp_ret ?_ | refine awp_exit ?_); simp only [go_sem, simprocAttr, hF, hd, hdk, h1])
      | ((with_reducible refine headW_go ?_); simp only [go_sem, simprocAttr, hF, hd, hdk, h1, hbx])
      | with_reducible refine awp_seq_k fun _ _ => ?_
      | (refine awp_draw' (id := 6) [] 9 (by kernel_rfl) (by kernel_rfl) rfl rfl (fun bx0 hbx => ?_); try dsimp only [List.take, List.drop])
      | with_reducible (first | refine awp_region [] ?_ | refine awp_block ?_)
      | go_step)
    rw [powE, if_pos (.inr hA)]
  have h1 : ((d.length : Int) != n.nodes) = false := by simpa using hne
  repeat (first
    | (with_reducible (first | refine sops_go ?_ | refine headW_end ?_ | refine sops_end ?_ | refine awp_if ?_ | refine awp_skip ?_ | refine awp_ret ?_ | refine awp_exit ?_); simp only [go_sem, simprocAttr, hF, hd, hdk, h1])
    | ((with_reducible refine headW_go ?_); simp only [go_sem, simprocAttr, hF, hd, hdk, h1, hbx])
    | with_reducible refine awp_seq_k fun _ _ => ?_
    | (refine awp_draw' (id := 6) [] 9 (by kernel_rfl) (by kernel_rfl) rfl rfl (fun bx0 hbx => ?_); try dsimp only [List.take, List.drop])
    | with_reducible (first | refine awp_region [] ?_ | refine awp_block ?_)
    | go_step)
  refine ⟨⟨k + 1, by omega, fun l hl => by
      rw [List.take_add_one, hdk] at hl
      rcases List.mem_append.1 hl with hl | hl
      · exact hT l hl
      · simp at hl; subst hl; exact hne⟩, by dsimp only; omega, hR _ _ (sub_mk ?_)⟩
  simp only [go_sem, simprocAttr, hF, hw]
end Go.Proofs.YticnppnejafhdaaGreatDoor

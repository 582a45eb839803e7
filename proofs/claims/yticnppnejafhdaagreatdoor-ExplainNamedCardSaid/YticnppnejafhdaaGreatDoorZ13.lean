import Derived.Test.YticnppnejafhdaaGreatDoorZ12
/- Slots of a frame, for whatever frame can be recorded. -/
namespace Go.Proofs.YticnppnejafhdaaGreatDoor
open Go.RowKit
open Nd Rc Mo
open Av
set_option maxRecDepth 100000
set_option linter.unusedSimpArgs false

set_option maxHeartbeats 1000000 in
theorem releaseW_any (f : Fl) (n : Int) (hf : fault f = 0) (h0 : 0 ≤ n) (h1 : n ≤ 1048576) (w : World) :
    Calls Tryz.prog 106 #[.agg #[.int .i64 f.id, .int .i64 f.fr, .int .i64 f.tn, .int .i64 f.pe, .int .i64 f.ph, .int .i64 f.dl], .int .i64 n] w fun e w' => e = .returned (.tuple #[.int .i64 (rel f n), .int .i64 0]) ∧ Below w.heap.size w w' := by
  have con := fun W => alone_any f W
  rw [hf] at con
  obtain ⟨_, _, _, hp, hq, hdl, _⟩ := fault_zero hf
  have hm0 : 0 ≤ n * f.pe := Int.mul_nonneg h0 (by omega)
  have hm1 : n * f.pe ≤ 1048576 * f.pe := Int.mul_le_mul_of_nonneg_right h1 (by omega)
  unfold rel
  obtain ⟨m, hmm⟩ : ∃ m, m = n * f.pe := ⟨_, rfl⟩
  have hw1 : IntKind.i64.wrap (n * f.pe) = m := by rw [← hmm, IntKind.wrap_i64]; omega
  rw [← hmm] at hm0 hm1 ⊢
  have hw2 : IntKind.i64.wrap (f.ph + m) = f.ph + m := by rw [IntKind.wrap_i64]; omega
  have d0 : decide (n < 0) = false := decide_eq_false (by omega)
  have d1 : decide (1099511627776 < n) = false := decide_eq_false (by omega)
  have d2 : decide (1099511627776 < f.ph + m) = false := decide_eq_false (by omega)
  clear hf
  obtain ⟨id, fr, tn, pe, ph, dl⟩ := f
  dsimp only at *
  have HMM := Lib.hid hmm.symm
  have Con := Lib.hid con
  clear con hmm
  go_enter Tryz.func106, Tryz.ntmps106
  go_wp2_with (first | (go_at_call 152; (with_reducible refine (Con.out _).mono ?_); rintro e w2 ⟨rfl, hb2⟩; have r2 := (Row.new w [.int .i64 id, .int .i64 fr, .int .i64 tn, .int .i64 pe, .int .i64 ph, .int .i64 dl] 28).below hb2 (by simp); unfold Row at r2) | fail)
  go_ret2
  exact ⟨by first | rfl | (rw [HMM.out]; done) | simp [HMM.out], ((Below.refl _ _).alloc (Nat.le_refl _) _).trans (hb2.mono (by simp))⟩

set_option maxHeartbeats 1000000 in
theorem WindowW_any (f : Fl) (n : Int) (hf : fault f = 0) (h0 : 0 ≤ n) (h1 : n ≤ 1048576) (w : World) :
    Calls Tryz.prog 70 #[.agg #[.int .i64 f.id, .int .i64 f.fr, .int .i64 f.tn, .int .i64 f.pe, .int .i64 f.ph, .int .i64 f.dl], .int .i64 n] w fun e w' => e = .returned (.tuple #[.int .i64 (rel f n), .int .i64 (rel f n + f.pe - 1), .int .i64 0]) ∧ Below w.heap.size w w' := by
  have con := fun W => releaseW_any f n hf h0 h1 W
  obtain ⟨_, _, _, hp, hq, hdl, _⟩ := fault_zero hf
  have hm0 : 0 ≤ n * f.pe := Int.mul_nonneg h0 (by omega)
  have hm1 : n * f.pe ≤ 1048576 * f.pe := Int.mul_le_mul_of_nonneg_right h1 (by omega)
  unfold rel at con ⊢
  generalize hmm : n * f.pe = m at *
  clear hmm
  clear hf
  obtain ⟨id, fr, tn, pe, ph, dl⟩ := f
  dsimp only at *
  have Con := Lib.hid con
  clear con
  have hw1 : IntKind.i64.wrap (ph + m + pe - 1) = ph + m + pe - 1 := by rw [IntKind.wrap_i64]; omega
  have hw2 : IntKind.i64.wrap (ph + m + pe) = ph + m + pe := by rw [IntKind.wrap_i64]; omega
  go_enter Tryz.func70, Tryz.ntmps70
  go_wp2_with (first | (go_at_call 106; (with_reducible refine (Con.out _).mono ?_); rintro e w2 ⟨rfl, hb2⟩; have r2 := (Row.new w [.int .i64 id, .int .i64 fr, .int .i64 tn, .int .i64 pe, .int .i64 ph, .int .i64 dl] 28).below hb2 (by simp); unfold Row at r2) | fail)
  go_quiet (fail)
  go_wp2_with fail
  go_ret3
  exact ⟨rfl, below_drewN (((Below.refl _ _).alloc (Nat.le_refl _) _).trans (hb2.mono (by simp))) _⟩

set_option maxHeartbeats 1000000 in
theorem DueW_any (f : Fl) (n : Int) (hf : fault f = 0) (h0 : 0 ≤ n) (h1 : n ≤ 1048576) (w : World) :
    Calls Tryz.prog 71 #[.agg #[.int .i64 f.id, .int .i64 f.fr, .int .i64 f.tn, .int .i64 f.pe, .int .i64 f.ph, .int .i64 f.dl], .int .i64 n] w fun e w' => e = .returned (.tuple #[.int .i64 (rel f n + f.dl - 1), .int .i64 0]) ∧ Below w.heap.size w w' := by
  have con := fun W => releaseW_any f n hf h0 h1 W
  obtain ⟨_, _, _, hp, hq, hdl, _⟩ := fault_zero hf
  have hm0 : 0 ≤ n * f.pe := Int.mul_nonneg h0 (by omega)
  have hm1 : n * f.pe ≤ 1048576 * f.pe := Int.mul_le_mul_of_nonneg_right h1 (by omega)
  unfold rel at con ⊢
  generalize hmm : n * f.pe = m at *
  clear hmm
  clear hf
  obtain ⟨id, fr, tn, pe, ph, dl⟩ := f
  dsimp only at *
  have Con := Lib.hid con
  clear con
  have hw1 : IntKind.i64.wrap (ph + m + dl - 1) = ph + m + dl - 1 := by rw [IntKind.wrap_i64]; omega
  have hw2 : IntKind.i64.wrap (ph + m + dl) = ph + m + dl := by rw [IntKind.wrap_i64]; omega
  go_enter Tryz.func71, Tryz.ntmps71
  go_wp2_with (first | (go_at_call 106; (with_reducible refine (Con.out _).mono ?_); rintro e w2 ⟨rfl, hb2⟩; have r2 := (Row.new w [.int .i64 id, .int .i64 fr, .int .i64 tn, .int .i64 pe, .int .i64 ph, .int .i64 dl] 28).below hb2 (by simp); unfold Row at r2) | fail)
  go_ret2
  exact ⟨rfl, ((Below.refl _ _).alloc (Nat.le_refl _) _).trans (hb2.mono (by simp))⟩

theorem window_okW (f : Fl) (n : Int) (hf : fault f = 0) (h0n : 0 ≤ n) (h1n : n ≤ 1048576) : FnOK Tryz.prog 70 [.agg f.pv, iv n] ⟨.tup [.c (ip (rel f n)), .c (ip (rel f n + f.pe - 1)), .c (ip 0)], none⟩ := fn_of ⟨Tryz.f70, _, Tryz.func70, by kernel_rfl, rfl⟩ fun w R hR us hus => by
  cases hus with | cons h0 _ hus =>
  cases hus with | cons h1 _ hus =>
  cases hus
  rw [fl_rep h0, h1]
  refine (WindowW_any f n hf h0n h1n w).mono ?_
  rintro e w' ⟨rfl, hb⟩
  exact ⟨_, rfl, hb, rfl, _, rfl, .cons (.c (.v _ rfl)) (.cons (.c (.v _ rfl)) (.cons (.c (.v _ rfl)) .nil))⟩

theorem due_okW (f : Fl) (n : Int) (hf : fault f = 0) (h0n : 0 ≤ n) (h1n : n ≤ 1048576) : FnOK Tryz.prog 71 [.agg f.pv, iv n] ⟨.tup [.c (ip (rel f n + f.dl - 1)), .c (ip 0)], none⟩ := fn_of ⟨Tryz.f71, _, Tryz.func71, by kernel_rfl, rfl⟩ fun w R hR us hus => by
  cases hus with | cons h0 _ hus =>
  cases hus with | cons h1 _ hus =>
  cases hus
  rw [fl_rep h0, h1]
  refine (DueW_any f n hf h0n h1n w).mono ?_
  rintro e w' ⟨rfl, hb⟩
  exact ⟨_, rfl, hb, res_vv rfl rfl⟩

end Go.Proofs.YticnppnejafhdaaGreatDoor
/- explain.causes, by abstract states. -/
namespace Go.Proofs.YticnppnejafhdaaGreatDoor
open Go.RowKit
open Nd Rc Mo
open Av
set_option maxRecDepth 100000
set_option linter.unusedSimpArgs false
attribute [local go_sem] Av.guardB Av.sop Av.hopx Av.hop Av.hopCall Av.hopF Av.hopB Av.evo Av.evos Av.avCells Av.loadK Av.bound Av.abin Av.aun Av.partsC Av.lfill Av.placesB Av.setAt Av.stl Av.takes Av.src Av.bxOf Av.ownOf Av.St.res Av.St.put Av.St.addBox Av.St.putOwn Av.delL Av.delS Av.look Av.lookL Av.storeSt Av.stealSt Av.St.setBox Av.keepL Av.hitB Av.snap Av.snaps Av.snapCaps Av.AV.lit Av.AV.refs Av.capRefs Av.PV.av Av.CV.av Av.startSt Av.steals Av.athen Av.ablock Av.appK Av.AllS Av.AllO Av.AllR Av.keepS Av.St.avAt Av.RetOK Av.retAll Av.retOne Av.intsOf Av.ptrB TypeDesc.isRow List.range_zero Option.some.injEq exists_eq_left' exists_eq_left exists_eq' exists_and_left exists_and_right exists_const true_and and_true and_self false_and and_false or_false false_or or_true true_or if_true if_false Bool.false_eq_true List.zipIdx_cons List.zipIdx_nil List.map_cons List.map_nil List.filter_cons List.filter_nil List.contains_cons List.contains_nil List.drop_succ_cons List.drop_zero List.take_succ_cons List.take_zero List.take_nil List.drop_nil List.length_cons List.length_nil List.cons_append List.nil_append List.append_nil List.getElem?_cons_zero List.getElem?_cons_succ List.getElem?_nil Option.bind_some Option.bind_none Option.map_some Option.map_none Option.isNone_none Option.isNone_some Option.isSome_some Option.isSome_none Bool.and_true Bool.true_and Bool.and_false Bool.false_and Bool.or_false Bool.false_or Bool.not_true Bool.not_false beq_true beq_false Bool.true_beq Bool.false_beq Loc.s.injEq Loc.b.injEq decide_true decide_false beq_self_eq_true Nat.zero_add Nat.add_zero List.getElem?_toArray List.toList_toArray List.size_toArray Value.oneCell' List.all_cons List.all_nil Value.int.injEq AV.v.injEq AV.sl.injEq AV.agg.injEq AV.ref.injEq AV.ept.injEq AV.tup.injEq Value.bool.injEq PV.v.injEq PV.sl.injEq List.isEmpty_nil List.isEmpty_cons forall_const not_true_eq_false not_false_eq_true true_implies false_implies Value.string.injEq List.length_map List.getElem?_map Int.toNat_natCast Int.natCast_nonneg List.length_append Value.cells implies_true TypeDesc.struct.injEq TypeDesc.slice.injEq TypeDesc.array.injEq List.getElem?_toArray Prod.mk.injEq and_assoc exists_false List.cons.injEq Operand.tmp.injEq ite_self AV.fnv.injEq AV.clo.injEq ne_eq eq_self Tryz.sz3 Tryz.zr3 Tryz.by3 Tryz.pl3 Tryz.is3 Tryz.underlying3 Tryz.sz4 Tryz.zr4 Tryz.by4 Tryz.pl4 Tryz.is4 Tryz.underlying4 Tryz.sz43 Tryz.zr43 Tryz.by43 Tryz.pl43 Tryz.is43 Tryz.underlying43 Tryz.sz35 Tryz.zr35 Tryz.by35 Tryz.pl35 Tryz.is35 Tryz.underlying35 Tryz.sz33 Tryz.zr33 Tryz.by33 Tryz.pl33 Tryz.is33 Tryz.underlying33 Tryz.sz28 Tryz.zr28 Tryz.by28 Tryz.pl28 Tryz.is28 Tryz.underlying28 Tryz.sz39 Tryz.zr39 Tryz.by39 Tryz.pl39 Tryz.is39 Tryz.underlying39 Tryz.sz57 Tryz.zr57 Tryz.by57 Tryz.pl57 Tryz.is57 Tryz.underlying57 Tryz.sz137 Tryz.zr137 Tryz.by137 Tryz.pl137 Tryz.is137 Tryz.underlying137 Tryz.sz66 Tryz.zr66 Tryz.by66 Tryz.pl66 Tryz.is66 Tryz.underlying66 Tryz.sz64 Tryz.zr64 Tryz.by64 Tryz.pl64 Tryz.is64 Tryz.underlying64 Tryz.sz60 Tryz.zr60 Tryz.by60 Tryz.pl60 Tryz.is60 Tryz.underlying60 Tryz.sz100 Tryz.zr100 Tryz.by100 Tryz.pl100 Tryz.is100 Tryz.underlying100 Tryz.sz103 Tryz.zr103 Tryz.by103 Tryz.pl103 Tryz.is103 Tryz.underlying103 Tryz.sz26 Tryz.zr26 Tryz.by26 Tryz.pl26 Tryz.is26 Tryz.underlying26 Tryz.sz120 Tryz.zr120 Tryz.by120 Tryz.pl120 Tryz.is120 Tryz.underlying120 Tryz.sz117 Tryz.zr117 Tryz.by117 Tryz.pl117 Tryz.is117 Tryz.underlying117 Tryz.sz30 Tryz.zr30 Tryz.by30 Tryz.pl30 Tryz.is30 Tryz.underlying30 Tryz.sz31 Tryz.zr31 Tryz.by31 Tryz.pl31 Tryz.is31 Tryz.underlying31 Tryz.sz40 Tryz.zr40 Tryz.by40 Tryz.pl40 Tryz.is40 Tryz.underlying40 Tryz.sz23 Tryz.zr23 Tryz.by23 Tryz.pl23 Tryz.is23 Tryz.underlying23 Tryz.sz24 Tryz.zr24 Tryz.by24 Tryz.pl24 Tryz.is24 Tryz.underlying24 Tryz.sz22 Tryz.zr22 Tryz.by22 Tryz.pl22 Tryz.is22 Tryz.underlying22 Tryz.sz141 Tryz.zr141 Tryz.by141 Tryz.pl141 Tryz.is141 Tryz.underlying141 Tryz.sz42 Tryz.zr42 Tryz.by42 Tryz.pl42 Tryz.is42 Tryz.underlying42 Tryz.sz29 Tryz.zr29 Tryz.by29 Tryz.pl29 Tryz.is29 Tryz.underlying29 Tryz.sz83 Tryz.zr83 Tryz.by83 Tryz.pl83 Tryz.is83 Tryz.underlying83 Tryz.sz67 Tryz.zr67 Tryz.by67 Tryz.pl67 Tryz.is67 Tryz.underlying67 Tryz.it39 Tryz.eg39 Tryz.it137 Tryz.eg137 Tryz.it66 Tryz.eg66 Tryz.it28 Tryz.eg28 Tryz.it60 Tryz.eg60 all_arr loc_ss loc_sb loc_bs loc_bb arr_two arr_one rg1 rg2 rg3 rg4 rg5 rg6 rg7 rg8 ResultVar.tmp.injEq Bool.not_true Bool.not_false undef Rc.Rec.pv Nd.Fl.pv Rc.Dlv.pv Rc.Att.pv Mo.Lt.pv Fn.func.injEq Mo.Net.pv Mo.Lk.pv prow_pv irow_pv Br.pv Av.St.ren Av.AV.ren Av.ren1
theorem fail_all (lo hi : Int) (l : List Att) : l.all (failB lo hi) = !(l.any fun a => !failB lo hi a) := by
  induction l with
  | nil => rfl
  | cons x l ih => rw [List.all_cons, List.any_cons, ih, Bool.not_or, Bool.not_not]

set_option maxHeartbeats 20000000 in
theorem causes_ok (n : Net) (f : Fl) (r : Rec) (fr a b : Int) (hS : SmallN n) (hB : basicB n f r = true) (hfr : 0 ≤ fr ∧ fr < 1048576) (hi : 0 ≤ idxL n a b) (hla : r.al.length ≤ 1000000) : FnOK Tryz.prog 37 [.agg n.pv, .agg f.pv, .agg r.pv, iv fr, iv a, iv b] ⟨.sl 5 ((causesX n f r fr a b).map Br.pv), none⟩ := by
  obtain ⟨hc, hg, hn, hfN, hf⟩ := basicB_inv hB
  have hN := netOK hc
  obtain ⟨L, hL⟩ : ∃ L, L = onLk r.al f.id fr a b := ⟨_, rfl⟩
  have hLn : L.length ≤ 1000000 := by rw [hL]; exact Nat.le_trans (att_len _ _ _ _ _) hla
  have hkeep : keepP (offB a b) (ofFrame r.al f.id fr) = L := by rw [keep_off, hL]; rfl
  have hofl : (ofFrame r.al f.id fr).length ≤ 1000000 := Nat.le_trans (List.length_filter_le _ _) hla
  rcases idxL_cases n a b with hix | ⟨i, x, hx, _, _, hix⟩
  · omega
  obtain ⟨m, hm⟩ : ∃ m : Nat, x.ls = (m : Int) ∧ m ≤ 7 := by
    have h := hN.lkb x (List.mem_of_getElem? hx)
    simp only [lkB, Nd.inB, Bool.and_eq_true, decide_eq_true_eq] at h
    exact ⟨x.ls.toNat, by omega, by omega⟩
  obtain ⟨hm, hm7⟩ := hm
  have hloss : lossL n a b = (m : Int) := by unfold lossL; rw [hix, Int.toNat_natCast, List.getD_eq_getElem?_getD, hx]; exact hm
  have hC : causesX n f r fr a b = causesK f fr a b (rel f fr) (rel f fr + f.dl - 1) (m + 1) L (L.length - m) := by unfold causesX; rw [hloss, hL]; rfl
  rw [hC]
  clear hC hloss
  have hwm : IntKind.i64.wrap ((m : Int) + 1) = ((m + 1 : Nat) : Int) := by rw [IntKind.wrap_i64]; omega
  have w1 : IntKind.i64.wrap ((L.length : Int) - ((m + 1 : Nat) : Int)) = (L.length : Int) - ((m + 1 : Nat) : Int) := by rw [IntKind.wrap_i64]; omega
  have w2 : IntKind.i64.wrap ((L.length : Int) - ((m + 1 : Nat) : Int) + 1) = (L.length : Int) - (m : Int) := by rw [IntKind.wrap_i64]; omega
  have hmx : (if (L.length : Int) - (m : Int) < 0 then 0 else (L.length : Int) - (m : Int)) = ((L.length - m : Nat) : Int) := by split <;> omega
  refine fn_ok Tryz.func37 (by kernel_rfl) rfl (by rw [Tryz.ntmps37]; exact of_decide_eq_true rfl) (fun F hF => ?_)
  rw [Tryz.ntmps37] at hF
  rw [Tryz.results37]
  repeat (first
    | ((first | with_reducible refine sops_go ?_ | with_reducible refine headW_end ?_ | with_reducible refine sops_end ?_ | with_reducible refine awp_if ?_ | with_reducible refine awp_skip ?_ | with_reducible refine awp_ret ?_ | with_reducible refine awp_exit ?_); simp only [go_sem, simprocAttr, hF])
    | ((with_reducible refine headW_go ?_); simp only [go_sem, simprocAttr, hF, hbx])
    | (with_reducible refine awp_seq_k (fun _ _ => ?_))
    | (refine awp_draw' (id := 7) [95, 102, 1000050, 1000052, 1000053, 1000081] 10 (by kernel_rfl) (by kernel_rfl) rfl rfl (fun bx0 hbx => ?_); (try dsimp only [List.take_succ_cons, List.take_zero, List.take_nil, List.drop_succ_cons, List.drop_zero, List.drop_nil]))
    | (with_reducible refine awp_region [95, 102, 1000050, 1000052, 1000053, 1000081] ?_)
    | (with_reducible refine awp_block ?_)
    | go_step)
  refine ⟨_, window_okW f fr hf hfr.1 (by omega), ?_⟩
  simp only [go_sem, simprocAttr, hF]
  repeat (first
    | ((first | with_reducible refine sops_go ?_ | with_reducible refine headW_end ?_ | with_reducible refine sops_end ?_ | with_reducible refine awp_if ?_ | with_reducible refine awp_skip ?_ | with_reducible refine awp_ret ?_ | with_reducible refine awp_exit ?_); simp only [go_sem, simprocAttr, hF])
    | ((with_reducible refine headW_go ?_); simp only [go_sem, simprocAttr, hF, hbx])
    | (with_reducible refine awp_seq_k (fun _ _ => ?_))
    | (refine awp_draw' (id := 7) [95, 102, 1000050, 1000052, 1000053, 1000081] 10 (by kernel_rfl) (by kernel_rfl) rfl rfl (fun bx0 hbx => ?_); (try dsimp only [List.take_succ_cons, List.take_zero, List.take_nil, List.drop_succ_cons, List.drop_zero, List.drop_nil]))
    | (with_reducible refine awp_region [95, 102, 1000050, 1000052, 1000053, 1000081] ?_)
    | (with_reducible refine awp_block ?_)
    | go_step)
  refine ⟨_, due_okW f fr hf hfr.1 (by omega), ?_⟩
  simp only [go_sem, simprocAttr, hF]
  repeat (first
    | ((first | with_reducible refine sops_go ?_ | with_reducible refine headW_end ?_ | with_reducible refine sops_end ?_ | with_reducible refine awp_if ?_ | with_reducible refine awp_skip ?_ | with_reducible refine awp_ret ?_ | with_reducible refine awp_exit ?_); simp only [go_sem, simprocAttr, hF])
    | ((with_reducible refine headW_go ?_); simp only [go_sem, simprocAttr, hF, hbx])
    | (with_reducible refine awp_seq_k (fun _ _ => ?_))
    | (refine awp_draw' (id := 7) [95, 102, 1000050, 1000052, 1000053, 1000081] 10 (by kernel_rfl) (by kernel_rfl) rfl rfl (fun bx0 hbx => ?_); (try dsimp only [List.take_succ_cons, List.take_zero, List.take_nil, List.drop_succ_cons, List.drop_zero, List.drop_nil]))
    | (with_reducible refine awp_region (id := 0) [95, 102, 1000050, 1000052, 1000053, 1000081] ?_)
    | (with_reducible refine awp_region (id := 1) [95, 102, 1000050, 1000052, 1000053, 1000081] ?_)
    | (with_reducible refine awp_region (id := 2) [95, 102, 1000050, 1000052, 1000053, 1000081] ?_)
    | (with_reducible refine awp_region (id := 3) [95, 102, 1000050, 1000052, 1000053, 1000081] ?_)
    | (with_reducible refine awp_region (id := 4) [95, 102, 1000050, 1000052, 1000053, 1000081] ?_)
    | (with_reducible refine awp_region (id := 5) [95, 102, 1000050, 1000052, 1000053, 1000081] ?_)
    | (with_reducible refine awp_region (id := 8) [95, 102, 1000050, 1000052, 1000053, 1000081] ?_)
    | (with_reducible refine awp_region (id := 9) [95, 102, 1000050, 1000052, 1000053, 1000081] ?_)
    | (with_reducible refine awp_region (id := 10) [95, 102, 1000050, 1000052, 1000053, 1000081] ?_)
    | (with_reducible refine awp_region (id := 11) [95, 102, 1000050, 1000052, 1000053, 1000081] ?_)
    | (with_reducible refine awp_region (id := 12) [95, 102, 1000050, 1000052, 1000053, 1000081] ?_)
    | (with_reducible refine awp_region (id := 13) [95, 102, 1000050, 1000052, 1000053, 1000081] ?_)
    | (with_reducible refine awp_region (id := 14) [95, 102, 1000050, 1000052, 1000053, 1000081] ?_)
    | (with_reducible refine awp_region (id := 15) [95, 102, 1000050, 1000052, 1000053, 1000081] ?_)
    | (with_reducible refine awp_region (id := 16) [95, 102, 1000050, 1000052, 1000053, 1000081] ?_)
    | (with_reducible refine awp_region (id := 17) [95, 102, 1000050, 1000052, 1000053, 1000081] ?_)
    | (with_reducible refine awp_region (id := 18) [95, 102, 1000050, 1000052, 1000053, 1000081] ?_)
    | (with_reducible refine awp_region (id := 19) [95, 102, 1000050, 1000052, 1000053, 1000081] ?_)
    | (with_reducible refine awp_region (id := 20) [95, 102, 1000050, 1000052, 1000053, 1000081] ?_)
    | (with_reducible refine awp_region (id := 21) [95, 102, 1000050, 1000052, 1000053, 1000081] ?_)
    | (with_reducible refine awp_region (id := 22) [95, 102, 1000050, 1000052, 1000053, 1000081] ?_)
    | (with_reducible refine awp_block ?_)
    | go_step)
  refine hand_attempts (d := 50) r f.id fr hla rfl rfl (by decide) ?_ ?_ ?_ (fun V => ?_)
  · simp only [go_sem, simprocAttr, hF]
  · simp only [go_sem, simprocAttr, hF]
  · simp only [go_sem, simprocAttr, hF]
  simp only [go_sem, simprocAttr, hF]
  repeat (first
    | ((first | with_reducible refine sops_go ?_ | with_reducible refine headW_end ?_ | with_reducible refine sops_end ?_ | with_reducible refine awp_if ?_ | with_reducible refine awp_skip ?_ | with_reducible refine awp_ret ?_ | with_reducible refine awp_exit ?_); simp only [go_sem, simprocAttr, hF])
    | ((with_reducible refine headW_go ?_); simp only [go_sem, simprocAttr, hF, hbx])
    | (with_reducible refine awp_seq_k (fun _ _ => ?_))
    | (refine awp_draw' (id := 7) [95, 102, 1000050, 1000052, 1000053, 1000081] 10 (by kernel_rfl) (by kernel_rfl) rfl rfl (fun bx0 hbx => ?_); (try dsimp only [List.take_succ_cons, List.take_zero, List.take_nil, List.drop_succ_cons, List.drop_zero, List.drop_nil]))
    | (with_reducible refine awp_region (id := 0) [95, 102, 1000050, 1000052, 1000053, 1000081] ?_)
    | (with_reducible refine awp_region (id := 1) [95, 102, 1000050, 1000052, 1000053, 1000081] ?_)
    | (with_reducible refine awp_region (id := 2) [95, 102, 1000050, 1000052, 1000053, 1000081] ?_)
    | (with_reducible refine awp_region (id := 3) [95, 102, 1000050, 1000052, 1000053, 1000081] ?_)
    | (with_reducible refine awp_region (id := 4) [95, 102, 1000050, 1000052, 1000053, 1000081] ?_)
    | (with_reducible refine awp_region (id := 5) [95, 102, 1000050, 1000052, 1000053, 1000081] ?_)
    | (with_reducible refine awp_region (id := 8) [95, 102, 1000050, 1000052, 1000053, 1000081] ?_)
    | (with_reducible refine awp_region (id := 9) [95, 102, 1000050, 1000052, 1000053, 1000081] ?_)
    | (with_reducible refine awp_region (id := 10) [95, 102, 1000050, 1000052, 1000053, 1000081] ?_)
    | (with_reducible refine awp_region (id := 11) [95, 102, 1000050, 1000052, 1000053, 1000081] ?_)
    | (with_reducible refine awp_region (id := 12) [95, 102, 1000050, 1000052, 1000053, 1000081] ?_)
    | (with_reducible refine awp_region (id := 13) [95, 102, 1000050, 1000052, 1000053, 1000081] ?_)
    | (with_reducible refine awp_region (id := 14) [95, 102, 1000050, 1000052, 1000053, 1000081] ?_)
    | (with_reducible refine awp_region (id := 15) [95, 102, 1000050, 1000052, 1000053, 1000081] ?_)
    | (with_reducible refine awp_region (id := 16) [95, 102, 1000050, 1000052, 1000053, 1000081] ?_)
    | (with_reducible refine awp_region (id := 17) [95, 102, 1000050, 1000052, 1000053, 1000081] ?_)
    | (with_reducible refine awp_region (id := 18) [95, 102, 1000050, 1000052, 1000053, 1000081] ?_)
    | (with_reducible refine awp_region (id := 19) [95, 102, 1000050, 1000052, 1000053, 1000081] ?_)
    | (with_reducible refine awp_region (id := 20) [95, 102, 1000050, 1000052, 1000053, 1000081] ?_)
    | (with_reducible refine awp_region (id := 21) [95, 102, 1000050, 1000052, 1000053, 1000081] ?_)
    | (with_reducible refine awp_region (id := 22) [95, 102, 1000050, 1000052, 1000053, 1000081] ?_)
    | (with_reducible refine awp_block ?_)
    | go_step)
  refine hand_delete (d := 52) (fid := 74) (k1 := 10) (k2 := 11) (V := V) (l := ofFrame r.al f.id fr) (m1 := a) (m2 := b) (offB a b) Ext.nil rfl rfl (by decide) ?_ ?_ ?_ ?_ ?_ hofl (fun y => causes1_ok y a b) ?_
  · rfl
  · simp only [go_sem, simprocAttr, hF]
  · simp only [go_sem, simprocAttr, hF]
  · simp only [go_sem, simprocAttr, hF]
  · simp only [go_sem, simprocAttr, hF]
  simp only [go_sem, simprocAttr, hF, hkeep]
  repeat (first
    | ((first | with_reducible refine sops_go ?_ | with_reducible refine headW_end ?_ | with_reducible refine sops_end ?_ | with_reducible refine awp_if ?_ | with_reducible refine awp_skip ?_ | with_reducible refine awp_ret ?_ | with_reducible refine awp_exit ?_); simp only [go_sem, simprocAttr, hF])
    | ((with_reducible refine headW_go ?_); simp only [go_sem, simprocAttr, hF, hbx])
    | (with_reducible refine awp_seq_k (fun _ _ => ?_))
    | (refine awp_draw' (id := 7) [95, 102, 1000050, 1000052, 1000053, 1000081] 10 (by kernel_rfl) (by kernel_rfl) rfl rfl (fun bx0 hbx => ?_); (try dsimp only [List.take_succ_cons, List.take_zero, List.take_nil, List.drop_succ_cons, List.drop_zero, List.drop_nil]))
    | (with_reducible refine awp_region (id := 0) [95, 102, 1000050, 1000052, 1000053, 1000081] ?_)
    | (with_reducible refine awp_region (id := 1) [95, 102, 1000050, 1000052, 1000053, 1000081] ?_)
    | (with_reducible refine awp_region (id := 2) [95, 102, 1000050, 1000052, 1000053, 1000081] ?_)
    | (with_reducible refine awp_region (id := 3) [95, 102, 1000050, 1000052, 1000053, 1000081] ?_)
    | (with_reducible refine awp_region (id := 4) [95, 102, 1000050, 1000052, 1000053, 1000081] ?_)
    | (with_reducible refine awp_region (id := 5) [95, 102, 1000050, 1000052, 1000053, 1000081] ?_)
    | (with_reducible refine awp_region (id := 8) [95, 102, 1000050, 1000052, 1000053, 1000081] ?_)
    | (with_reducible refine awp_region (id := 9) [95, 102, 1000050, 1000052, 1000053, 1000081] ?_)
    | (with_reducible refine awp_region (id := 10) [95, 102, 1000050, 1000052, 1000053, 1000081] ?_)
    | (with_reducible refine awp_region (id := 11) [95, 102, 1000050, 1000052, 1000053, 1000081] ?_)
    | (with_reducible refine awp_region (id := 12) [95, 102, 1000050, 1000052, 1000053, 1000081] ?_)
    | (with_reducible refine awp_region (id := 13) [95, 102, 1000050, 1000052, 1000053, 1000081] ?_)
    | (with_reducible refine awp_region (id := 14) [95, 102, 1000050, 1000052, 1000053, 1000081] ?_)
    | (with_reducible refine awp_region (id := 15) [95, 102, 1000050, 1000052, 1000053, 1000081] ?_)
    | (with_reducible refine awp_region (id := 16) [95, 102, 1000050, 1000052, 1000053, 1000081] ?_)
    | (with_reducible refine awp_region (id := 17) [95, 102, 1000050, 1000052, 1000053, 1000081] ?_)
    | (with_reducible refine awp_region (id := 18) [95, 102, 1000050, 1000052, 1000053, 1000081] ?_)
    | (with_reducible refine awp_region (id := 19) [95, 102, 1000050, 1000052, 1000053, 1000081] ?_)
    | (with_reducible refine awp_region (id := 20) [95, 102, 1000050, 1000052, 1000053, 1000081] ?_)
    | (with_reducible refine awp_region (id := 21) [95, 102, 1000050, 1000052, 1000053, 1000081] ?_)
    | (with_reducible refine awp_region (id := 22) [95, 102, 1000050, 1000052, 1000053, 1000081] ?_)
    | (with_reducible refine awp_block ?_)
    | go_step)
  refine awp_ren 13 rfl (by decide) (fun _ => rfl) (fun g1 hg1 => ?_)
  simp only [go_sem, simprocAttr, hF]
  refine awp_ren 16 rfl (by decide) (fun _ => rfl) (fun g2 hg2 => ?_)
  have hgg : (g1 + 1000000 = g2 + 1000000) = False := by
    refine eq_false fun h => ?_
    simp only [Av.look_cons, h, if_pos] at hg2
    revert hg2
    simp
  have hgg2 : (g2 + 1000000 = g1 + 1000000) = False := eq_false fun h => by rw [h] at hgg; simp at hgg
  simp only [go_sem, simprocAttr, hF, hgg, hgg2]
  repeat (first
    | ((first | with_reducible refine sops_go ?_ | with_reducible refine headW_end ?_ | with_reducible refine sops_end ?_ | with_reducible refine awp_if ?_ | with_reducible refine awp_skip ?_ | with_reducible refine awp_ret ?_ | with_reducible refine awp_exit ?_); simp only [go_sem, simprocAttr, hF, hgg, hgg2])
    | ((with_reducible refine headW_go ?_); simp only [go_sem, simprocAttr, hF, hgg, hgg2, hbx])
    | (with_reducible refine awp_seq_k (fun _ _ => ?_))
    | (with_reducible refine awp_region (id := 0) [95, 102, 1000050, 1000052, 1000053, 1000081] ?_)
    | (with_reducible refine awp_region (id := 1) [95, 102, 1000050, 1000052, 1000053, 1000081] ?_)
    | (with_reducible refine awp_region (id := 2) [95, 102, 1000050, 1000052, 1000053, 1000081] ?_)
    | (with_reducible refine awp_region (id := 3) [95, 102, 1000050, 1000052, 1000053, 1000081] ?_)
    | (with_reducible refine awp_region (id := 4) [95, 102, 1000050, 1000052, 1000053, 1000081] ?_)
    | (with_reducible refine awp_region (id := 5) [95, 102, 1000050, 1000052, 1000053, 1000081] ?_)
    | (with_reducible refine awp_region (id := 6) [95, 102, 1000050, 1000052, 1000053, 1000081] ?_)
    | (with_reducible refine awp_region (id := 8) [95, 102, 1000050, 1000052, 1000053, 1000081] ?_)
    | (with_reducible refine awp_region (id := 9) [95, 102, 1000050, 1000052, 1000053, 1000081] ?_)
    | (with_reducible refine awp_region (id := 10) [95, 102, 1000050, 1000052, 1000053, 1000081] ?_)
    | (with_reducible refine awp_region (id := 11) [95, 102, 1000050, 1000052, 1000053, 1000081] ?_)
    | (with_reducible refine awp_region (id := 12) [95, 102, 1000050, 1000052, 1000053, 1000081] ?_)
    | (with_reducible refine awp_region (id := 13) [95, 102, 1000050, 1000052, 1000053, 1000081] ?_)
    | (with_reducible refine awp_region (id := 14) [95, 102, 1000050, 1000052, 1000053, 1000081] ?_)
    | (with_reducible refine awp_region (id := 15) [95, 102, 1000050, 1000052, 1000053, 1000081] ?_)
    | (with_reducible refine awp_region (id := 16) [95, 102, 1000050, 1000052, 1000053, 1000081] ?_)
    | (with_reducible refine awp_region (id := 17) [95, 102, 1000050, 1000052, 1000053, 1000081] ?_)
    | (with_reducible refine awp_region (id := 18) [95, 102, 1000050, 1000052, 1000053, 1000081] ?_)
    | (with_reducible refine awp_region (id := 19) [95, 102, 1000050, 1000052, 1000053, 1000081] ?_)
    | (with_reducible refine awp_region (id := 20) [95, 102, 1000050, 1000052, 1000053, 1000081] ?_)
    | (with_reducible refine awp_region (id := 21) [95, 102, 1000050, 1000052, 1000053, 1000081] ?_)
    | (with_reducible refine awp_region (id := 22) [95, 102, 1000050, 1000052, 1000053, 1000081] ?_)
    | (with_reducible refine awp_block ?_)
    | go_step)
  refine hand_makeFunc2 (d := 53) (g1 := g1) (g2 := g2) (cs1 := [ip (rel f fr)]) (cs2 := [ip (rel f fr + f.dl - 1)]) rfl rfl (by decide) ?_ ?_ ?_ ?_ ?_
  · simp only [go_sem, simprocAttr, hF]
  · simp only [go_sem, simprocAttr, hF]
  · simp only [go_sem, simprocAttr, hF, hgg, hgg2]
  · simp only [go_sem, simprocAttr, hF, hgg, hgg2]
  simp only [go_sem, simprocAttr, hF, hgg, hgg2]
  repeat (first
    | ((first | with_reducible refine sops_go ?_ | with_reducible refine headW_end ?_ | with_reducible refine sops_end ?_ | with_reducible refine awp_if ?_ | with_reducible refine awp_skip ?_ | with_reducible refine awp_ret ?_ | with_reducible refine awp_exit ?_); simp only [go_sem, simprocAttr, hF, hgg, hgg2])
    | ((with_reducible refine headW_go ?_); simp only [go_sem, simprocAttr, hF, hgg, hgg2, hbx])
    | (with_reducible refine awp_seq_k (fun _ _ => ?_))
    | (refine awp_draw' (id := 7) [95, 102, 1000050, 1000052, 1000053, 1000081] 10 (by kernel_rfl) (by kernel_rfl) rfl rfl (fun bx0 hbx => ?_); (try dsimp only [List.take_succ_cons, List.take_zero, List.take_nil, List.drop_succ_cons, List.drop_zero, List.drop_nil]))
    | (with_reducible refine awp_region [95, 102, 1000050, 1000052, 1000053, 1000081] ?_)
    | (with_reducible refine awp_block ?_)
    | go_step)
  refine ⟨_, nindex_ok n a b hS hc, ?_⟩
  simp only [go_sem, simprocAttr, hF, hgg, hgg2, hwm, w1, w2, hmx, hix, hx, hm, Nat.le_refl]
  repeat (first
    | ((first | with_reducible refine sops_go ?_ | with_reducible refine headW_end ?_ | with_reducible refine sops_end ?_ | with_reducible refine awp_if ?_ | with_reducible refine awp_skip ?_ | with_reducible refine awp_ret ?_ | with_reducible refine awp_exit ?_); simp only [go_sem, simprocAttr, hF, hgg, hgg2, hwm, w1, w2, hmx, hix, hx, hm, Nat.le_refl])
    | ((with_reducible refine headW_go ?_); simp only [go_sem, simprocAttr, hF, hgg, hgg2, hwm, w1, w2, hmx, hix, hx, hm, Nat.le_refl, hbx])
    | (with_reducible refine awp_seq_k (fun _ _ => ?_))
    | (refine awp_draw' (id := 7) [95, 102, 1000050, 1000052, 1000053, 1000081] 10 (by kernel_rfl) (by kernel_rfl) rfl rfl (fun bx0 hbx => ?_); (try dsimp only [List.take_succ_cons, List.take_zero, List.take_nil, List.drop_succ_cons, List.drop_zero, List.drop_nil]))
    | (with_reducible refine awp_region [95, 102, 1000050, 1000052, 1000053, 1000081] ?_)
    | (with_reducible refine awp_block ?_)
    | go_step)
  refine awp_nil 21 5 57 (by rw [hF]; decide) (by first | rfl | simp only [Av.look]; rfl) ?_
  simp only [go_sem, simprocAttr, hF, hgg, hgg2]
  repeat (first
    | ((first | with_reducible refine sops_go ?_ | with_reducible refine headW_end ?_ | with_reducible refine sops_end ?_ | with_reducible refine awp_if ?_ | with_reducible refine awp_skip ?_ | with_reducible refine awp_ret ?_ | with_reducible refine awp_exit ?_); simp only [go_sem, simprocAttr, hF, hgg, hgg2, hwm, w1, w2, hmx, hix, hx, hm, Nat.le_refl])
    | ((with_reducible refine headW_go ?_); simp only [go_sem, simprocAttr, hF, hgg, hgg2, hwm, w1, w2, hmx, hix, hx, hm, Nat.le_refl, hbx])
    | (with_reducible refine awp_seq_k (fun _ _ => ?_))
    | (refine awp_draw' (id := 7) [95, 102, 1000050, 1000052, 1000053, 1000081] 10 (by kernel_rfl) (by kernel_rfl) rfl rfl (fun bx0 hbx => ?_); (try dsimp only [List.take_succ_cons, List.take_zero, List.take_nil, List.drop_succ_cons, List.drop_zero, List.drop_nil]))
    | (with_reducible refine awp_region [95, 102, 1000050, 1000052, 1000053, 1000081] ?_)
    | (with_reducible refine awp_block ?_)
    | go_step)
  refine awp_loop_by (ι := {k : Nat // k ≤ L.length - m}) (fun k σ => ⟨(70, iv (k.1 : Int)) :: (21, .sl 5 ((causesK f fr a b (rel f fr) (rel f fr + f.dl - 1) (m + 1) L k.1).map Br.pv)) :: keepS [3, 7, 10, 11, 18, 19, 20, 69] σ.slot, [(7, f.pv), (10, [ip a]), (11, [ip b]), (19, [.v (.func (.func 75) #[] #[.pointer (some ⟨g1, 0, none⟩), .pointer (some ⟨g2, 0, none⟩)])]), (g1 + 1000000, [ip (rel f fr)]), (g2 + 1000000, [ip (rel f fr + f.dl - 1)])], [(.s 21, (57, 5))], σ.ext⟩) (fun k => (L.length - m) - k.1) ⟨0, by omega⟩ (sub_mk ?_) (fun R hR k => ?_)
  · simp only [go_sem, simprocAttr, hF, hgg, hgg2]
    repeat' (first | rfl | refine ⟨?_, ?_⟩)
  obtain ⟨k, hk⟩ := k
  dsimp only
  simp only [go_sem, simprocAttr, hF, hgg, hgg2]
  by_cases hlt : k < L.length - m
  case neg =>
    have hd : decide ((k : Int) < ((L.length - m : Nat) : Int)) = false := decide_eq_false (by omega)
    obtain rfl : k = L.length - m := by omega
    repeat (first
      | ((first | with_reducible refine sops_go ?_ | with_reducible refine headW_end ?_ | with_reducible refine sops_end ?_ | with_reducible refine awp_if ?_ | with_reducible refine awp_skip ?_ | with_reducible refine awp_ret ?_ | with_reducible refine awp_exit ?_); simp only [go_sem, simprocAttr, hF, hgg, hgg2, hd])
      | ((with_reducible refine headW_go ?_); simp only [go_sem, simprocAttr, hF, hgg, hgg2, hd, hbx])
      | (with_reducible refine awp_seq_k (fun _ _ => ?_))
      | (refine awp_draw' (id := 7) [95, 102, 1000050, 1000052, 1000053, 1000081] 10 (by kernel_rfl) (by kernel_rfl) rfl rfl (fun bx0 hbx => ?_); (try dsimp only [List.take_succ_cons, List.take_zero, List.take_nil, List.drop_succ_cons, List.drop_zero, List.drop_nil]))
      | (with_reducible refine awp_region [95, 102, 1000050, 1000052, 1000053, 1000081] ?_)
      | (with_reducible refine awp_block ?_)
      | go_step)
    all_goals (try rfl)
  have hd : decide ((k : Int) < ((L.length - m : Nat) : Int)) = true := decide_eq_true (by omega)
  have hw : IntKind.i64.wrap ((k : Int) + 1) = ((k + 1 : Nat) : Int) := by rw [IntKind.wrap_i64]; omega
  have w3 : IntKind.i64.wrap ((k : Int) + ((m + 1 : Nat) : Int)) = ((k + (m + 1) : Nat) : Int) := by rw [IntKind.wrap_i64]; omega
  obtain ⟨part, hpart⟩ : ∃ part, part = (L.drop k).take (m + 1) := ⟨_, rfl⟩
  have hpl : part.length = m + 1 := by rw [hpart, List.length_take, List.length_drop]; omega
  have hsl : List.drop k (List.take (k + (m + 1)) (List.map Att.pv L)) = List.map Att.pv part := by
    rw [hpart, List.drop_take, Nat.add_sub_cancel_left, List.map_take, List.map_drop]
  have hcs : causesK f fr a b (rel f fr) (rel f fr + f.dl - 1) (m + 1) L (k + 1) = causesK f fr a b (rel f fr) (rel f fr + f.dl - 1) (m + 1) L k ++ (if (part.any fun x => !failB (rel f fr) (rel f fr + f.dl - 1) x) = true then [] else [⟨f.id, fr, a, b, part.map Att.s⟩]) := by
    rw [causesK_succ, causeAt, ← hpart, fail_all]
    cases (part.any fun x => !failB (rel f fr) (rel f fr + f.dl - 1) x) <;> rfl
  have hle1 : k ≤ k + (m + 1) := by omega
  have hle2 : k + (m + 1) ≤ L.length := by omega
  clear hpart
  repeat (first
    | ((first | with_reducible refine sops_go ?_ | with_reducible refine headW_end ?_ | with_reducible refine sops_end ?_ | with_reducible refine awp_if ?_ | with_reducible refine awp_skip ?_ | with_reducible refine awp_ret ?_ | with_reducible refine awp_exit ?_); simp only [go_sem, simprocAttr, hF, hgg, hgg2, hd, w3, hsl, hle1, hle2, Nat.le_refl])
    | ((with_reducible refine headW_go ?_); simp only [go_sem, simprocAttr, hF, hgg, hgg2, hd, w3, hsl, hle1, hle2, Nat.le_refl, hbx])
    | (with_reducible refine awp_seq_k (fun _ _ => ?_))
    | (refine awp_draw' (id := 7) [95, 102, 1000050, 1000052, 1000053, 1000081] 10 (by kernel_rfl) (by kernel_rfl) rfl rfl (fun bx0 hbx => ?_); (try dsimp only [List.take_succ_cons, List.take_zero, List.take_nil, List.drop_succ_cons, List.drop_zero, List.drop_nil]))
    | (with_reducible refine awp_region [95, 102, 1000050, 1000052, 1000053, 1000081] ?_)
    | (with_reducible refine awp_block ?_)
    | go_step)
  refine hand_contains (d := 81) (k0 := 19) (g1 := g1) (g2 := g2) (l := part) (lo := (rel f fr)) (hi := (rel f fr + f.dl - 1)) rfl rfl (by decide) ?_ ?_ ?_ ?_ ?_ (by omega) ?_
  · simp only [go_sem, simprocAttr, hF]
  · simp only [go_sem, simprocAttr, hF]
  · simp only [go_sem, simprocAttr, hF, hgg, hgg2]
  · simp only [go_sem, simprocAttr, hF, hgg, hgg2]
  · simp only [go_sem, simprocAttr, hF, hgg, hgg2]
  simp only [go_sem, simprocAttr, hF, hgg, hgg2]
  cases hq : part.any fun x => !failB (rel f fr) (rel f fr + f.dl - 1) x with
  | true =>
    rw [hq, if_pos rfl, List.append_nil] at hcs
    try simp only [go_sem, simprocAttr, hF, hgg, hgg2, hq]
    repeat (first
      | ((first | with_reducible refine sops_go ?_ | with_reducible refine headW_end ?_ | with_reducible refine sops_end ?_ | with_reducible refine awp_if ?_ | with_reducible refine awp_skip ?_ | with_reducible refine awp_ret ?_ | with_reducible refine awp_exit ?_); simp only [go_sem, simprocAttr, hF, hgg, hgg2, hq])
      | ((with_reducible refine headW_go ?_); simp only [go_sem, simprocAttr, hF, hgg, hgg2, hq, hbx])
      | (with_reducible refine awp_seq_k (fun _ _ => ?_))
      | (refine awp_draw' (id := 7) [95, 102, 1000050, 1000052, 1000053, 1000081] 10 (by kernel_rfl) (by kernel_rfl) rfl rfl (fun bx0 hbx => ?_); (try dsimp only [List.take_succ_cons, List.take_zero, List.take_nil, List.drop_succ_cons, List.drop_zero, List.drop_nil]))
      | (with_reducible refine awp_region [95, 102, 1000050, 1000052, 1000053, 1000081] ?_)
      | (with_reducible refine awp_block ?_)
      | go_step)
    refine ⟨⟨k + 1, by omega⟩, by dsimp only; omega, hR _ _ (sub_mk ?_)⟩
    simp only [go_sem, simprocAttr, hF, hw, hcs, hgg, hgg2]
  | false =>
    rw [hq, if_neg (by decide)] at hcs
    try simp only [go_sem, simprocAttr, hF, hgg, hgg2, hq]
    repeat (first
      | ((first | with_reducible refine sops_go ?_ | with_reducible refine headW_end ?_ | with_reducible refine sops_end ?_ | with_reducible refine awp_if ?_ | with_reducible refine awp_skip ?_ | with_reducible refine awp_ret ?_ | with_reducible refine awp_exit ?_); simp only [go_sem, simprocAttr, hF, hgg, hgg2, hq])
      | ((with_reducible refine headW_go ?_); simp only [go_sem, simprocAttr, hF, hgg, hgg2, hq, hbx])
      | (with_reducible refine awp_seq_k (fun _ _ => ?_))
      | (refine awp_draw' (id := 7) [95, 102, 1000050, 1000052, 1000053, 1000081] 10 (by kernel_rfl) (by kernel_rfl) rfl rfl (fun bx0 hbx => ?_); (try dsimp only [List.take_succ_cons, List.take_zero, List.take_nil, List.drop_succ_cons, List.drop_zero, List.drop_nil]))
      | (with_reducible refine awp_region [95, 102, 1000050, 1000052, 1000053, 1000081] ?_)
      | (with_reducible refine awp_block ?_)
      | go_step)
    refine awp_nilB 24 4 1 3 rfl rfl ?_
    simp only [go_sem, simprocAttr, hF, hgg, hgg2]
    repeat (first
      | ((first | with_reducible refine sops_go ?_ | with_reducible refine headW_end ?_ | with_reducible refine sops_end ?_ | with_reducible refine awp_if ?_ | with_reducible refine awp_skip ?_ | with_reducible refine awp_ret ?_ | with_reducible refine awp_exit ?_); simp only [go_sem, simprocAttr, hF, hgg, hgg2, hpl])
      | ((with_reducible refine headW_go ?_); simp only [go_sem, simprocAttr, hF, hgg, hgg2, hpl, hbx])
      | (with_reducible refine awp_seq_k (fun _ _ => ?_))
      | (refine awp_draw' (id := 7) [95, 102, 1000050, 1000052, 1000053, 1000081] 10 (by kernel_rfl) (by kernel_rfl) rfl rfl (fun bx0 hbx => ?_); (try dsimp only [List.take_succ_cons, List.take_zero, List.take_nil, List.drop_succ_cons, List.drop_zero, List.drop_nil]))
      | (with_reducible refine awp_region [95, 102, 1000050, 1000052, 1000053, 1000081] ?_)
      | (with_reducible refine awp_block ?_)
      | go_step)
    refine awp_loop_by (ι := {j : Nat // j ≤ m + 1}) (fun j σ => ⟨(90, iv (j.1 : Int)) :: keepS [3, 7, 10, 11, 18, 19, 20, 21, 24, 69, 70, 88, 89] σ.slot, (24, [ip f.id, ip fr, ip a, ip b, .sl 1 (((part.take j.1).map Att.s).map fun x => [ip x])]) :: [(7, f.pv), (10, [ip a]), (11, [ip b]), (19, [.v (.func (.func 75) #[] #[.pointer (some ⟨g1, 0, none⟩), .pointer (some ⟨g2, 0, none⟩)])]), (g1 + 1000000, [ip (rel f fr)]), (g2 + 1000000, [ip (rel f fr + f.dl - 1)])], [(.s 21, (57, 5)), (.b 24 4, (3, 1))], σ.ext⟩) (fun j => (m + 1) - j.1) ⟨0, by omega⟩ (sub_mk ?_) (fun R2 hR2 j => ?_)
    · simp only [go_sem, simprocAttr, hF, hgg, hgg2, List.take_zero, List.map_nil]
      repeat' (first | rfl | refine ⟨?_, ?_⟩)
    obtain ⟨j, hj⟩ := j
    dsimp only
    simp only [go_sem, simprocAttr, hF, hgg, hgg2]
    by_cases hjt : j < m + 1
    case neg =>
      have hdj : decide ((j : Int) < (part.length : Int)) = false := decide_eq_false (by omega)
      have hall : List.take j part = part := List.take_of_length_le (by omega)
      have hcl : (causesK f fr a b (rel f fr) (rel f fr + f.dl - 1) (m + 1) L k).length ≤ 99999999 := by have := causesK_len f fr a b (rel f fr) (rel f fr + f.dl - 1) (m + 1) L k; omega
      repeat (first
        | ((first | with_reducible refine sops_go ?_ | with_reducible refine headW_end ?_ | with_reducible refine sops_end ?_ | with_reducible refine awp_if ?_ | with_reducible refine awp_skip ?_ | with_reducible refine awp_ret ?_ | with_reducible refine awp_exit ?_); simp only [go_sem, simprocAttr, hF, hgg, hgg2, hdj, hall, hcl])
        | ((with_reducible refine headW_go ?_); simp only [go_sem, simprocAttr, hF, hgg, hgg2, hdj, hall, hcl, hbx])
        | (with_reducible refine awp_seq_k (fun _ _ => ?_))
        | (refine awp_draw' (id := 7) [95, 102, 1000050, 1000052, 1000053, 1000081] 10 (by kernel_rfl) (by kernel_rfl) rfl rfl (fun bx0 hbx => ?_); (try dsimp only [List.take_succ_cons, List.take_zero, List.take_nil, List.drop_succ_cons, List.drop_zero, List.drop_nil]))
        | (with_reducible refine awp_region [95, 102, 1000050, 1000052, 1000053, 1000081] ?_)
        | (with_reducible refine awp_block ?_)
        | go_step)
      refine ⟨⟨k + 1, by omega⟩, by dsimp only; omega, hR _ _ (sub_mk ?_)⟩
      simp only [go_sem, simprocAttr, hF, hw, hcs, List.map_append, Br.pv, hgg, hgg2]
    have hdj : decide ((j : Int) < (part.length : Int)) = true := decide_eq_true (by omega)
    have hwj : IntKind.i64.wrap ((j : Int) + 1) = ((j + 1 : Nat) : Int) := by rw [IntKind.wrap_i64]; omega
    obtain ⟨d, hdk⟩ := get_of_lt (l := part) (k := j) (by omega)
    have hT : List.take (j + 1) part = List.take j part ++ [d] := by rw [List.take_add_one, hdk]; rfl
    have hjl : (List.take j part).length ≤ 99999999 := by rw [List.length_take]; omega
    repeat (first
      | ((first | with_reducible refine sops_go ?_ | with_reducible refine headW_end ?_ | with_reducible refine sops_end ?_ | with_reducible refine awp_if ?_ | with_reducible refine awp_skip ?_ | with_reducible refine awp_ret ?_ | with_reducible refine awp_exit ?_); simp only [go_sem, simprocAttr, hF, hgg, hgg2, hdj, hdk, hjl])
      | ((with_reducible refine headW_go ?_); simp only [go_sem, simprocAttr, hF, hgg, hgg2, hdj, hdk, hjl, hbx])
      | (with_reducible refine awp_seq_k (fun _ _ => ?_))
      | (refine awp_draw' (id := 7) [95, 102, 1000050, 1000052, 1000053, 1000081] 10 (by kernel_rfl) (by kernel_rfl) rfl rfl (fun bx0 hbx => ?_); (try dsimp only [List.take_succ_cons, List.take_zero, List.take_nil, List.drop_succ_cons, List.drop_zero, List.drop_nil]))
      | (with_reducible refine awp_region [95, 102, 1000050, 1000052, 1000053, 1000081] ?_)
      | (with_reducible refine awp_block ?_)
      | go_step)
    refine ⟨⟨j + 1, by omega⟩, by dsimp only; omega, hR2 _ _ (sub_mk ?_)⟩
    simp only [go_sem, simprocAttr, hF, hwj, hT, List.map_append, hgg, hgg2]
end Go.Proofs.YticnppnejafhdaaGreatDoor
/- explain.Find, by abstract states. -/
namespace Go.Proofs.YticnppnejafhdaaGreatDoor
open Go.RowKit
open Nd Rc Mo
open Av
set_option maxRecDepth 100000
set_option linter.unusedSimpArgs false
attribute [local go_sem] Av.guardB Av.sop Av.hopx Av.hop Av.hopCall Av.hopF Av.hopB Av.evo Av.evos Av.avCells Av.loadK Av.bound Av.abin Av.aun Av.partsC Av.lfill Av.placesB Av.setAt Av.stl Av.takes Av.src Av.bxOf Av.ownOf Av.St.res Av.St.put Av.St.addBox Av.St.putOwn Av.delL Av.delS Av.look Av.lookL Av.storeSt Av.stealSt Av.St.setBox Av.keepL Av.hitB Av.snap Av.snaps Av.snapCaps Av.AV.lit Av.AV.refs Av.capRefs Av.PV.av Av.CV.av Av.startSt Av.steals Av.athen Av.ablock Av.appK Av.AllS Av.AllO Av.AllR Av.keepS Av.St.avAt Av.RetOK Av.retAll Av.retOne Av.intsOf Av.ptrB TypeDesc.isRow List.range_zero Option.some.injEq exists_eq_left' exists_eq_left exists_eq' exists_and_left exists_and_right exists_const true_and and_true and_self false_and and_false or_false false_or or_true true_or if_true if_false Bool.false_eq_true List.zipIdx_cons List.zipIdx_nil List.map_cons List.map_nil List.filter_cons List.filter_nil List.contains_cons List.contains_nil List.drop_succ_cons List.drop_zero List.take_succ_cons List.take_zero List.take_nil List.drop_nil List.length_cons List.length_nil List.cons_append List.nil_append List.append_nil List.getElem?_cons_zero List.getElem?_cons_succ List.getElem?_nil Option.bind_some Option.bind_none Option.map_some Option.map_none Option.isNone_none Option.isNone_some Option.isSome_some Option.isSome_none Bool.and_true Bool.true_and Bool.and_false Bool.false_and Bool.or_false Bool.false_or Bool.not_true Bool.not_false beq_true beq_false Bool.true_beq Bool.false_beq Loc.s.injEq Loc.b.injEq decide_true decide_false beq_self_eq_true Nat.zero_add Nat.add_zero List.getElem?_toArray List.toList_toArray List.size_toArray Value.oneCell' List.all_cons List.all_nil Value.int.injEq AV.v.injEq AV.sl.injEq AV.agg.injEq AV.ref.injEq AV.ept.injEq AV.tup.injEq Value.bool.injEq PV.v.injEq PV.sl.injEq List.isEmpty_nil List.isEmpty_cons forall_const not_true_eq_false not_false_eq_true true_implies false_implies Value.string.injEq List.length_map List.getElem?_map Int.toNat_natCast Int.natCast_nonneg List.length_append Value.cells implies_true TypeDesc.struct.injEq TypeDesc.slice.injEq TypeDesc.array.injEq List.getElem?_toArray Prod.mk.injEq and_assoc exists_false List.cons.injEq Operand.tmp.injEq ite_self AV.fnv.injEq AV.clo.injEq ne_eq eq_self Tryz.sz3 Tryz.zr3 Tryz.by3 Tryz.pl3 Tryz.is3 Tryz.underlying3 Tryz.sz4 Tryz.zr4 Tryz.by4 Tryz.pl4 Tryz.is4 Tryz.underlying4 Tryz.sz43 Tryz.zr43 Tryz.by43 Tryz.pl43 Tryz.is43 Tryz.underlying43 Tryz.sz35 Tryz.zr35 Tryz.by35 Tryz.pl35 Tryz.is35 Tryz.underlying35 Tryz.sz33 Tryz.zr33 Tryz.by33 Tryz.pl33 Tryz.is33 Tryz.underlying33 Tryz.sz28 Tryz.zr28 Tryz.by28 Tryz.pl28 Tryz.is28 Tryz.underlying28 Tryz.sz39 Tryz.zr39 Tryz.by39 Tryz.pl39 Tryz.is39 Tryz.underlying39 Tryz.sz57 Tryz.zr57 Tryz.by57 Tryz.pl57 Tryz.is57 Tryz.underlying57 Tryz.sz137 Tryz.zr137 Tryz.by137 Tryz.pl137 Tryz.is137 Tryz.underlying137 Tryz.sz66 Tryz.zr66 Tryz.by66 Tryz.pl66 Tryz.is66 Tryz.underlying66 Tryz.sz64 Tryz.zr64 Tryz.by64 Tryz.pl64 Tryz.is64 Tryz.underlying64 Tryz.sz60 Tryz.zr60 Tryz.by60 Tryz.pl60 Tryz.is60 Tryz.underlying60 Tryz.sz100 Tryz.zr100 Tryz.by100 Tryz.pl100 Tryz.is100 Tryz.underlying100 Tryz.sz103 Tryz.zr103 Tryz.by103 Tryz.pl103 Tryz.is103 Tryz.underlying103 Tryz.sz26 Tryz.zr26 Tryz.by26 Tryz.pl26 Tryz.is26 Tryz.underlying26 Tryz.sz120 Tryz.zr120 Tryz.by120 Tryz.pl120 Tryz.is120 Tryz.underlying120 Tryz.sz117 Tryz.zr117 Tryz.by117 Tryz.pl117 Tryz.is117 Tryz.underlying117 Tryz.sz30 Tryz.zr30 Tryz.by30 Tryz.pl30 Tryz.is30 Tryz.underlying30 Tryz.sz31 Tryz.zr31 Tryz.by31 Tryz.pl31 Tryz.is31 Tryz.underlying31 Tryz.sz40 Tryz.zr40 Tryz.by40 Tryz.pl40 Tryz.is40 Tryz.underlying40 Tryz.sz23 Tryz.zr23 Tryz.by23 Tryz.pl23 Tryz.is23 Tryz.underlying23 Tryz.sz24 Tryz.zr24 Tryz.by24 Tryz.pl24 Tryz.is24 Tryz.underlying24 Tryz.sz22 Tryz.zr22 Tryz.by22 Tryz.pl22 Tryz.is22 Tryz.underlying22 Tryz.sz141 Tryz.zr141 Tryz.by141 Tryz.pl141 Tryz.is141 Tryz.underlying141 Tryz.sz42 Tryz.zr42 Tryz.by42 Tryz.pl42 Tryz.is42 Tryz.underlying42 Tryz.sz29 Tryz.zr29 Tryz.by29 Tryz.pl29 Tryz.is29 Tryz.underlying29 Tryz.sz83 Tryz.zr83 Tryz.by83 Tryz.pl83 Tryz.is83 Tryz.underlying83 Tryz.sz67 Tryz.zr67 Tryz.by67 Tryz.pl67 Tryz.is67 Tryz.underlying67 Tryz.it39 Tryz.eg39 Tryz.it137 Tryz.eg137 Tryz.it66 Tryz.eg66 Tryz.it28 Tryz.eg28 Tryz.it60 Tryz.eg60 all_arr loc_ss loc_sb loc_bs loc_bb arr_two arr_one rg1 rg2 rg3 rg4 rg5 rg6 rg7 rg8 ResultVar.tmp.injEq Bool.not_true Bool.not_false undef Rc.Rec.pv Nd.Fl.pv Rc.Dlv.pv Rc.Att.pv Mo.Lt.pv Fn.func.injEq Mo.Net.pv Mo.Lk.pv prow_pv irow_pv Br.pv
theorem firstC_step {n : Net} {f : Fl} {r : Rec} {fr x y : Int} {p : List Int} {i : Nat} (hi : 1 ≤ i) (hx : p[i - 1]? = some x) (hy : p[i]? = some y) :
    firstC n f r fr (p.drop (i - 1)) = match (causesX n f r fr x y)[0]? with
      | some c => some c
      | none => firstC n f r fr (p.drop i) := by
  rw [drop_of_get hx, show i - 1 + 1 = i by omega, drop_of_get hy, firstC, List.head?_eq_getElem?]
  cases (causesX n f r fr x y)[0]? <;> rfl
theorem firstC_end {n : Net} {f : Fl} {r : Rec} {fr : Int} {p : List Int} {i : Nat} (hi : p.length ≤ i) : firstC n f r fr (p.drop (i - 1)) = none := by
  have h : (p.drop (i - 1)).length ≤ 1 := by rw [List.length_drop]; omega
  match hq : p.drop (i - 1) with
  | [] => rfl
  | [x] => rfl
  | x :: y :: l => rw [hq] at h; simp at h

set_option maxHeartbeats 20000000 in
theorem find_okX (n : Net) (f : Fl) (ps : List (List Int)) (r : Rec) (fr : Int) (hS : SmallN n) (hla : r.al.length ≤ 1000000) (hld : r.dl.length ≤ 1000000) (hps : ps.length ≤ 1000000) (hpl : ∀ p ∈ ps, p.length ≤ 1000000) : FnOK Tryz.prog 11 [.agg n.pv, .agg f.pv, .sl 1 (ps.map prow_pv), .agg r.pv, iv fr] ⟨.tup [.g (findX n f ps r fr).1.pv, .c (ip (findX n f ps r fr).2)], none⟩ := by
  refine fn_ok Tryz.func11 (by kernel_rfl) rfl (by rw [Tryz.ntmps11]; exact of_decide_eq_true rfl) (fun F hF => ?_)
  rw [Tryz.ntmps11] at hF
  rw [Tryz.results11]
  repeat (first
    | ((first | with_reducible refine sops_go ?_ | with_reducible refine headW_end ?_ | with_reducible refine sops_end ?_ | with_reducible refine awp_if ?_ | with_reducible refine awp_skip ?_ | with_reducible refine awp_ret ?_ | with_reducible refine awp_exit ?_); simp only [go_sem, simprocAttr, hF])
    | ((with_reducible refine headW_go ?_); simp only [go_sem, simprocAttr, hF, hbx])
    | (with_reducible refine awp_seq_k (fun _ _ => ?_))
    | (refine awp_draw' (id := 12) [69] 14 (by kernel_rfl) (by kernel_rfl) rfl rfl (fun bx0 hbx => ?_); (try dsimp only [List.take_succ_cons, List.take_zero, List.take_nil, List.drop_succ_cons, List.drop_zero, List.drop_nil]))
    | (refine awp_draw' (id := 14) [69] 6 (by kernel_rfl) (by kernel_rfl) rfl rfl (fun bx0 hbx => ?_); (try dsimp only [List.take_succ_cons, List.take_zero, List.take_nil, List.drop_succ_cons, List.drop_zero, List.drop_nil]))
    | (with_reducible refine awp_region [69] ?_)
    | (with_reducible refine awp_block ?_)
    | go_step)
  refine ⟨_, checkL_ok n f ps r fr hS hla hld hps hpl, ?_⟩
  simp only [go_sem, simprocAttr, hF]
  by_cases hL : (lateX n f ps r fr).2 = 0
  case neg =>
    have e1 : ((lateX n f ps r fr).2 != 0) = true := by simpa using hL
    have hX : findX n f ps r fr = (ex0, (lateX n f ps r fr).2) := by unfold findX; rw [if_pos hL]
    try simp only [go_sem, simprocAttr, hF, e1]
    repeat (first
      | ((refine awp_nilB (c := .ret) 10 3 5 57 (cs := _) rfl rfl ?_); simp only [go_sem, simprocAttr, hF, e1])
      | ((first | with_reducible refine sops_go ?_ | with_reducible refine headW_end ?_ | with_reducible refine sops_end ?_ | with_reducible refine awp_if ?_ | with_reducible refine awp_skip ?_ | with_reducible refine awp_ret ?_ | with_reducible refine awp_exit ?_); simp only [go_sem, simprocAttr, hF, e1])
      | ((with_reducible refine headW_go ?_); simp only [go_sem, simprocAttr, hF, e1, hbx])
      | (with_reducible refine awp_seq_k (fun _ _ => ?_))
      | (refine awp_draw' (id := 12) [69] 14 (by kernel_rfl) (by kernel_rfl) rfl rfl (fun bx0 hbx => ?_); (try dsimp only [List.take_succ_cons, List.take_zero, List.take_nil, List.drop_succ_cons, List.drop_zero, List.drop_nil]))
      | (refine awp_draw' (id := 14) [69] 6 (by kernel_rfl) (by kernel_rfl) rfl rfl (fun bx0 hbx => ?_); (try dsimp only [List.take_succ_cons, List.take_zero, List.take_nil, List.drop_succ_cons, List.drop_zero, List.drop_nil]))
      | (with_reducible refine awp_region [69] ?_)
      | (with_reducible refine awp_block ?_)
      | go_step)
    all_goals (try rw [hX])
    all_goals (try rfl)
  have e1 : ((lateX n f ps r fr).2 != 0) = false := by rw [hL]; rfl
  have LO := lateX_ok hL
  have hN := netOK (basicB_inv LO.base).1
  try simp only [go_sem, simprocAttr, hF, e1]
  repeat (first
    | ((first | with_reducible refine sops_go ?_ | with_reducible refine headW_end ?_ | with_reducible refine sops_end ?_ | with_reducible refine awp_if ?_ | with_reducible refine awp_skip ?_ | with_reducible refine awp_ret ?_ | with_reducible refine awp_exit ?_); simp only [go_sem, simprocAttr, hF, e1])
    | ((with_reducible refine headW_go ?_); simp only [go_sem, simprocAttr, hF, e1, hbx])
    | (with_reducible refine awp_seq_k (fun _ _ => ?_))
    | (refine awp_draw' (id := 12) [69] 14 (by kernel_rfl) (by kernel_rfl) rfl rfl (fun bx0 hbx => ?_); (try dsimp only [List.take_succ_cons, List.take_zero, List.take_nil, List.drop_succ_cons, List.drop_zero, List.drop_nil]))
    | (refine awp_draw' (id := 14) [69] 6 (by kernel_rfl) (by kernel_rfl) rfl rfl (fun bx0 hbx => ?_); (try dsimp only [List.take_succ_cons, List.take_zero, List.take_nil, List.drop_succ_cons, List.drop_zero, List.drop_nil]))
    | (with_reducible refine awp_region [69] ?_)
    | (with_reducible refine awp_block ?_)
    | go_step)
  refine awp_nilB 14 3 5 57 (cs := _) rfl rfl ?_
  simp only [go_sem, simprocAttr, hF]
  refine awp_loop_by (ι := {k : Nat // k ≤ ps.length ∧ (ps.take k).any (fun p => (firstC n f r fr p).isNone) = false}) (fun k σ => ⟨(37, iv (k.1 : Int)) :: keepS [2, 4, 5, 6, 8, 10, 14, 35, 36] σ.slot, (14, [ip (lateX n f ps r fr).1.fl, ip (lateX n f ps r fr).1.fr, ip (lateX n f ps r fr).1.sl, .sl 5 (((ps.take k.1).filterMap (firstC n f r fr)).map Br.pv)]) :: keepS [5, 6, 8, 10] σ.box, [(.b 14 3, (57, 5))], σ.ext⟩) (fun k => ps.length - k.1) ⟨0, by omega, rfl⟩ (sub_mk ?_) (fun R hR k => ?_)
  · simp only [go_sem, simprocAttr, hF]
    repeat' (first | rfl | refine ⟨?_, ?_⟩)
  obtain ⟨k, hk, hT⟩ := k
  dsimp only
  simp only [go_sem, simprocAttr, hF]
  by_cases hlt : k < ps.length
  case neg =>
    have hd : decide ((k : Int) < (ps.length : Int)) = false := decide_eq_false (by omega)
    have hX : findX n f ps r fr = (⟨(lateX n f ps r fr).1, ps.filterMap (firstC n f r fr)⟩, 0) := by
      rw [List.take_of_length_le (by omega)] at hT
      unfold findX
      rw [if_neg (fun h => h hL), if_neg (by rw [hT]; decide)]
    have hall : List.take k ps = ps := List.take_of_length_le (by omega)
    repeat (first
      | ((first | with_reducible refine sops_go ?_ | with_reducible refine headW_end ?_ | with_reducible refine sops_end ?_ | with_reducible refine awp_if ?_ | with_reducible refine awp_skip ?_ | with_reducible refine awp_ret ?_ | with_reducible refine awp_exit ?_); simp only [go_sem, simprocAttr, hF, hd])
      | ((with_reducible refine headW_go ?_); simp only [go_sem, simprocAttr, hF, hd, hbx])
      | (with_reducible refine awp_seq_k (fun _ _ => ?_))
      | (refine awp_draw' (id := 12) [69] 14 (by kernel_rfl) (by kernel_rfl) rfl rfl (fun bx0 hbx => ?_); (try dsimp only [List.take_succ_cons, List.take_zero, List.take_nil, List.drop_succ_cons, List.drop_zero, List.drop_nil]))
      | (refine awp_draw' (id := 14) [69] 6 (by kernel_rfl) (by kernel_rfl) rfl rfl (fun bx0 hbx => ?_); (try dsimp only [List.take_succ_cons, List.take_zero, List.take_nil, List.drop_succ_cons, List.drop_zero, List.drop_nil]))
      | (with_reducible refine awp_region [69] ?_)
      | (with_reducible refine awp_block ?_)
      | go_step)
    all_goals (try rw [hX])
    all_goals (try rw [hall])
    all_goals (try rfl)
  obtain ⟨p, hp⟩ := get_of_lt hlt
  have hd : decide ((k : Int) < (ps.length : Int)) = true := decide_eq_true (by omega)
  have hw : IntKind.i64.wrap ((k : Int) + 1) = ((k + 1 : Nat) : Int) := by rw [IntKind.wrap_i64]; omega
  obtain ⟨r1, r2, r3⟩ := route_inv (LO.rt p (List.mem_of_getElem? hp))
  have hTk : List.take (k + 1) ps = List.take k ps ++ [p] := by rw [List.take_add_one, hp]; rfl
  obtain ⟨acc, hacc⟩ : ∃ acc, acc = (List.take k ps).filterMap (firstC n f r fr) := ⟨_, rfl⟩
  have haccl : acc.length ≤ 2 := by
    rw [hacc]
    refine Nat.le_trans (List.length_filterMap_le _ _) ?_
    rw [List.length_take]
    have := LO.l2
    omega
  rw [← hacc]
  repeat (first
    | ((first | with_reducible refine sops_go ?_ | with_reducible refine headW_end ?_ | with_reducible refine sops_end ?_ | with_reducible refine awp_if ?_ | with_reducible refine awp_skip ?_ | with_reducible refine awp_ret ?_ | with_reducible refine awp_exit ?_); simp only [go_sem, simprocAttr, hF, hd, hp])
    | ((with_reducible refine headW_go ?_); simp only [go_sem, simprocAttr, hF, hd, hp, hbx])
    | (with_reducible refine awp_seq_k (fun _ _ => ?_))
    | (refine awp_draw' (id := 12) [69] 14 (by kernel_rfl) (by kernel_rfl) rfl rfl (fun bx0 hbx => ?_); (try dsimp only [List.take_succ_cons, List.take_zero, List.take_nil, List.drop_succ_cons, List.drop_zero, List.drop_nil]))
    | (refine awp_draw' (id := 14) [69] 6 (by kernel_rfl) (by kernel_rfl) rfl rfl (fun bx0 hbx => ?_); (try dsimp only [List.take_succ_cons, List.take_zero, List.take_nil, List.drop_succ_cons, List.drop_zero, List.drop_nil]))
    | (with_reducible refine awp_region [69] ?_)
    | (with_reducible refine awp_block ?_)
    | go_step)
  refine awp_loop_by (ι := {x : Nat × Option Br // 1 ≤ x.1 ∧ x.1 ≤ p.length ∧ (x.2 = none → firstC n f r fr p = firstC n f r fr (p.drop (x.1 - 1))) ∧ (∀ c, x.2 = some c → firstC n f r fr p = some c)}) (fun x σ => ⟨(18, iv (x.1.1 : Int)) :: (17, bv x.1.2.isSome) :: keepS [2, 4, 5, 6, 8, 10, 14, 16, 35, 36, 37] σ.slot, (14, [ip (lateX n f ps r fr).1.fl, ip (lateX n f ps r fr).1.fr, ip (lateX n f ps r fr).1.sl, .sl 5 ((acc ++ x.1.2.toList).map Br.pv)]) :: keepS [5, 6, 8, 10] σ.box, [(.b 14 3, (57, 5))], σ.ext⟩) (fun x => p.length - x.1.1) ⟨(1, none), Nat.le_refl _, by dsimp only; omega, fun _ => rfl, fun _ h => (by cases h)⟩ (sub_mk ?_) (fun R2 hR2 x => ?_)
  · simp only [go_sem, simprocAttr, hF]
    try simp only [Option.toList_none, List.append_nil, Option.isSome_none]
    repeat' (first | rfl | exact True.intro | refine ⟨?_, ?_⟩)
  obtain ⟨⟨i, oc⟩, hi1, hip, hN1, hS1⟩ := x
  dsimp only at hi1 hip hN1 hS1 ⊢
  simp only [go_sem, simprocAttr, hF]
  have hwi : IntKind.i64.wrap ((i : Int) + 1) = ((i + 1 : Nat) : Int) := by rw [IntKind.wrap_i64]; omega
  cases oc with
  | some c =>
    have hfc := hS1 c rfl
    have hany : (List.take (k + 1) ps).any (fun p => (firstC n f r fr p).isNone) = false := by rw [hTk, List.any_append, hT, List.any_cons, hfc]; rfl
    have hfm : (List.take (k + 1) ps).filterMap (firstC n f r fr) = acc ++ [c] := by rw [hTk, List.filterMap_append, hacc, List.filterMap_cons, hfc]; rfl
    cases hlti : decide ((i : Int) < (p.length : Int)) with
    | false =>
      try simp only [go_sem, simprocAttr, hF, hlti, Option.isSome_some, Option.toList_some]
      repeat (first
        | ((first | with_reducible refine sops_go ?_ | with_reducible refine headW_end ?_ | with_reducible refine sops_end ?_ | with_reducible refine awp_if ?_ | with_reducible refine awp_skip ?_ | with_reducible refine awp_ret ?_ | with_reducible refine awp_exit ?_); simp only [go_sem, simprocAttr, hF, hlti, Option.isSome_some, Option.toList_some])
        | ((with_reducible refine headW_go ?_); simp only [go_sem, simprocAttr, hF, hlti, Option.isSome_some, Option.toList_some, hbx])
        | (with_reducible refine awp_seq_k (fun _ _ => ?_))
        | (refine awp_draw' (id := 12) [69] 14 (by kernel_rfl) (by kernel_rfl) rfl rfl (fun bx0 hbx => ?_); (try dsimp only [List.take_succ_cons, List.take_zero, List.take_nil, List.drop_succ_cons, List.drop_zero, List.drop_nil]))
        | (refine awp_draw' (id := 14) [69] 6 (by kernel_rfl) (by kernel_rfl) rfl rfl (fun bx0 hbx => ?_); (try dsimp only [List.take_succ_cons, List.take_zero, List.take_nil, List.drop_succ_cons, List.drop_zero, List.drop_nil]))
        | (with_reducible refine awp_region [69] ?_)
        | (with_reducible refine awp_block ?_)
        | go_step)
      refine ⟨⟨k + 1, by omega, hany⟩, by dsimp only; omega, hR _ _ (sub_mk ?_)⟩
      simp only [go_sem, simprocAttr, hF, hw, hfm]
    | true =>
      try simp only [go_sem, simprocAttr, hF, hlti, Option.isSome_some, Option.toList_some]
      repeat (first
        | ((first | with_reducible refine sops_go ?_ | with_reducible refine headW_end ?_ | with_reducible refine sops_end ?_ | with_reducible refine awp_if ?_ | with_reducible refine awp_skip ?_ | with_reducible refine awp_ret ?_ | with_reducible refine awp_exit ?_); simp only [go_sem, simprocAttr, hF, hlti, Option.isSome_some, Option.toList_some])
        | ((with_reducible refine headW_go ?_); simp only [go_sem, simprocAttr, hF, hlti, Option.isSome_some, Option.toList_some, hbx])
        | (with_reducible refine awp_seq_k (fun _ _ => ?_))
        | (refine awp_draw' (id := 12) [69] 14 (by kernel_rfl) (by kernel_rfl) rfl rfl (fun bx0 hbx => ?_); (try dsimp only [List.take_succ_cons, List.take_zero, List.take_nil, List.drop_succ_cons, List.drop_zero, List.drop_nil]))
        | (refine awp_draw' (id := 14) [69] 6 (by kernel_rfl) (by kernel_rfl) rfl rfl (fun bx0 hbx => ?_); (try dsimp only [List.take_succ_cons, List.take_zero, List.take_nil, List.drop_succ_cons, List.drop_zero, List.drop_nil]))
        | (with_reducible refine awp_region [69] ?_)
        | (with_reducible refine awp_block ?_)
        | go_step)
      refine ⟨⟨k + 1, by omega, hany⟩, by dsimp only; omega, hR _ _ (sub_mk ?_)⟩
      simp only [go_sem, simprocAttr, hF, hw, hfm]
  | none =>
    have hfc := hN1 rfl
    by_cases hlti : i < p.length
    case neg =>
      have hdi : decide ((i : Int) < (p.length : Int)) = false := decide_eq_false (by omega)
      have hX : findX n f ps r fr = (ex0, 7) := by
        have hnn : firstC n f r fr p = none := by rw [hfc]; exact firstC_end (by omega)
        have hany : ps.any (fun p => (firstC n f r fr p).isNone) = true := List.any_eq_true.2 ⟨p, List.mem_of_getElem? hp, by rw [hnn]; rfl⟩
        unfold findX
        rw [if_neg (fun h => h hL), if_pos hany]
      try simp only [go_sem, simprocAttr, hF, hdi, Option.isSome_none, Option.toList_none]
      repeat (first
        | ((refine awp_nilB (c := .ret) 10 3 5 57 (cs := _) rfl rfl ?_); simp only [go_sem, simprocAttr, hF, hdi, Option.isSome_none, Option.toList_none])
        | ((first | with_reducible refine sops_go ?_ | with_reducible refine headW_end ?_ | with_reducible refine sops_end ?_ | with_reducible refine awp_if ?_ | with_reducible refine awp_skip ?_ | with_reducible refine awp_ret ?_ | with_reducible refine awp_exit ?_); simp only [go_sem, simprocAttr, hF, hdi, Option.isSome_none, Option.toList_none])
        | ((with_reducible refine headW_go ?_); simp only [go_sem, simprocAttr, hF, hdi, Option.isSome_none, Option.toList_none, hbx])
        | (with_reducible refine awp_seq_k (fun _ _ => ?_))
        | (refine awp_draw' (id := 12) [69] 14 (by kernel_rfl) (by kernel_rfl) rfl rfl (fun bx0 hbx => ?_); (try dsimp only [List.take_succ_cons, List.take_zero, List.take_nil, List.drop_succ_cons, List.drop_zero, List.drop_nil]))
        | (refine awp_draw' (id := 14) [69] 6 (by kernel_rfl) (by kernel_rfl) rfl rfl (fun bx0 hbx => ?_); (try dsimp only [List.take_succ_cons, List.take_zero, List.take_nil, List.drop_succ_cons, List.drop_zero, List.drop_nil]))
        | (with_reducible refine awp_region [69] ?_)
        | (with_reducible refine awp_block ?_)
        | go_step)
      all_goals (try rw [hX])
      all_goals (try rfl)
    have hdi : decide ((i : Int) < (p.length : Int)) = true := decide_eq_true (by omega)
    have hwp : IntKind.i64.wrap ((i : Int) - 1) = ((i - 1 : Nat) : Int) := by rw [IntKind.wrap_i64]; omega
    obtain ⟨x, hx⟩ := get_of_lt (l := p) (k := i - 1) (by omega)
    obtain ⟨y, hy⟩ := get_of_lt (l := p) (k := i) hlti
    have hst := firstC_step (n := n) (f := f) (r := r) (fr := fr) hi1 hx hy
    have hix := r3 (i - 1) x y hx (by rw [show i - 1 + 1 = i by omega]; exact hy)
    try simp only [go_sem, simprocAttr, hF, hdi, hwp, hx, hy, Option.isSome_none, Option.toList_none, List.append_nil]
    repeat (first
      | ((first | with_reducible refine sops_go ?_ | with_reducible refine headW_end ?_ | with_reducible refine sops_end ?_ | with_reducible refine awp_if ?_ | with_reducible refine awp_skip ?_ | with_reducible refine awp_ret ?_ | with_reducible refine awp_exit ?_); simp only [go_sem, simprocAttr, hF, hdi, hwp, hx, hy, Option.isSome_none, Option.toList_none, List.append_nil])
      | ((with_reducible refine headW_go ?_); simp only [go_sem, simprocAttr, hF, hdi, hwp, hx, hy, Option.isSome_none, Option.toList_none, List.append_nil, hbx])
      | (with_reducible refine awp_seq_k (fun _ _ => ?_))
      | (refine awp_draw' (id := 12) [69] 14 (by kernel_rfl) (by kernel_rfl) rfl rfl (fun bx0 hbx => ?_); (try dsimp only [List.take_succ_cons, List.take_zero, List.take_nil, List.drop_succ_cons, List.drop_zero, List.drop_nil]))
      | (refine awp_draw' (id := 14) [69] 6 (by kernel_rfl) (by kernel_rfl) rfl rfl (fun bx0 hbx => ?_); (try dsimp only [List.take_succ_cons, List.take_zero, List.take_nil, List.drop_succ_cons, List.drop_zero, List.drop_nil]))
      | (with_reducible refine awp_region [69] ?_)
      | (with_reducible refine awp_block ?_)
      | go_step)
    refine ⟨_, causes_ok n f r fr x y hS LO.base ⟨LO.fr0, LO.fr1⟩ hix hla, ?_⟩
    simp only [go_sem, simprocAttr, hF, hdi, hwp, hx, hy, Option.isSome_none, Option.toList_none, List.append_nil]
    generalize causesX n f r fr x y = CX at hst ⊢
    cases CX with
    | nil =>
      have hst' : firstC n f r fr p = firstC n f r fr (p.drop i) := by rw [hfc, hst]; rfl
      have e4 : decide ((0 : Int) < ((0 : Nat) : Int)) = false := rfl
      try simp only [go_sem, simprocAttr, hF, hdi, hwp, hx, hy, Option.isSome_none, Option.toList_none, List.append_nil, List.map_nil, List.length_nil, e4]
      repeat (first
        | ((first | with_reducible refine sops_go ?_ | with_reducible refine headW_end ?_ | with_reducible refine sops_end ?_ | with_reducible refine awp_if ?_ | with_reducible refine awp_skip ?_ | with_reducible refine awp_ret ?_ | with_reducible refine awp_exit ?_); simp only [go_sem, simprocAttr, hF, hdi, hwp, hx, hy, Option.isSome_none, Option.toList_none, List.append_nil, List.map_nil, List.length_nil, e4])
        | ((with_reducible refine headW_go ?_); simp only [go_sem, simprocAttr, hF, hdi, hwp, hx, hy, Option.isSome_none, Option.toList_none, List.append_nil, List.map_nil, List.length_nil, e4, hbx])
        | (with_reducible refine awp_seq_k (fun _ _ => ?_))
        | (refine awp_draw' (id := 12) [69] 14 (by kernel_rfl) (by kernel_rfl) rfl rfl (fun bx0 hbx => ?_); (try dsimp only [List.take_succ_cons, List.take_zero, List.take_nil, List.drop_succ_cons, List.drop_zero, List.drop_nil]))
        | (refine awp_draw' (id := 14) [69] 6 (by kernel_rfl) (by kernel_rfl) rfl rfl (fun bx0 hbx => ?_); (try dsimp only [List.take_succ_cons, List.take_zero, List.take_nil, List.drop_succ_cons, List.drop_zero, List.drop_nil]))
        | (with_reducible refine awp_region [69] ?_)
        | (with_reducible refine awp_block ?_)
        | go_step)
      refine ⟨⟨(i + 1, none), by dsimp only; omega, by dsimp only; omega, fun _ => (by dsimp only; rw [Nat.add_sub_cancel]; exact hst'), fun _ h => (by cases h)⟩, by dsimp only; omega, hR2 _ _ (sub_mk ?_)⟩
      simp only [go_sem, simprocAttr, hF, hwi, Option.isSome_none, Option.toList_none, List.append_nil]
    | cons c CX =>
      have hst' : firstC n f r fr p = some c := by rw [hfc, hst]; rfl
      have e4 : decide ((0 : Int) < ((CX.length + 1 : Nat) : Int)) = true := decide_eq_true (by omega)
      have z0 : Int.toNat 0 = 0 := rfl
      have hal : acc.length ≤ 99999999 := by omega
      try simp only [go_sem, simprocAttr, hF, hdi, hwp, hx, hy, Option.isSome_none, Option.toList_none, List.append_nil, List.map_cons, List.length_cons, e4, z0, hal]
      repeat (first
        | ((first | with_reducible refine sops_go ?_ | with_reducible refine headW_end ?_ | with_reducible refine sops_end ?_ | with_reducible refine awp_if ?_ | with_reducible refine awp_skip ?_ | with_reducible refine awp_ret ?_ | with_reducible refine awp_exit ?_); simp only [go_sem, simprocAttr, hF, hdi, hwp, hx, hy, Option.isSome_none, Option.toList_none, List.append_nil, List.map_cons, List.length_cons, e4, z0, hal])
        | ((with_reducible refine headW_go ?_); simp only [go_sem, simprocAttr, hF, hdi, hwp, hx, hy, Option.isSome_none, Option.toList_none, List.append_nil, List.map_cons, List.length_cons, e4, z0, hal, hbx])
        | (with_reducible refine awp_seq_k (fun _ _ => ?_))
        | (refine awp_draw' (id := 12) [69] 14 (by kernel_rfl) (by kernel_rfl) rfl rfl (fun bx0 hbx => ?_); (try dsimp only [List.take_succ_cons, List.take_zero, List.take_nil, List.drop_succ_cons, List.drop_zero, List.drop_nil]))
        | (refine awp_draw' (id := 14) [69] 6 (by kernel_rfl) (by kernel_rfl) rfl rfl (fun bx0 hbx => ?_); (try dsimp only [List.take_succ_cons, List.take_zero, List.take_nil, List.drop_succ_cons, List.drop_zero, List.drop_nil]))
        | (with_reducible refine awp_region [69] ?_)
        | (with_reducible refine awp_block ?_)
        | go_step)
      refine ⟨⟨(i + 1, some c), by dsimp only; omega, by dsimp only; omega, fun h => (by cases h), fun _ h => (by cases h; exact hst')⟩, by dsimp only; omega, hR2 _ _ (sub_mk ?_)⟩
      simp only [go_sem, simprocAttr, hF, hwi, Option.isSome_some, Option.toList_some, List.map_append, List.map_cons, List.map_nil, Br.pv]
end Go.Proofs.YticnppnejafhdaaGreatDoor
/- slices.Equal of numbers, by abstract states. -/
namespace Go.Proofs.YticnppnejafhdaaGreatDoor
open Go.RowKit
open Nd Rc Mo
open Av
set_option maxRecDepth 100000
set_option linter.unusedSimpArgs false
attribute [local go_sem] Av.guardB Av.sop Av.hopx Av.hop Av.hopCall Av.hopF Av.hopB Av.evo Av.evos Av.avCells Av.loadK Av.bound Av.abin Av.aun Av.partsC Av.lfill Av.placesB Av.setAt Av.stl Av.takes Av.src Av.bxOf Av.ownOf Av.St.res Av.St.put Av.St.addBox Av.St.putOwn Av.delL Av.delS Av.look Av.lookL Av.storeSt Av.stealSt Av.St.setBox Av.keepL Av.hitB Av.snap Av.snaps Av.snapCaps Av.AV.lit Av.AV.refs Av.capRefs Av.PV.av Av.CV.av Av.startSt Av.steals Av.athen Av.ablock Av.appK Av.AllS Av.AllO Av.AllR Av.keepS Av.St.avAt Av.RetOK Av.retAll Av.retOne Av.intsOf Av.ptrB TypeDesc.isRow List.range_zero Option.some.injEq exists_eq_left' exists_eq_left exists_eq' exists_and_left exists_and_right exists_const true_and and_true and_self false_and and_false or_false false_or or_true true_or if_true if_false Bool.false_eq_true List.zipIdx_cons List.zipIdx_nil List.map_cons List.map_nil List.filter_cons List.filter_nil List.contains_cons List.contains_nil List.drop_succ_cons List.drop_zero List.take_succ_cons List.take_zero List.take_nil List.drop_nil List.length_cons List.length_nil List.cons_append List.nil_append List.append_nil List.getElem?_cons_zero List.getElem?_cons_succ List.getElem?_nil Option.bind_some Option.bind_none Option.map_some Option.map_none Option.isNone_none Option.isNone_some Option.isSome_some Option.isSome_none Bool.and_true Bool.true_and Bool.and_false Bool.false_and Bool.or_false Bool.false_or Bool.not_true Bool.not_false beq_true beq_false Bool.true_beq Bool.false_beq Loc.s.injEq Loc.b.injEq decide_true decide_false beq_self_eq_true Nat.zero_add Nat.add_zero List.getElem?_toArray List.toList_toArray List.size_toArray Value.oneCell' List.all_cons List.all_nil Value.int.injEq AV.v.injEq AV.sl.injEq AV.agg.injEq AV.ref.injEq AV.ept.injEq AV.tup.injEq Value.bool.injEq PV.v.injEq PV.sl.injEq List.isEmpty_nil List.isEmpty_cons forall_const not_true_eq_false not_false_eq_true true_implies false_implies Value.string.injEq List.length_map List.getElem?_map Int.toNat_natCast Int.natCast_nonneg List.length_append Value.cells implies_true TypeDesc.struct.injEq TypeDesc.slice.injEq TypeDesc.array.injEq List.getElem?_toArray Prod.mk.injEq and_assoc exists_false List.cons.injEq Operand.tmp.injEq ite_self AV.fnv.injEq AV.clo.injEq ne_eq eq_self Tryz.sz3 Tryz.zr3 Tryz.by3 Tryz.pl3 Tryz.is3 Tryz.underlying3 Tryz.sz4 Tryz.zr4 Tryz.by4 Tryz.pl4 Tryz.is4 Tryz.underlying4 Tryz.sz43 Tryz.zr43 Tryz.by43 Tryz.pl43 Tryz.is43 Tryz.underlying43 Tryz.sz35 Tryz.zr35 Tryz.by35 Tryz.pl35 Tryz.is35 Tryz.underlying35 Tryz.sz33 Tryz.zr33 Tryz.by33 Tryz.pl33 Tryz.is33 Tryz.underlying33 Tryz.sz28 Tryz.zr28 Tryz.by28 Tryz.pl28 Tryz.is28 Tryz.underlying28 Tryz.sz39 Tryz.zr39 Tryz.by39 Tryz.pl39 Tryz.is39 Tryz.underlying39 Tryz.sz57 Tryz.zr57 Tryz.by57 Tryz.pl57 Tryz.is57 Tryz.underlying57 Tryz.sz137 Tryz.zr137 Tryz.by137 Tryz.pl137 Tryz.is137 Tryz.underlying137 Tryz.sz66 Tryz.zr66 Tryz.by66 Tryz.pl66 Tryz.is66 Tryz.underlying66 Tryz.sz64 Tryz.zr64 Tryz.by64 Tryz.pl64 Tryz.is64 Tryz.underlying64 Tryz.sz60 Tryz.zr60 Tryz.by60 Tryz.pl60 Tryz.is60 Tryz.underlying60 Tryz.sz100 Tryz.zr100 Tryz.by100 Tryz.pl100 Tryz.is100 Tryz.underlying100 Tryz.sz103 Tryz.zr103 Tryz.by103 Tryz.pl103 Tryz.is103 Tryz.underlying103 Tryz.sz26 Tryz.zr26 Tryz.by26 Tryz.pl26 Tryz.is26 Tryz.underlying26 Tryz.sz120 Tryz.zr120 Tryz.by120 Tryz.pl120 Tryz.is120 Tryz.underlying120 Tryz.sz117 Tryz.zr117 Tryz.by117 Tryz.pl117 Tryz.is117 Tryz.underlying117 Tryz.sz30 Tryz.zr30 Tryz.by30 Tryz.pl30 Tryz.is30 Tryz.underlying30 Tryz.sz31 Tryz.zr31 Tryz.by31 Tryz.pl31 Tryz.is31 Tryz.underlying31 Tryz.sz40 Tryz.zr40 Tryz.by40 Tryz.pl40 Tryz.is40 Tryz.underlying40 Tryz.sz23 Tryz.zr23 Tryz.by23 Tryz.pl23 Tryz.is23 Tryz.underlying23 Tryz.sz24 Tryz.zr24 Tryz.by24 Tryz.pl24 Tryz.is24 Tryz.underlying24 Tryz.sz22 Tryz.zr22 Tryz.by22 Tryz.pl22 Tryz.is22 Tryz.underlying22 Tryz.sz141 Tryz.zr141 Tryz.by141 Tryz.pl141 Tryz.is141 Tryz.underlying141 Tryz.sz42 Tryz.zr42 Tryz.by42 Tryz.pl42 Tryz.is42 Tryz.underlying42 Tryz.sz29 Tryz.zr29 Tryz.by29 Tryz.pl29 Tryz.is29 Tryz.underlying29 Tryz.sz83 Tryz.zr83 Tryz.by83 Tryz.pl83 Tryz.is83 Tryz.underlying83 Tryz.sz67 Tryz.zr67 Tryz.by67 Tryz.pl67 Tryz.is67 Tryz.underlying67 Tryz.it39 Tryz.eg39 Tryz.it137 Tryz.eg137 Tryz.it66 Tryz.eg66 Tryz.it28 Tryz.eg28 Tryz.it60 Tryz.eg60 all_arr loc_ss loc_sb loc_bs loc_bb arr_two arr_one rg1 rg2 rg3 rg4 rg5 rg6 rg7 rg8 ResultVar.tmp.injEq Bool.not_true Bool.not_false undef Rc.Rec.pv Nd.Fl.pv Rc.Dlv.pv Rc.Att.pv Mo.Lt.pv Fn.func.injEq
set_option maxHeartbeats 2000000 in
theorem eqI_ok (a b : List Int) (ha : a.length ≤ 1000000) : FnOK Tryz.prog 32 [.sl 1 (a.map (fun x => [ip x])), .sl 1 (b.map (fun x => [ip x]))] ⟨bv (decide (a = b)), none⟩ := by
  refine fn_ok Tryz.func32 (by kernel_rfl) rfl (by rw [Tryz.ntmps32]; exact of_decide_eq_true rfl) (fun F hF => ?_)
  rw [Tryz.ntmps32] at hF
  rw [Tryz.results32]
  have hal : ((a.length : Int) != (b.length : Int)) = !decide (a.length = b.length) := by rw [Bool.eq_iff_iff]; simp; omega
  by_cases hl : a.length = b.length
  case neg =>
    have hn : decide (a.length = b.length) = false := decide_eq_false hl
    repeat (first
      | ((first | with_reducible refine sops_go ?_ | with_reducible refine headW_end ?_ | with_reducible refine sops_end ?_ | with_reducible refine awp_if ?_ | with_reducible refine awp_skip ?_ | with_reducible refine awp_ret ?_ | with_reducible refine awp_exit ?_); simp only [go_sem, simprocAttr, hF, hal, hn])
      | ((with_reducible refine headW_go ?_); simp only [go_sem, simprocAttr, hF, hal, hn, hbx])
      | (with_reducible refine awp_seq_k (fun _ _ => ?_))
      | (refine awp_draw' (id := 6) [] 9 (by kernel_rfl) (by kernel_rfl) rfl rfl (fun bx0 hbx => ?_); (try dsimp only [List.take_succ_cons, List.take_zero, List.take_nil, List.drop_succ_cons, List.drop_zero, List.drop_nil]))
      | (with_reducible refine awp_region [] ?_)
      | (with_reducible refine awp_block ?_)
      | go_step)
    rw [decide_eq_false (fun h => hl (by rw [h]))]
  have hn : decide (a.length = b.length) = true := decide_eq_true hl
  repeat (first
    | ((first | with_reducible refine sops_go ?_ | with_reducible refine headW_end ?_ | with_reducible refine sops_end ?_ | with_reducible refine awp_if ?_ | with_reducible refine awp_skip ?_ | with_reducible refine awp_ret ?_ | with_reducible refine awp_exit ?_); simp only [go_sem, simprocAttr, hF, hal, hn])
    | ((with_reducible refine headW_go ?_); simp only [go_sem, simprocAttr, hF, hal, hn, hbx])
    | (with_reducible refine awp_seq_k (fun _ _ => ?_))
    | (refine awp_draw' (id := 6) [] 9 (by kernel_rfl) (by kernel_rfl) rfl rfl (fun bx0 hbx => ?_); (try dsimp only [List.take_succ_cons, List.take_zero, List.take_nil, List.drop_succ_cons, List.drop_zero, List.drop_nil]))
    | (with_reducible refine awp_region [] ?_)
    | (with_reducible refine awp_block ?_)
    | go_step)
  refine awp_loop_by (ι := {k : Nat // k ≤ a.length ∧ decide (a = b) = decide (a.drop k = b.drop k)}) (fun k σ => ⟨(13, iv (k.1 : Int)) :: keepS [0, 1, 4, 12] σ.slot, σ.box, [], σ.ext⟩) (fun k => a.length - k.1) ⟨0, by omega, rfl⟩ (sub_mk ?_) (fun R hR k => ?_)
  · simp only [go_sem, simprocAttr, hF]
    repeat' (first | rfl | refine ⟨?_, ?_⟩)
  obtain ⟨k, hk, hT⟩ := k
  dsimp only
  simp only [go_sem, simprocAttr, hF]
  by_cases hlt : k < a.length
  case neg =>
    have hd : decide ((k : Int) < (a.length : Int)) = false := decide_eq_false (by omega)
    repeat (first
      | ((first | with_reducible refine sops_go ?_ | with_reducible refine headW_end ?_ | with_reducible refine sops_end ?_ | with_reducible refine awp_if ?_ | with_reducible refine awp_skip ?_ | with_reducible refine awp_ret ?_ | with_reducible refine awp_exit ?_); simp only [go_sem, simprocAttr, hF, hd])
      | ((with_reducible refine headW_go ?_); simp only [go_sem, simprocAttr, hF, hd, hbx])
      | (with_reducible refine awp_seq_k (fun _ _ => ?_))
      | (refine awp_draw' (id := 6) [] 9 (by kernel_rfl) (by kernel_rfl) rfl rfl (fun bx0 hbx => ?_); (try dsimp only [List.take_succ_cons, List.take_zero, List.take_nil, List.drop_succ_cons, List.drop_zero, List.drop_nil]))
      | (with_reducible refine awp_region [] ?_)
      | (with_reducible refine awp_block ?_)
      | go_step)
    rw [hT, List.drop_of_length_le (by omega), List.drop_of_length_le (by omega)]
    rfl
  obtain ⟨x, hxk⟩ := get_of_lt hlt
  obtain ⟨y, hyk⟩ := get_of_lt (l := b) (k := k) (by omega)
  have hd : decide ((k : Int) < (a.length : Int)) = true := decide_eq_true (by omega)
  have hw : IntKind.i64.wrap ((k : Int) + 1) = ((k + 1 : Nat) : Int) := by rw [IntKind.wrap_i64]; omega
  have hT' : decide (a = b) = ((x == y) && decide (a.drop (k + 1) = b.drop (k + 1))) := by
    rw [hT, drop_of_get hxk, drop_of_get hyk, Bool.eq_iff_iff]
    simp
  cases he : (x == y) with
  | false =>
    have hne : (x != y) = true := by rw [bne, he]; rfl
    repeat (first
      | ((first | with_reducible refine sops_go ?_ | with_reducible refine headW_end ?_ | with_reducible refine sops_end ?_ | with_reducible refine awp_if ?_ | with_reducible refine awp_skip ?_ | with_reducible refine awp_ret ?_ | with_reducible refine awp_exit ?_); simp only [go_sem, simprocAttr, hF, hd, hxk, hyk, he, hne])
      | ((with_reducible refine headW_go ?_); simp only [go_sem, simprocAttr, hF, hd, hxk, hyk, he, hne, hbx])
      | (with_reducible refine awp_seq_k (fun _ _ => ?_))
      | (refine awp_draw' (id := 6) [] 9 (by kernel_rfl) (by kernel_rfl) rfl rfl (fun bx0 hbx => ?_); (try dsimp only [List.take_succ_cons, List.take_zero, List.take_nil, List.drop_succ_cons, List.drop_zero, List.drop_nil]))
      | (with_reducible refine awp_region [] ?_)
      | (with_reducible refine awp_block ?_)
      | go_step)
    rw [hT', he]
    rfl
  | true =>
    have hne : (x != y) = false := by rw [bne, he]; rfl
    repeat (first
      | ((first | with_reducible refine sops_go ?_ | with_reducible refine headW_end ?_ | with_reducible refine sops_end ?_ | with_reducible refine awp_if ?_ | with_reducible refine awp_skip ?_ | with_reducible refine awp_ret ?_ | with_reducible refine awp_exit ?_); simp only [go_sem, simprocAttr, hF, hd, hxk, hyk, he, hne])
      | ((with_reducible refine headW_go ?_); simp only [go_sem, simprocAttr, hF, hd, hxk, hyk, he, hne, hbx])
      | (with_reducible refine awp_seq_k (fun _ _ => ?_))
      | (refine awp_draw' (id := 6) [] 9 (by kernel_rfl) (by kernel_rfl) rfl rfl (fun bx0 hbx => ?_); (try dsimp only [List.take_succ_cons, List.take_zero, List.take_nil, List.drop_succ_cons, List.drop_zero, List.drop_nil]))
      | (with_reducible refine awp_region [] ?_)
      | (with_reducible refine awp_block ?_)
      | go_step)
    refine ⟨⟨k + 1, by omega, by rw [hT', he, Bool.true_and]⟩, by dsimp only; omega, hR _ _ (sub_mk ?_)⟩
    simp only [go_sem, simprocAttr, hF, hw]
end Go.Proofs.YticnppnejafhdaaGreatDoor

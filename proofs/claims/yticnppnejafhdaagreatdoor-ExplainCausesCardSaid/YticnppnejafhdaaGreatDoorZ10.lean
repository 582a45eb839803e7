import Derived.Test.YticnppnejafhdaaGreatDoorZ9
set_option linter.unusedVariables false
set_option linter.unusedSimpArgs false
/- explain.Find, by abstract states. -/
namespace Go.Proofs.YticnppnejafhdaaGreatDoor
open Go.RowKit
open Nd Rc Mo
open Av
set_option maxRecDepth 100000
set_option linter.unusedSimpArgs false
attribute [local go_sem] Av.guardB Av.sop Av.hopx Av.hop Av.hopCall Av.hopF Av.hopB Av.evo Av.evos Av.avCells Av.loadK Av.bound Av.abin Av.aun Av.partsC Av.lfill Av.placesB Av.setAt Av.stl Av.takes Av.src Av.bxOf Av.ownOf Av.St.res Av.St.put Av.St.addBox Av.St.putOwn Av.delL Av.delS Av.look Av.lookL Av.storeSt Av.stealSt Av.St.setBox Av.keepL Av.hitB Av.snap Av.snaps Av.snapCaps Av.AV.lit Av.AV.refs Av.capRefs Av.PV.av Av.CV.av Av.startSt Av.steals Av.athen Av.ablock Av.appK Av.AllS Av.AllO Av.AllR Av.keepS Av.St.avAt Av.RetOK Av.retAll Av.retOne Av.intsOf Av.ptrB Av.appB Av.appSt TypeDesc.isRow List.range_zero Option.some.injEq exists_eq_left' exists_eq_left exists_eq' exists_and_left exists_and_right exists_const true_and and_true and_self false_and and_false or_false false_or or_true true_or if_true if_false Bool.false_eq_true List.zipIdx_cons List.zipIdx_nil List.map_cons List.map_nil List.filter_cons List.filter_nil List.contains_cons List.contains_nil List.drop_succ_cons List.drop_zero List.take_succ_cons List.take_zero List.take_nil List.drop_nil List.length_cons List.length_nil List.cons_append List.nil_append List.append_nil List.getElem?_cons_zero List.getElem?_cons_succ List.getElem?_nil Option.bind_some Option.bind_none Option.map_some Option.map_none Option.isNone_none Option.isNone_some Option.isSome_some Option.isSome_none Bool.and_true Bool.true_and Bool.and_false Bool.false_and Bool.or_false Bool.false_or Bool.not_true Bool.not_false beq_true beq_false Bool.true_beq Bool.false_beq Loc.s.injEq Loc.b.injEq decide_true decide_false beq_self_eq_true Nat.zero_add Nat.add_zero List.getElem?_toArray List.toList_toArray List.size_toArray Value.oneCell' List.all_cons List.all_nil Value.int.injEq AV.v.injEq AV.sl.injEq AV.agg.injEq AV.ref.injEq AV.ept.injEq AV.tup.injEq Value.bool.injEq PV.v.injEq PV.sl.injEq List.isEmpty_nil List.isEmpty_cons forall_const not_true_eq_false not_false_eq_true true_implies false_implies Value.string.injEq List.length_map List.getElem?_map Int.toNat_natCast Int.natCast_nonneg List.length_append Value.cells implies_true TypeDesc.struct.injEq TypeDesc.slice.injEq TypeDesc.array.injEq List.getElem?_toArray Prod.mk.injEq and_assoc exists_false List.cons.injEq Operand.tmp.injEq ite_self AV.fnv.injEq AV.clo.injEq ne_eq eq_self Tryz.sz3 Tryz.zr3 Tryz.by3 Tryz.pl3 Tryz.is3 Tryz.underlying3 Tryz.sz4 Tryz.zr4 Tryz.by4 Tryz.pl4 Tryz.is4 Tryz.underlying4 Tryz.sz43 Tryz.zr43 Tryz.by43 Tryz.pl43 Tryz.is43 Tryz.underlying43 Tryz.sz35 Tryz.zr35 Tryz.by35 Tryz.pl35 Tryz.is35 Tryz.underlying35 Tryz.sz33 Tryz.zr33 Tryz.by33 Tryz.pl33 Tryz.is33 Tryz.underlying33 Tryz.sz28 Tryz.zr28 Tryz.by28 Tryz.pl28 Tryz.is28 Tryz.underlying28 Tryz.sz39 Tryz.zr39 Tryz.by39 Tryz.pl39 Tryz.is39 Tryz.underlying39 Tryz.sz57 Tryz.zr57 Tryz.by57 Tryz.pl57 Tryz.is57 Tryz.underlying57 Tryz.sz137 Tryz.zr137 Tryz.by137 Tryz.pl137 Tryz.is137 Tryz.underlying137 Tryz.sz66 Tryz.zr66 Tryz.by66 Tryz.pl66 Tryz.is66 Tryz.underlying66 Tryz.sz64 Tryz.zr64 Tryz.by64 Tryz.pl64 Tryz.is64 Tryz.underlying64 Tryz.sz60 Tryz.zr60 Tryz.by60 Tryz.pl60 Tryz.is60 Tryz.underlying60 Tryz.sz100 Tryz.zr100 Tryz.by100 Tryz.pl100 Tryz.is100 Tryz.underlying100 Tryz.sz103 Tryz.zr103 Tryz.by103 Tryz.pl103 Tryz.is103 Tryz.underlying103 Tryz.sz26 Tryz.zr26 Tryz.by26 Tryz.pl26 Tryz.is26 Tryz.underlying26 Tryz.sz120 Tryz.zr120 Tryz.by120 Tryz.pl120 Tryz.is120 Tryz.underlying120 Tryz.sz117 Tryz.zr117 Tryz.by117 Tryz.pl117 Tryz.is117 Tryz.underlying117 Tryz.sz30 Tryz.zr30 Tryz.by30 Tryz.pl30 Tryz.is30 Tryz.underlying30 Tryz.sz31 Tryz.zr31 Tryz.by31 Tryz.pl31 Tryz.is31 Tryz.underlying31 Tryz.sz40 Tryz.zr40 Tryz.by40 Tryz.pl40 Tryz.is40 Tryz.underlying40 Tryz.sz23 Tryz.zr23 Tryz.by23 Tryz.pl23 Tryz.is23 Tryz.underlying23 Tryz.sz24 Tryz.zr24 Tryz.by24 Tryz.pl24 Tryz.is24 Tryz.underlying24 Tryz.sz22 Tryz.zr22 Tryz.by22 Tryz.pl22 Tryz.is22 Tryz.underlying22 Tryz.sz141 Tryz.zr141 Tryz.by141 Tryz.pl141 Tryz.is141 Tryz.underlying141 Tryz.sz42 Tryz.zr42 Tryz.by42 Tryz.pl42 Tryz.is42 Tryz.underlying42 Tryz.sz29 Tryz.zr29 Tryz.by29 Tryz.pl29 Tryz.is29 Tryz.underlying29 Tryz.sz83 Tryz.zr83 Tryz.by83 Tryz.pl83 Tryz.is83 Tryz.underlying83 Tryz.sz67 Tryz.zr67 Tryz.by67 Tryz.pl67 Tryz.is67 Tryz.underlying67 Tryz.it39 Tryz.eg39 Tryz.it137 Tryz.eg137 Tryz.it66 Tryz.eg66 Tryz.it28 Tryz.eg28 Tryz.it60 Tryz.eg60 all_arr loc_ss loc_sb loc_bs loc_bb arr_two arr_one rg1 rg2 rg3 rg4 rg5 rg6 rg7 rg8 ResultVar.tmp.injEq Bool.not_true Bool.not_false undef Rc.Rec.pv Nd.Fl.pv Rc.Dlv.pv Rc.Att.pv Mo.Lt.pv Fn.func.injEq Mo.Net.pv Mo.Lk.pv prow_pv irow_pv Br.pv
theorem firstC_step {n : Net} {f : Fl} {r : Rec} {fr x y : Int} {p : List Int} {i : Nat} (hi : 1 ≤ i) (hx : p[i - 1]? = some x) (hy : p[i]? = some y) :
 firstC n f r fr (p.drop (i - 1)) = match (causesX n f r fr x y)[0]? with
  | some c => some c
  | none => firstC n f r fr (p.drop i) := by
 rw [drop_of_get hx, show i - 1 + 1 = i by omega, drop_of_get hy, firstC, List.head?_eq_getElem?]
 cases (causesX n f r fr x y)[0]? <;> rfl
theorem firstC_end {n : Net} {f : Fl} {r : Rec} {fr : Int} {p : List Int} {i : Nat} (hi : p.length ≤ i) : firstC n f r fr (p.drop (i - 1)) = none := by
 have h : (p.drop (i - 1)).length ≤ 1 := by rw [List.length_drop]; omega
 match hq : p.drop (i - 1) with
 | [] => rfl
 | [x] => rfl
 | x :: y :: l => rw [hq] at h; simp at h

set_option maxHeartbeats 20000000 in
theorem find_okX (n : Net) (f : Fl) (ps : List (List Int)) (r : Rec) (fr : Int) (hS : SmallN n) (hla : r.al.length ≤ 1000000) (hld : r.dl.length ≤ 1000000) (hps : ps.length ≤ 1000000) (hpl : ∀ p ∈ ps, p.length ≤ 1000000) : FnOK Tryz.prog 11 [.agg n.pv, .agg f.pv, .sl 1 (ps.map prow_pv), .agg r.pv, iv fr] ⟨.tup [.g (findX n f ps r fr).1.pv, .c (ip (findX n f ps r fr).2)], none⟩ := by
 refine fn_ok Tryz.func11 (by kernel_rfl) rfl (by rw [Tryz.ntmps11]; exact of_decide_eq_true rfl) (fun F hF => ?_)
 rw [Tryz.ntmps11] at hF
 rw [Tryz.results11]
 repeat (first
  | (with_reducible (first | refine sops_go ?_ | refine headW_end ?_ | refine sops_end ?_ | refine awp_if ?_ | refine awp_skip ?_ | refine awp_ret ?_ | refine awp_exit ?_); simp only [go_sem, simprocAttr, hF])
  | ((with_reducible refine headW_go ?_); simp only [go_sem, simprocAttr, hF, hbx])
  | with_reducible refine awp_seq_k fun _ _ => ?_
  | (refine awp_draw' (id := 12) [69] 14 (by kernel_rfl) (by kernel_rfl) rfl rfl (fun bx0 hbx => ?_); try dsimp only [List.take, List.drop])
  | (refine awp_draw' (id := 14) [69] 6 (by kernel_rfl) (by kernel_rfl) rfl rfl (fun bx0 hbx => ?_); try dsimp only [List.take, List.drop])
  | with_reducible (first | refine awp_region [69] ?_ | refine awp_block ?_)
  | go_step)
 refine ⟨_, checkL_ok n f ps r fr hS hla hld hps hpl, ?_⟩
 simp only [go_sem, simprocAttr, hF]
 by_cases hL : (lateX n f ps r fr).2 = 0
 case neg =>
  have e1 : ((lateX n f ps r fr).2 != 0) = true := by simpa using hL
  have hX : findX n f ps r fr = (ex0, (lateX n f ps r fr).2) := by unfold findX; rw [if_pos hL]
  try simp only [go_sem, simprocAttr, hF, e1]
  repeat (first
   | ((refine awp_nilB (c := .ret) 10 3 5 57 (cs := _) rfl rfl ?_); simp only [go_sem, simprocAttr, hF, e1])
   | (with_reducible (first | refine sops_go ?_ | refine headW_end ?_ | refine sops_end ?_ | refine awp_if ?_ | refine awp_skip ?_ | refine awp_ret ?_ | refine awp_exit ?_); simp only [go_sem, simprocAttr, hF, e1])
   | ((with_reducible refine headW_go ?_); simp only [go_sem, simprocAttr, hF, e1, hbx])
   | with_reducible refine awp_seq_k fun _ _ => ?_
   | (refine awp_draw' (id := 12) [69] 14 (by kernel_rfl) (by kernel_rfl) rfl rfl (fun bx0 hbx => ?_); try dsimp only [List.take, List.drop])
   | (refine awp_draw' (id := 14) [69] 6 (by kernel_rfl) (by kernel_rfl) rfl rfl (fun bx0 hbx => ?_); try dsimp only [List.take, List.drop])
   | with_reducible (first | refine awp_region [69] ?_ | refine awp_block ?_)
   | go_step)
  all_goals (try rw [hX])
  all_goals (try rfl)
 have e1 : ((lateX n f ps r fr).2 != 0) = false := by rw [hL]; rfl
 have LO := lateX_ok hL
 have hN := netOK (basicB_inv LO.base).1
 try simp only [go_sem, simprocAttr, hF, e1]
 repeat (first
  | (with_reducible (first | refine sops_go ?_ | refine headW_end ?_ | refine sops_end ?_ | refine awp_if ?_ | refine awp_skip ?_ | refine awp_ret ?_ | refine awp_exit ?_); simp only [go_sem, simprocAttr, hF, e1])
  | ((with_reducible refine headW_go ?_); simp only [go_sem, simprocAttr, hF, e1, hbx])
  | with_reducible refine awp_seq_k fun _ _ => ?_
  | (refine awp_draw' (id := 12) [69] 14 (by kernel_rfl) (by kernel_rfl) rfl rfl (fun bx0 hbx => ?_); try dsimp only [List.take, List.drop])
  | (refine awp_draw' (id := 14) [69] 6 (by kernel_rfl) (by kernel_rfl) rfl rfl (fun bx0 hbx => ?_); try dsimp only [List.take, List.drop])
  | with_reducible (first | refine awp_region [69] ?_ | refine awp_block ?_)
  | go_step)
 refine awp_nilB 14 3 5 57 (cs := _) rfl rfl ?_
 simp only [go_sem, simprocAttr, hF]
 refine awp_loop_by (ι := {k : Nat // k ≤ ps.length ∧ (ps.take k).any (fun p => (firstC n f r fr p).isNone) = false}) (fun k σ => ⟨(37, iv (k.1 : Int)) :: keepS [2, 4, 5, 6, 8, 10, 14, 35, 36] σ.slot, (14, [ip (lateX n f ps r fr).1.fl, ip (lateX n f ps r fr).1.fr, ip (lateX n f ps r fr).1.sl, .sl 5 (((ps.take k.1).filterMap (firstC n f r fr)).map Br.pv)]) :: keepS [5, 6, 8, 10] σ.box, [(.b 14 3, (57, 5))], σ.ext⟩) (fun k => ps.length - k.1) ⟨0, by omega, rfl⟩ (sub_mk ?_) (fun R hR k => ?_)
 · simp only [go_sem, simprocAttr, hF]
   repeat' (first | rfl | refine ⟨?_, ?_⟩)
 obtain ⟨k, hk, hT⟩ := k
 dsimp only
 simp only [go_sem, simprocAttr, hF]
 by_cases hlt : k < ps.length
 case neg =>
  have hd : decide ((k : Int) < (ps.length : Int)) = false := decide_eq_false (by omega)
  have hX : findX n f ps r fr = (⟨(lateX n f ps r fr).1, ps.filterMap (firstC n f r fr)⟩, 0) := by
   rw [List.take_of_length_le (by omega)] at hT
   unfold findX
   rw [if_neg (fun h => h hL), if_neg (by rw [hT]; decide)]
  have hall : List.take k ps = ps := List.take_of_length_le (by omega)
  repeat (first
   | (with_reducible (first | refine sops_go ?_ | refine headW_end ?_ | refine sops_end ?_ | refine awp_if ?_ | refine awp_skip ?_ | refine awp_ret ?_ | refine awp_exit ?_); simp only [go_sem, simprocAttr, hF, hd])
   | ((with_reducible refine headW_go ?_); simp only [go_sem, simprocAttr, hF, hd, hbx])
   | with_reducible refine awp_seq_k fun _ _ => ?_
   | (refine awp_draw' (id := 12) [69] 14 (by kernel_rfl) (by kernel_rfl) rfl rfl (fun bx0 hbx => ?_); try dsimp only [List.take, List.drop])
   | (refine awp_draw' (id := 14) [69] 6 (by kernel_rfl) (by kernel_rfl) rfl rfl (fun bx0 hbx => ?_); try dsimp only [List.take, List.drop])
   | with_reducible (first | refine awp_region [69] ?_ | refine awp_block ?_)
   | go_step)
  all_goals (try rw [hX])
  all_goals (try rw [hall])
  all_goals (try rfl)
 obtain ⟨p, hp⟩ := get_of_lt hlt
 have hd : decide ((k : Int) < (ps.length : Int)) = true := decide_eq_true (by omega)
 have hw : IntKind.i64.wrap ((k : Int) + 1) = ((k + 1 : Nat) : Int) := by rw [IntKind.wrap_i64]; omega
 obtain ⟨r1, r2, r3⟩ := route_inv (LO.rt p (List.mem_of_getElem? hp))
 have hTk : List.take (k + 1) ps = List.take k ps ++ [p] := by rw [List.take_add_one, hp]; rfl
 obtain ⟨acc, hacc⟩ : ∃ acc, acc = (List.take k ps).filterMap (firstC n f r fr) := ⟨_, rfl⟩
 have haccl : acc.length ≤ 2 := by
  rw [hacc]
  refine Nat.le_trans (List.length_filterMap_le _ _) ?_
  rw [List.length_take]
  have := LO.l2
  omega
 rw [← hacc]
 repeat (first
  | (with_reducible (first | refine sops_go ?_ | refine headW_end ?_ | refine sops_end ?_ | refine awp_if ?_ | refine awp_skip ?_ | refine awp_ret ?_ | refine awp_exit ?_); simp only [go_sem, simprocAttr, hF, hd, hp])
  | ((with_reducible refine headW_go ?_); simp only [go_sem, simprocAttr, hF, hd, hp, hbx])
  | with_reducible refine awp_seq_k fun _ _ => ?_
  | (refine awp_draw' (id := 12) [69] 14 (by kernel_rfl) (by kernel_rfl) rfl rfl (fun bx0 hbx => ?_); try dsimp only [List.take, List.drop])
  | (refine awp_draw' (id := 14) [69] 6 (by kernel_rfl) (by kernel_rfl) rfl rfl (fun bx0 hbx => ?_); try dsimp only [List.take, List.drop])
  | with_reducible (first | refine awp_region [69] ?_ | refine awp_block ?_)
  | go_step)
 refine awp_loop_by (ι := {x : Nat × Option Br // 1 ≤ x.1 ∧ x.1 ≤ p.length ∧ (x.2 = none → firstC n f r fr p = firstC n f r fr (p.drop (x.1 - 1))) ∧ (∀ c, x.2 = some c → firstC n f r fr p = some c)}) (fun x σ => ⟨(18, iv (x.1.1 : Int)) :: (17, bv x.1.2.isSome) :: keepS [2, 4, 5, 6, 8, 10, 14, 16, 35, 36, 37] σ.slot, (14, [ip (lateX n f ps r fr).1.fl, ip (lateX n f ps r fr).1.fr, ip (lateX n f ps r fr).1.sl, .sl 5 ((acc ++ x.1.2.toList).map Br.pv)]) :: keepS [5, 6, 8, 10] σ.box, [(.b 14 3, (57, 5))], σ.ext⟩) (fun x => p.length - x.1.1) ⟨(1, none), Nat.le_refl _, by dsimp only; omega, fun _ => rfl, fun _ h => (by cases h)⟩ (sub_mk ?_) (fun R2 hR2 x => ?_)
 · simp only [go_sem, simprocAttr, hF]
   try simp only [Option.toList_none, List.append_nil, Option.isSome_none]
   repeat' (first | rfl | exact True.intro | refine ⟨?_, ?_⟩)
 obtain ⟨⟨i, oc⟩, hi1, hip, hN1, hS1⟩ := x
 dsimp only at hi1 hip hN1 hS1 ⊢
 simp only [go_sem, simprocAttr, hF]
 have hwi : IntKind.i64.wrap ((i : Int) + 1) = ((i + 1 : Nat) : Int) := by rw [IntKind.wrap_i64]; omega
 cases oc with
 | some c =>
  have hfc := hS1 c rfl
  have hany : (List.take (k + 1) ps).any (fun p => (firstC n f r fr p).isNone) = false := by rw [hTk, List.any_append, hT, List.any_cons, hfc]; rfl
  have hfm : (List.take (k + 1) ps).filterMap (firstC n f r fr) = acc ++ [c] := by rw [hTk, List.filterMap_append, hacc, List.filterMap_cons, hfc]; rfl
  cases hlti : decide ((i : Int) < (p.length : Int)) with
  | false =>
   try simp only [go_sem, simprocAttr, hF, hlti, Option.isSome_some, Option.toList_some]
   repeat (first
    | (with_reducible (first | refine sops_go ?_ | refine headW_end ?_ | refine sops_end ?_ | refine awp_if ?_ | refine awp_skip ?_ | refine awp_ret ?_ | refine awp_exit ?_); simp only [go_sem, simprocAttr, hF, hlti, Option.isSome_some, Option.toList_some])
    | ((with_reducible refine headW_go ?_); simp only [go_sem, simprocAttr, hF, hlti, Option.isSome_some, Option.toList_some, hbx])
    | with_reducible refine awp_seq_k fun _ _ => ?_
    | (refine awp_draw' (id := 12) [69] 14 (by kernel_rfl) (by kernel_rfl) rfl rfl (fun bx0 hbx => ?_); try dsimp only [List.take, List.drop])
    | (refine awp_draw' (id := 14) [69] 6 (by kernel_rfl) (by kernel_rfl) rfl rfl (fun bx0 hbx => ?_); try dsimp only [List.take, List.drop])
    | with_reducible (first | refine awp_region [69] ?_ | refine awp_block ?_)
    | go_step)
   refine ⟨⟨k + 1, by omega, hany⟩, by dsimp only; omega, hR _ _ (sub_mk ?_)⟩
   simp only [go_sem, simprocAttr, hF, hw, hfm]
  | true =>
   try simp only [go_sem, simprocAttr, hF, hlti, Option.isSome_some, Option.toList_some]
   repeat (first
    | (with_reducible (first | refine sops_go ?_ | refine headW_end ?_ | refine sops_end ?_ | refine awp_if ?_ | refine awp_skip ?_ | refine awp_ret ?_ | refine awp_exit ?_); simp only [go_sem, simprocAttr, hF, hlti, Option.isSome_some, Option.toList_some])
    | ((with_reducible refine headW_go ?_); simp only [go_sem, simprocAttr, hF, hlti, Option.isSome_some, Option.toList_some, hbx])
    | with_reducible refine awp_seq_k fun _ _ => ?_
    | (refine awp_draw' (id := 12) [69] 14 (by kernel_rfl) (by kernel_rfl) rfl rfl (fun bx0 hbx => ?_); try dsimp only [List.take, List.drop])
    | (refine awp_draw' (id := 14) [69] 6 (by kernel_rfl) (by kernel_rfl) rfl rfl (fun bx0 hbx => ?_); try dsimp only [List.take, List.drop])
    | with_reducible (first | refine awp_region [69] ?_ | refine awp_block ?_)
    | go_step)
   refine ⟨⟨k + 1, by omega, hany⟩, by dsimp only; omega, hR _ _ (sub_mk ?_)⟩
   simp only [go_sem, simprocAttr, hF, hw, hfm]
 | none =>
  have hfc := hN1 rfl
  by_cases hlti : i < p.length
  case neg =>
   have hdi : decide ((i : Int) < (p.length : Int)) = false := decide_eq_false (by omega)
   have hX : findX n f ps r fr = (ex0, 7) := by
    have hnn : firstC n f r fr p = none := by rw [hfc]; exact firstC_end (by omega)
    have hany : ps.any (fun p => (firstC n f r fr p).isNone) = true := List.any_eq_true.2 ⟨p, List.mem_of_getElem? hp, by rw [hnn]; rfl⟩
    unfold findX
    rw [if_neg (fun h => h hL), if_pos hany]
   try simp only [go_sem, simprocAttr, hF, hdi, Option.isSome_none, Option.toList_none]
   repeat (first
    | ((refine awp_nilB (c := .ret) 10 3 5 57 (cs := _) rfl rfl ?_); simp only [go_sem, simprocAttr, hF, hdi, Option.isSome_none, Option.toList_none])
    | (with_reducible (first | refine sops_go ?_ | refine headW_end ?_ | refine sops_end ?_ | refine awp_if ?_ | refine awp_skip ?_ | refine awp_ret ?_ | refine awp_exit ?_); simp only [go_sem, simprocAttr, hF, hdi, Option.isSome_none, Option.toList_none])
    | ((with_reducible refine headW_go ?_); simp only [go_sem, simprocAttr, hF, hdi, Option.isSome_none, Option.toList_none, hbx])
    | with_reducible refine awp_seq_k fun _ _ => ?_
    | (refine awp_draw' (id := 12) [69] 14 (by kernel_rfl) (by kernel_rfl) rfl rfl (fun bx0 hbx => ?_); try dsimp only [List.take, List.drop])
    | (refine awp_draw' (id := 14) [69] 6 (by kernel_rfl) (by kernel_rfl) rfl rfl (fun bx0 hbx => ?_); try dsimp only [List.take, List.drop])
    | with_reducible (first | refine awp_region [69] ?_ | refine awp_block ?_)
    | go_step)
   all_goals (try rw [hX])
   all_goals (try rfl)
  have hdi : decide ((i : Int) < (p.length : Int)) = true := decide_eq_true (by omega)
  have hwp : IntKind.i64.wrap ((i : Int) - 1) = ((i - 1 : Nat) : Int) := by rw [IntKind.wrap_i64]; omega
  obtain ⟨x, hx⟩ := get_of_lt (l := p) (k := i - 1) (by omega)
  obtain ⟨y, hy⟩ := get_of_lt (l := p) (k := i) hlti
  have hst := firstC_step (n := n) (f := f) (r := r) (fr := fr) hi1 hx hy
  have hix := r3 (i - 1) x y hx (by rw [show i - 1 + 1 = i by omega]; exact hy)
  try simp only [go_sem, simprocAttr, hF, hdi, hwp, hx, hy, Option.isSome_none, Option.toList_none, List.append_nil]
  repeat (first
   | (with_reducible (first | refine sops_go ?_ | refine headW_end ?_ | refine sops_end ?_ | refine awp_if ?_ | refine awp_skip ?_ | refine awp_ret ?_ | refine awp_exit ?_); simp only [go_sem, simprocAttr, hF, hdi, hwp, hx, hy, Option.isSome_none, Option.toList_none, List.append_nil])
   | ((with_reducible refine headW_go ?_); simp only [go_sem, simprocAttr, hF, hdi, hwp, hx, hy, Option.isSome_none, Option.toList_none, List.append_nil, hbx])
   | with_reducible refine awp_seq_k fun _ _ => ?_
   | (refine awp_draw' (id := 12) [69] 14 (by kernel_rfl) (by kernel_rfl) rfl rfl (fun bx0 hbx => ?_); try dsimp only [List.take, List.drop])
   | (refine awp_draw' (id := 14) [69] 6 (by kernel_rfl) (by kernel_rfl) rfl rfl (fun bx0 hbx => ?_); try dsimp only [List.take, List.drop])
   | with_reducible (first | refine awp_region [69] ?_ | refine awp_block ?_)
   | go_step)
  refine ⟨_, causes_ok n f r fr x y hS LO.base ⟨LO.fr0, LO.fr1⟩ hix hla, ?_⟩
  simp only [go_sem, simprocAttr, hF, hdi, hwp, hx, hy, Option.isSome_none, Option.toList_none, List.append_nil]
  generalize causesX n f r fr x y = CX at hst ⊢
  cases CX with
  | nil =>
   have hst' : firstC n f r fr p = firstC n f r fr (p.drop i) := by rw [hfc, hst]; rfl
   have e4 : decide ((0 : Int) < ((0 : Nat) : Int)) = false := rfl
   try simp only [go_sem, simprocAttr, hF, hdi, hwp, hx, hy, Option.isSome_none, Option.toList_none, List.append_nil, List.map_nil, List.length_nil, e4]
   repeat (first
    | (with_reducible (first | refine sops_go ?_ | refine headW_end ?_ | refine sops_end ?_ | refine awp_if ?_ | refine awp_skip ?_ | refine awp_ret ?_ | refine awp_exit ?_); simp only [go_sem, simprocAttr, hF, hdi, hwp, hx, hy, Option.isSome_none, Option.toList_none, List.append_nil, List.map_nil, List.length_nil, e4])
    | ((with_reducible refine headW_go ?_); simp only [go_sem, simprocAttr, hF, hdi, hwp, hx, hy, Option.isSome_none, Option.toList_none, List.append_nil, List.map_nil, List.length_nil, e4, hbx])
    | with_reducible refine awp_seq_k fun _ _ => ?_
    | (refine awp_draw' (id := 12) [69] 14 (by kernel_rfl) (by kernel_rfl) rfl rfl (fun bx0 hbx => ?_); try dsimp only [List.take, List.drop])
    | (refine awp_draw' (id := 14) [69] 6 (by kernel_rfl) (by kernel_rfl) rfl rfl (fun bx0 hbx => ?_); try dsimp only [List.take, List.drop])
    | with_reducible (first | refine awp_region [69] ?_ | refine awp_block ?_)
    | go_step)
   refine ⟨⟨(i + 1, none), by dsimp only; omega, by dsimp only; omega, fun _ => (by dsimp only; rw [Nat.add_sub_cancel]; exact hst'), fun _ h => (by cases h)⟩, by dsimp only; omega, hR2 _ _ (sub_mk ?_)⟩
   simp only [go_sem, simprocAttr, hF, hwi, Option.isSome_none, Option.toList_none, List.append_nil]
  | cons c CX =>
   have hst' : firstC n f r fr p = some c := by rw [hfc, hst]; rfl
   have e4 : decide ((0 : Int) < ((CX.length + 1 : Nat) : Int)) = true := decide_eq_true (by omega)
   have z0 : Int.toNat 0 = 0 := rfl
   have hal : acc.length ≤ 99999999 := by omega
   try simp only [go_sem, simprocAttr, hF, hdi, hwp, hx, hy, Option.isSome_none, Option.toList_none, List.append_nil, List.map_cons, List.length_cons, e4, z0, hal]
   repeat (first
    | (with_reducible (first | refine sops_go ?_ | refine headW_end ?_ | refine sops_end ?_ | refine awp_if ?_ | refine awp_skip ?_ | refine awp_ret ?_ | refine awp_exit ?_); simp only [go_sem, simprocAttr, hF, hdi, hwp, hx, hy, Option.isSome_none, Option.toList_none, List.append_nil, List.map_cons, List.length_cons, e4, z0, hal])
    | ((with_reducible refine headW_go ?_); simp only [go_sem, simprocAttr, hF, hdi, hwp, hx, hy, Option.isSome_none, Option.toList_none, List.append_nil, List.map_cons, List.length_cons, e4, z0, hal, hbx])
    | with_reducible refine awp_seq_k fun _ _ => ?_
    | (refine awp_draw' (id := 12) [69] 14 (by kernel_rfl) (by kernel_rfl) rfl rfl (fun bx0 hbx => ?_); try dsimp only [List.take, List.drop])
    | (refine awp_draw' (id := 14) [69] 6 (by kernel_rfl) (by kernel_rfl) rfl rfl (fun bx0 hbx => ?_); try dsimp only [List.take, List.drop])
    | with_reducible (first | refine awp_region [69] ?_ | refine awp_block ?_)
    | go_step)
   refine ⟨⟨(i + 1, some c), by dsimp only; omega, by dsimp only; omega, fun h => (by cases h), fun _ h => (by cases h; exact hst')⟩, by dsimp only; omega, hR2 _ _ (sub_mk ?_)⟩
   simp only [go_sem, simprocAttr, hF, hwi, Option.isSome_some, Option.toList_some, List.map_append, List.map_cons, List.map_nil, Br.pv]
/- slices.Equal of numbers, by abstract states. -/
set_option maxHeartbeats 2000000 in
theorem eqI_ok (a b : List Int) (ha : a.length ≤ 1000000) : FnOK Tryz.prog 32 [.sl 1 (a.map (fun x => [ip x])), .sl 1 (b.map (fun x => [ip x]))] ⟨bv (decide (a = b)), none⟩ := by
 refine fn_ok Tryz.func32 (by kernel_rfl) rfl (by rw [Tryz.ntmps32]; exact of_decide_eq_true rfl) (fun F hF => ?_)
 rw [Tryz.ntmps32] at hF
 rw [Tryz.results32]
 have hal : ((a.length : Int) != (b.length : Int)) = !decide (a.length = b.length) := by rw [Bool.eq_iff_iff]; simp; omega
 by_cases hl : a.length = b.length
 case neg =>
  have hn : decide (a.length = b.length) = false := decide_eq_false hl
  repeat (first
   | (with_reducible (first | refine sops_go ?_ | refine headW_end ?_ | refine sops_end ?_ | refine awp_if ?_ | refine awp_skip ?_ | refine awp_ret ?_ | refine awp_exit ?_); simp only [go_sem, simprocAttr, hF, hal, hn])
   | ((with_reducible refine headW_go ?_); simp only [go_sem, simprocAttr, hF, hal, hn, hbx])
   | with_reducible refine awp_seq_k fun _ _ => ?_
   | (refine awp_draw' (id := 6) [] 9 (by kernel_rfl) (by kernel_rfl) rfl rfl (fun bx0 hbx => ?_); try dsimp only [List.take, List.drop])
   | with_reducible (first | refine awp_region [] ?_ | refine awp_block ?_)
   | go_step)
  rw [decide_eq_false (fun h => hl (by rw [h]))]
 have hn : decide (a.length = b.length) = true := decide_eq_true hl
 repeat (first
  | (with_reducible (first | refine sops_go ?_ | refine headW_end ?_ | refine sops_end ?_ | refine awp_if ?_ | refine awp_skip ?_ | refine awp_ret ?_ | refine awp_exit ?_); simp only [go_sem, simprocAttr, hF, hal, hn])
  | ((with_reducible refine headW_go ?_); simp only [go_sem, simprocAttr, hF, hal, hn, hbx])
  | with_reducible refine awp_seq_k fun _ _ => ?_
  | (refine awp_draw' (id := 6) [] 9 (by kernel_rfl) (by kernel_rfl) rfl rfl (fun bx0 hbx => ?_); try dsimp only [List.take, List.drop])
  | with_reducible (first | refine awp_region [] ?_ | refine awp_block ?_)
  | go_step)
 refine awp_loop_by (ι := {k : Nat // k ≤ a.length ∧ decide (a = b) = decide (a.drop k = b.drop k)}) (fun k σ => ⟨(13, iv (k.1 : Int)) :: keepS [0, 1, 4, 12] σ.slot, σ.box, [], σ.ext⟩) (fun k => a.length - k.1) ⟨0, by omega, rfl⟩ (sub_mk ?_) (fun R hR k => ?_)
 · simp only [go_sem, simprocAttr, hF]
   repeat' (first | rfl | refine ⟨?_, ?_⟩)
 obtain ⟨k, hk, hT⟩ := k
 dsimp only
 simp only [go_sem, simprocAttr, hF]
 by_cases hlt : k < a.length
 case neg =>
  have hd : decide ((k : Int) < (a.length : Int)) = false := decide_eq_false (by omega)
  repeat (first
   | (with_reducible (first | refine sops_go ?_ | refine headW_end ?_ | refine sops_end ?_ | refine awp_if ?_ | refine awp_skip ?_ | refine awp_ret ?_ | refine awp_exit ?_); simp only [go_sem, simprocAttr, hF, hd])
   | ((with_reducible refine headW_go ?_); simp only [go_sem, simprocAttr, hF, hd, hbx])
   | with_reducible refine awp_seq_k fun _ _ => ?_
   | (refine awp_draw' (id := 6) [] 9 (by kernel_rfl) (by kernel_rfl) rfl rfl (fun bx0 hbx => ?_); try dsimp only [List.take, List.drop])
   | with_reducible (first | refine awp_region [] ?_ | refine awp_block ?_)
   | go_step)
  rw [hT, List.drop_of_length_le (by omega), List.drop_of_length_le (by omega)]
  rfl
 obtain ⟨x, hxk⟩ := get_of_lt hlt
 obtain ⟨y, hyk⟩ := get_of_lt (l := b) (k := k) (by omega)
 have hd : decide ((k : Int) < (a.length : Int)) = true := decide_eq_true (by omega)
 have hw : IntKind.i64.wrap ((k : Int) + 1) = ((k + 1 : Nat) : Int) := by rw [IntKind.wrap_i64]; omega
 have hT' : decide (a = b) = ((x == y) && decide (a.drop (k + 1) = b.drop (k + 1))) := by
  rw [hT, drop_of_get hxk, drop_of_get hyk, Bool.eq_iff_iff]
  simp
 cases he : (x == y) with
 | false =>
  have hne : (x != y) = true := by rw [bne, he]; rfl
  repeat (first
   | (with_reducible (first | refine sops_go ?_ | refine headW_end ?_ | refine sops_end ?_ | refine awp_if ?_ | refine awp_skip ?_ | refine awp_ret ?_ | refine awp_exit ?_); simp only [go_sem, simprocAttr, hF, hd, hxk, hyk, he, hne])
   | ((with_reducible refine headW_go ?_); simp only [go_sem, simprocAttr, hF, hd, hxk, hyk, he, hne, hbx])
   | with_reducible refine awp_seq_k fun _ _ => ?_
   | (refine awp_draw' (id := 6) [] 9 (by kernel_rfl) (by kernel_rfl) rfl rfl (fun bx0 hbx => ?_); try dsimp only [List.take, List.drop])
   | with_reducible (first | refine awp_region [] ?_ | refine awp_block ?_)
   | go_step)
  rw [hT', he]
  rfl
 | true =>
  have hne : (x != y) = false := by rw [bne, he]; rfl
  repeat (first
   | (with_reducible (first | refine sops_go ?_ | refine headW_end ?_ | refine sops_end ?_ | refine awp_if ?_ | refine awp_skip ?_ | refine awp_ret ?_ | refine awp_exit ?_); simp only [go_sem, simprocAttr, hF, hd, hxk, hyk, he, hne])
   | ((with_reducible refine headW_go ?_); simp only [go_sem, simprocAttr, hF, hd, hxk, hyk, he, hne, hbx])
   | with_reducible refine awp_seq_k fun _ _ => ?_
   | (refine awp_draw' (id := 6) [] 9 (by kernel_rfl) (by kernel_rfl) rfl rfl (fun bx0 hbx => ?_); try dsimp only [List.take, List.drop])
   | with_reducible (first | refine awp_region [] ?_ | refine awp_block ?_)
   | go_step)
  refine ⟨⟨k + 1, by omega, by rw [hT', he, Bool.true_and]⟩, by dsimp only; omega, hR _ _ (sub_mk ?_)⟩
  simp only [go_sem, simprocAttr, hF, hw]
/- explain.Check, by abstract states. -/
attribute [local go_sem] Ex.pv
set_option maxHeartbeats 2000000 in
theorem ck1_ok (b c : Br) (hb : b.sl.length ≤ 1000000) : FnOK Tryz.prog 49 [.agg b.pv, .ept c.pv] ⟨bv (decide (b.sl = c.sl)), none⟩ := by
 refine fn_ok Tryz.func49 (by kernel_rfl) rfl (by rw [Tryz.ntmps49]; exact of_decide_eq_true rfl) (fun F hF => ?_)
 rw [Tryz.ntmps49] at hF
 rw [Tryz.results49]
 repeat (first
  | (with_reducible (first | refine sops_go ?_ | refine headW_end ?_ | refine sops_end ?_ | refine awp_if ?_ | refine awp_skip ?_ | refine awp_ret ?_ | refine awp_exit ?_); simp only [go_sem, simprocAttr, hF])
  | with_reducible (first | refine awp_seq_k fun _ _ => ?_ | refine awp_region [] ?_ | refine awp_block ?_)
  | go_step)
 refine ⟨_, eqI_ok b.sl c.sl hb, ?_⟩
 simp only [go_sem, simprocAttr, hF]
 repeat (first
  | (with_reducible (first | refine sops_go ?_ | refine headW_end ?_ | refine sops_end ?_ | refine awp_if ?_ | refine awp_skip ?_ | refine awp_ret ?_ | refine awp_exit ?_); simp only [go_sem, simprocAttr, hF])
  | with_reducible (first | refine awp_seq_k fun _ _ => ?_ | refine awp_region [] ?_ | refine awp_block ?_)
  | go_step)
 all_goals (try rfl)

set_option maxHeartbeats 20000000 in
theorem check_okX (n : Net) (f : Fl) (ps : List (List Int)) (r : Rec) (x : Ex) (hS : SmallN n) (hla : r.al.length ≤ 1000000) (hld : r.dl.length ≤ 1000000) (hps : ps.length ≤ 1000000) (hpl : ∀ p ∈ ps, p.length ≤ 1000000) : FnOK Tryz.prog 20 [.agg n.pv, .agg f.pv, .sl 1 (ps.map prow_pv), .agg r.pv, .agg x.pv] ⟨iv (checkX n f ps r x), none⟩ := by
 refine fn_ok Tryz.func20 (by kernel_rfl) rfl (by rw [Tryz.ntmps20]; exact of_decide_eq_true rfl) (fun F hF => ?_)
 rw [Tryz.ntmps20] at hF
 rw [Tryz.results20]
 repeat (first
  | (with_reducible (first | refine sops_go ?_ | refine headW_end ?_ | refine sops_end ?_ | refine awp_if ?_ | refine awp_skip ?_ | refine awp_ret ?_ | refine awp_exit ?_); simp only [go_sem, simprocAttr, hF])
  | ((with_reducible refine headW_go ?_); simp only [go_sem, simprocAttr, hF, hbx])
  | with_reducible refine awp_seq_k fun _ _ => ?_
  | (refine awp_draw' (id := 11) [] 33 (by kernel_rfl) (by kernel_rfl) rfl rfl (fun bx0 hbx => ?_); try dsimp only [List.take, List.drop])
  | with_reducible (first | refine awp_region [] ?_ | refine awp_block ?_)
  | go_step)
 refine ⟨_, checkL_ok n f ps r x.lt.fr hS hla hld hps hpl, ?_⟩
 simp only [go_sem, simprocAttr, hF]
 by_cases hL : (lateX n f ps r x.lt.fr).2 = 0
 case neg =>
  have e1 : ((lateX n f ps r x.lt.fr).2 != 0) = true := by simpa using hL
  have hX : checkX n f ps r x = (lateX n f ps r x.lt.fr).2 := by unfold checkX; rw [if_pos hL]
  try simp only [go_sem, simprocAttr, hF, e1]
  repeat (first
   | (with_reducible (first | refine sops_go ?_ | refine headW_end ?_ | refine sops_end ?_ | refine awp_if ?_ | refine awp_skip ?_ | refine awp_ret ?_ | refine awp_exit ?_); simp only [go_sem, simprocAttr, hF, e1])
   | ((with_reducible refine headW_go ?_); simp only [go_sem, simprocAttr, hF, e1, hbx])
   | with_reducible refine awp_seq_k fun _ _ => ?_
   | (refine awp_draw' (id := 11) [] 33 (by kernel_rfl) (by kernel_rfl) rfl rfl (fun bx0 hbx => ?_); try dsimp only [List.take, List.drop])
   | with_reducible (first | refine awp_region [] ?_ | refine awp_block ?_)
   | go_step)
  all_goals (try rw [hX])
  all_goals (try rfl)
 have e1 : ((lateX n f ps r x.lt.fr).2 != 0) = false := by rw [hL]; rfl
 have LO := lateX_ok hL
 have hN := netOK (basicB_inv LO.base).1
 obtain ⟨y, hy⟩ : ∃ y, y = (lateX n f ps r x.lt.fr).1 := ⟨_, rfl⟩
 rw [← hy]
 have hxl : (([x.lt.fl, x.lt.fr, x.lt.sl] == [y.fl, y.fr, y.sl]) = false ∧ y ≠ x.lt) ∨ (([x.lt.fl, x.lt.fr, x.lt.sl] == [y.fl, y.fr, y.sl]) = true ∧ y = x.lt) := by
  obtain ⟨⟨x1, x2, x3⟩, ca⟩ := x
  obtain ⟨y1, y2, y3⟩ := y
  by_cases h : x1 = y1 ∧ x2 = y2 ∧ x3 = y3
  · obtain ⟨rfl, rfl, rfl⟩ := h
    exact .inr ⟨by simp, rfl⟩
  · refine .inl ⟨?_, fun h2 => h ?_⟩
    · simp only [beq_eq_false_iff_ne, ne_eq, List.cons.injEq, and_true]
      exact h
    · injection h2 with h2 h3 h4
      exact ⟨h2.symm, h3.symm, h4.symm⟩
 rcases hxl with ⟨e2, hne⟩ | ⟨e2, hyx⟩
 case inl =>
  have hX : checkX n f ps r x = 20 := by unfold checkX; rw [if_neg (fun h => h hL), if_pos (.inl (by rw [← hy]; exact hne))]
  try simp only [go_sem, simprocAttr, hF, e1, e2]
  repeat (first
   | (with_reducible (first | refine sops_go ?_ | refine headW_end ?_ | refine sops_end ?_ | refine awp_if ?_ | refine awp_skip ?_ | refine awp_ret ?_ | refine awp_exit ?_); simp only [go_sem, simprocAttr, hF, e1, e2])
   | ((with_reducible refine headW_go ?_); simp only [go_sem, simprocAttr, hF, e1, e2, hbx])
   | with_reducible refine awp_seq_k fun _ _ => ?_
   | (refine awp_draw' (id := 11) [] 33 (by kernel_rfl) (by kernel_rfl) rfl rfl (fun bx0 hbx => ?_); try dsimp only [List.take, List.drop])
   | with_reducible (first | refine awp_region [] ?_ | refine awp_block ?_)
   | go_step)
  all_goals (try rw [hX])
  all_goals (try rfl)
 subst hyx
 by_cases hcl : x.ca.length = ps.length
 case neg =>
  have e3 : ((x.ca.length : Int) != (ps.length : Int)) = true := by rw [bne_iff_ne]; omega
  have hX : checkX n f ps r x = 20 := by unfold checkX; rw [if_neg (fun h => h hL), if_pos (.inr hcl)]
  try simp only [go_sem, simprocAttr, hF, e1, e2, e3]
  repeat (first
   | (with_reducible (first | refine sops_go ?_ | refine headW_end ?_ | refine sops_end ?_ | refine awp_if ?_ | refine awp_skip ?_ | refine awp_ret ?_ | refine awp_exit ?_); simp only [go_sem, simprocAttr, hF, e1, e2, e3])
   | ((with_reducible refine headW_go ?_); simp only [go_sem, simprocAttr, hF, e1, e2, e3, hbx])
   | with_reducible refine awp_seq_k fun _ _ => ?_
   | (refine awp_draw' (id := 11) [] 33 (by kernel_rfl) (by kernel_rfl) rfl rfl (fun bx0 hbx => ?_); try dsimp only [List.take, List.drop])
   | with_reducible (first | refine awp_region [] ?_ | refine awp_block ?_)
   | go_step)
  all_goals (try rw [hX])
  all_goals (try rfl)
 have e3 : ((x.ca.length : Int) != (ps.length : Int)) = false := by rw [hcl]; simp
 have hX : checkX n f ps r x = if (List.zip ps x.ca).all (fun q => okC n f r x.lt.fr q.1 q.2) = true then 0 else 20 := by unfold checkX; rw [if_neg (fun h => h hL), if_neg (by rintro (h | h); exact h hy.symm; exact h hcl)]
 clear hy
 try simp only [go_sem, simprocAttr, hF, e1, e2, e3]
 repeat (first
  | (with_reducible (first | refine sops_go ?_ | refine headW_end ?_ | refine sops_end ?_ | refine awp_if ?_ | refine awp_skip ?_ | refine awp_ret ?_ | refine awp_exit ?_); simp only [go_sem, simprocAttr, hF, e1, e2, e3])
  | ((with_reducible refine headW_go ?_); simp only [go_sem, simprocAttr, hF, e1, e2, e3, hbx])
  | with_reducible refine awp_seq_k fun _ _ => ?_
  | (refine awp_draw' (id := 11) [] 33 (by kernel_rfl) (by kernel_rfl) rfl rfl (fun bx0 hbx => ?_); try dsimp only [List.take, List.drop])
  | with_reducible (first | refine awp_region [] ?_ | refine awp_block ?_)
  | go_step)
 refine awp_loop_by (ι := {k : Nat // k ≤ x.ca.length ∧ ∀ j, j < k → ∀ p c, ps[j]? = some p → x.ca[j]? = some c → okC n f r x.lt.fr p c = true}) (fun k σ => ⟨(47, iv (k.1 : Int)) :: keepS [2, 5, 6, 8, 9, 11, 45, 46] σ.slot, (11, [ip x.lt.fl, ip x.lt.fr, ip x.lt.sl]) :: keepS [5, 6, 8, 9] σ.box, [], σ.ext⟩) (fun k => x.ca.length - k.1) ⟨0, by omega, fun j hj => absurd hj (Nat.not_lt_zero _)⟩ (sub_mk ?_) (fun R hR k => ?_)
 · simp only [go_sem, simprocAttr, hF]
   repeat' (first | rfl | exact True.intro | refine ⟨?_, ?_⟩ | skip)
 obtain ⟨k, hk, hT⟩ := k
 dsimp only
 simp only [go_sem, simprocAttr, hF]
 by_cases hlt : k < x.ca.length
 case neg =>
  have hd : decide ((k : Int) < (x.ca.length : Int)) = false := decide_eq_false (by omega)
  have hgood : checkX n f ps r x = 0 := by
   rw [hX, zip_all (q := fun q => okC n f r x.lt.fr q.1 q.2) (fun j p c h1 h2 => hT j (by have := (List.getElem?_eq_some_iff.1 h2).1; omega) p c h1 h2)]
   rfl
  repeat (first
   | (with_reducible (first | refine sops_go ?_ | refine headW_end ?_ | refine sops_end ?_ | refine awp_if ?_ | refine awp_skip ?_ | refine awp_ret ?_ | refine awp_exit ?_); simp only [go_sem, simprocAttr, hF, hd])
   | ((with_reducible refine headW_go ?_); simp only [go_sem, simprocAttr, hF, hd, hbx])
   | with_reducible refine awp_seq_k fun _ _ => ?_
   | (refine awp_draw' (id := 11) [] 33 (by kernel_rfl) (by kernel_rfl) rfl rfl (fun bx0 hbx => ?_); try dsimp only [List.take, List.drop])
   | with_reducible (first | refine awp_region [] ?_ | refine awp_block ?_)
   | go_step)
  all_goals (try rw [hgood])
  all_goals (try rfl)
 have hd : decide ((k : Int) < (x.ca.length : Int)) = true := decide_eq_true (by omega)
 have hw : IntKind.i64.wrap ((k : Int) + 1) = ((k + 1 : Nat) : Int) := by rw [IntKind.wrap_i64]; omega
 obtain ⟨c, hc2⟩ := get_of_lt hlt
 obtain ⟨p, hp⟩ := get_of_lt (l := ps) (k := k) (by omega)
 have hrt := LO.rt p (List.mem_of_getElem? hp)
 obtain ⟨r1, r2, r3⟩ := route_inv hrt
 repeat (first
  | (with_reducible (first | refine sops_go ?_ | refine headW_end ?_ | refine sops_end ?_ | refine awp_if ?_ | refine awp_skip ?_ | refine awp_ret ?_ | refine awp_exit ?_); simp only [go_sem, simprocAttr, hF, hd, hp, hc2])
  | ((with_reducible refine headW_go ?_); simp only [go_sem, simprocAttr, hF, hd, hp, hc2, hbx])
  | with_reducible refine awp_seq_k fun _ _ => ?_
  | (refine awp_draw' (id := 11) [] 33 (by kernel_rfl) (by kernel_rfl) rfl rfl (fun bx0 hbx => ?_); try dsimp only [List.take, List.drop])
  | with_reducible (first | refine awp_region [] ?_ | refine awp_block ?_)
  | go_step)
 refine ⟨_, sidx_ok p c.fm (by omega), ?_⟩
 simp only [go_sem, simprocAttr, hF]
 rcases find_idx (fun y => c.fm == y) p 0 with ⟨q1, q2⟩ | ⟨i, z, q0, q1, q2, q3⟩
 case inl =>
  have e3 : decide ((-1 : Int) < 0) = true := rfl
  have hbad : checkX n f ps r x = 20 := by
   rw [hX, zip_not hp hc2 (q := fun q => okC n f r x.lt.fr q.1 q.2) (by
    unfold okC
    rw [Bool.and_eq_false_iff]
    left
    rw [Bool.eq_false_iff]
    intro h
    obtain ⟨j, h1, _⟩ := onB_iff.1 h
    have := List.find?_eq_none.1 q1 c.fm (List.mem_of_getElem? h1)
    simp at this
   )]
   rfl
  try simp only [go_sem, simprocAttr, hF, q2, e3]
  repeat (first
   | (with_reducible (first | refine sops_go ?_ | refine headW_end ?_ | refine sops_end ?_ | refine awp_if ?_ | refine awp_skip ?_ | refine awp_ret ?_ | refine awp_exit ?_); simp only [go_sem, simprocAttr, hF, q2, e3])
   | ((with_reducible refine headW_go ?_); simp only [go_sem, simprocAttr, hF, q2, e3, hbx])
   | with_reducible refine awp_seq_k fun _ _ => ?_
   | (refine awp_draw' (id := 11) [] 33 (by kernel_rfl) (by kernel_rfl) rfl rfl (fun bx0 hbx => ?_); try dsimp only [List.take, List.drop])
   | with_reducible (first | refine awp_region [] ?_ | refine awp_block ?_)
   | go_step)
  all_goals (try rw [hbad])
  all_goals (try rfl)
 obtain rfl : c.fm = z := by simpa using q3
 rw [Int.zero_add] at q2
 have e3 : decide ((i : Int) < 0) = false := decide_eq_false (by omega)
 have wi : IntKind.i64.wrap ((i : Int) + 1) = ((i + 1 : Nat) : Int) := by
  have := (List.getElem?_eq_some_iff.1 q0).1
  rw [IntKind.wrap_i64]; omega
 have hon := onB_at hrt (y := c.tt) q0
 by_cases c4 : p.length ≤ i + 1
 case pos =>
  have e4 : decide ((p.length : Int) ≤ ((i + 1 : Nat) : Int)) = true := decide_eq_true (by omega)
  have hbad : checkX n f ps r x = 20 := by
   rw [hX, zip_not hp hc2 (q := fun q => okC n f r x.lt.fr q.1 q.2) (by
    unfold okC
    rw [Bool.and_eq_false_iff]
    left
    rw [Bool.eq_false_iff]
    intro h
    rw [hon, List.getElem?_eq_none c4] at h
    cases h
   )]
   rfl
  try simp only [go_sem, simprocAttr, hF, q2, e3, wi, hp, hc2, e4]
  repeat (first
   | (with_reducible (first | refine sops_go ?_ | refine headW_end ?_ | refine sops_end ?_ | refine awp_if ?_ | refine awp_skip ?_ | refine awp_ret ?_ | refine awp_exit ?_); simp only [go_sem, simprocAttr, hF, q2, e3, wi, hp, hc2, e4])
   | ((with_reducible refine headW_go ?_); simp only [go_sem, simprocAttr, hF, q2, e3, wi, hp, hc2, e4, hbx])
   | with_reducible refine awp_seq_k fun _ _ => ?_
   | (refine awp_draw' (id := 11) [] 33 (by kernel_rfl) (by kernel_rfl) rfl rfl (fun bx0 hbx => ?_); try dsimp only [List.take, List.drop])
   | with_reducible (first | refine awp_region [] ?_ | refine awp_block ?_)
   | go_step)
  all_goals (try rw [hbad])
  all_goals (try rfl)
 have e4 : decide ((p.length : Int) ≤ ((i + 1 : Nat) : Int)) = false := decide_eq_false (by omega)
 obtain ⟨u, hu⟩ := get_of_lt (l := p) (k := i + 1) (by omega)
 by_cases c5 : u = c.tt
 case neg =>
  have e5 : (u != c.tt) = true := by simpa using c5
  have hbad : checkX n f ps r x = 20 := by
   rw [hX, zip_not hp hc2 (q := fun q => okC n f r x.lt.fr q.1 q.2) (by
    unfold okC
    rw [Bool.and_eq_false_iff]
    left
    rw [Bool.eq_false_iff]
    intro h
    rw [hon, hu] at h
    exact c5 (Option.some.inj h)
   )]
   rfl
  try simp only [go_sem, simprocAttr, hF, q2, e3, wi, hp, hc2, e4, hu, e5]
  repeat (first
   | (with_reducible (first | refine sops_go ?_ | refine headW_end ?_ | refine sops_end ?_ | refine awp_if ?_ | refine awp_skip ?_ | refine awp_ret ?_ | refine awp_exit ?_); simp only [go_sem, simprocAttr, hF, q2, e3, wi, hp, hc2, e4, hu, e5])
   | ((with_reducible refine headW_go ?_); simp only [go_sem, simprocAttr, hF, q2, e3, wi, hp, hc2, e4, hu, e5, hbx])
   | with_reducible refine awp_seq_k fun _ _ => ?_
   | (refine awp_draw' (id := 11) [] 33 (by kernel_rfl) (by kernel_rfl) rfl rfl (fun bx0 hbx => ?_); try dsimp only [List.take, List.drop])
   | with_reducible (first | refine awp_region [] ?_ | refine awp_block ?_)
   | go_step)
  all_goals (try rw [hbad])
  all_goals (try rfl)
 have e5 : (u != c.tt) = false := by simpa using c5
 have honT : onB p c.fm c.tt = true := hon.2 (by rw [hu, c5])
 have hokc : okC n f r x.lt.fr p c = (c.fl == f.id && (c.fr == x.lt.fr && (causesX n f r x.lt.fr c.fm c.tt).any fun y => decide (y.sl = c.sl))) := by unfold okC; rw [honT, Bool.true_and, contains_X]
 by_cases c6 : c.fl = f.id
 case neg =>
  have e6 : (c.fl != f.id) = true := by simpa using c6
  have hbad : checkX n f ps r x = 20 := by
   rw [hX, zip_not hp hc2 (q := fun q => okC n f r x.lt.fr q.1 q.2) (by
    rw [hokc, show (c.fl == f.id) = false by simpa using c6]
    rfl
   )]
   rfl
  try simp only [go_sem, simprocAttr, hF, q2, e3, wi, hp, hc2, e4, hu, e5, e6]
  repeat (first
   | (with_reducible (first | refine sops_go ?_ | refine headW_end ?_ | refine sops_end ?_ | refine awp_if ?_ | refine awp_skip ?_ | refine awp_ret ?_ | refine awp_exit ?_); simp only [go_sem, simprocAttr, hF, q2, e3, wi, hp, hc2, e4, hu, e5, e6])
   | ((with_reducible refine headW_go ?_); simp only [go_sem, simprocAttr, hF, q2, e3, wi, hp, hc2, e4, hu, e5, e6, hbx])
   | with_reducible refine awp_seq_k fun _ _ => ?_
   | (refine awp_draw' (id := 11) [] 33 (by kernel_rfl) (by kernel_rfl) rfl rfl (fun bx0 hbx => ?_); try dsimp only [List.take, List.drop])
   | with_reducible (first | refine awp_region [] ?_ | refine awp_block ?_)
   | go_step)
  all_goals (try rw [hbad])
  all_goals (try rfl)
 have e6 : (c.fl != f.id) = false := by simpa using c6
 by_cases c7 : c.fr = x.lt.fr
 case neg =>
  have e7 : (c.fr != x.lt.fr) = true := by simpa using c7
  have hbad : checkX n f ps r x = 20 := by
   rw [hX, zip_not hp hc2 (q := fun q => okC n f r x.lt.fr q.1 q.2) (by
    rw [hokc, show (c.fr == x.lt.fr) = false by simpa using c7, Bool.false_and, Bool.and_false]
   )]
   rfl
  try simp only [go_sem, simprocAttr, hF, q2, e3, wi, hp, hc2, e4, hu, e5, e6, e7]
  repeat (first
   | (with_reducible (first | refine sops_go ?_ | refine headW_end ?_ | refine sops_end ?_ | refine awp_if ?_ | refine awp_skip ?_ | refine awp_ret ?_ | refine awp_exit ?_); simp only [go_sem, simprocAttr, hF, q2, e3, wi, hp, hc2, e4, hu, e5, e6, e7])
   | ((with_reducible refine headW_go ?_); simp only [go_sem, simprocAttr, hF, q2, e3, wi, hp, hc2, e4, hu, e5, e6, e7, hbx])
   | with_reducible refine awp_seq_k fun _ _ => ?_
   | (refine awp_draw' (id := 11) [] 33 (by kernel_rfl) (by kernel_rfl) rfl rfl (fun bx0 hbx => ?_); try dsimp only [List.take, List.drop])
   | with_reducible (first | refine awp_region [] ?_ | refine awp_block ?_)
   | go_step)
  all_goals (try rw [hbad])
  all_goals (try rfl)
 have e7 : (c.fr != x.lt.fr) = false := by simpa using c7
 have hix := r3 i c.fm c.tt q0 (by rw [hu, c5])
 have hok2 : okC n f r x.lt.fr p c = ((causesX n f r x.lt.fr c.fm c.tt).any fun y => decide (y.sl = c.sl)) := by rw [hokc, show (c.fl == f.id) = true by simpa using c6, show (c.fr == x.lt.fr) = true by simpa using c7]; rfl
 try simp only [go_sem, simprocAttr, hF, q2, e3, wi, hp, hc2, e4, hu, e5, e6, e7]
 repeat (first
  | (with_reducible (first | refine sops_go ?_ | refine headW_end ?_ | refine sops_end ?_ | refine awp_if ?_ | refine awp_skip ?_ | refine awp_ret ?_ | refine awp_exit ?_); simp only [go_sem, simprocAttr, hF, q2, e3, wi, hp, hc2, e4, hu, e5, e6, e7])
  | ((with_reducible refine headW_go ?_); simp only [go_sem, simprocAttr, hF, q2, e3, wi, hp, hc2, e4, hu, e5, e6, e7, hbx])
  | with_reducible refine awp_seq_k fun _ _ => ?_
  | (refine awp_draw' (id := 11) [] 33 (by kernel_rfl) (by kernel_rfl) rfl rfl (fun bx0 hbx => ?_); try dsimp only [List.take, List.drop])
  | with_reducible (first | refine awp_region [] ?_ | refine awp_block ?_)
  | go_step)
 refine ⟨_, causes_ok n f r x.lt.fr c.fm c.tt hS LO.base ⟨LO.fr0, LO.fr1⟩ hix hla, ?_⟩
 simp only [go_sem, simprocAttr, hF]
 repeat (first
  | (with_reducible (first | refine sops_go ?_ | refine headW_end ?_ | refine sops_end ?_ | refine awp_if ?_ | refine awp_skip ?_ | refine awp_ret ?_ | refine awp_exit ?_); simp only [go_sem, simprocAttr, hF])
  | ((with_reducible refine headW_go ?_); simp only [go_sem, simprocAttr, hF, hbx])
  | with_reducible refine awp_seq_k fun _ _ => ?_
  | (refine awp_draw' (id := 11) [] 33 (by kernel_rfl) (by kernel_rfl) rfl rfl (fun bx0 hbx => ?_); try dsimp only [List.take, List.drop])
  | with_reducible (first | refine awp_region [] ?_ | refine awp_block ?_)
  | go_step)
 refine ⟨_, contB_ok _ [c.pv] (fun y => decide (y.sl = c.sl)) (causesX n f r x.lt.fr c.fm c.tt) (Nat.le_trans causesX_len hla) (fun y hy => ck1_ok y c (Nat.le_trans (sl_len hy) hla)), ?_⟩
 simp only [go_sem, simprocAttr, hF]
 cases ha : (causesX n f r x.lt.fr c.fm c.tt).any fun y => decide (y.sl = c.sl) with
 | false =>
  have hbad : checkX n f ps r x = 20 := by
   rw [hX, zip_not hp hc2 (q := fun q => okC n f r x.lt.fr q.1 q.2) (by
    rw [hok2, ha]
   )]
   rfl
  try simp only [go_sem, simprocAttr, hF, ha]
  repeat (first
   | (with_reducible (first | refine sops_go ?_ | refine headW_end ?_ | refine sops_end ?_ | refine awp_if ?_ | refine awp_skip ?_ | refine awp_ret ?_ | refine awp_exit ?_); simp only [go_sem, simprocAttr, hF, ha])
   | ((with_reducible refine headW_go ?_); simp only [go_sem, simprocAttr, hF, ha, hbx])
   | with_reducible refine awp_seq_k fun _ _ => ?_
   | (refine awp_draw' (id := 11) [] 33 (by kernel_rfl) (by kernel_rfl) rfl rfl (fun bx0 hbx => ?_); try dsimp only [List.take, List.drop])
   | with_reducible (first | refine awp_region [] ?_ | refine awp_block ?_)
   | go_step)
  all_goals (try rw [hbad])
  all_goals (try rfl)
 | true =>
  try simp only [go_sem, simprocAttr, hF, ha]
  repeat (first
   | (with_reducible (first | refine sops_go ?_ | refine headW_end ?_ | refine sops_end ?_ | refine awp_if ?_ | refine awp_skip ?_ | refine awp_ret ?_ | refine awp_exit ?_); simp only [go_sem, simprocAttr, hF, ha])
   | ((with_reducible refine headW_go ?_); simp only [go_sem, simprocAttr, hF, ha, hbx])
   | with_reducible refine awp_seq_k fun _ _ => ?_
   | (refine awp_draw' (id := 11) [] 33 (by kernel_rfl) (by kernel_rfl) rfl rfl (fun bx0 hbx => ?_); try dsimp only [List.take, List.drop])
   | with_reducible (first | refine awp_region [] ?_ | refine awp_block ?_)
   | go_step)
  refine ⟨⟨k + 1, by omega, fun j hj p' c' h1 h2 => by
   by_cases hjk : j = k
   · subst hjk
     rw [hp] at h1; rw [hc2] at h2; cases h1; cases h2
     rw [hok2, ha]
   · exact hT j (by omega) p' c' h1 h2⟩, by dsimp only; omega, hR _ _ (sub_mk ?_)⟩
  simp only [go_sem, simprocAttr, hF, hw]
/- explain.Causes, by abstract states. -/
set_option maxHeartbeats 20000000 in
theorem causesR_ok (n : Net) (f : Fl) (r : Rec) (fr a b : Int) (hS : SmallN n) (hla : r.al.length ≤ 1000000) (hld : r.dl.length ≤ 1000000) : FnOK Tryz.prog 13 [.agg n.pv, .agg f.pv, .agg r.pv, iv fr, iv a, iv b] ⟨.tup [.c (.sl 5 ((causesR n f r fr a b).1.map Br.pv)), .c (ip (causesR n f r fr a b).2)], none⟩ := by
 refine fn_ok Tryz.func13 (by kernel_rfl) rfl (by rw [Tryz.ntmps13]; exact of_decide_eq_true rfl) (fun F hF => ?_)
 rw [Tryz.ntmps13] at hF
 rw [Tryz.results13]
 cases hB : basicB n f r with
 | false =>
  repeat (first
   | (with_reducible (first | refine sops_go ?_ | refine headW_end ?_ | refine sops_end ?_ | refine awp_if ?_ | refine awp_skip ?_ | refine awp_ret ?_ | refine awp_exit ?_); simp only [go_sem, simprocAttr, hF])
   | with_reducible (first | refine awp_seq_k fun _ _ => ?_ | refine awp_region [] ?_ | refine awp_block ?_)
   | go_step)
  refine ⟨_, base_ok n f r hS hla hld, ?_⟩
  simp only [go_sem, simprocAttr, hF, hB]
  repeat (first
   | ((refine awp_nil (c := .ret) 12 5 57 (by rw [hF]; decide) (by first | rfl | simp only [Av.look]; rfl) ?_); simp only [go_sem, simprocAttr, hF, hB])
   | (with_reducible (first | refine sops_go ?_ | refine headW_end ?_ | refine sops_end ?_ | refine awp_if ?_ | refine awp_skip ?_ | refine awp_ret ?_ | refine awp_exit ?_); simp only [go_sem, simprocAttr, hF, hB])
   | with_reducible (first | refine awp_seq_k fun _ _ => ?_ | refine awp_region [] ?_ | refine awp_block ?_)
   | go_step)
  rw [show causesR n f r fr a b = ([], 1) from by unfold causesR; rw [if_pos hB]]
  all_goals (try rfl)
 | true =>
  have hB' : ¬ basicB n f r = false := by rw [hB]; decide
  obtain ⟨hc, _⟩ := basicB_inv hB
  by_cases c1 : fr < 0
  case pos =>
   have e1 : decide (fr < 0) = true := by first | exact decide_eq_true (by omega) | simpa using c1
   repeat (first
    | (with_reducible (first | refine sops_go ?_ | refine headW_end ?_ | refine sops_end ?_ | refine awp_if ?_ | refine awp_skip ?_ | refine awp_ret ?_ | refine awp_exit ?_); simp only [go_sem, simprocAttr, hF, hB])
    | with_reducible (first | refine awp_seq_k fun _ _ => ?_ | refine awp_region [] ?_ | refine awp_block ?_)
    | go_step)
   refine ⟨_, base_ok n f r hS hla hld, ?_⟩
   simp only [go_sem, simprocAttr, hF, hB]
   repeat (first
    | ((refine awp_nil (c := .ret) 12 5 57 (by rw [hF]; decide) (by first | rfl | simp only [Av.look]; rfl) ?_); simp only [go_sem, simprocAttr, hF, hB, e1])
    | (with_reducible (first | refine sops_go ?_ | refine headW_end ?_ | refine sops_end ?_ | refine awp_if ?_ | refine awp_skip ?_ | refine awp_ret ?_ | refine awp_exit ?_); simp only [go_sem, simprocAttr, hF, hB, e1])
    | with_reducible (first | refine awp_seq_k fun _ _ => ?_ | refine awp_region [] ?_ | refine awp_block ?_)
    | go_step)
   rw [show causesR n f r fr a b = ([], 2) from by unfold causesR; rw [if_neg hB', if_pos (.inl c1)]]
   all_goals (try rfl)
  have e1 : decide (fr < 0) = false := by first | exact decide_eq_false (by omega) | simpa using c1
  by_cases c2 : 1048576 ≤ fr
  case pos =>
   have e2 : decide (fr ≥ 1048576) = true := by first | exact decide_eq_true (by omega) | simpa using c2
   repeat (first
    | (with_reducible (first | refine sops_go ?_ | refine headW_end ?_ | refine sops_end ?_ | refine awp_if ?_ | refine awp_skip ?_ | refine awp_ret ?_ | refine awp_exit ?_); simp only [go_sem, simprocAttr, hF, hB])
    | with_reducible (first | refine awp_seq_k fun _ _ => ?_ | refine awp_region [] ?_ | refine awp_block ?_)
    | go_step)
   refine ⟨_, base_ok n f r hS hla hld, ?_⟩
   simp only [go_sem, simprocAttr, hF, hB]
   repeat (first
    | ((refine awp_nil (c := .ret) 12 5 57 (by rw [hF]; decide) (by first | rfl | simp only [Av.look]; rfl) ?_); simp only [go_sem, simprocAttr, hF, hB, e1, e2])
    | (with_reducible (first | refine sops_go ?_ | refine headW_end ?_ | refine sops_end ?_ | refine awp_if ?_ | refine awp_skip ?_ | refine awp_ret ?_ | refine awp_exit ?_); simp only [go_sem, simprocAttr, hF, hB, e1, e2])
    | with_reducible (first | refine awp_seq_k fun _ _ => ?_ | refine awp_region [] ?_ | refine awp_block ?_)
    | go_step)
   rw [show causesR n f r fr a b = ([], 2) from by unfold causesR; rw [if_neg hB', if_pos (.inr c2)]]
   all_goals (try rfl)
  have e2 : decide (fr ≥ 1048576) = false := by first | exact decide_eq_false (by omega) | simpa using c2
  by_cases c3 : idxL n a b < 0
  case pos =>
   have e3 : decide (idxL n a b < 0) = true := by first | exact decide_eq_true (by omega) | simpa using c3
   repeat (first
    | (with_reducible (first | refine sops_go ?_ | refine headW_end ?_ | refine sops_end ?_ | refine awp_if ?_ | refine awp_skip ?_ | refine awp_ret ?_ | refine awp_exit ?_); simp only [go_sem, simprocAttr, hF, hB])
    | with_reducible (first | refine awp_seq_k fun _ _ => ?_ | refine awp_region [] ?_ | refine awp_block ?_)
    | go_step)
   refine ⟨_, base_ok n f r hS hla hld, ?_⟩
   simp only [go_sem, simprocAttr, hF, hB]
   repeat (first
    | (with_reducible (first | refine sops_go ?_ | refine headW_end ?_ | refine sops_end ?_ | refine awp_if ?_ | refine awp_skip ?_ | refine awp_ret ?_ | refine awp_exit ?_); simp only [go_sem, simprocAttr, hF, hB, e1, e2])
    | with_reducible (first | refine awp_seq_k fun _ _ => ?_ | refine awp_region [] ?_ | refine awp_block ?_)
    | go_step)
   refine ⟨_, nindex_ok n a b hS hc, ?_⟩
   simp only [go_sem, simprocAttr, hF]
   try simp only [go_sem, simprocAttr, hF, e3]
   repeat (first
    | ((refine awp_nil (c := .ret) 12 5 57 (by rw [hF]; decide) (by first | rfl | simp only [Av.look]; rfl) ?_); simp only [go_sem, simprocAttr, hF, e3])
    | (with_reducible (first | refine sops_go ?_ | refine headW_end ?_ | refine sops_end ?_ | refine awp_if ?_ | refine awp_skip ?_ | refine awp_ret ?_ | refine awp_exit ?_); simp only [go_sem, simprocAttr, hF, e3])
    | with_reducible (first | refine awp_seq_k fun _ _ => ?_ | refine awp_region [] ?_ | refine awp_block ?_)
    | go_step)
   rw [show causesR n f r fr a b = ([], 7) from by unfold causesR; rw [if_neg hB', if_neg (by omega), if_pos c3]]
   all_goals (try rfl)
  have e3 : decide (idxL n a b < 0) = false := by first | exact decide_eq_false (by omega) | simpa using c3
  have hR : causesR n f r fr a b = (causesX n f r fr a b, 0) := by unfold causesR; rw [if_neg hB', if_neg (by omega), if_neg c3]
  repeat (first
   | (with_reducible (first | refine sops_go ?_ | refine headW_end ?_ | refine sops_end ?_ | refine awp_if ?_ | refine awp_skip ?_ | refine awp_ret ?_ | refine awp_exit ?_); simp only [go_sem, simprocAttr, hF, hB])
   | with_reducible (first | refine awp_seq_k fun _ _ => ?_ | refine awp_region [] ?_ | refine awp_block ?_)
   | go_step)
  refine ⟨_, base_ok n f r hS hla hld, ?_⟩
  simp only [go_sem, simprocAttr, hF, hB]
  repeat (first
   | (with_reducible (first | refine sops_go ?_ | refine headW_end ?_ | refine sops_end ?_ | refine awp_if ?_ | refine awp_skip ?_ | refine awp_ret ?_ | refine awp_exit ?_); simp only [go_sem, simprocAttr, hF, hB, e1, e2])
   | with_reducible (first | refine awp_seq_k fun _ _ => ?_ | refine awp_region [] ?_ | refine awp_block ?_)
   | go_step)
  refine ⟨_, nindex_ok n a b hS hc, ?_⟩
  simp only [go_sem, simprocAttr, hF]
  try simp only [go_sem, simprocAttr, hF, e3]
  repeat (first
   | (with_reducible (first | refine sops_go ?_ | refine headW_end ?_ | refine sops_end ?_ | refine awp_if ?_ | refine awp_skip ?_ | refine awp_ret ?_ | refine awp_exit ?_); simp only [go_sem, simprocAttr, hF, e3])
   | with_reducible (first | refine awp_seq_k fun _ _ => ?_ | refine awp_region [] ?_ | refine awp_block ?_)
   | go_step)
  refine ⟨_, causes_ok n f r fr a b hS hB ⟨by omega, by omega⟩ (by omega) hla, ?_⟩
  simp only [go_sem, simprocAttr, hF]
  repeat (first
   | (with_reducible (first | refine sops_go ?_ | refine headW_end ?_ | refine sops_end ?_ | refine awp_if ?_ | refine awp_skip ?_ | refine awp_ret ?_ | refine awp_exit ?_); simp only [go_sem, simprocAttr, hF])
   | with_reducible (first | refine awp_seq_k fun _ _ => ?_ | refine awp_region [] ?_ | refine awp_block ?_)
   | go_step)
  all_goals (try rw [hR])
  all_goals (try rfl)
/- The example holds, by abstract states. -/
attribute [local go_sem] Tryz.sz20 Tryz.zr20 Tryz.by20 Tryz.pl20 Tryz.is20 Tryz.underlying20 Tryz.sz89 Tryz.zr89 Tryz.by89 Tryz.pl89 Tryz.is89 Tryz.underlying89 Tryz.sz132 Tryz.zr132 Tryz.by132 Tryz.pl132 Tryz.is132 Tryz.underlying132 Tryz.sz113 Tryz.zr113 Tryz.by113 Tryz.pl113 Tryz.is113 Tryz.underlying113 Tryz.sz9 Tryz.zr9 Tryz.by9 Tryz.pl9 Tryz.is9 Tryz.underlying9
theorem smallL : SmallN nL := ⟨by decide, by decide, by decide, by decide⟩
theorem awF3 : FnOK Tryz.prog 11 [.agg nL.pv, .agg fL.pv, .sl 1 (psL.map prow_pv), .agg rL.pv, iv 3] ⟨.tup [.g xL.pv, .c (ip 0)], none⟩ := by
 have h := find_okX nL fL psL rL 3 smallL (by decide) (by decide) (by decide) (by decide)
 rw [aw_find3] at h
 exact h
theorem awF2 : FnOK Tryz.prog 11 [.agg nL.pv, .agg fL.pv, .sl 1 (psL.map prow_pv), .agg rL.pv, iv 2] ⟨.tup [.g ex0.pv, .c (ip 7)], none⟩ := by
 have h := find_okX nL fL psL rL 2 smallL (by decide) (by decide) (by decide) (by decide)
 rw [aw_find2] at h
 exact h
theorem awCs : FnOK Tryz.prog 13 [.agg nL.pv, .agg fL.pv, .agg rL.pv, iv 3, iv 2, iv 1] ⟨.tup [.c (.sl 5 ([bL].map Br.pv)), .c (ip 0)], none⟩ := by
 have h := causesR_ok nL fL rL 3 2 1 smallL (by decide) (by decide)
 rw [aw_causes] at h
 exact h
theorem awC1 : FnOK Tryz.prog 20 [.agg nL.pv, .agg fL.pv, .sl 1 (psL.map prow_pv), .agg rL.pv, .agg xL.pv] ⟨iv 0, none⟩ := by
 have h := check_okX nL fL psL rL xL smallL (by decide) (by decide) (by decide) (by decide)
 rw [aw_ck] at h
 exact h
theorem awC2 : FnOK Tryz.prog 20 [.agg nL.pv, .agg fL.pv, .sl 1 (psL.map prow_pv), .agg rL.pv, .agg [ip 6, ip 3, ip (-1), .v (.slice none 0 0)]] ⟨iv 20, none⟩ := by
 have h := check_okX nL fL psL rL yL smallL (by decide) (by decide) (by decide) (by decide)
 rw [aw_ck2] at h
 exact fnOK_le h (.cons (.refl _) (.cons (.refl _) (.cons (.refl _) (.cons (.refl _) (.cons (.agg (.cons (.refl _) (.cons (.refl _) (.cons (.refl _) (.cons (.nil 5) .nil))))) .nil)))))
theorem awFm : FnOK Tryz.prog 18 [.agg xL.pv] ⟨.tup [.c (.v (.string sL)), .c (ip 0)], none⟩ := by
 have h := (format_okC (fun _ => True) (fun _ h => h) xL (by decide) (by decide) (fun i hi h => by
  have hlt : i < 100 := by
   rcases h with rfl | rfl | rfl | ⟨c, hc, h⟩
   · decide
   · decide
   · decide
   · obtain rfl : c = bL := List.mem_singleton.1 hc
     rcases h with rfl | rfl | h
     · decide
     · decide
     · rcases List.mem_cons.1 h with rfl | h
       · decide
       · obtain rfl := List.mem_singleton.1 h
         decide
  have := itoaS_ok i.toNat (by omega)
  rw [Int.toNat_of_nonneg hi.1] at this
  exact this.c)).plain
 rw [aw_fmt] at h
 exact h

set_option maxHeartbeats 20000000 in
theorem awake_ok : FnOK Tryz.prog 9 [] ⟨bv true, none⟩ := by
 have hca : xL.ca = [bL] := rfl
 have hx1 : xL.lt.fl = 6 := rfl
 have hx2 : xL.lt.fr = 3 := rfl
 have hx3 : xL.lt.sl = -1 := rfl
 have hs : (sL.toList == (⟨#[102, 108, 111, 119, 32, 54, 32, 102, 114, 97, 109, 101, 32, 51, 32, 110, 111, 116, 32, 100, 101, 108, 105, 118, 101, 114, 101, 100, 10, 108, 105, 110, 107, 32, 50, 32, 116, 111, 32, 49, 32, 108, 111, 115, 116, 32, 105, 110, 32, 115, 108, 111, 116, 115, 32, 50, 53, 32, 50, 54, 10]⟩ : ByteArray).toList) = true := beq_self_eq_true sL.toList
 have heq : decide (bL.sl = [25, 26]) = true := by decide
 refine fn_ok Tryz.func9 (by kernel_rfl) rfl (by rw [Tryz.ntmps9]; exact of_decide_eq_true rfl) (fun F hF => ?_)
 rw [Tryz.ntmps9] at hF
 rw [Tryz.results9]
 repeat (first
  | (with_reducible (first | refine sops_go ?_ | refine headW_end ?_ | refine sops_end ?_ | refine awp_if ?_ | refine awp_skip ?_ | refine awp_ret ?_ | refine awp_exit ?_); simp only [go_sem, simprocAttr, hF, cz0, cz1, cz2, cz3, cz4, tz0, tz1, tz2, tz3])
  | with_reducible (first | refine awp_seq_k fun _ _ => ?_ | refine awp_region [29] ?_ | refine awp_block ?_)
  | go_step)
 refine ⟨_, lineL_ok, ?_⟩
 simp only [go_sem, simprocAttr, hF]
 repeat (first
  | (with_reducible (first | refine sops_go ?_ | refine headW_end ?_ | refine sops_end ?_ | refine awp_if ?_ | refine awp_skip ?_ | refine awp_ret ?_ | refine awp_exit ?_); simp only [go_sem, simprocAttr, hF, cz0, cz1, cz2, cz3, cz4, tz0, tz1, tz2, tz3])
  | with_reducible (first | refine awp_seq_k fun _ _ => ?_ | refine awp_region [29] ?_ | refine awp_block ?_)
  | go_step)
 refine awp_nilB 4 1 8 66 (cs := _) rfl rfl ?_
 simp only [go_sem, simprocAttr, hF, cz0, cz1, cz2, cz3, cz4, tz0, tz1, tz2, tz3]
 refine awp_nilB 4 2 3 137 (cs := _) rfl rfl ?_
 simp only [go_sem, simprocAttr, hF, cz0, cz1, cz2, cz3, cz4, tz0, tz1, tz2, tz3]
 repeat (first
  | (with_reducible (first | refine sops_go ?_ | refine headW_end ?_ | refine sops_end ?_ | refine awp_if ?_ | refine awp_skip ?_ | refine awp_ret ?_ | refine awp_exit ?_); simp only [go_sem, simprocAttr, hF, cz0, cz1, cz2, cz3, cz4, tz0, tz1, tz2, tz3])
  | with_reducible (first | refine awp_seq_k fun _ _ => ?_ | refine awp_region [29] ?_ | refine awp_block ?_)
  | go_step)
 refine awp_loop_by (ι := {k : Nat // k ≤ 2}) (fun k σ => ⟨(23, iv (k.1 : Int)) :: keepS [0, 1, 2, 3, 4, 21, 22] σ.slot, [(4, [ip 32, .sl 8 ((rL.al.take k.1).map Att.pv), .sl 3 []]), (1, nL.pv), (2, fL.pv)], [(.b 4 1, (66, 8)), (.b 4 2, (137, 3))], σ.ext⟩) (fun k => 2 - k.1) ⟨0, by omega⟩ (sub_mk ?_) (fun R hR k => ?_)
 · simp only [go_sem, simprocAttr, hF]
   repeat' (first | rfl | exact True.intro | refine ⟨?_, ?_⟩)
 obtain ⟨k, hk⟩ := k
 dsimp only
 simp only [go_sem, simprocAttr, hF]
 have hks : k = 0 ∨ k = 1 ∨ k = 2 := by omega
 rcases hks with rfl | rfl | rfl
 · have hd : decide (((0 : Nat) : Int) < 2) = true := rfl
   have hw : IntKind.i64.wrap (((0 : Nat) : Int) + 1) = ((1 : Nat) : Int) := rfl
   have hTk : (rL.al.take 0).length ≤ 99999999 := by decide
   repeat (first
    | (with_reducible (first | refine sops_go ?_ | refine headW_end ?_ | refine sops_end ?_ | refine awp_if ?_ | refine awp_skip ?_ | refine awp_ret ?_ | refine awp_exit ?_); simp only [go_sem, simprocAttr, hF, hd, hTk, Int.toNat_natCast, tz0, tz1, tz2, tz3])
    | with_reducible (first | refine awp_seq_k fun _ _ => ?_ | refine awp_region [29] ?_ | refine awp_block ?_)
    | go_step)
   refine ⟨⟨1, by omega⟩, by dsimp only; omega, hR _ _ (sub_mk ?_)⟩
   simp only [go_sem, simprocAttr, hF, hw]
   repeat' (first | rfl | exact True.intro | refine ⟨?_, ?_⟩)
 · have hd : decide (((1 : Nat) : Int) < 2) = true := rfl
   have hw : IntKind.i64.wrap (((1 : Nat) : Int) + 1) = ((2 : Nat) : Int) := rfl
   have hTk : (rL.al.take 1).length ≤ 99999999 := by decide
   repeat (first
    | (with_reducible (first | refine sops_go ?_ | refine headW_end ?_ | refine sops_end ?_ | refine awp_if ?_ | refine awp_skip ?_ | refine awp_ret ?_ | refine awp_exit ?_); simp only [go_sem, simprocAttr, hF, hd, hTk, Int.toNat_natCast, tz0, tz1, tz2, tz3])
    | with_reducible (first | refine awp_seq_k fun _ _ => ?_ | refine awp_region [29] ?_ | refine awp_block ?_)
    | go_step)
   refine ⟨⟨2, by omega⟩, by dsimp only; omega, hR _ _ (sub_mk ?_)⟩
   simp only [go_sem, simprocAttr, hF, hw]
   repeat' (first | rfl | exact True.intro | refine ⟨?_, ?_⟩)
 · have hd : decide (((2 : Nat) : Int) < 2) = false := rfl
   repeat (first
    | (with_reducible (first | refine sops_go ?_ | refine headW_end ?_ | refine sops_end ?_ | refine awp_if ?_ | refine awp_skip ?_ | refine awp_ret ?_ | refine awp_exit ?_); simp only [go_sem, simprocAttr, hF, hd])
    | with_reducible (first | refine awp_seq_k fun _ _ => ?_ | refine awp_region [29] ?_ | refine awp_block ?_)
    | go_step)
   refine ⟨_, awF3, ?_⟩
   simp only [go_sem, simprocAttr, hF]
   repeat (first
    | (with_reducible (first | refine sops_go ?_ | refine headW_end ?_ | refine sops_end ?_ | refine awp_if ?_ | refine awp_skip ?_ | refine awp_ret ?_ | refine awp_exit ?_); simp only [go_sem, simprocAttr, hF, hx1, hx2, hx3, hca, cz0, cz1, cz2, cz3, cz4, tz0, tz1, tz2, tz3])
    | with_reducible (first | refine awp_seq_k fun _ _ => ?_ | refine awp_region [29] ?_ | refine awp_block ?_)
    | go_step)
   refine ⟨_, awFm, ?_⟩
   simp only [go_sem, simprocAttr, hF, hx1, hx2, hx3, hca, cz0, cz1, cz2, cz3, cz4, tz0, tz1, tz2, tz3]
   repeat (first
    | (with_reducible (first | refine sops_go ?_ | refine headW_end ?_ | refine sops_end ?_ | refine awp_if ?_ | refine awp_skip ?_ | refine awp_ret ?_ | refine awp_exit ?_); simp only [go_sem, simprocAttr, hF, hx1, hx2, hx3, hca, cz0, cz1, cz2, cz3, cz4, tz0, tz1, tz2, tz3])
    | with_reducible (first | refine awp_seq_k fun _ _ => ?_ | refine awp_region [29] ?_ | refine awp_block ?_)
    | go_step)
   refine ⟨_, awF2, ?_⟩
   simp only [go_sem, simprocAttr, hF, hx1, hx2, hx3, hca, cz0, cz1, cz2, cz3, cz4, tz0, tz1, tz2, tz3]
   repeat (first
    | (with_reducible (first | refine sops_go ?_ | refine headW_end ?_ | refine sops_end ?_ | refine awp_if ?_ | refine awp_skip ?_ | refine awp_ret ?_ | refine awp_exit ?_); simp only [go_sem, simprocAttr, hF, hx1, hx2, hx3, hca, cz0, cz1, cz2, cz3, cz4, tz0, tz1, tz2, tz3])
    | with_reducible (first | refine awp_seq_k fun _ _ => ?_ | refine awp_region [29] ?_ | refine awp_block ?_)
    | go_step)
   refine ⟨_, awCs, ?_⟩
   simp only [go_sem, simprocAttr, hF, hx1, hx2, hx3, hca, cz0, cz1, cz2, cz3, cz4, tz0, tz1, tz2, tz3]
   repeat (first
    | (with_reducible (first | refine sops_go ?_ | refine headW_end ?_ | refine sops_end ?_ | refine awp_if ?_ | refine awp_skip ?_ | refine awp_ret ?_ | refine awp_exit ?_); simp only [go_sem, simprocAttr, hF, hx1, hx2, hx3, hca, cz0, cz1, cz2, cz3, cz4, tz0, tz1, tz2, tz3])
    | with_reducible (first | refine awp_seq_k fun _ _ => ?_ | refine awp_region [29] ?_ | refine awp_block ?_)
    | go_step)
   refine ⟨_, eqI_ok bL.sl [25, 26] (by decide), ?_⟩
   simp only [go_sem, simprocAttr, hF, heq]
   repeat (first
    | (with_reducible (first | refine sops_go ?_ | refine headW_end ?_ | refine sops_end ?_ | refine awp_if ?_ | refine awp_skip ?_ | refine awp_ret ?_ | refine awp_exit ?_); simp only [go_sem, simprocAttr, hF, hx1, hx2, hx3, hca, cz0, cz1, cz2, cz3, cz4, tz0, tz1, tz2, tz3, hs, heq])
    | with_reducible (first | refine awp_seq_k fun _ _ => ?_ | refine awp_region [29] ?_ | refine awp_block ?_)
    | go_step)
   refine ⟨_, awC1, ?_⟩
   simp only [go_sem, simprocAttr, hF, hx1, hx2, hx3, hca, cz0, cz1, cz2, cz3, cz4, tz0, tz1, tz2, tz3]
   repeat (first
    | (with_reducible (first | refine sops_go ?_ | refine headW_end ?_ | refine sops_end ?_ | refine awp_if ?_ | refine awp_skip ?_ | refine awp_ret ?_ | refine awp_exit ?_); simp only [go_sem, simprocAttr, hF, hx1, hx2, hx3, hca, cz0, cz1, cz2, cz3, cz4, tz0, tz1, tz2, tz3])
    | with_reducible (first | refine awp_seq_k fun _ _ => ?_ | refine awp_region [29] ?_ | refine awp_block ?_)
    | go_step)
   refine ⟨_, awC2, ?_⟩
   simp only [go_sem, simprocAttr, hF, hx1, hx2, hx3, hca, cz0, cz1, cz2, cz3, cz4, tz0, tz1, tz2, tz3]
   repeat (first
    | (with_reducible (first | refine sops_go ?_ | refine headW_end ?_ | refine sops_end ?_ | refine awp_if ?_ | refine awp_skip ?_ | refine awp_ret ?_ | refine awp_exit ?_); simp only [go_sem, simprocAttr, hF, hx1, hx2, hx3, hca, cz0, cz1, cz2, cz3, cz4, tz0, tz1, tz2, tz3])
    | with_reducible (first | refine awp_seq_k fun _ _ => ?_ | refine awp_region [29] ?_ | refine awp_block ?_)
    | go_step)
   all_goals (try rfl)
end Go.Proofs.YticnppnejafhdaaGreatDoor

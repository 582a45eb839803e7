import Derived.Test.YtcloigoajohppaaGreatDoorZ6
set_option linter.unusedVariables false
set_option linter.unusedSimpArgs false
/- The reference: a network is written. -/
namespace Go.Proofs.YtcloigoajohppaaGreatDoor
open Go.RowKit
open Av
open Sc
set_option maxRecDepth 100000
set_option linter.unusedSimpArgs false
attribute [local go_sem] Av.guardB Av.sop Av.hopx Av.hop Av.hopCall Av.hopF Av.hopB Av.evo Av.evos Av.avCells Av.loadK Av.bound Av.abin Av.aun Av.partsC Av.lfill Av.placesB Av.setAt Av.stl Av.takes Av.src Av.bxOf Av.ownOf Av.St.res Av.St.put Av.St.addBox Av.St.putOwn Av.delL Av.delS Av.look Av.lookL Av.storeSt Av.stealSt Av.St.setBox Av.keepL Av.hitB Av.snap Av.snaps Av.snapCaps Av.AV.lit Av.AV.refs Av.capRefs Av.PV.av Av.CV.av Av.startSt Av.steals Av.athen Av.ablock Av.appK Av.AllS Av.AllO Av.AllR Av.keepS Av.St.avAt Av.RetOK Av.retAll Av.retOne Av.intsOf Av.ptrB TypeDesc.isRow List.range_zero Option.some.injEq exists_eq_left' exists_eq_left exists_eq' exists_and_left exists_and_right exists_const true_and and_true and_self false_and and_false or_false false_or or_true true_or if_true if_false Bool.false_eq_true List.zipIdx_cons List.zipIdx_nil List.map_cons List.map_nil List.filter_cons List.filter_nil List.contains_cons List.contains_nil List.drop_succ_cons List.drop_zero List.take_succ_cons List.take_zero List.take_nil List.drop_nil List.length_cons List.length_nil List.cons_append List.nil_append List.append_nil List.getElem?_cons_zero List.getElem?_cons_succ List.getElem?_nil Option.bind_some Option.bind_none Option.map_some Option.map_none Option.isNone_none Option.isNone_some Option.isSome_some Option.isSome_none Bool.and_true Bool.true_and Bool.and_false Bool.false_and Bool.or_false Bool.false_or Bool.not_true Bool.not_false beq_true beq_false Bool.true_beq Bool.false_beq Loc.s.injEq Loc.b.injEq decide_true decide_false beq_self_eq_true Nat.zero_add Nat.add_zero List.getElem?_toArray List.toList_toArray List.size_toArray Value.oneCell' List.all_cons List.all_nil Value.int.injEq AV.v.injEq AV.sl.injEq AV.agg.injEq AV.ref.injEq AV.ept.injEq AV.tup.injEq Value.bool.injEq PV.v.injEq PV.sl.injEq List.isEmpty_nil List.isEmpty_cons forall_const not_true_eq_false not_false_eq_true true_implies false_implies Value.string.injEq List.length_map List.getElem?_map Int.toNat_natCast Int.natCast_nonneg List.length_append Value.cells implies_true TypeDesc.struct.injEq TypeDesc.slice.injEq TypeDesc.array.injEq List.getElem?_toArray Prod.mk.injEq and_assoc exists_false List.cons.injEq Operand.tmp.injEq ite_self AV.fnv.injEq AV.clo.injEq ne_eq eq_self Tryz.sz3 Tryz.zr3 Tryz.by3 Tryz.pl3 Tryz.is3 Tryz.underlying3 Tryz.sz4 Tryz.zr4 Tryz.by4 Tryz.pl4 Tryz.is4 Tryz.underlying4 Tryz.sz9 Tryz.zr9 Tryz.by9 Tryz.pl9 Tryz.is9 Tryz.underlying9 Tryz.sz5 Tryz.zr5 Tryz.by5 Tryz.pl5 Tryz.is5 Tryz.underlying5 Tryz.sz56 Tryz.zr56 Tryz.by56 Tryz.pl56 Tryz.is56 Tryz.underlying56 Tryz.sz24 Tryz.zr24 Tryz.by24 Tryz.pl24 Tryz.is24 Tryz.underlying24 Tryz.sz70 Tryz.zr70 Tryz.by70 Tryz.pl70 Tryz.is70 Tryz.underlying70 Tryz.sz69 Tryz.zr69 Tryz.by69 Tryz.pl69 Tryz.is69 Tryz.underlying69 Tryz.sz72 Tryz.zr72 Tryz.by72 Tryz.pl72 Tryz.is72 Tryz.underlying72 Tryz.sz74 Tryz.zr74 Tryz.by74 Tryz.pl74 Tryz.is74 Tryz.underlying74 Tryz.sz117 Tryz.zr117 Tryz.by117 Tryz.pl117 Tryz.is117 Tryz.underlying117 Tryz.sz182 Tryz.zr182 Tryz.by182 Tryz.pl182 Tryz.is182 Tryz.underlying182 Tryz.sz64 Tryz.zr64 Tryz.by64 Tryz.pl64 Tryz.is64 Tryz.underlying64 Tryz.sz67 Tryz.zr67 Tryz.by67 Tryz.pl67 Tryz.is67 Tryz.underlying67 Tryz.sz26 Tryz.zr26 Tryz.by26 Tryz.pl26 Tryz.is26 Tryz.underlying26 Tryz.sz30 Tryz.zr30 Tryz.by30 Tryz.pl30 Tryz.is30 Tryz.underlying30 Tryz.sz126 Tryz.zr126 Tryz.by126 Tryz.pl126 Tryz.is126 Tryz.underlying126 Tryz.sz79 Tryz.zr79 Tryz.by79 Tryz.pl79 Tryz.is79 Tryz.underlying79 Tryz.sz81 Tryz.zr81 Tryz.by81 Tryz.pl81 Tryz.is81 Tryz.underlying81 Tryz.sz83 Tryz.zr83 Tryz.by83 Tryz.pl83 Tryz.is83 Tryz.underlying83 Tryz.sz85 Tryz.zr85 Tryz.by85 Tryz.pl85 Tryz.is85 Tryz.underlying85 Tryz.sz35 Tryz.zr35 Tryz.by35 Tryz.pl35 Tryz.is35 Tryz.underlying35 Tryz.sz88 Tryz.zr88 Tryz.by88 Tryz.pl88 Tryz.is88 Tryz.underlying88 Tryz.sz22 Tryz.zr22 Tryz.by22 Tryz.pl22 Tryz.is22 Tryz.underlying22 Tryz.sz23 Tryz.zr23 Tryz.by23 Tryz.pl23 Tryz.is23 Tryz.underlying23 Tryz.sz27 Tryz.zr27 Tryz.by27 Tryz.pl27 Tryz.is27 Tryz.underlying27 Tryz.sz28 Tryz.zr28 Tryz.by28 Tryz.pl28 Tryz.is28 Tryz.underlying28 Tryz.sz31 Tryz.zr31 Tryz.by31 Tryz.pl31 Tryz.is31 Tryz.underlying31 Tryz.sz32 Tryz.zr32 Tryz.by32 Tryz.pl32 Tryz.is32 Tryz.underlying32 Tryz.sz33 Tryz.zr33 Tryz.by33 Tryz.pl33 Tryz.is33 Tryz.underlying33 Tryz.sz65 Tryz.zr65 Tryz.by65 Tryz.pl65 Tryz.is65 Tryz.underlying65 Tryz.sz68 Tryz.zr68 Tryz.by68 Tryz.pl68 Tryz.is68 Tryz.underlying68 Tryz.sz46 Tryz.zr46 Tryz.by46 Tryz.pl46 Tryz.is46 Tryz.underlying46 Tryz.sz38 Tryz.zr38 Tryz.by38 Tryz.pl38 Tryz.is38 Tryz.underlying38 Tryz.sz86 Tryz.zr86 Tryz.by86 Tryz.pl86 Tryz.is86 Tryz.underlying86 all_arr loc_ss loc_sb loc_bs loc_bb arr_two arr_one rg1 rg2 rg3 rg4 rg5 rg6 rg7 rg8 ResultVar.tmp.injEq Bool.not_true Bool.not_false undef Fn.func.injEq Av.extSt Av.RetX List.zipIdx List.getD_cons_zero List.getD_cons_succ List.set_cons_zero List.set_cons_succ Sc.Fw.pv Sc.Rq.pv Sc.Ce.pv Sc.Ch.pv Sc.Wk.pv Sc.Og.pv Sc.Lk.pv Sc.Nt.pv Sc.Sn.pv Sc.rsR
/-- The first test of a network's shape, and that of its rows. -/
def bS (n : Nt) : Bool := decide (n.nodes < 0) || decide (n.nodes > 32) || ((n.power.length : Int) != n.nodes) || ((n.links.length : Int) != (n.margin.length : Int)) || decide ((n.links.length : Int) > 1024)
def misB (n : Nt) (r : List Int) : Bool := ((r.length : Int) != n.nodes)
theorem shaped_bS (n : Nt) : (!shaped n) = (bS n || n.power.any (misB n)) := by
 unfold shaped bS misB
 rw [Bool.not_and, Bool.not_not, Bool.not_not]
theorem bS_inv {n : Nt} (h : bS n = false) : 0 ≤ n.nodes ∧ n.nodes ≤ 32 ∧ (n.power.length : Int) = n.nodes ∧ n.links.length = n.margin.length ∧ n.links.length ≤ 1024 := by
 unfold bS at h
 simp only [Bool.or_eq_false_iff, decide_eq_false_iff_not, bne_eq_false_iff_eq] at h
 omega
theorem farL_pre {l m : List Ln} {B : Bool} (h : (B || farL l) = true) : (B || farL (l ++ m)) = true := by
 rw [farL_append, ← Bool.or_assoc, h]; rfl
theorem pow_pre {k : Nat} {rows : List (List Int)} {B : Bool} (h : (B || farL (powL 0 (rows.take k))) = true) : (B || farL (powL 0 rows)) = true := by
 have e : powL 0 rows = powL 0 (rows.take k) ++ powL (0 + (rows.take k).length) (rows.drop k) := by rw [← powL_append, List.take_append_drop]
 rw [e]; exact farL_pre h
theorem row_pre {a k : Nat} {row : List Int} {B : Bool} (h : (B || farL (rowL a 0 (row.take k))) = true) : (B || farL (rowL a 0 row)) = true := by
 have e : rowL a 0 row = rowL a 0 (row.take k) ++ rowL a (0 + (row.take k).length) (row.drop k) := by rw [← rowL_append, List.take_append_drop]
 rw [e]; exact farL_pre h
theorem map_pre {α : Type} {f : α → Ln} {k : Nat} {l : List α} {B : Bool} (h : (B || farL ((l.take k).map f)) = true) : (B || farL (l.map f)) = true := by
 have e : l.map f = (l.take k).map f ++ (l.drop k).map f := by rw [← List.map_append, List.take_append_drop]
 rw [e]; exact farL_pre h
section
variable {P : Program} {F : Fr}
theorem awp_cutL {ι : Type} {id : Nat} {l : Array Oper} {dr : Bool} {z y : Code} {Q : AX → St → Prop} {σ : St} (U : ι → St → St)
 (hx : ∀ R : St → Prop, (∀ i σ', σ'.Sub (U i σ) → R σ') → AWp P F ((Code.region id l dr).seq z) (athen R Q) σ)
 (hy : ∀ i, AWp P F y Q (U i σ)) : AWp P F (((Code.region id l dr).seq z).seq y) Q σ :=
 awp_seq (hx _ fun i _ hs => awp_sub hs (hy i))
end
set_option maxHeartbeats 4000000 in
theorem rnet_okX (b : Nat) (T : List UInt8) (s : ByteArray × Bool) (hT : s.1.data.toList = T) (n : Nt) (hlen : T.length + (txt (netL n)).length ≤ 140737488355328) :
 FnX Tryz.prog (fun _ => True) 31 [.v (wrP b), .agg n.pv] (rfE b s) (.tup []) (fun i : GdS (T ++ txt (netL n)) (!shaped n || farL (netL n)) => rfE b i.1) := by
 have hl0 : T.length + (lineB wNetwork [n.nodes, n.noise, n.thr]).length + 1 ≤ 140737488355328 := by
  unfold netL at hlen
  rw [txt_cons] at hlen
  simp only [List.length_append, List.length_cons, List.length_nil] at hlen
  omega
 have hl1 : (T ++ lineB wNetwork [n.nodes, n.noise, n.thr] ++ [10]).length + (txt (powL 0 n.power)).length + (txt (linkL n)).length ≤ 140737488355328 := by
  unfold netL at hlen
  rw [txt_cons, txt_append] at hlen
  simp only [List.length_append, List.length_cons, List.length_nil] at hlen ⊢
  omega
 refine fn_okX Tryz.func31 (by kernel_rfl) rfl (by rw [Tryz.ntmps31]; exact of_decide_eq_true rfl) (fun F E hF hC => ?_)
 rw [Tryz.ntmps31] at hF
 rw [Tryz.results31]
 simp only [go_sem, simprocAttr, hF]
 repeat (first
  | (with_reducible refine awp_cut (id := 1) (fun (i : GdS T (bS n)) σ => ⟨keepS [0, 3] σ.slot, [(3, n.pv)], [], E.and (rfE b i.1)⟩) ?hx ?hy)
  | ((first | with_reducible refine sops_go ?_ | with_reducible refine sops_end ?_); simp only [go_sem, simprocAttr, hF])
  | with_reducible refine awp_seq_k fun _ _ => ?_
  | (with_reducible refine awp_region [1000041, 1000050, 1000058, 1000059, 1000075, 1000083, 1000084, 1000110, 1000119, 1000120, 1000143] ?_)
  | go_step)
 case hx =>
  intro R hR
  cases hc0 : decide (n.nodes < 0) with
  | true =>
   try simp only [go_sem, simprocAttr, hF, hc0]
   repeat (first
    | ((refine hand_rawField rfl rfl (by decide) Tryz.underlying88 rfl (m := 0) rfl rfl ?_); simp only [go_sem, simprocAttr, hF, hc0, Av.sopJ])
    | ((refine hand_rawStore rfl rfl rfl rfl rfl (by dsimp only [List.length_cons]; omega) rfl rfl Tryz.sz4 ?_); simp only [go_sem, simprocAttr, hF, hc0, Av.sopJ])
    | ((with_reducible refine sopsJ_go ?_); simp only [go_sem, simprocAttr, hF, hc0, Av.sopJ])
    | ((with_reducible refine sopsJ_end ?_); simp only [go_sem, simprocAttr, hF, hc0, Av.sopJ])
    | ((refine awp_regionJ (id := 1) [1000041, 1000050, 1000058, 1000059, 1000075, 1000083, 1000084, 1000110, 1000119, 1000120, 1000143] ?_); simp only [go_sem, simprocAttr, hF, hc0, Av.sopJ]))
   refine hR ⟨(s.1, true), Gd.bad rfl (by unfold bS; simp only [hc0, Bool.true_or, Bool.or_true])⟩ _ (sub_mk ?_)
   simp only [go_sem, simprocAttr, hF, hc0]
   all_goals (first | rfl | (repeat' (first | rfl | refine ⟨?_, ?_⟩)))
  | false =>
   cases hc1 : decide (n.nodes > 32) with
   | true =>
    try simp only [go_sem, simprocAttr, hF, hc0, hc1]
    repeat (first
     | ((refine hand_rawField rfl rfl (by decide) Tryz.underlying88 rfl (m := 0) rfl rfl ?_); simp only [go_sem, simprocAttr, hF, hc0, hc1, Av.sopJ])
     | ((refine hand_rawStore rfl rfl rfl rfl rfl (by dsimp only [List.length_cons]; omega) rfl rfl Tryz.sz4 ?_); simp only [go_sem, simprocAttr, hF, hc0, hc1, Av.sopJ])
     | ((with_reducible refine sopsJ_go ?_); simp only [go_sem, simprocAttr, hF, hc0, hc1, Av.sopJ])
     | ((with_reducible refine sopsJ_end ?_); simp only [go_sem, simprocAttr, hF, hc0, hc1, Av.sopJ])
     | ((refine awp_regionJ (id := 1) [1000041, 1000050, 1000058, 1000059, 1000075, 1000083, 1000084, 1000110, 1000119, 1000120, 1000143] ?_); simp only [go_sem, simprocAttr, hF, hc0, hc1, Av.sopJ]))
    refine hR ⟨(s.1, true), Gd.bad rfl (by unfold bS; simp only [hc0, hc1, Bool.true_or, Bool.or_true])⟩ _ (sub_mk ?_)
    simp only [go_sem, simprocAttr, hF, hc0, hc1]
    all_goals (first | rfl | (repeat' (first | rfl | refine ⟨?_, ?_⟩)))
   | false =>
    cases hc2 : ((n.power.length : Int) != n.nodes) with
    | true =>
     try simp only [go_sem, simprocAttr, hF, hc0, hc1, hc2]
     repeat (first
      | ((refine hand_rawField rfl rfl (by decide) Tryz.underlying88 rfl (m := 0) rfl rfl ?_); simp only [go_sem, simprocAttr, hF, hc0, hc1, hc2, Av.sopJ])
      | ((refine hand_rawStore rfl rfl rfl rfl rfl (by dsimp only [List.length_cons]; omega) rfl rfl Tryz.sz4 ?_); simp only [go_sem, simprocAttr, hF, hc0, hc1, hc2, Av.sopJ])
      | ((with_reducible refine sopsJ_go ?_); simp only [go_sem, simprocAttr, hF, hc0, hc1, hc2, Av.sopJ])
      | ((with_reducible refine sopsJ_end ?_); simp only [go_sem, simprocAttr, hF, hc0, hc1, hc2, Av.sopJ])
      | ((refine awp_regionJ (id := 1) [1000041, 1000050, 1000058, 1000059, 1000075, 1000083, 1000084, 1000110, 1000119, 1000120, 1000143] ?_); simp only [go_sem, simprocAttr, hF, hc0, hc1, hc2, Av.sopJ]))
     refine hR ⟨(s.1, true), Gd.bad rfl (by unfold bS; simp only [hc0, hc1, hc2, Bool.true_or, Bool.or_true])⟩ _ (sub_mk ?_)
     simp only [go_sem, simprocAttr, hF, hc0, hc1, hc2]
     all_goals (first | rfl | (repeat' (first | rfl | refine ⟨?_, ?_⟩)))
    | false =>
     cases hc3 : ((n.links.length : Int) != (n.margin.length : Int)) with
     | true =>
      try simp only [go_sem, simprocAttr, hF, hc0, hc1, hc2, hc3]
      repeat (first
       | ((refine hand_rawField rfl rfl (by decide) Tryz.underlying88 rfl (m := 0) rfl rfl ?_); simp only [go_sem, simprocAttr, hF, hc0, hc1, hc2, hc3, Av.sopJ])
       | ((refine hand_rawStore rfl rfl rfl rfl rfl (by dsimp only [List.length_cons]; omega) rfl rfl Tryz.sz4 ?_); simp only [go_sem, simprocAttr, hF, hc0, hc1, hc2, hc3, Av.sopJ])
       | ((with_reducible refine sopsJ_go ?_); simp only [go_sem, simprocAttr, hF, hc0, hc1, hc2, hc3, Av.sopJ])
       | ((with_reducible refine sopsJ_end ?_); simp only [go_sem, simprocAttr, hF, hc0, hc1, hc2, hc3, Av.sopJ])
       | ((refine awp_regionJ (id := 1) [1000041, 1000050, 1000058, 1000059, 1000075, 1000083, 1000084, 1000110, 1000119, 1000120, 1000143] ?_); simp only [go_sem, simprocAttr, hF, hc0, hc1, hc2, hc3, Av.sopJ]))
      refine hR ⟨(s.1, true), Gd.bad rfl (by unfold bS; simp only [hc0, hc1, hc2, hc3, Bool.true_or, Bool.or_true])⟩ _ (sub_mk ?_)
      simp only [go_sem, simprocAttr, hF, hc0, hc1, hc2, hc3]
      all_goals (first | rfl | (repeat' (first | rfl | refine ⟨?_, ?_⟩)))
     | false =>
      try simp only [go_sem, simprocAttr, hF, hc0, hc1, hc2, hc3]
      repeat (first
       | ((refine hand_rawField rfl rfl (by decide) Tryz.underlying88 rfl (m := 0) rfl rfl ?_); simp only [go_sem, simprocAttr, hF, hc0, hc1, hc2, hc3, Av.sopJ])
       | ((refine hand_rawStore rfl rfl rfl rfl rfl (by dsimp only [List.length_cons]; omega) rfl rfl Tryz.sz4 ?_); simp only [go_sem, simprocAttr, hF, hc0, hc1, hc2, hc3, Av.sopJ])
       | ((with_reducible refine sopsJ_go ?_); simp only [go_sem, simprocAttr, hF, hc0, hc1, hc2, hc3, Av.sopJ])
       | ((with_reducible refine sopsJ_end ?_); simp only [go_sem, simprocAttr, hF, hc0, hc1, hc2, hc3, Av.sopJ])
       | ((refine awp_regionJ (id := 1) [1000041, 1000050, 1000058, 1000059, 1000075, 1000083, 1000084, 1000110, 1000119, 1000120, 1000143] ?_); simp only [go_sem, simprocAttr, hF, hc0, hc1, hc2, hc3, Av.sopJ]))
      refine hR ⟨(s.1, decide ((n.links.length : Int) > 1024)), ⟨fun h => ⟨by unfold bS; rw [hc0, hc1, hc2, hc3]; exact h, hT⟩, fun h => by unfold bS; rw [hc0, hc1, hc2, hc3]; exact h⟩⟩ _ (sub_mk ?_)
      simp only [go_sem, simprocAttr, hF, hc0, hc1, hc2, hc3]
      all_goals (first | rfl | (repeat' (first | rfl | refine ⟨?_, ?_⟩)))
 case hy =>
  intro i
  obtain ⟨s0, hg0⟩ := i
  dsimp only
  simp only [go_sem, simprocAttr, hF]
  repeat (first
   | (with_reducible refine sops_go ?_; simp only [go_sem, simprocAttr, hF])
   | with_reducible refine awp_seq_k fun _ _ => ?_
   | (with_reducible refine awp_region [1000041, 1000050, 1000058, 1000059, 1000075, 1000083, 1000084, 1000110, 1000119, 1000120, 1000143] ?_))
  refine hand_callX (put_okX (fun _ => True) b T (bS n) s0 hg0 wNetwork [n.nodes, n.noise, n.thr] hl0) E rfl (fun _ _ => trivial) rfl rfl (by decide) rfl rfl (fun i => ?_)
  obtain ⟨s1, hs1⟩ := i
  simp only [go_sem, simprocAttr, hF]
  obtain ⟨T0, hT0⟩ : ∃ T0, T ++ lineB wNetwork [n.nodes, n.noise, n.thr] ++ [10] = T0 := ⟨_, rfl⟩
  obtain ⟨B0, hB0⟩ : ∃ B0, (bS n || [n.nodes, n.noise, n.thr].any farB) = B0 := ⟨_, rfl⟩
  rw [hT0] at hl1
  rw [hT0, hB0] at hs1
  have hb0 : B0 = false → bS n = false := fun h => by rw [← hB0, Bool.or_eq_false_iff] at h; exact h.1
  repeat (first
   | (with_reducible refine awp_cutL (id := 3) (fun (i : GdS (T0 ++ txt (powL 0 n.power)) (B0 || n.power.any (misB n) || farL (powL 0 n.power))) σ => ⟨keepS [0, 3] σ.slot, [(3, n.pv)], [], E.and (rfE b i.1)⟩) ?hx ?hy)
   | (with_reducible refine sops_end ?_; simp only [go_sem, simprocAttr, hF])
   | go_step)
  case hx =>
   intro R hR
   repeat (first
    | ((first | with_reducible refine sops_go ?_ | with_reducible refine sops_end ?_); simp only [go_sem, simprocAttr, hF])
    | with_reducible (first | refine awp_seq_k fun _ _ => ?_ | refine awp_region [1000041, 1000050, 1000058, 1000059, 1000075, 1000083, 1000084, 1000110, 1000119, 1000120, 1000143] ?_ | refine awp_block ?_)
    | go_step)
   refine awp_loop_by (ι := (k : {k : Nat // k ≤ n.nodes.toNat}) × GdS (T0 ++ txt (powL 0 (n.power.take k.1))) (B0 || (n.power.take k.1).any (misB n) || farL (powL 0 (n.power.take k.1)))) (fun i σ => ⟨(4, iv (i.1.1 : Int)) :: keepS [0, 3] σ.slot, [(3, n.pv)], [], E.and (rfE b i.2.1)⟩) (fun i => n.nodes.toNat - i.1.1) ⟨⟨0, Nat.zero_le _⟩, ⟨s1, hs1.to (by simp [powL]) (by simp [powL])⟩⟩ (sub_mk ?_) (fun R1 hR1 i => ?_)
   · simp only [go_sem, simprocAttr, hF]
     repeat' (first | rfl | refine ⟨?_, ?_⟩)
   obtain ⟨⟨k, hk⟩, ⟨s2, hg2⟩⟩ := i
   dsimp only at hg2
   dsimp only
   simp only [go_sem, simprocAttr, hF]
   have hmono : s2.2 = true → (B0 || n.power.any (misB n) || farL (powL 0 n.power)) = true := fun h => by
    have h1 := hg2.no h
    rw [Bool.or_eq_true] at h1
    rcases h1 with h1 | h1
    · rw [any_mono h1]; rfl
    · exact pow_pre (k := k) (by rw [h1]; exact Bool.or_true _)
   have hfine : s2.2 = false → B0 = false ∧ (n.power.length : Int) = n.nodes ∧ n.nodes ≤ 32 := fun h => by
    have h1 := (hg2.ok h).1
    simp only [Bool.or_eq_false_iff] at h1
    have h2 := bS_inv (hb0 h1.1.1)
    exact ⟨h1.1.1, h2.2.2.1, h2.2.1⟩
   have hexit : GdS (T0 ++ txt (powL 0 n.power)) (B0 || n.power.any (misB n) || farL (powL 0 n.power)) → True := fun _ => trivial
   by_cases hlt : (k : Int) < n.nodes
   case neg =>
    have hd : decide ((k : Int) < n.nodes) = false := decide_eq_false hlt
    have hg3 : Gd (T0 ++ txt (powL 0 n.power)) (B0 || n.power.any (misB n) || farL (powL 0 n.power)) s2 := by
     cases h : s2.2 with
     | true => exact Gd.bad h (hmono h)
     | false =>
      have h1 := hfine h
      have e : n.power.take k = n.power := List.take_of_length_le (by omega)
      rw [e] at hg2
      exact hg2
    repeat (first
     | ((first | with_reducible refine sops_go ?_ | with_reducible refine sops_end ?_ | with_reducible refine awp_if ?_ | with_reducible refine awp_exit ?_); simp only [go_sem, simprocAttr, hF, hd])
     | with_reducible refine awp_seq_k fun _ _ => ?_
     | (with_reducible refine awp_region [1000041, 1000050, 1000058, 1000059, 1000075, 1000083, 1000084, 1000110, 1000119, 1000120, 1000143] ?_)
     | go_step)
    refine hR ⟨s2, hg3⟩ _ (sub_mk ?_)
    simp only [go_sem, simprocAttr, hF]
    all_goals (first | rfl | (repeat' (first | rfl | refine ⟨?_, ?_⟩)))
   have hd : decide ((k : Int) < n.nodes) = true := decide_eq_true hlt
   cases hs2 : s2.2 with
   | true =>
    repeat (first
     | ((first | refine hand_rawField rfl rfl (by decide) Tryz.underlying88 rfl (m := 0) rfl rfl ?_ | refine hand_rawLoad (dd := .bool) rfl rfl (by decide) rfl rfl rfl Tryz.underlying4 rfl ?_); simp only [go_sem, simprocAttr, hF, hd, hs2])
     | ((first | with_reducible refine sops_go ?_ | with_reducible refine sops_end ?_ | with_reducible refine awp_if ?_ | with_reducible refine awp_exit ?_); simp only [go_sem, simprocAttr, hF, hd, hs2])
     | with_reducible refine awp_seq_k fun _ _ => ?_
     | (with_reducible refine awp_region [1000041, 1000050, 1000058, 1000059, 1000075, 1000083, 1000084, 1000110, 1000119, 1000120, 1000143] ?_)
     | go_step)
    refine hR ⟨s2, Gd.bad hs2 (hmono hs2)⟩ _ (sub_mk ?_)
    simp only [go_sem, simprocAttr, hF]
    all_goals (first | rfl | (repeat' (first | rfl | refine ⟨?_, ?_⟩)))
   | false =>
    obtain ⟨hB00, hpl, hp32⟩ := hfine hs2
    have hkl : k < n.power.length := by omega
    obtain ⟨row, hdk⟩ := get_of_lt hkl
    have hw : IntKind.i64.wrap ((k : Int) + 1) = ((k + 1 : Nat) : Int) := by rw [IntKind.wrap_i64]; omega
    have hl2 := pow_room (T := T0) hdk (by omega : T0.length + (txt (powL 0 n.power)).length ≤ 140737488355328)
    have hps := powL_take_succ hdk
    have has := any_succ (p := misB n) hdk
    obtain ⟨T1, hT1⟩ : ∃ T1, T0 ++ txt (powL 0 (n.power.take k)) = T1 := ⟨_, rfl⟩
    obtain ⟨B1, hB1⟩ : ∃ B1, (B0 || (n.power.take k).any (misB n) || farL (powL 0 (n.power.take k))) = B1 := ⟨_, rfl⟩
    rw [hT1] at hl2
    rw [hT1, hB1] at hg2
    repeat (first
     | (with_reducible refine awp_cut (id := 6) (fun (i : GdS T1 (B1 || misB n row)) σ => ⟨keepS [0, 3, 4] σ.slot, [(3, n.pv)], [], E.and (rfE b i.1)⟩) ?hx6 ?hy6)
     | ((first | refine hand_rawField rfl rfl (by decide) Tryz.underlying88 rfl (m := 0) rfl rfl ?_ | refine hand_rawLoad (dd := .bool) rfl rfl (by decide) rfl rfl rfl Tryz.underlying4 rfl ?_); simp only [go_sem, simprocAttr, hF, hd, hs2, hdk, hkl])
     | ((first | with_reducible refine sops_go ?_ | with_reducible refine sops_end ?_ | with_reducible refine awp_if ?_ | with_reducible refine awp_skip ?_); simp only [go_sem, simprocAttr, hF, hd, hs2, hdk, hkl])
     | with_reducible (first | refine awp_seq_k fun _ _ => ?_ | refine awp_region [1000041, 1000050, 1000058, 1000059, 1000075, 1000083, 1000084, 1000110, 1000119, 1000120, 1000143] ?_ | refine awp_block ?_)
     | go_step)
    case hx6 =>
     intro R3 hR3
     repeat (first
      | ((refine hand_rawStore rfl rfl rfl rfl rfl (by dsimp only [List.length_cons]; omega) rfl rfl Tryz.sz4 ?_); simp only [go_sem, simprocAttr, hF, hd, hs2, hdk, hkl, Av.sopJ])
      | ((with_reducible refine sopsJ_end ?_); simp only [go_sem, simprocAttr, hF, hd, hs2, hdk, hkl, Av.sopJ])
      | (refine awp_drawJ (id := 6) [1000041, 1000050, 1000058, 1000059, 1000075, 1000083, 1000084, 1000110, 1000119, 1000120, 1000143] 12 (by kernel_rfl) (by kernel_rfl) rfl rfl (fun bx0 hbx => ?_); try dsimp only [List.take, List.drop])
      | ((refine ⟨_, handq_rawField rfl rfl (by decide) Tryz.underlying88 rfl (m := 0) rfl rfl, rfl, ?_⟩); simp only [go_sem, simprocAttr, hF, hd, hs2, hdk, hkl, hbx])
      | ((with_reducible refine headW_go ?_); simp only [go_sem, simprocAttr, hF, hd, hs2, hdk, hkl, hbx]))
     refine hR3 ⟨(s2.1, misB n row), hg2.or hs2⟩ _ (sub_mk ?_)
     simp only [go_sem, simprocAttr, hF]
     all_goals (first | rfl | (repeat' (first | rfl | refine ⟨?_, ?_⟩)))
    case hy6 =>
     intro i
     obtain ⟨s3, hg3⟩ := i
     obtain ⟨B2, hB2⟩ : ∃ B2, (B1 || misB n row) = B2 := ⟨_, rfl⟩
     rw [hB2] at hg3
     dsimp only
     simp only [go_sem, simprocAttr, hF]
     repeat (first
      | ((first | with_reducible refine sops_go ?_ | with_reducible refine sops_end ?_); simp only [go_sem, simprocAttr, hF])
      | with_reducible (first | refine awp_seq_k fun _ _ => ?_ | refine awp_region [1000041, 1000050, 1000058, 1000059, 1000075, 1000083, 1000084, 1000110, 1000119, 1000120, 1000143] ?_ | refine awp_block ?_)
      | go_step)
     refine awp_loop_by (ι := (j : {j : Nat // j ≤ n.nodes.toNat}) × GdS (T1 ++ txt (rowL k 0 (row.take j.1))) (B2 || farL (rowL k 0 (row.take j.1)))) (fun i σ => ⟨(5, iv (i.1.1 : Int)) :: keepS [0, 3, 4] σ.slot, [(3, n.pv)], [], E.and (rfE b i.2.1)⟩) (fun i => n.nodes.toNat - i.1.1) ⟨⟨0, Nat.zero_le _⟩, ⟨s3, hg3.to (by simp [rowL]) (by simp [rowL])⟩⟩ (sub_mk ?_) (fun R2 hR2 i => ?_)
     · simp only [go_sem, simprocAttr, hF]
       repeat' (first | rfl | refine ⟨?_, ?_⟩)
     obtain ⟨⟨j, hj⟩, ⟨s4, hg4⟩⟩ := i
     dsimp only at hg4
     dsimp only
     simp only [go_sem, simprocAttr, hF]
     have hBk : (B0 || (n.power.take (k + 1)).any (misB n) || farL (powL 0 (n.power.take (k + 1)))) = (B2 || farL (rowL k 0 row)) := by
      rw [has, hps, farL_append, ← hB2, ← hB1]
      cases B0 <;> cases (n.power.take k).any (misB n) <;> cases misB n row <;> cases farL (powL 0 (n.power.take k)) <;> cases farL (rowL k 0 row) <;> rfl
     have hTk : T0 ++ txt (powL 0 (n.power.take (k + 1))) = T1 ++ txt (rowL k 0 row) := by
      rw [hps, txt_append, ← List.append_assoc, hT1]
     have hrl : s4.2 = false → (row.length : Int) = n.nodes := fun h => by
      have h1 := (hg4.ok h).1
      rw [Bool.or_eq_false_iff] at h1
      have h2 := h1.1
      rw [← hB2, Bool.or_eq_false_iff] at h2
      simpa [misB] using h2.2
     by_cases hlj : (j : Int) < n.nodes
     case neg =>
      have hd2 : decide ((j : Int) < n.nodes) = false := decide_eq_false hlj
      have hg5 : Gd (T0 ++ txt (powL 0 (n.power.take (k + 1)))) (B0 || (n.power.take (k + 1)).any (misB n) || farL (powL 0 (n.power.take (k + 1)))) s4 := by
       rw [hBk, hTk]
       cases h : s4.2 with
       | true => exact Gd.bad h (row_pre (hg4.no h))
       | false =>
        have h1 := hrl h
        have e : row.take j = row := List.take_of_length_le (by omega)
        rw [e] at hg4
        exact hg4
      repeat (first
       | ((first | with_reducible refine sops_go ?_ | with_reducible refine sops_end ?_ | with_reducible refine awp_if ?_ | with_reducible refine awp_exit ?_); simp only [go_sem, simprocAttr, hF, hd2, hw])
       | with_reducible refine awp_seq_k fun _ _ => ?_
       | (with_reducible refine awp_region [1000041, 1000050, 1000058, 1000059, 1000075, 1000083, 1000084, 1000110, 1000119, 1000120, 1000143] ?_)
       | go_step)
      refine ⟨⟨⟨k + 1, by omega⟩, ⟨s4, hg5⟩⟩, by dsimp only; omega, hR1 _ _ (sub_mk ?_)⟩
      simp only [go_sem, simprocAttr, hF]
     have hd2 : decide ((j : Int) < n.nodes) = true := decide_eq_true hlj
     cases hs4 : s4.2 with
     | true =>
      have hg5 : Gd (T0 ++ txt (powL 0 (n.power.take (k + 1)))) (B0 || (n.power.take (k + 1)).any (misB n) || farL (powL 0 (n.power.take (k + 1)))) s4 := by
       rw [hBk, hTk]
       exact Gd.bad hs4 (row_pre (hg4.no hs4))
      repeat (first
       | ((first | refine hand_rawField rfl rfl (by decide) Tryz.underlying88 rfl (m := 0) rfl rfl ?_ | refine hand_rawLoad (dd := .bool) rfl rfl (by decide) rfl rfl rfl Tryz.underlying4 rfl ?_); simp only [go_sem, simprocAttr, hF, hd2, hs4, hw])
       | ((first | with_reducible refine sops_go ?_ | with_reducible refine sops_end ?_ | with_reducible refine awp_if ?_ | with_reducible refine awp_exit ?_); simp only [go_sem, simprocAttr, hF, hd2, hs4, hw])
       | with_reducible refine awp_seq_k fun _ _ => ?_
       | (with_reducible refine awp_region [1000041, 1000050, 1000058, 1000059, 1000075, 1000083, 1000084, 1000110, 1000119, 1000120, 1000143] ?_)
       | go_step)
      refine ⟨⟨⟨k + 1, by omega⟩, ⟨s4, hg5⟩⟩, by dsimp only; omega, hR1 _ _ (sub_mk ?_)⟩
      simp only [go_sem, simprocAttr, hF]
     | false =>
      have hr1 := hrl hs4
      have hjl : j < row.length := by omega
      obtain ⟨p, hdj⟩ := get_of_lt hjl
      have hw2 : IntKind.i64.wrap ((j : Int) + 1) = ((j + 1 : Nat) : Int) := by rw [IntKind.wrap_i64]; omega
      obtain ⟨T2, hT2⟩ : ∃ T2, T1 ++ txt (rowL k 0 (row.take j)) = T2 := ⟨_, rfl⟩
      obtain ⟨B3, hB3⟩ : ∃ B3, (B2 || farL (rowL k 0 (row.take j))) = B3 := ⟨_, rfl⟩
      have hsucc := rowL_take_succ (a := k) hdj
      by_cases hp : p = 0
      · have hpb : (p != 0) = false := by simp [hp]
        rw [if_pos hp, List.append_nil] at hsucc
        repeat (first
         | ((first | refine hand_rawField rfl rfl (by decide) Tryz.underlying88 rfl (m := 0) rfl rfl ?_ | refine hand_rawLoad (dd := .bool) rfl rfl (by decide) rfl rfl rfl Tryz.underlying4 rfl ?_); simp only [go_sem, simprocAttr, hF, hd2, hdj, hdk, hkl, hjl, hw2, hpb, hs4])
         | ((first | with_reducible refine sops_go ?_ | with_reducible refine sops_end ?_ | with_reducible refine awp_if ?_ | with_reducible refine awp_skip ?_); simp only [go_sem, simprocAttr, hF, hd2, hdj, hdk, hkl, hjl, hw2, hpb, hs4])
         | with_reducible (first | refine awp_seq_k fun _ _ => ?_ | refine awp_region [1000041, 1000050, 1000058, 1000059, 1000075, 1000083, 1000084, 1000110, 1000119, 1000120, 1000143] ?_ | refine awp_block ?_)
         | go_step)
        refine ⟨⟨⟨j + 1, by omega⟩, ⟨s4, by rw [hsucc]; exact hg4⟩⟩, by dsimp only; omega, hR2 _ _ (sub_mk ?_)⟩
        simp only [go_sem, simprocAttr, hF]
      have hpb : (p != 0) = true := by simpa using hp
      have hl3 := row_room hdj hp hl2
      rw [if_neg hp] at hsucc
      rw [hT2] at hl3
      rw [hT2, hB3] at hg4
      repeat (first
       | ((first | refine hand_rawField rfl rfl (by decide) Tryz.underlying88 rfl (m := 0) rfl rfl ?_ | refine hand_rawLoad (dd := .bool) rfl rfl (by decide) rfl rfl rfl Tryz.underlying4 rfl ?_); simp only [go_sem, simprocAttr, hF, hd2, hdj, hdk, hkl, hjl, hw2, hpb, hs4])
       | ((first | with_reducible refine sops_go ?_ | with_reducible refine sops_end ?_ | with_reducible refine awp_if ?_ | with_reducible refine awp_skip ?_); simp only [go_sem, simprocAttr, hF, hd2, hdj, hdk, hkl, hjl, hw2, hpb, hs4])
       | with_reducible (first | refine awp_seq_k fun _ _ => ?_ | refine awp_region [1000041, 1000050, 1000058, 1000059, 1000075, 1000083, 1000084, 1000110, 1000119, 1000120, 1000143] ?_ | refine awp_block ?_)
       | go_step)
      refine hand_callX (put_okX (fun _ => True) b T2 B3 s4 hg4 wPower [(k : Int), (j : Int), p] hl3) E rfl (fun _ _ => trivial) rfl rfl (by decide) rfl rfl (fun i => ?_)
      obtain ⟨s5, hs5⟩ := i
      simp only [go_sem, simprocAttr, hF]
      repeat (first
       | ((first | with_reducible refine sops_go ?_ | with_reducible refine sops_end ?_); simp only [go_sem, simprocAttr, hF, hd2, hdj, hdk, hkl, hjl, hw2, hpb])
       | (with_reducible refine awp_region [1000041, 1000050, 1000058, 1000059, 1000075, 1000083, 1000084, 1000110, 1000119, 1000120, 1000143] ?_)
       | go_step)
      refine ⟨⟨⟨j + 1, by omega⟩, ⟨s5, hs5.to (by rw [hsucc, txt_append, txt_one, ← List.append_assoc, hT2]; simp only [List.append_assoc]) (by rw [hsucc, farL_append, farL_one, ← Bool.or_assoc, hB3])⟩⟩, by dsimp only; omega, hR2 _ _ (sub_mk ?_)⟩
      simp only [go_sem, simprocAttr, hF]
  case hy =>
   intro i
   obtain ⟨s2, hg2⟩ := i
   dsimp only
   simp only [go_sem, simprocAttr, hF]
   have hl2 : (T0 ++ txt (powL 0 n.power)).length + (txt (linkL n)).length ≤ 140737488355328 := by rw [List.length_append]; omega
   obtain ⟨T1, hT1⟩ : ∃ T1, T0 ++ txt (powL 0 n.power) = T1 := ⟨_, rfl⟩
   obtain ⟨B1, hB1⟩ : ∃ B1, (B0 || n.power.any (misB n) || farL (powL 0 n.power)) = B1 := ⟨_, rfl⟩
   rw [hT1] at hl2
   rw [hT1, hB1] at hg2
   have hb1 : B1 = false → bS n = false := fun h => by
    rw [← hB1] at h
    simp only [Bool.or_eq_false_iff] at h
    exact hb0 h.1.1
   repeat (first
    | ((first | with_reducible refine sops_go ?_ | with_reducible refine sops_end ?_); simp only [go_sem, simprocAttr, hF])
    | with_reducible (first | refine awp_seq_k fun _ _ => ?_ | refine awp_region [1000041, 1000050, 1000058, 1000059, 1000075, 1000083, 1000084, 1000110, 1000119, 1000120, 1000143] ?_ | refine awp_block ?_)
    | go_step)
   refine awp_loop_by (ι := (j : {j : Nat // j ≤ n.links.length}) × GdS (T1 ++ txt (((n.links.zip n.margin).take j.1).map lkL)) (B1 || farL (((n.links.zip n.margin).take j.1).map lkL))) (fun i σ => ⟨(6, iv (i.1.1 : Int)) :: keepS [0, 3] σ.slot, [(3, n.pv)], [], E.and (rfE b i.2.1)⟩) (fun i => n.links.length - i.1.1) ⟨⟨0, Nat.zero_le _⟩, ⟨s2, hg2.to (by simp) (by simp)⟩⟩ (sub_mk ?_) (fun R2 hR2 i => ?_)
   · simp only [go_sem, simprocAttr, hF]
     repeat' (first | rfl | refine ⟨?_, ?_⟩)
   obtain ⟨⟨j, hj⟩, ⟨s3, hg3⟩⟩ := i
   dsimp only at hg3
   dsimp only
   simp only [go_sem, simprocAttr, hF]
   have hBf : (!shaped n || farL (netL n)) = (B1 || farL (linkL n)) := by
    rw [shaped_bS, ← hB1, ← hB0]
    unfold netL
    rw [show (wNetwork, [n.nodes, n.noise, n.thr]) :: (powL 0 n.power ++ linkL n) = [(wNetwork, [n.nodes, n.noise, n.thr])] ++ (powL 0 n.power ++ linkL n) from rfl, farL_append, farL_append, farL_one]
    generalize bS n = x1
    generalize n.power.any (misB n) = x2
    generalize [n.nodes, n.noise, n.thr].any farB = x3
    generalize farL (powL 0 n.power) = x4
    generalize farL (linkL n) = x5
    cases x1 <;> cases x2 <;> cases x3 <;> cases x4 <;> cases x5 <;> rfl
   have hTf : T ++ txt (netL n) = T1 ++ txt (linkL n) := by
    rw [← hT1, ← hT0]
    unfold netL
    rw [txt_cons, txt_append]
    simp only [List.append_assoc]
   have hlm : s3.2 = false → n.links.length = n.margin.length ∧ n.links.length ≤ 1024 := fun h => by
    have h1 := (hg3.ok h).1
    rw [Bool.or_eq_false_iff] at h1
    have h2 := bS_inv (hb1 h1.1)
    exact ⟨h2.2.2.2.1, h2.2.2.2.2⟩
   by_cases hlj : j < n.links.length
   case neg =>
    have hd2 : decide ((j : Int) < (n.links.length : Int)) = false := decide_eq_false (by omega)
    have hg4 : Gd (T ++ txt (netL n)) (!shaped n || farL (netL n)) s3 := by
     rw [hBf, hTf]
     cases h : s3.2 with
     | true => exact Gd.bad h (map_pre (f := lkL) (hg3.no h))
     | false =>
      have e : (n.links.zip n.margin).take j = (n.links.zip n.margin) := List.take_of_length_le (by rw [List.length_zip]; omega)
      rw [e] at hg3
      exact hg3
    repeat (first
     | ((first | with_reducible refine sops_go ?_ | with_reducible refine sops_end ?_ | with_reducible refine awp_if ?_ | with_reducible refine awp_exit ?_); simp only [go_sem, simprocAttr, hF, hd2])
     | with_reducible refine awp_seq_k fun _ _ => ?_
     | (with_reducible refine awp_region [1000041, 1000050, 1000058, 1000059, 1000075, 1000083, 1000084, 1000110, 1000119, 1000120, 1000143] ?_)
     | go_step)
    exact ⟨⟨s3, hg4⟩, rfl⟩
   have hd2 : decide ((j : Int) < (n.links.length : Int)) = true := decide_eq_true (by omega)
   cases hs3 : s3.2 with
   | true =>
    repeat (first
     | ((first | refine hand_rawField rfl rfl (by decide) Tryz.underlying88 rfl (m := 0) rfl rfl ?_ | refine hand_rawLoad (dd := .bool) rfl rfl (by decide) rfl rfl rfl Tryz.underlying4 rfl ?_); simp only [go_sem, simprocAttr, hF, hd2, hs3])
     | ((first | with_reducible refine sops_go ?_ | with_reducible refine sops_end ?_ | with_reducible refine awp_if ?_ | with_reducible refine awp_exit ?_); simp only [go_sem, simprocAttr, hF, hd2, hs3])
     | with_reducible refine awp_seq_k fun _ _ => ?_
     | (with_reducible refine awp_region [1000041, 1000050, 1000058, 1000059, 1000075, 1000083, 1000084, 1000110, 1000119, 1000120, 1000143] ?_)
     | go_step)
    exact ⟨⟨s3, by rw [hBf, hTf]; exact Gd.bad hs3 (map_pre (f := lkL) (hg3.no hs3))⟩, rfl⟩
   | false =>
    obtain ⟨hml, hm10⟩ := hlm hs3
    obtain ⟨x, hdx⟩ := get_of_lt hlj
    obtain ⟨m, hdm⟩ := get_of_lt (show j < n.margin.length by omega)
    have hdz : (n.links.zip n.margin)[j]? = some (x, m) := by
     rw [List.getElem?_zip_eq_some]
     exact ⟨hdx, hdm⟩
    have hw2 : IntKind.i64.wrap ((j : Int) + 1) = ((j + 1 : Nat) : Int) := by rw [IntKind.wrap_i64]; omega
    have hmg : j < n.margin.length := by omega
    have hl3 := map_room (f := lkL) hdz hl2
    have htx := map_txt_succ (f := lkL) hdz
    have hfx := map_far_succ (f := lkL) hdz
    obtain ⟨T2, hT2⟩ : ∃ T2, T1 ++ txt (((n.links.zip n.margin).take j).map lkL) = T2 := ⟨_, rfl⟩
    obtain ⟨B2, hB2⟩ : ∃ B2, (B1 || farL (((n.links.zip n.margin).take j).map lkL)) = B2 := ⟨_, rfl⟩
    rw [hT2] at hl3
    rw [hT2, hB2] at hg3
    repeat (first
     | ((first | refine hand_rawField rfl rfl (by decide) Tryz.underlying88 rfl (m := 0) rfl rfl ?_ | refine hand_rawLoad (dd := .bool) rfl rfl (by decide) rfl rfl rfl Tryz.underlying4 rfl ?_); simp only [go_sem, simprocAttr, hF, hd2, hdx, hdm, hlj, hmg, hs3])
     | ((first | with_reducible refine sops_go ?_ | with_reducible refine headW_end ?_ | with_reducible refine sops_end ?_ | with_reducible refine awp_if ?_ | with_reducible refine awp_skip ?_); simp only [go_sem, simprocAttr, hF, hd2, hdx, hdm, hlj, hmg, hs3])
     | ((with_reducible refine headW_go ?_); simp only [go_sem, simprocAttr, hF, hd2, hdx, hdm, hlj, hmg, hs3, hbx])
     | with_reducible refine awp_seq_k fun _ _ => ?_
     | (refine awp_draw' (id := 16) [1000041, 1000050, 1000058, 1000059, 1000075, 1000083, 1000084, 1000110, 1000119, 1000120, 1000143] 13 (by kernel_rfl) (by kernel_rfl) rfl rfl (fun bx0 hbx => ?_); try dsimp only [List.take, List.drop])
     | with_reducible (first | refine awp_region [1000041, 1000050, 1000058, 1000059, 1000075, 1000083, 1000084, 1000110, 1000119, 1000120, 1000143] ?_ | refine awp_block ?_)
     | go_step)
    refine hand_callX (put_okX (fun _ => True) b T2 B2 s3 hg3 wLink [x.fr, x.to, x.ls, m] hl3) E rfl (fun _ _ => trivial) rfl rfl (by decide) rfl rfl (fun i => ?_)
    obtain ⟨s4, hs4⟩ := i
    simp only [go_sem, simprocAttr, hF]
    repeat (first
     | ((first | with_reducible refine sops_go ?_ | with_reducible refine sops_end ?_); simp only [go_sem, simprocAttr, hF, hd2, hdx, hdm, hlj, hmg, hw2])
     | (with_reducible refine awp_region [1000041, 1000050, 1000058, 1000059, 1000075, 1000083, 1000084, 1000110, 1000119, 1000120, 1000143] ?_)
     | go_step)
    refine ⟨⟨⟨j + 1, hlj⟩, ⟨s4, hs4.to (by rw [htx, ← List.append_assoc, hT2]; simp only [List.append_assoc]; rfl) (by rw [hfx, ← Bool.or_assoc, hB2]; rfl)⟩⟩, by dsimp only; omega, hR2 _ _ (sub_mk ?_)⟩
    simp only [go_sem, simprocAttr, hF]
/- The reference: Format. -/
attribute [local go_sem] Tryz.sz94 Tryz.zr94 Tryz.by94 Tryz.pl94 Tryz.is94 Tryz.underlying94 Tryz.sz91 Tryz.zr91 Tryz.by91 Tryz.pl91 Tryz.is91 Tryz.underlying91 Av.startStC Av.sopX Av.bxf Av.xof Av.takesS
def cLr (c : Ce) : Ln := (wCell, c.nums)

theorem longX_or (x : Sn) : longX x = (decide ((x.cells.length : Int) > 1024) || decide ((x.changes.length : Int) > 1024) || decide ((x.weak.length : Int) > 1024) || decide ((x.outs.length : Int) > 1024)) := by
 unfold longX
 rw [Bool.eq_iff_iff]
 simp only [Bool.or_eq_true, decide_eq_true_eq]
 omega
theorem txt_lines (x : Sn) : txt (linesOf x) = txt (netL x.net) ++ txt (reqL wBefore x.before) ++ txt (reqL wAfter x.after) ++ lineB wSchedule [x.len, x.offs] ++ [10] ++ txt (x.cells.map cLr) ++ txt (x.changes.map chL) ++ txt (x.weak.map wkL) ++ txt (x.outs.map ogL) ++ lineB wSlots [x.slots] ++ [10] := by
 unfold linesOf tailL
 simp only [txt_append, txt_cons, txt_nil, List.append_assoc, List.append_nil]
 rfl
theorem badB_all (x : Sn) : badB x = (farL (netL x.net) || qsBad x.before || qsBad x.after || [x.len, x.offs].any farB || farL (x.cells.map cLr) || farL (x.changes.map chL) || farL (x.weak.map wkL) || farL (x.outs.map ogL) || [x.slots].any farB) := by
 unfold badB tailL
 rw [show (wSchedule, [x.len, x.offs]) :: (x.cells.map (fun c => (wCell, c.nums)) ++ (x.changes.map chL ++ (x.weak.map wkL ++ (x.outs.map ogL ++ [(wSlots, [x.slots])])))) = [(wSchedule, [x.len, x.offs])] ++ (x.cells.map cLr ++ (x.changes.map chL ++ (x.weak.map wkL ++ (x.outs.map ogL ++ [(wSlots, [x.slots])])))) from rfl]
 simp only [farL_append, farL_one, Bool.or_assoc]
theorem lines_room {x : Sn} {M : Nat} (hlen : (txt (linesOf x)).length ≤ M) : (txt (netL x.net)).length + ((txt (reqL wBefore x.before)).length + ((txt (reqL wAfter x.after)).length + ((lineB wSchedule [x.len, x.offs]).length + 1 + ((txt (x.cells.map cLr)).length + ((txt (x.changes.map chL)).length + ((txt (x.weak.map wkL)).length + ((txt (x.outs.map ogL)).length + ((lineB wSlots [x.slots]).length + 1)))))))) ≤ M := by
 rw [txt_lines] at hlen
 simp only [List.length_append, List.length_cons, List.length_nil] at hlen
 omega

set_option maxHeartbeats 4000000 in
theorem rformat_okC (x : Sn) (hq0 : (txt (netL x.net)).length + ((txt (reqL wBefore x.before)).length + ((txt (reqL wAfter x.after)).length + ((lineB wSchedule [x.len, x.offs]).length + 1 + ((lineB wSlots [x.slots]).length + 1)))) ≤ 140737488355328) (hlen : longX x = false → (txt (linesOf x)).length ≤ 140737488355328) : FnOKC Tryz.prog (fun _ => True) 12 [.agg x.pv] ⟨.tup [.c (.v (.string (fmt x).1)), .c (ip (fmt x).2)], none⟩ := by
 refine fn_okC (C := (fun _ => True)) Tryz.func12 (by kernel_rfl) rfl (by rw [Tryz.ntmps12]; exact of_decide_eq_true rfl) (fun F hF => ?_)
 rw [Tryz.ntmps12] at hF
 rw [Tryz.results12]
 repeat (first
  | ((first | with_reducible refine sops_go ?_ | with_reducible refine sops_end ?_); simp only [go_sem, simprocAttr, hF])
  | with_reducible refine awp_seq_k fun _ _ => ?_
  | (with_reducible refine awp_region [1000013, 1000017, 1000021, 1000025, 1000034, 1000038, 1000039, 1000066, 1000076, 1000077, 1000090, 1000099, 1000100, 1000128, 1000137, 1000138, 1000160, 1000169, 1000170, 1000188, 1000193, 1000196, 1000197, 1000200, 1000201] ?_)
  | go_step)
 refine hand_boxRaw [.string ⟨#[]⟩, .bool false] rfl rfl (by decide) rfl (fun b => ?_)
 simp only [go_sem, simprocAttr, hF]
 repeat (first
  | ((first | with_reducible refine sops_go ?_ | with_reducible refine sops_end ?_); simp only [go_sem, simprocAttr, hF])
  | with_reducible refine awp_seq_k fun _ _ => ?_
  | (with_reducible refine awp_region [1000013, 1000017, 1000021, 1000025, 1000034, 1000038, 1000039, 1000066, 1000076, 1000077, 1000090, 1000099, 1000100, 1000128, 1000137, 1000138, 1000160, 1000169, 1000170, 1000188, 1000193, 1000196, 1000197, 1000200, 1000201] ?_)
  | go_step)
 refine hand_callX (rnet_okX b [] (⟨#[]⟩, false) rfl x.net (by simp only [List.length_nil]; omega)) (laidE (fun _ => True)) rfl (fun _ _ => trivial) rfl rfl (by decide) rfl rfl (fun i => ?_)
 obtain ⟨s1, hg1⟩ := i
 simp only [go_sem, simprocAttr, hF]
 obtain ⟨T1, hT1⟩ : ∃ T, [] ++ txt (netL x.net) = T := ⟨_, rfl⟩
 obtain ⟨B1, hB1⟩ : ∃ B, (!shaped x.net || farL (netL x.net)) = B := ⟨_, rfl⟩
 have hl1 : T1.length = (txt (netL x.net)).length := by rw [← hT1]; rfl
 rw [hT1, hB1] at hg1
 repeat (first
  | ((first | with_reducible refine sops_go ?_ | with_reducible refine sops_end ?_); simp only [go_sem, simprocAttr, hF])
  | with_reducible refine awp_seq_k fun _ _ => ?_
  | (with_reducible refine awp_region [1000013, 1000017, 1000021, 1000025, 1000034, 1000038, 1000039, 1000066, 1000076, 1000077, 1000090, 1000099, 1000100, 1000128, 1000137, 1000138, 1000160, 1000169, 1000170, 1000188, 1000193, 1000196, 1000197, 1000200, 1000201] ?_)
  | go_step)
 refine hand_callX (rreq_okX b T1 B1 s1 hg1 wBefore x.before (by omega)) (laidE (fun _ => True)) rfl (fun _ _ => trivial) rfl rfl (by decide) rfl rfl (fun i => ?_)
 obtain ⟨s2, hg2⟩ := i
 simp only [go_sem, simprocAttr, hF]
 obtain ⟨T2, hT2⟩ : ∃ T, T1 ++ txt (reqL wBefore x.before) = T := ⟨_, rfl⟩
 obtain ⟨B2, hB2⟩ : ∃ B, (B1 || qsBad x.before) = B := ⟨_, rfl⟩
 have hl2 : T2.length = T1.length + (txt (reqL wBefore x.before)).length := by rw [← hT2, List.length_append]
 rw [hT2, hB2] at hg2
 repeat (first
  | ((first | with_reducible refine sops_go ?_ | with_reducible refine sops_end ?_); simp only [go_sem, simprocAttr, hF])
  | with_reducible refine awp_seq_k fun _ _ => ?_
  | (with_reducible refine awp_region [1000013, 1000017, 1000021, 1000025, 1000034, 1000038, 1000039, 1000066, 1000076, 1000077, 1000090, 1000099, 1000100, 1000128, 1000137, 1000138, 1000160, 1000169, 1000170, 1000188, 1000193, 1000196, 1000197, 1000200, 1000201] ?_)
  | go_step)
 refine hand_callX (rreq_okX b T2 B2 s2 hg2 wAfter x.after (by omega)) (laidE (fun _ => True)) rfl (fun _ _ => trivial) rfl rfl (by decide) rfl rfl (fun i => ?_)
 obtain ⟨s3, hg3⟩ := i
 simp only [go_sem, simprocAttr, hF]
 obtain ⟨T3, hT3⟩ : ∃ T, T2 ++ txt (reqL wAfter x.after) = T := ⟨_, rfl⟩
 obtain ⟨B3, hB3⟩ : ∃ B, (B2 || qsBad x.after) = B := ⟨_, rfl⟩
 have hl3 : T3.length = T2.length + (txt (reqL wAfter x.after)).length := by rw [← hT3, List.length_append]
 rw [hT3, hB3] at hg3
 repeat (first
  | ((first | with_reducible refine sops_go ?_ | with_reducible refine sops_end ?_); simp only [go_sem, simprocAttr, hF])
  | with_reducible refine awp_seq_k fun _ _ => ?_
  | (with_reducible refine awp_region [1000013, 1000017, 1000021, 1000025, 1000034, 1000038, 1000039, 1000066, 1000076, 1000077, 1000090, 1000099, 1000100, 1000128, 1000137, 1000138, 1000160, 1000169, 1000170, 1000188, 1000193, 1000196, 1000197, 1000200, 1000201] ?_)
  | go_step)
 refine hand_callX (put_okX (fun _ => True) b T3 B3 s3 hg3 wSchedule [x.len, x.offs] (by omega)) (laidE (fun _ => True)) rfl (fun _ _ => trivial) rfl rfl (by decide) rfl rfl (fun i => ?_)
 obtain ⟨s4, hs4⟩ := i
 simp only [go_sem, simprocAttr, hF]
 obtain ⟨T4, hT4⟩ : ∃ T, T3 ++ lineB wSchedule [x.len, x.offs] ++ [10] = T := ⟨_, rfl⟩
 obtain ⟨B4, hB4⟩ : ∃ B, (B3 || [x.len, x.offs].any farB) = B := ⟨_, rfl⟩
 have hl4 : T4.length = T3.length + (lineB wSchedule [x.len, x.offs]).length + 1 := by rw [← hT4, List.length_append, List.length_append]; rfl
 rw [hT4, hB4] at hs4
 repeat (first
  | (with_reducible refine awp_cut (id := 6) (fun (i : GdS T4 (B4 || longX x)) σ => ⟨keepS [1, 4] σ.slot, [(1, x.pv)], [], (laidE (fun _ => True)).and (rfE b i.1)⟩) ?hxa ?hya)
  | (with_reducible refine sops_end ?_; simp only [go_sem, simprocAttr, hF])
  | go_step)
 case hxa =>
  intro R hR
  cases hb : s4.2 with
  | true =>
   try simp only [go_sem, simprocAttr, hF, hb]
   repeat (first
    | ((first | refine hand_rawField rfl rfl (by decide) Tryz.underlying88 rfl (m := 0) rfl rfl ?_ | refine hand_rawLoad (dd := .bool) rfl rfl (by decide) rfl rfl rfl Tryz.underlying4 rfl ?_); simp only [go_sem, simprocAttr, hF, hb, Av.sopJ])
    | ((refine hand_rawStore rfl rfl rfl rfl rfl (by dsimp only [List.length_cons]; omega) rfl rfl Tryz.sz4 ?_); simp only [go_sem, simprocAttr, hF, hb, Av.sopJ])
    | ((with_reducible refine sopsJ_go ?_); simp only [go_sem, simprocAttr, hF, hb, Av.sopJ])
    | ((with_reducible refine sopsJ_end ?_); simp only [go_sem, simprocAttr, hF, hb, Av.sopJ])
    | ((refine awp_regionJ (id := 6) [1000013, 1000017, 1000021, 1000025, 1000034, 1000038, 1000039, 1000066, 1000076, 1000077, 1000090, 1000099, 1000100, 1000128, 1000137, 1000138, 1000160, 1000169, 1000170, 1000188, 1000193, 1000196, 1000197, 1000200, 1000201] ?_); simp only [go_sem, simprocAttr, hF, hb, Av.sopJ]))
   refine hR ⟨(s4.1, true), hs4.orT hb⟩ _ (sub_mk ?_)
   simp only [go_sem, simprocAttr, hF]
   all_goals (first | rfl | (repeat' (first | rfl | refine ⟨?_, ?_⟩)))
  | false =>
   cases hc0 : decide ((x.cells.length : Int) > 1024) with
   | true =>
    try simp only [go_sem, simprocAttr, hF, hb, hc0]
    repeat (first
     | ((first | refine hand_rawField rfl rfl (by decide) Tryz.underlying88 rfl (m := 0) rfl rfl ?_ | refine hand_rawLoad (dd := .bool) rfl rfl (by decide) rfl rfl rfl Tryz.underlying4 rfl ?_); simp only [go_sem, simprocAttr, hF, hb, hc0, Av.sopJ])
     | ((refine hand_rawStore rfl rfl rfl rfl rfl (by dsimp only [List.length_cons]; omega) rfl rfl Tryz.sz4 ?_); simp only [go_sem, simprocAttr, hF, hb, hc0, Av.sopJ])
     | ((with_reducible refine sopsJ_go ?_); simp only [go_sem, simprocAttr, hF, hb, hc0, Av.sopJ])
     | ((with_reducible refine sopsJ_end ?_); simp only [go_sem, simprocAttr, hF, hb, hc0, Av.sopJ])
     | ((refine awp_regionJ (id := 6) [1000013, 1000017, 1000021, 1000025, 1000034, 1000038, 1000039, 1000066, 1000076, 1000077, 1000090, 1000099, 1000100, 1000128, 1000137, 1000138, 1000160, 1000169, 1000170, 1000188, 1000193, 1000196, 1000197, 1000200, 1000201] ?_); simp only [go_sem, simprocAttr, hF, hb, hc0, Av.sopJ]))
    refine hR ⟨(s4.1, true), Gd.bad rfl (by rw [longX_or]; simp only [hc0, Bool.true_or, Bool.or_true])⟩ _ (sub_mk ?_)
    simp only [go_sem, simprocAttr, hF]
    all_goals (first | rfl | (repeat' (first | rfl | refine ⟨?_, ?_⟩)))
   | false =>
    cases hc1 : decide ((x.changes.length : Int) > 1024) with
    | true =>
     try simp only [go_sem, simprocAttr, hF, hb, hc0, hc1]
     repeat (first
      | ((first | refine hand_rawField rfl rfl (by decide) Tryz.underlying88 rfl (m := 0) rfl rfl ?_ | refine hand_rawLoad (dd := .bool) rfl rfl (by decide) rfl rfl rfl Tryz.underlying4 rfl ?_); simp only [go_sem, simprocAttr, hF, hb, hc0, hc1, Av.sopJ])
      | ((refine hand_rawStore rfl rfl rfl rfl rfl (by dsimp only [List.length_cons]; omega) rfl rfl Tryz.sz4 ?_); simp only [go_sem, simprocAttr, hF, hb, hc0, hc1, Av.sopJ])
      | ((with_reducible refine sopsJ_go ?_); simp only [go_sem, simprocAttr, hF, hb, hc0, hc1, Av.sopJ])
      | ((with_reducible refine sopsJ_end ?_); simp only [go_sem, simprocAttr, hF, hb, hc0, hc1, Av.sopJ])
      | ((refine awp_regionJ (id := 6) [1000013, 1000017, 1000021, 1000025, 1000034, 1000038, 1000039, 1000066, 1000076, 1000077, 1000090, 1000099, 1000100, 1000128, 1000137, 1000138, 1000160, 1000169, 1000170, 1000188, 1000193, 1000196, 1000197, 1000200, 1000201] ?_); simp only [go_sem, simprocAttr, hF, hb, hc0, hc1, Av.sopJ]))
     refine hR ⟨(s4.1, true), Gd.bad rfl (by rw [longX_or]; simp only [hc0, hc1, Bool.true_or, Bool.or_true])⟩ _ (sub_mk ?_)
     simp only [go_sem, simprocAttr, hF]
     all_goals (first | rfl | (repeat' (first | rfl | refine ⟨?_, ?_⟩)))
    | false =>
     cases hc2 : decide ((x.weak.length : Int) > 1024) with
     | true =>
      try simp only [go_sem, simprocAttr, hF, hb, hc0, hc1, hc2]
      repeat (first
       | ((first | refine hand_rawField rfl rfl (by decide) Tryz.underlying88 rfl (m := 0) rfl rfl ?_ | refine hand_rawLoad (dd := .bool) rfl rfl (by decide) rfl rfl rfl Tryz.underlying4 rfl ?_); simp only [go_sem, simprocAttr, hF, hb, hc0, hc1, hc2, Av.sopJ])
       | ((refine hand_rawStore rfl rfl rfl rfl rfl (by dsimp only [List.length_cons]; omega) rfl rfl Tryz.sz4 ?_); simp only [go_sem, simprocAttr, hF, hb, hc0, hc1, hc2, Av.sopJ])
       | ((with_reducible refine sopsJ_go ?_); simp only [go_sem, simprocAttr, hF, hb, hc0, hc1, hc2, Av.sopJ])
       | ((with_reducible refine sopsJ_end ?_); simp only [go_sem, simprocAttr, hF, hb, hc0, hc1, hc2, Av.sopJ])
       | ((refine awp_regionJ (id := 6) [1000013, 1000017, 1000021, 1000025, 1000034, 1000038, 1000039, 1000066, 1000076, 1000077, 1000090, 1000099, 1000100, 1000128, 1000137, 1000138, 1000160, 1000169, 1000170, 1000188, 1000193, 1000196, 1000197, 1000200, 1000201] ?_); simp only [go_sem, simprocAttr, hF, hb, hc0, hc1, hc2, Av.sopJ]))
      refine hR ⟨(s4.1, true), Gd.bad rfl (by rw [longX_or]; simp only [hc0, hc1, hc2, Bool.true_or, Bool.or_true])⟩ _ (sub_mk ?_)
      simp only [go_sem, simprocAttr, hF]
      all_goals (first | rfl | (repeat' (first | rfl | refine ⟨?_, ?_⟩)))
     | false =>
      try simp only [go_sem, simprocAttr, hF, hb, hc0, hc1, hc2]
      repeat (first
       | ((first | refine hand_rawField rfl rfl (by decide) Tryz.underlying88 rfl (m := 0) rfl rfl ?_ | refine hand_rawLoad (dd := .bool) rfl rfl (by decide) rfl rfl rfl Tryz.underlying4 rfl ?_); simp only [go_sem, simprocAttr, hF, hb, hc0, hc1, hc2, Av.sopJ])
       | ((refine hand_rawStore rfl rfl rfl rfl rfl (by dsimp only [List.length_cons]; omega) rfl rfl Tryz.sz4 ?_); simp only [go_sem, simprocAttr, hF, hb, hc0, hc1, hc2, Av.sopJ])
       | ((with_reducible refine sopsJ_go ?_); simp only [go_sem, simprocAttr, hF, hb, hc0, hc1, hc2, Av.sopJ])
       | ((with_reducible refine sopsJ_end ?_); simp only [go_sem, simprocAttr, hF, hb, hc0, hc1, hc2, Av.sopJ])
       | ((refine awp_regionJ (id := 6) [1000013, 1000017, 1000021, 1000025, 1000034, 1000038, 1000039, 1000066, 1000076, 1000077, 1000090, 1000099, 1000100, 1000128, 1000137, 1000138, 1000160, 1000169, 1000170, 1000188, 1000193, 1000196, 1000197, 1000200, 1000201] ?_); simp only [go_sem, simprocAttr, hF, hb, hc0, hc1, hc2, Av.sopJ]))
      refine hR ⟨(s4.1, decide ((x.outs.length : Int) > 1024)), by rw [longX_or, hc0, hc1, hc2]; exact hs4.or hb⟩ _ (sub_mk ?_)
      simp only [go_sem, simprocAttr, hF]
      all_goals (first | rfl | (repeat' (first | rfl | refine ⟨?_, ?_⟩)))
 case hya =>
  intro i
  obtain ⟨s5, hs5⟩ := i
  obtain ⟨T5, hT5⟩ : ∃ T, T4 = T := ⟨_, rfl⟩
  obtain ⟨B5, hB5⟩ : ∃ B, (B4 || longX x) = B := ⟨_, rfl⟩
  have hb5 : B5 = false → longX x = false ∧ x.cells.length ≤ 1024 ∧ x.changes.length ≤ 1024 ∧ x.weak.length ≤ 1024 ∧ x.outs.length ≤ 1024 := fun h => by
   rw [← hB5, Bool.or_eq_false_iff] at h
   refine ⟨h.2, ?_⟩
   have h := h.2
   rw [longX_or] at h
   simp only [Bool.or_eq_false_iff, decide_eq_false_iff_not] at h
   omega
  rw [hT5, hB5] at hs5
  rw [hT5] at hl4
  dsimp only
  simp only [go_sem, simprocAttr, hF]
  repeat ((with_reducible refine awp_cutL (id := 7) (fun (i : GdS (T5 ++ txt (x.cells.map cLr)) (B5 || farL (x.cells.map cLr))) σ => ⟨keepS [1, 4] σ.slot, [(1, x.pv)], [], (laidE (fun _ => True)).and (rfE b i.1)⟩) ?hx6 ?hy6))
  case hx6 =>
   intro R hR
   repeat (first
    | ((first | with_reducible refine sops_go ?_ | with_reducible refine sops_end ?_); simp only [go_sem, simprocAttr, hF])
    | with_reducible (first | refine awp_seq_k fun _ _ => ?_ | refine awp_region [1000013, 1000017, 1000021, 1000025, 1000034, 1000038, 1000039, 1000066, 1000076, 1000077, 1000090, 1000099, 1000100, 1000128, 1000137, 1000138, 1000160, 1000169, 1000170, 1000188, 1000193, 1000196, 1000197, 1000200, 1000201] ?_ | refine awp_block ?_)
    | go_step)
   refine awp_loop_by (ι := (k : {k : Nat // k ≤ x.cells.length}) × GdS (T5 ++ txt ((x.cells.take k.1).map cLr)) (B5 || farL ((x.cells.take k.1).map cLr))) (fun i σ => ⟨(5, iv (i.1.1 : Int)) :: keepS [1, 4] σ.slot, [(1, x.pv)], [], (laidE (fun _ => True)).and (rfE b i.2.1)⟩) (fun i => x.cells.length - i.1.1) ⟨⟨0, Nat.zero_le _⟩, ⟨s5, hs5.to (by simp) (by simp)⟩⟩ (sub_mk ?_) (fun R1 hR1 i => ?_)
   · simp only [go_sem, simprocAttr, hF]
     repeat' (first | rfl | refine ⟨?_, ?_⟩)
   obtain ⟨⟨k, hk⟩, ⟨s0, hg0⟩⟩ := i
   dsimp only at hg0
   dsimp only
   simp only [go_sem, simprocAttr, hF]
   by_cases hlt : k < x.cells.length
   case neg =>
    have hd : decide ((k : Int) < (x.cells.length : Int)) = false := decide_eq_false (by omega)
    obtain rfl : k = x.cells.length := by omega
    rw [List.take_length] at hg0
    repeat (first
     | ((first | with_reducible refine sops_go ?_ | with_reducible refine sops_end ?_ | with_reducible refine awp_if ?_ | with_reducible refine awp_exit ?_); simp only [go_sem, simprocAttr, hF, hd])
     | with_reducible refine awp_seq_k fun _ _ => ?_
     | (with_reducible refine awp_region [1000013, 1000017, 1000021, 1000025, 1000034, 1000038, 1000039, 1000066, 1000076, 1000077, 1000090, 1000099, 1000100, 1000128, 1000137, 1000138, 1000160, 1000169, 1000170, 1000188, 1000193, 1000196, 1000197, 1000200, 1000201] ?_)
     | go_step)
    refine hR ⟨s0, hg0⟩ _ (sub_mk ?_)
    simp only [go_sem, simprocAttr, hF]
    all_goals (first | rfl | (repeat' (first | rfl | refine ⟨?_, ?_⟩)))
   have hd : decide ((k : Int) < (x.cells.length : Int)) = true := decide_eq_true (by omega)
   cases hs0 : s0.2 with
   | true =>
    repeat (first
     | ((first | refine hand_rawField rfl rfl (by decide) Tryz.underlying88 rfl (m := 0) rfl rfl ?_ | refine hand_rawLoad (dd := .bool) rfl rfl (by decide) rfl rfl rfl Tryz.underlying4 rfl ?_); simp only [go_sem, simprocAttr, hF, hd, hs0])
     | ((first | with_reducible refine sops_go ?_ | with_reducible refine sops_end ?_ | with_reducible refine awp_if ?_ | with_reducible refine awp_exit ?_); simp only [go_sem, simprocAttr, hF, hd, hs0])
     | with_reducible refine awp_seq_k fun _ _ => ?_
     | (with_reducible refine awp_region [1000013, 1000017, 1000021, 1000025, 1000034, 1000038, 1000039, 1000066, 1000076, 1000077, 1000090, 1000099, 1000100, 1000128, 1000137, 1000138, 1000160, 1000169, 1000170, 1000188, 1000193, 1000196, 1000197, 1000200, 1000201] ?_)
     | go_step)
    refine hR ⟨s0, Gd.bad hs0 (map_pre (f := cLr) (hg0.no hs0))⟩ _ (sub_mk ?_)
    simp only [go_sem, simprocAttr, hF]
    all_goals (first | rfl | (repeat' (first | rfl | refine ⟨?_, ?_⟩)))
   | false =>
    obtain ⟨y, hdk⟩ := get_of_lt hlt
    have hbb : B5 = false := by have := (hg0.ok hs0).1; rw [Bool.or_eq_false_iff] at this; exact this.1
    obtain ⟨hlx, hle⟩ := hb5 hbb
    have hq := lines_room (hlen hlx)
    have hw : IntKind.i64.wrap ((k : Int) + 1) = ((k + 1 : Nat) : Int) := by rw [IntKind.wrap_i64]; omega
    have hl3 := map_room (f := cLr) (T := T5) (M := 140737488355328) hdk (by omega)
    have htx := map_txt_succ (f := cLr) hdk
    have hfx := map_far_succ (f := cLr) hdk
    obtain ⟨T9, hT9⟩ : ∃ T9, T5 ++ txt ((x.cells.take k).map cLr) = T9 := ⟨_, rfl⟩
    obtain ⟨B9, hB9⟩ : ∃ B9, (B5 || farL ((x.cells.take k).map cLr)) = B9 := ⟨_, rfl⟩
    rw [hT9] at hl3
    rw [hT9, hB9] at hg0
    repeat (first
     | ((first | refine hand_rawField rfl rfl (by decide) Tryz.underlying88 rfl (m := 0) rfl rfl ?_ | refine hand_rawLoad (dd := .bool) rfl rfl (by decide) rfl rfl rfl Tryz.underlying4 rfl ?_); simp only [go_sem, simprocAttr, hF, hd, hdk, hs0, hlt])
     | ((first | with_reducible refine sops_go ?_ | with_reducible refine sops_end ?_ | with_reducible refine awp_if ?_ | with_reducible refine awp_skip ?_); simp only [go_sem, simprocAttr, hF, hd, hdk, hs0, hlt])
     | with_reducible (first | refine awp_seq_k fun _ _ => ?_ | refine awp_region [1000013, 1000017, 1000021, 1000025, 1000034, 1000038, 1000039, 1000066, 1000076, 1000077, 1000090, 1000099, 1000100, 1000128, 1000137, 1000138, 1000160, 1000169, 1000170, 1000188, 1000193, 1000196, 1000197, 1000200, 1000201] ?_ | refine awp_block ?_)
     | go_step)
    refine ⟨_, rcell_ok y, ?_⟩
    simp only [go_sem, simprocAttr, hF, hd, hdk, hs0, hlt]
    repeat ((with_reducible refine sops_go ?_; simp only [go_sem, simprocAttr, hF, hd, hdk, hs0, hlt]))
    refine hand_callX (put_okX (fun _ => True) b T9 B9 s0 hg0 wCell y.nums hl3) (laidE (fun _ => True)) rfl (fun _ _ => trivial) rfl rfl (by decide) rfl rfl (fun i => ?_)
    obtain ⟨sx, hsx⟩ := i
    simp only [go_sem, simprocAttr, hF, hd, hdk, hs0, hlt]
    repeat (first
     | ((first | with_reducible refine sops_go ?_ | with_reducible refine sops_end ?_); simp only [go_sem, simprocAttr, hF, hd, hdk, hlt, hw])
     | (with_reducible refine awp_region [1000013, 1000017, 1000021, 1000025, 1000034, 1000038, 1000039, 1000066, 1000076, 1000077, 1000090, 1000099, 1000100, 1000128, 1000137, 1000138, 1000160, 1000169, 1000170, 1000188, 1000193, 1000196, 1000197, 1000200, 1000201] ?_)
     | go_step)
    refine ⟨⟨⟨k + 1, hlt⟩, ⟨sx, hsx.to (by rw [htx, ← List.append_assoc, hT9]; simp only [List.append_assoc]; all_goals (try rfl)) (by rw [hfx, ← Bool.or_assoc, hB9]; all_goals (try rfl))⟩⟩, by dsimp only; omega, hR1 _ _ (sub_mk ?_)⟩
    simp only [go_sem, simprocAttr, hF]
  case hy6 =>
   intro i
   obtain ⟨s6, hs6⟩ := i
   obtain ⟨T6, hT6⟩ : ∃ T, T5 ++ txt (x.cells.map cLr) = T := ⟨_, rfl⟩
   obtain ⟨B6, hB6⟩ : ∃ B, (B5 || farL (x.cells.map cLr)) = B := ⟨_, rfl⟩
   have hl6 : T6.length = T5.length + (txt (x.cells.map cLr)).length := by rw [← hT6, List.length_append]
   have hb6 : B6 = false → longX x = false ∧ x.cells.length ≤ 1024 ∧ x.changes.length ≤ 1024 ∧ x.weak.length ≤ 1024 ∧ x.outs.length ≤ 1024 := fun h => hb5 (by rw [← hB6, Bool.or_eq_false_iff] at h; exact h.1)
   rw [hT6, hB6] at hs6
   dsimp only
   simp only [go_sem, simprocAttr, hF]
   repeat ((with_reducible refine awp_cutL (id := 11) (fun (i : GdS (T6 ++ txt (x.changes.map chL)) (B6 || farL (x.changes.map chL))) σ => ⟨keepS [1, 4] σ.slot, [(1, x.pv)], [], (laidE (fun _ => True)).and (rfE b i.1)⟩) ?hx7 ?hy7))
   case hx7 =>
    intro R hR
    repeat (first
     | ((first | with_reducible refine sops_go ?_ | with_reducible refine sops_end ?_); simp only [go_sem, simprocAttr, hF])
     | with_reducible (first | refine awp_seq_k fun _ _ => ?_ | refine awp_region [1000013, 1000017, 1000021, 1000025, 1000034, 1000038, 1000039, 1000066, 1000076, 1000077, 1000090, 1000099, 1000100, 1000128, 1000137, 1000138, 1000160, 1000169, 1000170, 1000188, 1000193, 1000196, 1000197, 1000200, 1000201] ?_ | refine awp_block ?_)
     | go_step)
    refine awp_loop_by (ι := (k : {k : Nat // k ≤ x.changes.length}) × GdS (T6 ++ txt ((x.changes.take k.1).map chL)) (B6 || farL ((x.changes.take k.1).map chL))) (fun i σ => ⟨(6, iv (i.1.1 : Int)) :: keepS [1, 4] σ.slot, [(1, x.pv)], [], (laidE (fun _ => True)).and (rfE b i.2.1)⟩) (fun i => x.changes.length - i.1.1) ⟨⟨0, Nat.zero_le _⟩, ⟨s6, hs6.to (by simp) (by simp)⟩⟩ (sub_mk ?_) (fun R1 hR1 i => ?_)
    · simp only [go_sem, simprocAttr, hF]
      repeat' (first | rfl | refine ⟨?_, ?_⟩)
    obtain ⟨⟨k, hk⟩, ⟨s0, hg0⟩⟩ := i
    dsimp only at hg0
    dsimp only
    simp only [go_sem, simprocAttr, hF]
    by_cases hlt : k < x.changes.length
    case neg =>
     have hd : decide ((k : Int) < (x.changes.length : Int)) = false := decide_eq_false (by omega)
     obtain rfl : k = x.changes.length := by omega
     rw [List.take_length] at hg0
     repeat (first
      | ((first | with_reducible refine sops_go ?_ | with_reducible refine sops_end ?_ | with_reducible refine awp_if ?_ | with_reducible refine awp_exit ?_); simp only [go_sem, simprocAttr, hF, hd])
      | with_reducible refine awp_seq_k fun _ _ => ?_
      | (with_reducible refine awp_region [1000013, 1000017, 1000021, 1000025, 1000034, 1000038, 1000039, 1000066, 1000076, 1000077, 1000090, 1000099, 1000100, 1000128, 1000137, 1000138, 1000160, 1000169, 1000170, 1000188, 1000193, 1000196, 1000197, 1000200, 1000201] ?_)
      | go_step)
     refine hR ⟨s0, hg0⟩ _ (sub_mk ?_)
     simp only [go_sem, simprocAttr, hF]
     all_goals (first | rfl | (repeat' (first | rfl | refine ⟨?_, ?_⟩)))
    have hd : decide ((k : Int) < (x.changes.length : Int)) = true := decide_eq_true (by omega)
    cases hs0 : s0.2 with
    | true =>
     repeat (first
      | ((first | refine hand_rawField rfl rfl (by decide) Tryz.underlying88 rfl (m := 0) rfl rfl ?_ | refine hand_rawLoad (dd := .bool) rfl rfl (by decide) rfl rfl rfl Tryz.underlying4 rfl ?_); simp only [go_sem, simprocAttr, hF, hd, hs0])
      | ((first | with_reducible refine sops_go ?_ | with_reducible refine sops_end ?_ | with_reducible refine awp_if ?_ | with_reducible refine awp_exit ?_); simp only [go_sem, simprocAttr, hF, hd, hs0])
      | with_reducible refine awp_seq_k fun _ _ => ?_
      | (with_reducible refine awp_region [1000013, 1000017, 1000021, 1000025, 1000034, 1000038, 1000039, 1000066, 1000076, 1000077, 1000090, 1000099, 1000100, 1000128, 1000137, 1000138, 1000160, 1000169, 1000170, 1000188, 1000193, 1000196, 1000197, 1000200, 1000201] ?_)
      | go_step)
     refine hR ⟨s0, Gd.bad hs0 (map_pre (f := chL) (hg0.no hs0))⟩ _ (sub_mk ?_)
     simp only [go_sem, simprocAttr, hF]
     all_goals (first | rfl | (repeat' (first | rfl | refine ⟨?_, ?_⟩)))
    | false =>
     obtain ⟨y, hdk⟩ := get_of_lt hlt
     have hbb : B6 = false := by have := (hg0.ok hs0).1; rw [Bool.or_eq_false_iff] at this; exact this.1
     obtain ⟨hlx, hle⟩ := hb6 hbb
     have hq := lines_room (hlen hlx)
     have hw : IntKind.i64.wrap ((k : Int) + 1) = ((k + 1 : Nat) : Int) := by rw [IntKind.wrap_i64]; omega
     have hl3 := map_room (f := chL) (T := T6) (M := 140737488355328) hdk (by omega)
     have htx := map_txt_succ (f := chL) hdk
     have hfx := map_far_succ (f := chL) hdk
     obtain ⟨T9, hT9⟩ : ∃ T9, T6 ++ txt ((x.changes.take k).map chL) = T9 := ⟨_, rfl⟩
     obtain ⟨B9, hB9⟩ : ∃ B9, (B6 || farL ((x.changes.take k).map chL)) = B9 := ⟨_, rfl⟩
     rw [hT9] at hl3
     rw [hT9, hB9] at hg0
     have hnl : (1 + y.c.nums.length ≤ 100000000) = True := eq_true (show 1 + 5 ≤ 100000000 by decide)
     cases had : y.ad with
     | true =>
      simp only [chL, had, if_true] at hl3 htx hfx
      repeat (first
       | (refine awp_anyT (id := 17) [1000013, 1000017, 1000021, 1000025, 1000034, 1000038, 1000039, 1000066, 1000076, 1000077, 1000090, 1000099, 1000100, 1000128, 1000137, 1000138, 1000160, 1000169, 1000170, 1000188, 1000193, 1000196, 1000197, 1000200, 1000201] [] [] 17 (by kernel_rfl) (by kernel_rfl) ?_; dsimp only [List.take_succ_cons, List.take_zero, List.take_nil, List.drop_succ_cons, List.drop_zero, List.drop_nil])
       | ((with_reducible refine sopsX_go ?_); simp only [go_sem, simprocAttr, hF, hd, hdk, hs0, hlt, had, hnl])
       | ((first | refine hand_rawField rfl rfl (by decide) Tryz.underlying88 rfl (m := 0) rfl rfl ?_ | refine hand_rawLoad (dd := .bool) rfl rfl (by decide) rfl rfl rfl Tryz.underlying4 rfl ?_); simp only [go_sem, simprocAttr, hF, hd, hdk, hs0, hlt, had, hnl])
       | ((first | with_reducible refine sops_go ?_ | with_reducible refine sops_end ?_ | with_reducible refine awp_if ?_ | with_reducible refine awp_skip ?_); simp only [go_sem, simprocAttr, hF, hd, hdk, hs0, hlt, had, hnl])
       | with_reducible (first | refine awp_seq_k fun _ _ => ?_ | refine awp_region [1000013, 1000017, 1000021, 1000025, 1000034, 1000038, 1000039, 1000066, 1000076, 1000077, 1000090, 1000099, 1000100, 1000128, 1000137, 1000138, 1000160, 1000169, 1000170, 1000188, 1000193, 1000196, 1000197, 1000200, 1000201] ?_ | refine awp_block ?_)
       | go_step)
      refine ⟨_, rcell_ok y.c, ?_⟩
      simp only [go_sem, simprocAttr, hF, hd, hdk, hs0, hlt, had, hnl]
      repeat (first
       | ((with_reducible refine sopsX_go ?_); simp only [go_sem, simprocAttr, hF, hd, hdk, hs0, hlt, had, hnl])
       | ((with_reducible refine sopsX_end ?_); refine And.intro (by kernel_rfl) ?_; (try simp only [go_sem, simprocAttr, hF, hd, hdk, hs0, hlt, had, hnl, Av.sopJ]))
       | ((with_reducible refine sopsJ_go ?_); simp only [go_sem, simprocAttr, hF, hd, hdk, hs0, hlt, had, hnl, Av.sopJ]))
      refine hand_callX (put_okX (fun _ => True) b T9 B9 s0 hg0 wAdd (y.sl :: y.c.nums) hl3) (laidE (fun _ => True)) rfl (fun _ _ => trivial) rfl rfl (by decide) rfl rfl (fun i => ?_)
      obtain ⟨sx, hsx⟩ := i
      simp only [go_sem, simprocAttr, hF, hd, hdk, hs0, hlt, had, hnl]
      repeat (first
       | ((with_reducible refine sopsJ_end ?_); simp only [go_sem, simprocAttr, hF, hd, hdk, hlt, had, hnl, hw, Av.sopJ])
       | ((first | with_reducible refine sops_go ?_ | with_reducible refine sops_end ?_); simp only [go_sem, simprocAttr, hF, hd, hdk, hlt, had, hnl, hw])
       | (with_reducible refine awp_region [1000013, 1000017, 1000021, 1000025, 1000034, 1000038, 1000039, 1000066, 1000076, 1000077, 1000090, 1000099, 1000100, 1000128, 1000137, 1000138, 1000160, 1000169, 1000170, 1000188, 1000193, 1000196, 1000197, 1000200, 1000201] ?_)
       | go_step)
      refine ⟨⟨⟨k + 1, hlt⟩, ⟨sx, hsx.to (by rw [htx, ← List.append_assoc, hT9]; simp only [List.append_assoc]; all_goals (try rfl)) (by rw [hfx, ← Bool.or_assoc, hB9]; all_goals (try rfl))⟩⟩, by dsimp only; omega, hR1 _ _ (sub_mk ?_)⟩
      simp only [go_sem, simprocAttr, hF]
     | false =>
      simp only [chL, had, Bool.false_eq_true, if_false] at hl3 htx hfx
      repeat (first
       | (refine awp_anyT (id := 17) [1000013, 1000017, 1000021, 1000025, 1000034, 1000038, 1000039, 1000066, 1000076, 1000077, 1000090, 1000099, 1000100, 1000128, 1000137, 1000138, 1000160, 1000169, 1000170, 1000188, 1000193, 1000196, 1000197, 1000200, 1000201] [] [] 17 (by kernel_rfl) (by kernel_rfl) ?_; dsimp only [List.take_succ_cons, List.take_zero, List.take_nil, List.drop_succ_cons, List.drop_zero, List.drop_nil])
       | ((with_reducible refine sopsX_go ?_); simp only [go_sem, simprocAttr, hF, hd, hdk, hs0, hlt, had, hnl])
       | ((first | refine hand_rawField rfl rfl (by decide) Tryz.underlying88 rfl (m := 0) rfl rfl ?_ | refine hand_rawLoad (dd := .bool) rfl rfl (by decide) rfl rfl rfl Tryz.underlying4 rfl ?_); simp only [go_sem, simprocAttr, hF, hd, hdk, hs0, hlt, had, hnl])
       | ((first | with_reducible refine sops_go ?_ | with_reducible refine sops_end ?_ | with_reducible refine awp_if ?_ | with_reducible refine awp_skip ?_); simp only [go_sem, simprocAttr, hF, hd, hdk, hs0, hlt, had, hnl])
       | with_reducible (first | refine awp_seq_k fun _ _ => ?_ | refine awp_region [1000013, 1000017, 1000021, 1000025, 1000034, 1000038, 1000039, 1000066, 1000076, 1000077, 1000090, 1000099, 1000100, 1000128, 1000137, 1000138, 1000160, 1000169, 1000170, 1000188, 1000193, 1000196, 1000197, 1000200, 1000201] ?_ | refine awp_block ?_)
       | go_step)
      refine ⟨_, rcell_ok y.c, ?_⟩
      simp only [go_sem, simprocAttr, hF, hd, hdk, hs0, hlt, had, hnl]
      repeat (first
       | ((with_reducible refine sopsX_go ?_); simp only [go_sem, simprocAttr, hF, hd, hdk, hs0, hlt, had, hnl])
       | ((with_reducible refine sopsX_end ?_); refine And.intro (by kernel_rfl) ?_; (try simp only [go_sem, simprocAttr, hF, hd, hdk, hs0, hlt, had, hnl, Av.sopJ]))
       | ((with_reducible refine sopsJ_go ?_); simp only [go_sem, simprocAttr, hF, hd, hdk, hs0, hlt, had, hnl, Av.sopJ]))
      refine hand_callX (put_okX (fun _ => True) b T9 B9 s0 hg0 wRemove (y.sl :: y.c.nums) hl3) (laidE (fun _ => True)) rfl (fun _ _ => trivial) rfl rfl (by decide) rfl rfl (fun i => ?_)
      obtain ⟨sx, hsx⟩ := i
      simp only [go_sem, simprocAttr, hF, hd, hdk, hs0, hlt, had, hnl]
      repeat (first
       | ((with_reducible refine sopsJ_end ?_); simp only [go_sem, simprocAttr, hF, hd, hdk, hlt, had, hnl, hw, Av.sopJ])
       | ((first | with_reducible refine sops_go ?_ | with_reducible refine sops_end ?_); simp only [go_sem, simprocAttr, hF, hd, hdk, hlt, had, hnl, hw])
       | (with_reducible refine awp_region [1000013, 1000017, 1000021, 1000025, 1000034, 1000038, 1000039, 1000066, 1000076, 1000077, 1000090, 1000099, 1000100, 1000128, 1000137, 1000138, 1000160, 1000169, 1000170, 1000188, 1000193, 1000196, 1000197, 1000200, 1000201] ?_)
       | go_step)
      refine ⟨⟨⟨k + 1, hlt⟩, ⟨sx, hsx.to (by rw [htx, ← List.append_assoc, hT9]; simp only [List.append_assoc]; all_goals (try rfl)) (by rw [hfx, ← Bool.or_assoc, hB9]; all_goals (try rfl))⟩⟩, by dsimp only; omega, hR1 _ _ (sub_mk ?_)⟩
      simp only [go_sem, simprocAttr, hF]
   case hy7 =>
    intro i
    obtain ⟨s7, hs7⟩ := i
    obtain ⟨T7, hT7⟩ : ∃ T, T6 ++ txt (x.changes.map chL) = T := ⟨_, rfl⟩
    obtain ⟨B7, hB7⟩ : ∃ B, (B6 || farL (x.changes.map chL)) = B := ⟨_, rfl⟩
    have hl7 : T7.length = T6.length + (txt (x.changes.map chL)).length := by rw [← hT7, List.length_append]
    have hb7 : B7 = false → longX x = false ∧ x.cells.length ≤ 1024 ∧ x.changes.length ≤ 1024 ∧ x.weak.length ≤ 1024 ∧ x.outs.length ≤ 1024 := fun h => hb6 (by rw [← hB7, Bool.or_eq_false_iff] at h; exact h.1)
    rw [hT7, hB7] at hs7
    dsimp only
    simp only [go_sem, simprocAttr, hF]
    repeat ((with_reducible refine awp_cutL (id := 18) (fun (i : GdS (T7 ++ txt (x.weak.map wkL)) (B7 || farL (x.weak.map wkL))) σ => ⟨keepS [1, 4] σ.slot, [(1, x.pv)], [], (laidE (fun _ => True)).and (rfE b i.1)⟩) ?hx8 ?hy8))
    case hx8 =>
     intro R hR
     repeat (first
      | ((first | with_reducible refine sops_go ?_ | with_reducible refine sops_end ?_); simp only [go_sem, simprocAttr, hF])
      | with_reducible (first | refine awp_seq_k fun _ _ => ?_ | refine awp_region [1000013, 1000017, 1000021, 1000025, 1000034, 1000038, 1000039, 1000066, 1000076, 1000077, 1000090, 1000099, 1000100, 1000128, 1000137, 1000138, 1000160, 1000169, 1000170, 1000188, 1000193, 1000196, 1000197, 1000200, 1000201] ?_ | refine awp_block ?_)
      | go_step)
     refine awp_loop_by (ι := (k : {k : Nat // k ≤ x.weak.length}) × GdS (T7 ++ txt ((x.weak.take k.1).map wkL)) (B7 || farL ((x.weak.take k.1).map wkL))) (fun i σ => ⟨(8, iv (i.1.1 : Int)) :: keepS [1, 4] σ.slot, [(1, x.pv)], [], (laidE (fun _ => True)).and (rfE b i.2.1)⟩) (fun i => x.weak.length - i.1.1) ⟨⟨0, Nat.zero_le _⟩, ⟨s7, hs7.to (by simp) (by simp)⟩⟩ (sub_mk ?_) (fun R1 hR1 i => ?_)
     · simp only [go_sem, simprocAttr, hF]
       repeat' (first | rfl | refine ⟨?_, ?_⟩)
     obtain ⟨⟨k, hk⟩, ⟨s0, hg0⟩⟩ := i
     dsimp only at hg0
     dsimp only
     simp only [go_sem, simprocAttr, hF]
     by_cases hlt : k < x.weak.length
     case neg =>
      have hd : decide ((k : Int) < (x.weak.length : Int)) = false := decide_eq_false (by omega)
      obtain rfl : k = x.weak.length := by omega
      rw [List.take_length] at hg0
      repeat (first
       | ((first | with_reducible refine sops_go ?_ | with_reducible refine sops_end ?_ | with_reducible refine awp_if ?_ | with_reducible refine awp_exit ?_); simp only [go_sem, simprocAttr, hF, hd])
       | with_reducible refine awp_seq_k fun _ _ => ?_
       | (with_reducible refine awp_region [1000013, 1000017, 1000021, 1000025, 1000034, 1000038, 1000039, 1000066, 1000076, 1000077, 1000090, 1000099, 1000100, 1000128, 1000137, 1000138, 1000160, 1000169, 1000170, 1000188, 1000193, 1000196, 1000197, 1000200, 1000201] ?_)
       | go_step)
      refine hR ⟨s0, hg0⟩ _ (sub_mk ?_)
      simp only [go_sem, simprocAttr, hF]
      all_goals (first | rfl | (repeat' (first | rfl | refine ⟨?_, ?_⟩)))
     have hd : decide ((k : Int) < (x.weak.length : Int)) = true := decide_eq_true (by omega)
     cases hs0 : s0.2 with
     | true =>
      repeat (first
       | ((first | refine hand_rawField rfl rfl (by decide) Tryz.underlying88 rfl (m := 0) rfl rfl ?_ | refine hand_rawLoad (dd := .bool) rfl rfl (by decide) rfl rfl rfl Tryz.underlying4 rfl ?_); simp only [go_sem, simprocAttr, hF, hd, hs0])
       | ((first | with_reducible refine sops_go ?_ | with_reducible refine sops_end ?_ | with_reducible refine awp_if ?_ | with_reducible refine awp_exit ?_); simp only [go_sem, simprocAttr, hF, hd, hs0])
       | with_reducible refine awp_seq_k fun _ _ => ?_
       | (with_reducible refine awp_region [1000013, 1000017, 1000021, 1000025, 1000034, 1000038, 1000039, 1000066, 1000076, 1000077, 1000090, 1000099, 1000100, 1000128, 1000137, 1000138, 1000160, 1000169, 1000170, 1000188, 1000193, 1000196, 1000197, 1000200, 1000201] ?_)
       | go_step)
      refine hR ⟨s0, Gd.bad hs0 (map_pre (f := wkL) (hg0.no hs0))⟩ _ (sub_mk ?_)
      simp only [go_sem, simprocAttr, hF]
      all_goals (first | rfl | (repeat' (first | rfl | refine ⟨?_, ?_⟩)))
     | false =>
      obtain ⟨y, hdk⟩ := get_of_lt hlt
      have hbb : B7 = false := by have := (hg0.ok hs0).1; rw [Bool.or_eq_false_iff] at this; exact this.1
      obtain ⟨hlx, hle⟩ := hb7 hbb
      have hq := lines_room (hlen hlx)
      have hw : IntKind.i64.wrap ((k : Int) + 1) = ((k + 1 : Nat) : Int) := by rw [IntKind.wrap_i64]; omega
      have hl3 := map_room (f := wkL) (T := T7) (M := 140737488355328) hdk (by omega)
      have htx := map_txt_succ (f := wkL) hdk
      have hfx := map_far_succ (f := wkL) hdk
      obtain ⟨T9, hT9⟩ : ∃ T9, T7 ++ txt ((x.weak.take k).map wkL) = T9 := ⟨_, rfl⟩
      obtain ⟨B9, hB9⟩ : ∃ B9, (B7 || farL ((x.weak.take k).map wkL)) = B9 := ⟨_, rfl⟩
      rw [hT9] at hl3
      rw [hT9, hB9] at hg0
      repeat (first
       | ((first | refine hand_rawField rfl rfl (by decide) Tryz.underlying88 rfl (m := 0) rfl rfl ?_ | refine hand_rawLoad (dd := .bool) rfl rfl (by decide) rfl rfl rfl Tryz.underlying4 rfl ?_); simp only [go_sem, simprocAttr, hF, hd, hdk, hs0, hlt])
       | ((first | with_reducible refine sops_go ?_ | with_reducible refine sops_end ?_ | with_reducible refine awp_if ?_ | with_reducible refine awp_skip ?_); simp only [go_sem, simprocAttr, hF, hd, hdk, hs0, hlt])
       | with_reducible (first | refine awp_seq_k fun _ _ => ?_ | refine awp_region [1000013, 1000017, 1000021, 1000025, 1000034, 1000038, 1000039, 1000066, 1000076, 1000077, 1000090, 1000099, 1000100, 1000128, 1000137, 1000138, 1000160, 1000169, 1000170, 1000188, 1000193, 1000196, 1000197, 1000200, 1000201] ?_ | refine awp_block ?_)
       | go_step)
      refine hand_callX (put_okX (fun _ => True) b T9 B9 s0 hg0 wWeak [y.fr, y.to, y.fi, y.un, y.re] hl3) (laidE (fun _ => True)) rfl (fun _ _ => trivial) rfl rfl (by decide) rfl rfl (fun i => ?_)
      obtain ⟨sx, hsx⟩ := i
      simp only [go_sem, simprocAttr, hF, hd, hdk, hs0, hlt]
      repeat (first
       | ((first | with_reducible refine sops_go ?_ | with_reducible refine sops_end ?_); simp only [go_sem, simprocAttr, hF, hd, hdk, hlt, hw])
       | (with_reducible refine awp_region [1000013, 1000017, 1000021, 1000025, 1000034, 1000038, 1000039, 1000066, 1000076, 1000077, 1000090, 1000099, 1000100, 1000128, 1000137, 1000138, 1000160, 1000169, 1000170, 1000188, 1000193, 1000196, 1000197, 1000200, 1000201] ?_)
       | go_step)
      refine ⟨⟨⟨k + 1, hlt⟩, ⟨sx, hsx.to (by rw [htx, ← List.append_assoc, hT9]; simp only [List.append_assoc]; all_goals (try rfl)) (by rw [hfx, ← Bool.or_assoc, hB9]; all_goals (try rfl))⟩⟩, by dsimp only; omega, hR1 _ _ (sub_mk ?_)⟩
      simp only [go_sem, simprocAttr, hF]
    case hy8 =>
     intro i
     obtain ⟨s8, hs8⟩ := i
     obtain ⟨T8, hT8⟩ : ∃ T, T7 ++ txt (x.weak.map wkL) = T := ⟨_, rfl⟩
     obtain ⟨B8, hB8⟩ : ∃ B, (B7 || farL (x.weak.map wkL)) = B := ⟨_, rfl⟩
     have hl8 : T8.length = T7.length + (txt (x.weak.map wkL)).length := by rw [← hT8, List.length_append]
     have hb8 : B8 = false → longX x = false ∧ x.cells.length ≤ 1024 ∧ x.changes.length ≤ 1024 ∧ x.weak.length ≤ 1024 ∧ x.outs.length ≤ 1024 := fun h => hb7 (by rw [← hB8, Bool.or_eq_false_iff] at h; exact h.1)
     rw [hT8, hB8] at hs8
     dsimp only
     simp only [go_sem, simprocAttr, hF]
     repeat ((with_reducible refine awp_cutL (id := 23) (fun (i : GdS (T8 ++ txt (x.outs.map ogL)) (B8 || farL (x.outs.map ogL))) σ => ⟨keepS [1, 4] σ.slot, [(1, x.pv)], [], (laidE (fun _ => True)).and (rfE b i.1)⟩) ?hx9 ?hy9))
     case hx9 =>
      intro R hR
      repeat (first
       | ((first | with_reducible refine sops_go ?_ | with_reducible refine sops_end ?_); simp only [go_sem, simprocAttr, hF])
       | with_reducible (first | refine awp_seq_k fun _ _ => ?_ | refine awp_region [1000013, 1000017, 1000021, 1000025, 1000034, 1000038, 1000039, 1000066, 1000076, 1000077, 1000090, 1000099, 1000100, 1000128, 1000137, 1000138, 1000160, 1000169, 1000170, 1000188, 1000193, 1000196, 1000197, 1000200, 1000201] ?_ | refine awp_block ?_)
       | go_step)
      refine awp_loop_by (ι := (k : {k : Nat // k ≤ x.outs.length}) × GdS (T8 ++ txt ((x.outs.take k.1).map ogL)) (B8 || farL ((x.outs.take k.1).map ogL))) (fun i σ => ⟨(10, iv (i.1.1 : Int)) :: keepS [1, 4] σ.slot, [(1, x.pv)], [], (laidE (fun _ => True)).and (rfE b i.2.1)⟩) (fun i => x.outs.length - i.1.1) ⟨⟨0, Nat.zero_le _⟩, ⟨s8, hs8.to (by simp) (by simp)⟩⟩ (sub_mk ?_) (fun R1 hR1 i => ?_)
      · simp only [go_sem, simprocAttr, hF]
        repeat' (first | rfl | refine ⟨?_, ?_⟩)
      obtain ⟨⟨k, hk⟩, ⟨s0, hg0⟩⟩ := i
      dsimp only at hg0
      dsimp only
      simp only [go_sem, simprocAttr, hF]
      by_cases hlt : k < x.outs.length
      case neg =>
       have hd : decide ((k : Int) < (x.outs.length : Int)) = false := decide_eq_false (by omega)
       obtain rfl : k = x.outs.length := by omega
       rw [List.take_length] at hg0
       repeat (first
        | ((first | with_reducible refine sops_go ?_ | with_reducible refine sops_end ?_ | with_reducible refine awp_if ?_ | with_reducible refine awp_exit ?_); simp only [go_sem, simprocAttr, hF, hd])
        | with_reducible refine awp_seq_k fun _ _ => ?_
        | (with_reducible refine awp_region [1000013, 1000017, 1000021, 1000025, 1000034, 1000038, 1000039, 1000066, 1000076, 1000077, 1000090, 1000099, 1000100, 1000128, 1000137, 1000138, 1000160, 1000169, 1000170, 1000188, 1000193, 1000196, 1000197, 1000200, 1000201] ?_)
        | go_step)
       refine hR ⟨s0, hg0⟩ _ (sub_mk ?_)
       simp only [go_sem, simprocAttr, hF]
       all_goals (first | rfl | (repeat' (first | rfl | refine ⟨?_, ?_⟩)))
      have hd : decide ((k : Int) < (x.outs.length : Int)) = true := decide_eq_true (by omega)
      cases hs0 : s0.2 with
      | true =>
       repeat (first
        | ((first | refine hand_rawField rfl rfl (by decide) Tryz.underlying88 rfl (m := 0) rfl rfl ?_ | refine hand_rawLoad (dd := .bool) rfl rfl (by decide) rfl rfl rfl Tryz.underlying4 rfl ?_); simp only [go_sem, simprocAttr, hF, hd, hs0])
        | ((first | with_reducible refine sops_go ?_ | with_reducible refine sops_end ?_ | with_reducible refine awp_if ?_ | with_reducible refine awp_exit ?_); simp only [go_sem, simprocAttr, hF, hd, hs0])
        | with_reducible refine awp_seq_k fun _ _ => ?_
        | (with_reducible refine awp_region [1000013, 1000017, 1000021, 1000025, 1000034, 1000038, 1000039, 1000066, 1000076, 1000077, 1000090, 1000099, 1000100, 1000128, 1000137, 1000138, 1000160, 1000169, 1000170, 1000188, 1000193, 1000196, 1000197, 1000200, 1000201] ?_)
        | go_step)
       refine hR ⟨s0, Gd.bad hs0 (map_pre (f := ogL) (hg0.no hs0))⟩ _ (sub_mk ?_)
       simp only [go_sem, simprocAttr, hF]
       all_goals (first | rfl | (repeat' (first | rfl | refine ⟨?_, ?_⟩)))
      | false =>
       obtain ⟨y, hdk⟩ := get_of_lt hlt
       have hbb : B8 = false := by have := (hg0.ok hs0).1; rw [Bool.or_eq_false_iff] at this; exact this.1
       obtain ⟨hlx, hle⟩ := hb8 hbb
       have hq := lines_room (hlen hlx)
       have hw : IntKind.i64.wrap ((k : Int) + 1) = ((k + 1 : Nat) : Int) := by rw [IntKind.wrap_i64]; omega
       have hl3 := map_room (f := ogL) (T := T8) (M := 140737488355328) hdk (by omega)
       have htx := map_txt_succ (f := ogL) hdk
       have hfx := map_far_succ (f := ogL) hdk
       obtain ⟨T9, hT9⟩ : ∃ T9, T8 ++ txt ((x.outs.take k).map ogL) = T9 := ⟨_, rfl⟩
       obtain ⟨B9, hB9⟩ : ∃ B9, (B8 || farL ((x.outs.take k).map ogL)) = B9 := ⟨_, rfl⟩
       rw [hT9] at hl3
       rw [hT9, hB9] at hg0
       repeat (first
        | ((first | refine hand_rawField rfl rfl (by decide) Tryz.underlying88 rfl (m := 0) rfl rfl ?_ | refine hand_rawLoad (dd := .bool) rfl rfl (by decide) rfl rfl rfl Tryz.underlying4 rfl ?_); simp only [go_sem, simprocAttr, hF, hd, hdk, hs0, hlt])
        | ((first | with_reducible refine sops_go ?_ | with_reducible refine sops_end ?_ | with_reducible refine awp_if ?_ | with_reducible refine awp_skip ?_); simp only [go_sem, simprocAttr, hF, hd, hdk, hs0, hlt])
        | with_reducible (first | refine awp_seq_k fun _ _ => ?_ | refine awp_region [1000013, 1000017, 1000021, 1000025, 1000034, 1000038, 1000039, 1000066, 1000076, 1000077, 1000090, 1000099, 1000100, 1000128, 1000137, 1000138, 1000160, 1000169, 1000170, 1000188, 1000193, 1000196, 1000197, 1000200, 1000201] ?_ | refine awp_block ?_)
        | go_step)
       refine hand_callX (put_okX (fun _ => True) b T9 B9 s0 hg0 wOutage [y.nd, y.fi, y.un] hl3) (laidE (fun _ => True)) rfl (fun _ _ => trivial) rfl rfl (by decide) rfl rfl (fun i => ?_)
       obtain ⟨sx, hsx⟩ := i
       simp only [go_sem, simprocAttr, hF, hd, hdk, hs0, hlt]
       repeat (first
        | ((first | with_reducible refine sops_go ?_ | with_reducible refine sops_end ?_); simp only [go_sem, simprocAttr, hF, hd, hdk, hlt, hw])
        | (with_reducible refine awp_region [1000013, 1000017, 1000021, 1000025, 1000034, 1000038, 1000039, 1000066, 1000076, 1000077, 1000090, 1000099, 1000100, 1000128, 1000137, 1000138, 1000160, 1000169, 1000170, 1000188, 1000193, 1000196, 1000197, 1000200, 1000201] ?_)
        | go_step)
       refine ⟨⟨⟨k + 1, hlt⟩, ⟨sx, hsx.to (by rw [htx, ← List.append_assoc, hT9]; simp only [List.append_assoc]; all_goals (try rfl)) (by rw [hfx, ← Bool.or_assoc, hB9]; all_goals (try rfl))⟩⟩, by dsimp only; omega, hR1 _ _ (sub_mk ?_)⟩
       simp only [go_sem, simprocAttr, hF]
     case hy9 =>
      intro i
      obtain ⟨s9, hs9⟩ := i
      obtain ⟨T9, hT9⟩ : ∃ T, T8 ++ txt (x.outs.map ogL) = T := ⟨_, rfl⟩
      obtain ⟨B9, hB9⟩ : ∃ B, (B8 || farL (x.outs.map ogL)) = B := ⟨_, rfl⟩
      have hl9 : T9.length = T8.length + (txt (x.outs.map ogL)).length := by rw [← hT9, List.length_append]
      have hb9 : B9 = false → longX x = false ∧ x.cells.length ≤ 1024 ∧ x.changes.length ≤ 1024 ∧ x.weak.length ≤ 1024 ∧ x.outs.length ≤ 1024 := fun h => hb8 (by rw [← hB9, Bool.or_eq_false_iff] at h; exact h.1)
      rw [hT9, hB9] at hs9
      dsimp only
      simp only [go_sem, simprocAttr, hF]
      repeat (first
       | (with_reducible refine sops_go ?_; simp only [go_sem, simprocAttr, hF])
       | with_reducible refine awp_seq_k fun _ _ => ?_
       | (with_reducible refine awp_region [1000013, 1000017, 1000021, 1000025, 1000034, 1000038, 1000039, 1000066, 1000076, 1000077, 1000090, 1000099, 1000100, 1000128, 1000137, 1000138, 1000160, 1000169, 1000170, 1000188, 1000193, 1000196, 1000197, 1000200, 1000201] ?_))
      have hBx : (B9 || [x.slots].any farB) = (!shaped x.net || longX x || badB x) := by
       rw [badB_all, ← hB9, ← hB8, ← hB7, ← hB6, ← hB5, ← hB4, ← hB3, ← hB2, ← hB1]
       ac_rfl
      cases hs9b : s9.2 with
      | true =>
       have hs9' : Gd [] B9 s9 := Gd.bad hs9b (hs9.no hs9b)
       refine hand_callX (put_okX (fun _ => True) b [] B9 s9 hs9' wSlots [x.slots] (by simp only [List.length_nil]; omega)) (laidE (fun _ => True)) rfl (fun _ _ => trivial) rfl rfl (by decide) rfl rfl (fun i => ?_)
       obtain ⟨sz, hsz⟩ := i
       simp only [go_sem, simprocAttr, hF]
       rw [hBx] at hsz
       cases hz : sz.2 with
       | true =>
        have hf : fmt x = (⟨#[]⟩, 1) := by unfold fmt; rw [if_pos (hsz.no hz)]
        repeat (first
         | ((first | refine hand_rawField rfl rfl (by decide) Tryz.underlying88 rfl (m := 0) rfl rfl ?_ | refine hand_rawLoad (dd := .bool) rfl rfl (by decide) rfl rfl rfl Tryz.underlying4 rfl ?_); simp only [go_sem, simprocAttr, hF, hz])
         | ((first | with_reducible refine sops_go ?_ | with_reducible refine sops_end ?_ | with_reducible refine awp_if ?_ | with_reducible refine awp_ret ?_); simp only [go_sem, simprocAttr, hF, hz])
         | with_reducible refine awp_seq_k fun _ _ => ?_
         | (with_reducible refine awp_region [1000013, 1000017, 1000021, 1000025, 1000034, 1000038, 1000039, 1000066, 1000076, 1000077, 1000090, 1000099, 1000100, 1000128, 1000137, 1000138, 1000160, 1000169, 1000170, 1000188, 1000193, 1000196, 1000197, 1000200, 1000201] ?_)
         | go_step)
        all_goals (rw [hf])
       | false =>
        have h9 := (hsz.ok hz).1
        rw [← hBx, hs9.no hs9b] at h9
        cases h9
      | false =>
       have hq := lines_room (hlen (hb9 (hs9.ok hs9b).1).1)
       refine hand_callX (put_okX (fun _ => True) b T9 B9 s9 hs9 wSlots [x.slots] (by omega)) (laidE (fun _ => True)) rfl (fun _ _ => trivial) rfl rfl (by decide) rfl rfl (fun i => ?_)
       obtain ⟨sz, hsz⟩ := i
       simp only [go_sem, simprocAttr, hF]
       have hTx : T9 ++ lineB wSlots [x.slots] ++ [10] = txt (linesOf x) := by rw [txt_lines, ← hT9, ← hT8, ← hT7, ← hT6, ← hT5, ← hT4, ← hT3, ← hT2, ← hT1]; rfl
       rw [hTx, hBx] at hsz
       cases hz : sz.2 with
       | true =>
        have hf : fmt x = (⟨#[]⟩, 1) := by unfold fmt; rw [if_pos (hsz.no hz)]
        repeat (first
         | ((first | refine hand_rawField rfl rfl (by decide) Tryz.underlying88 rfl (m := 0) rfl rfl ?_ | refine hand_rawLoad (dd := .bool) rfl rfl (by decide) rfl rfl rfl Tryz.underlying4 rfl ?_); simp only [go_sem, simprocAttr, hF, hz])
         | ((first | with_reducible refine sops_go ?_ | with_reducible refine sops_end ?_ | with_reducible refine awp_if ?_ | with_reducible refine awp_ret ?_); simp only [go_sem, simprocAttr, hF, hz])
         | with_reducible refine awp_seq_k fun _ _ => ?_
         | (with_reducible refine awp_region [1000013, 1000017, 1000021, 1000025, 1000034, 1000038, 1000039, 1000066, 1000076, 1000077, 1000090, 1000099, 1000100, 1000128, 1000137, 1000138, 1000160, 1000169, 1000170, 1000188, 1000193, 1000196, 1000197, 1000200, 1000201] ?_)
         | go_step)
        all_goals (rw [hf])
       | false =>
        obtain ⟨hb, ht⟩ := hsz.ok hz
        have hf : fmt x = (⟨(txt (linesOf x)).toArray⟩, 0) := by unfold fmt; rw [if_neg (by rw [hb]; decide)]
        have hsx : sz.1 = ⟨(txt (linesOf x)).toArray⟩ := ba_ext (by rw [ht])
        repeat (first
         | ((first | refine hand_rawField rfl rfl (by decide) Tryz.underlying88 rfl (m := 0) rfl rfl ?_ | refine hand_rawLoad (dd := .bool) rfl rfl (by decide) rfl rfl rfl Tryz.underlying4 rfl ?_ | refine hand_rawLoad (dd := .string) rfl rfl (by decide) rfl rfl rfl Tryz.underlying9 rfl ?_); simp only [go_sem, simprocAttr, hF, hz])
         | ((first | with_reducible refine sops_go ?_ | with_reducible refine sops_end ?_ | with_reducible refine awp_if ?_ | with_reducible refine awp_skip ?_ | with_reducible refine awp_ret ?_); simp only [go_sem, simprocAttr, hF, hz])
         | with_reducible refine awp_seq_k fun _ _ => ?_
         | (with_reducible refine awp_region [1000013, 1000017, 1000021, 1000025, 1000034, 1000038, 1000039, 1000066, 1000076, 1000077, 1000090, 1000099, 1000100, 1000128, 1000137, 1000138, 1000160, 1000169, 1000170, 1000188, 1000193, 1000196, 1000197, 1000200, 1000201] ?_)
         | go_step)
        all_goals (rw [hf, hsx])
/- ScenarioFormats. -/
theorem tabLC2 {f : FuncId} {args : List AV} {res : FRes} (h : FnOKC Tryz.prog TabC f args res) : FnOKC Tryz.prog LC f args res := ⟨h.1, fun w R hC => h.2 w R hC.1⟩
theorem anyLC {f : FuncId} {args : List AV} {res : FRes} (h : FnOKC Tryz.prog (fun _ => True) f args res) : FnOKC Tryz.prog LC f args res := ⟨h.1, fun w R hC => h.2 w R trivial⟩
/-- The room of what is always written. -/
theorem room_first {x : Sn} (h : FewX x) (hr : RgX x) : (txt (netL x.net)).length + ((txt (reqL wBefore x.before)).length + ((txt (reqL wAfter x.after)).length + ((lineB wSchedule [x.len, x.offs]).length + 1 + ((lineB wSlots [x.slots]).length + 1)))) ≤ 140737488355328 := by
 have h0 := room_of (x := { x with cells := [], changes := [], weak := [], outs := [] }) ⟨h.p, h.r, h.l, h.m, h.b, h.a, h.bq, h.aq⟩ rfl ⟨hr.no, hr.ns, hr.th, hr.pl, hr.pr, hr.lk, hr.mg, hr.be, hr.af, hr.le, hr.ofs, (fun c hc => by cases hc), (fun c hc => by cases hc), (fun c hc => by cases hc), (fun c hc => by cases hc), hr.sl⟩
 have h1 := lines_room h0
 simp only [List.map_nil, txt_nil, List.length_nil] at h1
 omega
set_option maxHeartbeats 4000000 in
theorem lawFormats_ok (x : Sn) (hr : RgX x) : FnOKC Tryz.prog LC 3 [.agg x.pv] ⟨bv true, none⟩ := by
 have hfw := few54_ok x hr.pl
 refine fn_okC (C := LC) Tryz.func3 (by kernel_rfl) rfl (by rw [Tryz.ntmps3]; exact of_decide_eq_true rfl) (fun F hF => ?_)
 rw [Tryz.ntmps3] at hF
 rw [Tryz.results3]
 repeat (first
  | ((refine hand_fnC (C := LC) LC.below rfl rfl (by decide) rfl rfl rfl awake_ok rfl ?_); simp only [go_sem, simprocAttr, hF])
  | (with_reducible (first | refine sops_go ?_ | refine headW_end ?_ | refine sops_end ?_ | refine awp_if ?_ | refine awp_skip ?_ | refine awp_ret ?_ | refine awp_exit ?_); simp only [go_sem, simprocAttr, hF])
  | with_reducible (first | refine awp_seq_k fun _ _ => ?_ | refine awp_region [1000007, 1000014, 1000017, 1000022] ?_ | refine awp_block ?_)
  | go_step)
 refine ⟨_, hfw, ?_⟩
 simp only [go_sem, simprocAttr, hF]
 cases h1 : few54B x with
 | false =>
  try simp only [go_sem, simprocAttr, hF, h1]
  repeat (first
   | ((refine hand_fnC (C := LC) LC.below rfl rfl (by decide) rfl rfl rfl awake_ok rfl ?_); simp only [go_sem, simprocAttr, hF])
   | (with_reducible (first | refine sops_go ?_ | refine headW_end ?_ | refine sops_end ?_ | refine awp_if ?_ | refine awp_skip ?_ | refine awp_ret ?_ | refine awp_exit ?_); simp only [go_sem, simprocAttr, hF, h1])
   | with_reducible (first | refine awp_seq_k fun _ _ => ?_ | refine awp_region [1000007, 1000014, 1000017, 1000022] ?_ | refine awp_block ?_)
   | go_step)
  all_goals (try rfl)
 | true =>
  have hfm := tabLC2 (format_fewC x h1 hr)
  have hrf := anyLC (rformat_okC x (room_first (few_of h1) hr) (fun hl => room_of (few_of h1) hl hr))
  have e1 : ((fmt x).1.toList == (fmt x).1.toList) = true := beq_self_eq_true _
  have e2 : ((fmt x).2 == (fmt x).2) = true := beq_self_eq_true _
  generalize (fmt x).1 = fs at hfm hrf e1
  generalize (fmt x).2 = fe at hfm hrf e2
  unfold Sn.pv at hfm hrf
  try simp only [go_sem, simprocAttr, hF, h1]
  repeat (first
   | ((first | refine hand_fnC (C := LC) LC.below rfl rfl (by decide) rfl rfl rfl hfm rfl ?_ | refine hand_fnC (C := LC) LC.below rfl rfl (by decide) rfl rfl rfl hrf rfl ?_); simp only [go_sem, simprocAttr, hF, h1])
   | (with_reducible (first | refine sops_go ?_ | refine headW_end ?_ | refine sops_end ?_ | refine awp_if ?_ | refine awp_skip ?_ | refine awp_ret ?_ | refine awp_exit ?_); simp only [go_sem, simprocAttr, hF, h1, e1, e2])
   | with_reducible (first | refine awp_seq_k fun _ _ => ?_ | refine awp_region [1000007, 1000014, 1000017, 1000022] ?_ | refine awp_block ?_)
   | go_step)
  all_goals (try rfl)
end Go.Proofs.YtcloigoajohppaaGreatDoor

import Derived.Lib.LaidTab
import Derived.Stop.LaidErr
import Derived.Lay
import Derived.ChangeMaps5
import Derived.ProofKit
import Derived.LaidMore
import Derived.OpenShut
import Derived.Stop.Joined
import Derived.Below
import Derived.Test.YtcloigoajohppaaGreatDoorZ6
import Derived.Test.YtcloigoajohppaaGreatDoorRows
set_option linter.unusedVariables false
set_option linter.unusedSimpArgs false
/- ref31.SameInts. -/
namespace Go.Proofs.YtcloigoajohppaaGreatDoor
open Go.RowKit
open Av
open Sc
set_option maxRecDepth 100000
set_option linter.unusedSimpArgs false
attribute [local go_sem] Av.guardB Av.sop Av.hopx Av.hop Av.hopCall Av.hopF Av.hopB Av.evo Av.evos Av.avCells Av.loadK Av.bound Av.abin Av.aun Av.partsC Av.lfill Av.placesB Av.setAt Av.stl Av.takes Av.src Av.bxOf Av.ownOf Av.St.res Av.St.put Av.St.addBox Av.St.putOwn Av.delL Av.delS Av.look Av.lookL Av.storeSt Av.stealSt Av.St.setBox Av.keepL Av.hitB Av.snap Av.snaps Av.snapCaps Av.AV.lit Av.AV.refs Av.capRefs Av.PV.av Av.CV.av Av.startSt Av.steals Av.athen Av.ablock Av.appK Av.AllS Av.AllO Av.AllR Av.keepS Av.St.avAt Av.RetOK Av.retAll Av.retOne Av.intsOf Av.ptrB TypeDesc.isRow List.range_zero Option.some.injEq exists_eq_left' exists_eq_left exists_eq' exists_and_left exists_and_right exists_const true_and and_true and_self false_and and_false or_false false_or or_true true_or if_true if_false Bool.false_eq_true List.zipIdx_cons List.zipIdx_nil List.map_cons List.map_nil List.filter_cons List.filter_nil List.contains_cons List.contains_nil List.drop_succ_cons List.drop_zero List.take_succ_cons List.take_zero List.take_nil List.drop_nil List.length_cons List.length_nil List.cons_append List.nil_append List.append_nil List.getElem?_cons_zero List.getElem?_cons_succ List.getElem?_nil Option.bind_some Option.bind_none Option.map_some Option.map_none Option.isNone_none Option.isNone_some Option.isSome_some Option.isSome_none Bool.and_true Bool.true_and Bool.and_false Bool.false_and Bool.or_false Bool.false_or Bool.not_true Bool.not_false beq_true beq_false Bool.true_beq Bool.false_beq Loc.s.injEq Loc.b.injEq decide_true decide_false beq_self_eq_true Nat.zero_add Nat.add_zero List.getElem?_toArray List.toList_toArray List.size_toArray Value.oneCell' List.all_cons List.all_nil Value.int.injEq AV.v.injEq AV.sl.injEq AV.agg.injEq AV.ref.injEq AV.ept.injEq AV.tup.injEq Value.bool.injEq PV.v.injEq PV.sl.injEq List.isEmpty_nil List.isEmpty_cons forall_const not_true_eq_false not_false_eq_true true_implies false_implies Value.string.injEq List.length_map List.getElem?_map Int.toNat_natCast Int.natCast_nonneg List.length_append Value.cells implies_true TypeDesc.struct.injEq TypeDesc.slice.injEq TypeDesc.array.injEq List.getElem?_toArray Prod.mk.injEq and_assoc exists_false List.cons.injEq Operand.tmp.injEq ite_self AV.fnv.injEq AV.clo.injEq ne_eq eq_self Tryz.sz3 Tryz.zr3 Tryz.by3 Tryz.pl3 Tryz.is3 Tryz.underlying3 Tryz.sz4 Tryz.zr4 Tryz.by4 Tryz.pl4 Tryz.is4 Tryz.underlying4 Tryz.sz9 Tryz.zr9 Tryz.by9 Tryz.pl9 Tryz.is9 Tryz.underlying9 Tryz.sz5 Tryz.zr5 Tryz.by5 Tryz.pl5 Tryz.is5 Tryz.underlying5 Tryz.sz56 Tryz.zr56 Tryz.by56 Tryz.pl56 Tryz.is56 Tryz.underlying56 Tryz.sz24 Tryz.zr24 Tryz.by24 Tryz.pl24 Tryz.is24 Tryz.underlying24 Tryz.sz70 Tryz.zr70 Tryz.by70 Tryz.pl70 Tryz.is70 Tryz.underlying70 Tryz.sz69 Tryz.zr69 Tryz.by69 Tryz.pl69 Tryz.is69 Tryz.underlying69 Tryz.sz72 Tryz.zr72 Tryz.by72 Tryz.pl72 Tryz.is72 Tryz.underlying72 Tryz.sz74 Tryz.zr74 Tryz.by74 Tryz.pl74 Tryz.is74 Tryz.underlying74 Tryz.sz117 Tryz.zr117 Tryz.by117 Tryz.pl117 Tryz.is117 Tryz.underlying117 Tryz.sz182 Tryz.zr182 Tryz.by182 Tryz.pl182 Tryz.is182 Tryz.underlying182 Tryz.sz64 Tryz.zr64 Tryz.by64 Tryz.pl64 Tryz.is64 Tryz.underlying64 Tryz.sz67 Tryz.zr67 Tryz.by67 Tryz.pl67 Tryz.is67 Tryz.underlying67 Tryz.sz26 Tryz.zr26 Tryz.by26 Tryz.pl26 Tryz.is26 Tryz.underlying26 Tryz.sz30 Tryz.zr30 Tryz.by30 Tryz.pl30 Tryz.is30 Tryz.underlying30 Tryz.sz126 Tryz.zr126 Tryz.by126 Tryz.pl126 Tryz.is126 Tryz.underlying126 Tryz.sz79 Tryz.zr79 Tryz.by79 Tryz.pl79 Tryz.is79 Tryz.underlying79 Tryz.sz81 Tryz.zr81 Tryz.by81 Tryz.pl81 Tryz.is81 Tryz.underlying81 Tryz.sz83 Tryz.zr83 Tryz.by83 Tryz.pl83 Tryz.is83 Tryz.underlying83 Tryz.sz85 Tryz.zr85 Tryz.by85 Tryz.pl85 Tryz.is85 Tryz.underlying85 Tryz.sz35 Tryz.zr35 Tryz.by35 Tryz.pl35 Tryz.is35 Tryz.underlying35 Tryz.sz88 Tryz.zr88 Tryz.by88 Tryz.pl88 Tryz.is88 Tryz.underlying88 Tryz.sz22 Tryz.zr22 Tryz.by22 Tryz.pl22 Tryz.is22 Tryz.underlying22 Tryz.sz23 Tryz.zr23 Tryz.by23 Tryz.pl23 Tryz.is23 Tryz.underlying23 Tryz.sz27 Tryz.zr27 Tryz.by27 Tryz.pl27 Tryz.is27 Tryz.underlying27 Tryz.sz28 Tryz.zr28 Tryz.by28 Tryz.pl28 Tryz.is28 Tryz.underlying28 Tryz.sz31 Tryz.zr31 Tryz.by31 Tryz.pl31 Tryz.is31 Tryz.underlying31 Tryz.sz32 Tryz.zr32 Tryz.by32 Tryz.pl32 Tryz.is32 Tryz.underlying32 Tryz.sz33 Tryz.zr33 Tryz.by33 Tryz.pl33 Tryz.is33 Tryz.underlying33 Tryz.sz65 Tryz.zr65 Tryz.by65 Tryz.pl65 Tryz.is65 Tryz.underlying65 Tryz.sz68 Tryz.zr68 Tryz.by68 Tryz.pl68 Tryz.is68 Tryz.underlying68 Tryz.sz46 Tryz.zr46 Tryz.by46 Tryz.pl46 Tryz.is46 Tryz.underlying46 Tryz.sz38 Tryz.zr38 Tryz.by38 Tryz.pl38 Tryz.is38 Tryz.underlying38 Tryz.sz94 Tryz.zr94 Tryz.by94 Tryz.pl94 Tryz.is94 Tryz.underlying94 Tryz.sz91 Tryz.zr91 Tryz.by91 Tryz.pl91 Tryz.is91 Tryz.underlying91 Tryz.sz86 Tryz.zr86 Tryz.by86 Tryz.pl86 Tryz.is86 Tryz.underlying86 all_arr loc_ss loc_sb loc_bs loc_bb arr_two arr_one rg1 rg2 rg3 rg4 rg5 rg6 rg7 rg8 ResultVar.tmp.injEq Bool.not_true Bool.not_false undef Fn.func.injEq
set_option maxHeartbeats 2000000 in
theorem sameInts_ok (a b : List Int) (ha : a.length ≤ 1000000) : FnOK Tryz.prog 91 [.sl 1 (a.map (fun x => [ip x])), .sl 1 (b.map (fun x => [ip x]))] ⟨bv (decide (a = b)), none⟩ := by
 refine fn_ok Tryz.func91 (by kernel_rfl) rfl (by rw [Tryz.ntmps91]; exact of_decide_eq_true rfl) (fun F hF => ?_)
 rw [Tryz.ntmps91] at hF
 rw [Tryz.results91]
 have hal : ((a.length : Int) != (b.length : Int)) = !decide (a.length = b.length) := by rw [Bool.eq_iff_iff]; simp; omega
 by_cases hl : a.length = b.length
 case neg =>
  have hn : decide (a.length = b.length) = false := decide_eq_false hl
  repeat (first
   | ((first | with_reducible refine sops_go ?_ | with_reducible refine sops_end ?_ | with_reducible refine awp_if ?_ | with_reducible refine awp_ret ?_); simp only [go_sem, simprocAttr, hF, hal, hn])
   | with_reducible refine awp_seq_k fun _ _ => ?_
   | (with_reducible refine awp_region [] ?_)
   | go_step)
  rw [decide_eq_false (fun h => hl (by rw [h]))]
 have hn : decide (a.length = b.length) = true := decide_eq_true hl
 repeat (first
  | ((first | with_reducible refine sops_go ?_ | with_reducible refine sops_end ?_ | with_reducible refine awp_if ?_ | with_reducible refine awp_skip ?_); simp only [go_sem, simprocAttr, hF, hal, hn])
  | with_reducible (first | refine awp_seq_k fun _ _ => ?_ | refine awp_region [] ?_ | refine awp_block ?_)
  | go_step)
 refine awp_loop_by (ι := {k : Nat // k ≤ a.length ∧ decide (a = b) = decide (a.drop k = b.drop k)}) (fun k σ => ⟨(5, iv (k.1 : Int)) :: keepS [0, 1, 4] σ.slot, σ.box, [], σ.ext⟩) (fun k => a.length - k.1) ⟨0, by omega, rfl⟩ (sub_mk ?_) (fun R hR k => ?_)
 · simp only [go_sem, simprocAttr, hF]
   repeat' (first | rfl | refine ⟨?_, ?_⟩)
 obtain ⟨k, hk, hT⟩ := k
 dsimp only
 simp only [go_sem, simprocAttr, hF]
 by_cases hlt : k < a.length
 case neg =>
  have hd : decide ((k : Int) < (a.length : Int)) = false := decide_eq_false (by omega)
  repeat (first
   | ((first | with_reducible refine sops_go ?_ | with_reducible refine sops_end ?_ | with_reducible refine awp_if ?_ | with_reducible refine awp_ret ?_ | with_reducible refine awp_exit ?_); simp only [go_sem, simprocAttr, hF, hd])
   | with_reducible refine awp_seq_k fun _ _ => ?_
   | (with_reducible refine awp_region [] ?_)
   | go_step)
  rw [hT, List.drop_of_length_le (by omega), List.drop_of_length_le (by omega)]
  rfl
 obtain ⟨x, hxk⟩ := get_of_lt hlt
 obtain ⟨y, hyk⟩ := get_of_lt (l := b) (k := k) (by omega)
 have hd : decide ((k : Int) < (a.length : Int)) = true := decide_eq_true (by omega)
 have hw : IntKind.i64.wrap ((k : Int) + 1) = ((k + 1 : Nat) : Int) := by rw [IntKind.wrap_i64]; omega
 have hT' : decide (a = b) = ((x == y) && decide (a.drop (k + 1) = b.drop (k + 1))) := by
  rw [hT, drop_of_get hxk, drop_of_get hyk, Bool.eq_iff_iff]
  simp
 cases he : (x == y) with
 | false =>
  have hne : (x != y) = true := by rw [bne, he]; rfl
  repeat (first
   | ((first | with_reducible refine sops_go ?_ | with_reducible refine headW_end ?_ | with_reducible refine sops_end ?_ | with_reducible refine awp_if ?_ | with_reducible refine awp_skip ?_ | with_reducible refine awp_ret ?_); simp only [go_sem, simprocAttr, hF, hd, hxk, hyk, he, hne])
   | ((with_reducible refine headW_go ?_); simp only [go_sem, simprocAttr, hF, hd, hxk, hyk, he, hne, hbx])
   | with_reducible refine awp_seq_k fun _ _ => ?_
   | (refine awp_draw' (id := 6) [] 9 (by kernel_rfl) (by kernel_rfl) rfl rfl (fun bx0 hbx => ?_); try dsimp only [List.take, List.drop])
   | with_reducible (first | refine awp_region [] ?_ | refine awp_block ?_)
   | go_step)
  rw [hT', he]
  rfl
 | true =>
  have hne : (x != y) = false := by rw [bne, he]; rfl
  repeat (first
   | ((first | with_reducible refine sops_go ?_ | with_reducible refine headW_end ?_ | with_reducible refine sops_end ?_ | with_reducible refine awp_if ?_ | with_reducible refine awp_skip ?_); simp only [go_sem, simprocAttr, hF, hd, hxk, hyk, he, hne])
   | ((with_reducible refine headW_go ?_); simp only [go_sem, simprocAttr, hF, hd, hxk, hyk, he, hne, hbx])
   | with_reducible refine awp_seq_k fun _ _ => ?_
   | (refine awp_draw' (id := 6) [] 9 (by kernel_rfl) (by kernel_rfl) rfl rfl (fun bx0 hbx => ?_); try dsimp only [List.take, List.drop])
   | with_reducible (first | refine awp_region [] ?_ | refine awp_block ?_)
   | go_step)
  refine ⟨⟨k + 1, by omega, by rw [hT', he, Bool.true_and]⟩, by dsimp only; omega, hR _ _ (sub_mk ?_)⟩
  simp only [go_sem, simprocAttr, hF, hw]
/- ref58.SameLeft at equal scenarios. -/
attribute [local go_sem] Sc.rsR Sc.Wk.pv Sc.Og.pv Sc.Sn.pv Tryz.it83 Tryz.eg83 Tryz.it85 Tryz.eg85
set_option maxHeartbeats 2000000 in
theorem sameLeft_ok (x : Sn) (h1 : x.weak.length ≤ 1000000) (h2 : x.outs.length ≤ 1000000) : FnOK Tryz.prog 41 [.agg x.pv, .agg x.pv] ⟨bv true, none⟩ := by
 refine fn_ok Tryz.func41 (by kernel_rfl) rfl (by rw [Tryz.ntmps41]; exact of_decide_eq_true rfl) (fun F hF => ?_)
 rw [Tryz.ntmps41] at hF
 rw [Tryz.results41]
 repeat (first
  | ((first | with_reducible refine sops_go ?_ | with_reducible refine sops_end ?_ | with_reducible refine awp_if ?_ | with_reducible refine awp_skip ?_); simp only [go_sem, simprocAttr, hF, bne_self_eq_false, List.append_eq])
  | with_reducible (first | refine awp_seq_k fun _ _ => ?_ | refine awp_region [] ?_ | refine awp_block ?_)
  | (simp only [List.append_eq, List.cons_append, List.nil_append, go_sem, simprocAttr, hF, bne_self_eq_false])
  | go_step)
 refine awp_loop_by (ι := {k : Nat // k ≤ x.weak.length}) (fun k σ => ⟨(5, iv (k.1 : Int)) :: keepS [0, 1, 2, 3, 4] σ.slot, σ.box, [], σ.ext⟩) (fun k => x.weak.length - k.1) ⟨0, by omega⟩ (sub_mk ?_) (fun R hR k => ?_)
 · simp only [go_sem, simprocAttr, hF]
   repeat' (first | rfl | refine ⟨?_, ?_⟩)
 obtain ⟨k, hk⟩ := k
 dsimp only
 simp only [go_sem, simprocAttr, hF]
 by_cases hlt : k < x.weak.length
 case neg =>
  have hd : decide ((k : Int) < (x.weak.length : Int)) = false := decide_eq_false (by omega)
  repeat (first
   | ((first | with_reducible refine sops_go ?_ | with_reducible refine sops_end ?_ | with_reducible refine awp_if ?_ | with_reducible refine awp_exit ?_); simp only [go_sem, simprocAttr, hF, bne_self_eq_false, List.append_eq, hd])
   | with_reducible (first | refine awp_seq_k fun _ _ => ?_ | refine awp_region [] ?_ | refine awp_block ?_)
   | go_step)
  refine awp_loop_by (ι := {k : Nat // k ≤ x.outs.length}) (fun k σ => ⟨(6, iv (k.1 : Int)) :: keepS [0, 1, 2, 3, 4] σ.slot, σ.box, [], σ.ext⟩) (fun k => x.outs.length - k.1) ⟨0, by omega⟩ (sub_mk ?_) (fun R hR k => ?_)
  · simp only [go_sem, simprocAttr, hF]
    repeat' (first | rfl | refine ⟨?_, ?_⟩)
  obtain ⟨k, hk⟩ := k
  dsimp only
  simp only [go_sem, simprocAttr, hF]
  by_cases hlt : k < x.outs.length
  case neg =>
   have hd : decide ((k : Int) < (x.outs.length : Int)) = false := decide_eq_false (by omega)
   repeat (first
    | ((first | with_reducible refine sops_go ?_ | with_reducible refine sops_end ?_ | with_reducible refine awp_if ?_ | with_reducible refine awp_ret ?_ | with_reducible refine awp_exit ?_); simp only [go_sem, simprocAttr, hF, bne_self_eq_false, List.append_eq, hd])
    | with_reducible refine awp_seq_k fun _ _ => ?_
    | (with_reducible refine awp_region [] ?_)
    | go_step)
   all_goals (try rfl)
  obtain ⟨d, hdk⟩ := get_of_lt hlt
  have hd : decide ((k : Int) < (x.outs.length : Int)) = true := decide_eq_true (by omega)
  have hw : IntKind.i64.wrap ((k : Int) + 1) = ((k + 1 : Nat) : Int) := by rw [IntKind.wrap_i64]; omega
  have he : ([d.nd, d.fi, d.un] == [d.nd, d.fi, d.un]) = true := beq_self_eq_true _
  repeat (first
   | ((first | with_reducible refine sops_go ?_ | with_reducible refine headW_end ?_ | with_reducible refine sops_end ?_ | with_reducible refine awp_if ?_ | with_reducible refine awp_skip ?_); simp only [go_sem, simprocAttr, hF, bne_self_eq_false, List.append_eq, hd, hdk, he])
   | ((with_reducible refine headW_go ?_); simp only [go_sem, simprocAttr, hF, bne_self_eq_false, List.append_eq, hd, hdk, he, hbx])
   | with_reducible refine awp_seq_k fun _ _ => ?_
   | (refine awp_draw' (id := 11) [] 11 (by kernel_rfl) (by kernel_rfl) rfl rfl (fun bx0 hbx => ?_); try dsimp only [List.take, List.drop])
   | with_reducible (first | refine awp_region [] ?_ | refine awp_block ?_)
   | go_step)
  refine ⟨⟨k + 1, by omega⟩, by dsimp only; omega, hR _ _ (sub_mk ?_)⟩
  simp only [go_sem, simprocAttr, hF, hw]
 obtain ⟨d, hdk⟩ := get_of_lt hlt
 have hd : decide ((k : Int) < (x.weak.length : Int)) = true := decide_eq_true (by omega)
 have hw : IntKind.i64.wrap ((k : Int) + 1) = ((k + 1 : Nat) : Int) := by rw [IntKind.wrap_i64]; omega
 have he : ([d.fr, d.to, d.fi, d.un, d.re] == [d.fr, d.to, d.fi, d.un, d.re]) = true := beq_self_eq_true _
 repeat (first
  | ((first | with_reducible refine sops_go ?_ | with_reducible refine headW_end ?_ | with_reducible refine sops_end ?_ | with_reducible refine awp_if ?_ | with_reducible refine awp_skip ?_); simp only [go_sem, simprocAttr, hF, bne_self_eq_false, List.append_eq, hd, hdk, he])
  | ((with_reducible refine headW_go ?_); simp only [go_sem, simprocAttr, hF, bne_self_eq_false, List.append_eq, hd, hdk, he, hbx])
  | with_reducible refine awp_seq_k fun _ _ => ?_
  | (refine awp_draw' (id := 6) [] 11 (by kernel_rfl) (by kernel_rfl) rfl rfl (fun bx0 hbx => ?_); try dsimp only [List.take, List.drop])
  | with_reducible (first | refine awp_region [] ?_ | refine awp_block ?_)
  | go_step)
 refine ⟨⟨k + 1, by omega⟩, by dsimp only; omega, hR _ _ (sub_mk ?_)⟩
 simp only [go_sem, simprocAttr, hF, hw]
/- ref31.Same at equal networks. -/
attribute [local go_sem] Sc.rsR Sc.Lk.pv Sc.Nt.pv Tryz.it126 Tryz.eg126
set_option maxHeartbeats 2000000 in
theorem sameN_ok (n : Nt) (h1 : ∀ r ∈ n.power, r.length ≤ 1000000) (h2 : n.margin.length ≤ 1000000) (h3 : n.links.length ≤ 1000000) (h4 : n.power.length ≤ 1000000) : FnOK Tryz.prog 42 [.agg n.pv, .agg n.pv] ⟨bv true, none⟩ := by
 have hsi : ∀ r : List Int, FnOK Tryz.prog 91 [.sl 1 (r.map (fun x => [ip x])), .sl 1 (r.map (fun x => [ip x]))] ⟨bv true, none⟩ ∨ 1000000 < r.length := fun r => by
  rcases Nat.lt_or_ge 1000000 r.length with h | h
  · exact .inr h
  · have h9 := sameInts_ok r r h
    rw [decide_eq_true rfl] at h9
    exact .inl h9
 refine fn_ok Tryz.func42 (by kernel_rfl) rfl (by rw [Tryz.ntmps42]; exact of_decide_eq_true rfl) (fun F hF => ?_)
 rw [Tryz.ntmps42] at hF
 rw [Tryz.results42]
 repeat (first
  | ((first | with_reducible refine sops_go ?_ | with_reducible refine sops_end ?_ | with_reducible refine awp_if ?_ | with_reducible refine awp_skip ?_); simp only [go_sem, simprocAttr, hF, bne_self_eq_false])
  | with_reducible (first | refine awp_seq_k fun _ _ => ?_ | refine awp_region [] ?_ | refine awp_block ?_)
  | go_step)
 refine awp_loop_by (ι := {k : Nat // k ≤ n.power.length}) (fun k σ => ⟨(5, iv (k.1 : Int)) :: keepS [0, 1, 2, 3, 4] σ.slot, σ.box, [], σ.ext⟩) (fun k => n.power.length - k.1) ⟨0, by omega⟩ (sub_mk ?_) (fun R hR k => ?_)
 · simp only [go_sem, simprocAttr, hF]
   repeat' (first | rfl | refine ⟨?_, ?_⟩)
 obtain ⟨k, hk⟩ := k
 dsimp only
 simp only [go_sem, simprocAttr, hF]
 by_cases hlt : k < n.power.length
 case neg =>
  have hd : decide ((k : Int) < (n.power.length : Int)) = false := decide_eq_false (by omega)
  repeat (first
   | ((first | with_reducible refine sops_go ?_ | with_reducible refine sops_end ?_ | with_reducible refine awp_if ?_ | with_reducible refine awp_exit ?_); simp only [go_sem, simprocAttr, hF, bne_self_eq_false, hd])
   | with_reducible (first | refine awp_seq_k fun _ _ => ?_ | refine awp_region [] ?_ | refine awp_block ?_)
   | go_step)
  refine awp_loop_by (ι := {k : Nat // k ≤ n.links.length}) (fun k σ => ⟨(6, iv (k.1 : Int)) :: keepS [0, 1, 2, 3, 4] σ.slot, σ.box, [], σ.ext⟩) (fun k => n.links.length - k.1) ⟨0, by omega⟩ (sub_mk ?_) (fun R hR k => ?_)
  · simp only [go_sem, simprocAttr, hF]
    repeat' (first | rfl | refine ⟨?_, ?_⟩)
  obtain ⟨k, hk⟩ := k
  dsimp only
  simp only [go_sem, simprocAttr, hF]
  by_cases hlt : k < n.links.length
  case neg =>
   have hd : decide ((k : Int) < (n.links.length : Int)) = false := decide_eq_false (by omega)
   repeat (first
    | ((first | with_reducible refine sops_go ?_ | with_reducible refine sops_end ?_ | with_reducible refine awp_if ?_ | with_reducible refine awp_exit ?_); simp only [go_sem, simprocAttr, hF, bne_self_eq_false, hd])
    | with_reducible refine awp_seq_k fun _ _ => ?_
    | (with_reducible refine awp_region [] ?_)
    | go_step)
   have hsm : FnOK Tryz.prog 91 [.sl 1 (n.margin.map (fun x => [ip x])), .sl 1 (n.margin.map (fun x => [ip x]))] ⟨bv true, none⟩ := (hsi n.margin).resolve_right (by omega)
   refine ⟨_, hsm, ?_⟩
   simp only [go_sem, simprocAttr, hF, bne_self_eq_false]
   repeat (first
    | ((first | with_reducible refine sops_go ?_ | with_reducible refine sops_end ?_ | with_reducible refine awp_ret ?_); simp only [go_sem, simprocAttr, hF, bne_self_eq_false])
    | go_step)
   all_goals (try rfl)
  obtain ⟨d, hdk⟩ := get_of_lt hlt
  have hd : decide ((k : Int) < (n.links.length : Int)) = true := decide_eq_true (by omega)
  have hw : IntKind.i64.wrap ((k : Int) + 1) = ((k + 1 : Nat) : Int) := by rw [IntKind.wrap_i64]; omega
  have he : ([d.fr, d.to, d.ls] == [d.fr, d.to, d.ls]) = true := beq_self_eq_true _
  repeat (first
   | ((first | with_reducible refine sops_go ?_ | with_reducible refine headW_end ?_ | with_reducible refine sops_end ?_ | with_reducible refine awp_if ?_ | with_reducible refine awp_skip ?_); simp only [go_sem, simprocAttr, hF, bne_self_eq_false, hd, hdk, he])
   | ((with_reducible refine headW_go ?_); simp only [go_sem, simprocAttr, hF, bne_self_eq_false, hd, hdk, he, hbx])
   | with_reducible refine awp_seq_k fun _ _ => ?_
   | (refine awp_draw' (id := 11) [] 11 (by kernel_rfl) (by kernel_rfl) rfl rfl (fun bx0 hbx => ?_); try dsimp only [List.take, List.drop])
   | with_reducible (first | refine awp_region [] ?_ | refine awp_block ?_)
   | go_step)
  refine ⟨⟨k + 1, by omega⟩, by dsimp only; omega, hR _ _ (sub_mk ?_)⟩
  simp only [go_sem, simprocAttr, hF, hw]
 obtain ⟨d, hdk⟩ := get_of_lt hlt
 have hd : decide ((k : Int) < (n.power.length : Int)) = true := decide_eq_true (by omega)
 have hw : IntKind.i64.wrap ((k : Int) + 1) = ((k + 1 : Nat) : Int) := by rw [IntKind.wrap_i64]; omega
 have hsd : FnOK Tryz.prog 91 [.sl 1 (d.map (fun x => [ip x])), .sl 1 (d.map (fun x => [ip x]))] ⟨bv true, none⟩ := (hsi d).resolve_right (by have := h1 d (List.mem_of_getElem? hdk); omega)
 repeat (first
  | ((first | with_reducible refine sops_go ?_ | with_reducible refine sops_end ?_ | with_reducible refine awp_if ?_ | with_reducible refine awp_skip ?_); simp only [go_sem, simprocAttr, hF, bne_self_eq_false, hd, hdk])
  | ((with_reducible refine headW_go ?_); simp only [go_sem, simprocAttr, hF, bne_self_eq_false, hd, hdk, hbx])
  | with_reducible refine awp_seq_k fun _ _ => ?_
  | (refine awp_draw' (id := 6) [] 12 (by kernel_rfl) (by kernel_rfl) rfl rfl (fun bx0 hbx => ?_); try dsimp only [List.take, List.drop])
  | with_reducible (first | refine awp_region [] ?_ | refine awp_block ?_)
  | go_step)
 refine ⟨_, hsd, ?_⟩
 simp only [go_sem, simprocAttr, hF, bne_self_eq_false]
 repeat (first
  | ((first | with_reducible refine sops_go ?_ | with_reducible refine headW_end ?_ | with_reducible refine sops_end ?_ | with_reducible refine awp_if ?_ | with_reducible refine awp_skip ?_); simp only [go_sem, simprocAttr, hF, bne_self_eq_false, hd, hdk])
  | ((with_reducible refine headW_go ?_); simp only [go_sem, simprocAttr, hF, bne_self_eq_false, hd, hdk, hbx])
  | (with_reducible refine awp_region [] ?_)
  | go_step)
 refine ⟨⟨k + 1, by omega⟩, by dsimp only; omega, hR _ _ (sub_mk ?_)⟩
 simp only [go_sem, simprocAttr, hF, hw]
/- same at equal scenarios. -/
attribute [local go_sem] Sc.Sn.pv Sc.Nt.pv
/-- Sizes within which scenarios are compared. -/
structure SmX (x : Sn) : Prop where
 p1 : ∀ r ∈ x.net.power, r.length ≤ 1000000
 p2 : x.net.power.length ≤ 1000000
 p3 : x.net.margin.length ≤ 1000000
 p4 : x.net.links.length ≤ 1000000
 b : x.before.length ≤ 1000000
 a : x.after.length ≤ 1000000
 bq : ∀ q ∈ x.before, q.rs.length ≤ 1000000 ∧ ∀ r ∈ q.rs, r.length ≤ 1000000
 aq : ∀ q ∈ x.after, q.rs.length ≤ 1000000 ∧ ∀ r ∈ q.rs, r.length ≤ 1000000
 ce : x.cells.length ≤ 1000000
 ch : x.changes.length ≤ 1000000
 w : x.weak.length ≤ 1000000
 o : x.outs.length ≤ 1000000

set_option maxHeartbeats 2000000 in
theorem same_ok (x : Sn) (hx : SmX x) : FnOK Tryz.prog 15 [.agg x.pv, .agg x.pv] ⟨bv true, none⟩ := by
 have e1 := sameLeft_ok x hx.w hx.o
 have e2 := sameN_ok x.net hx.p1 hx.p3 hx.p4 hx.p2
 have e3 : FnOK Tryz.prog 43 [.sl 5 (x.cells.map Ce.pv), .sl 5 (x.cells.map Ce.pv)] ⟨bv true, none⟩ := by
  have h := eqCe_ok x.cells x.cells hx.ce
  rw [decide_eq_true rfl] at h
  exact h
 have e4 := eqCh_ok x.changes hx.ch
 have e5 := eqfRq_ok x.before hx.b hx.bq
 have e6 := eqfRq_ok x.after hx.a hx.aq
 unfold Sn.pv at e1
 unfold Nt.pv at e2
 refine fn_ok Tryz.func15 (by kernel_rfl) rfl (by rw [Tryz.ntmps15]; exact of_decide_eq_true rfl) (fun F hF => ?_)
 rw [Tryz.ntmps15] at hF
 rw [Tryz.results15]
 repeat (first
  | ((first | with_reducible refine sops_go ?_ | with_reducible refine sops_end ?_); simp only [go_sem, simprocAttr, hF, bne_self_eq_false])
  | with_reducible refine awp_seq_k fun _ _ => ?_
  | (with_reducible refine awp_region [] ?_)
  | go_step)
 refine ⟨_, e1, ?_⟩
 simp only [go_sem, simprocAttr, hF, bne_self_eq_false]
 repeat ((with_reducible refine sops_go ?_; simp only [go_sem, simprocAttr, hF, bne_self_eq_false]))
 refine ⟨_, e2, ?_⟩
 simp only [go_sem, simprocAttr, hF, bne_self_eq_false]
 repeat ((with_reducible refine sops_go ?_; simp only [go_sem, simprocAttr, hF, bne_self_eq_false]))
 refine ⟨_, e3, ?_⟩
 simp only [go_sem, simprocAttr, hF, bne_self_eq_false]
 repeat ((with_reducible refine sops_go ?_; simp only [go_sem, simprocAttr, hF, bne_self_eq_false]))
 refine ⟨_, e4, ?_⟩
 simp only [go_sem, simprocAttr, hF, bne_self_eq_false]
 repeat (first
  | ((first | with_reducible refine sops_go ?_ | with_reducible refine sops_end ?_ | with_reducible refine awp_if ?_ | with_reducible refine awp_skip ?_); simp only [go_sem, simprocAttr, hF, bne_self_eq_false])
  | with_reducible refine awp_seq_k fun _ _ => ?_
  | (with_reducible refine awp_region [] ?_)
  | go_step)
 refine ⟨_, e5, ?_⟩
 simp only [go_sem, simprocAttr, hF, bne_self_eq_false]
 repeat ((with_reducible refine sops_go ?_; simp only [go_sem, simprocAttr, hF, bne_self_eq_false]))
 refine ⟨_, e6, ?_⟩
 simp only [go_sem, simprocAttr, hF, bne_self_eq_false]
 repeat (first
  | ((first | with_reducible refine sops_go ?_ | with_reducible refine sops_end ?_ | with_reducible refine awp_ret ?_); simp only [go_sem, simprocAttr, hF, bne_self_eq_false])
  | go_step)
 all_goals (try rfl)
end Go.Proofs.YtcloigoajohppaaGreatDoor
/- Scenarios of some size: the room that their texts take, and their numbers. -/
namespace Go.Proofs.YtcloigoajohppaaGreatDoor
open Go.RowKit
open Av
open Sc
set_option maxRecDepth 100000
set_option linter.unusedSimpArgs false
set_option linter.unusedVariables false

/-- All numbers are of 64 bits. -/
structure RgX (x : Sn) : Prop where
  no : r64 x.net.nodes
  ns : r64 x.net.noise
  th : r64 x.net.thr
  pl : x.net.power.length ≤ 9223372036854775807
  pr : ∀ r ∈ x.net.power, r.length ≤ 9223372036854775807 ∧ ∀ n ∈ r, r64 n
  lk : ∀ l ∈ x.net.links, r64 l.fr ∧ r64 l.to ∧ r64 l.ls
  mg : ∀ n ∈ x.net.margin, r64 n
  be : ∀ q ∈ x.before, (∀ n ∈ q.f.nums, r64 n) ∧ ∀ r ∈ q.rs, ∀ n ∈ r, r64 n
  af : ∀ q ∈ x.after, (∀ n ∈ q.f.nums, r64 n) ∧ ∀ r ∈ q.rs, ∀ n ∈ r, r64 n
  le : r64 x.len
  ofs : r64 x.offs
  ce : ∀ c ∈ x.cells, ∀ n ∈ c.nums, r64 n
  ch : ∀ c ∈ x.changes, ∀ n ∈ c.sl :: c.c.nums, r64 n
  wk : ∀ c ∈ x.weak, ∀ n ∈ [c.fr, c.to, c.fi, c.un, c.re], r64 n
  ou : ∀ c ∈ x.outs, ∀ n ∈ [c.nd, c.fi, c.un], r64 n
  sl : r64 x.slots
theorem lr_row {a : Nat} (ha : a ≤ 9223372036854775807) : ∀ (l : List Int) (b : Nat), b + l.length ≤ 9223372036854775807 → (∀ n ∈ l, r64 n) → Lr (rowL a b l)
  | [], _, _, _ => fun x hx => by cases hx
  | v :: l, b, hb, h => by
    rw [List.length_cons] at hb
    intro x hx
    unfold rowL at hx
    rcases List.mem_append.1 hx with hx | hx
    · split at hx
      · cases hx
      · rw [List.mem_singleton.1 hx]
        have hv := h v List.mem_cons_self
        intro n hn
        rcases List.mem_cons.1 hn with rfl | hn
        · omega
        rcases List.mem_cons.1 hn with rfl | hn
        · omega
        rw [List.mem_singleton.1 hn]
        exact hv
    · exact lr_row ha l (b + 1) (by omega) (fun n hn => h n (List.mem_cons_of_mem _ hn)) x hx
theorem lr_pow : ∀ (l : List (List Int)) (a : Nat), a + l.length ≤ 9223372036854775807 → (∀ r ∈ l, r.length ≤ 9223372036854775807 ∧ ∀ n ∈ r, r64 n) → Lr (powL a l)
  | [], _, _, _ => fun x hx => by cases hx
  | r :: l, a, ha, h => by
    rw [List.length_cons] at ha
    intro x hx
    unfold powL at hx
    have hr := h r List.mem_cons_self
    rcases List.mem_append.1 hx with hx | hx
    · exact lr_row (by omega) r 0 (by omega) hr.2 x hx
    · exact lr_pow l (a + 1) (by omega) (fun r hr => h r (List.mem_cons_of_mem _ hr)) x hx
theorem lr_req {w : ByteArray} {q : List Rq} (h : ∀ x ∈ q, (∀ n ∈ x.f.nums, r64 n) ∧ ∀ r ∈ x.rs, ∀ n ∈ r, r64 n) : Lr (reqL w q) := fun y hy => by
  obtain ⟨x, hx, hy⟩ := List.mem_flatMap.1 hy
  rcases List.mem_cons.1 hy with rfl | hy
  · exact (h x hx).1
  · obtain ⟨r, hr, rfl⟩ := List.mem_map.1 hy
    exact (h x hx).2 r hr
theorem lr_of {x : Sn} (h : RgX x) : Lr (linesOf x) := by
  intro y hy
  unfold linesOf at hy
  rcases List.mem_append.1 hy with hy | hy
  · unfold netL at hy
    rcases List.mem_cons.1 hy with rfl | hy
    · intro n hn
      rcases List.mem_cons.1 hn with rfl | hn
      · exact h.no
      rcases List.mem_cons.1 hn with rfl | hn
      · exact h.ns
      rw [List.mem_singleton.1 hn]
      exact h.th
    · rcases List.mem_append.1 hy with hy | hy
      · exact lr_pow x.net.power 0 (by have := h.pl; omega) h.pr y hy
      · obtain ⟨⟨l, m⟩, hz, rfl⟩ := List.mem_map.1 hy
        have h1 := h.lk l (List.of_mem_zip hz).1
        have h2 := h.mg m (List.of_mem_zip hz).2
        intro n hn
        rcases List.mem_cons.1 hn with rfl | hn
        · exact h1.1
        rcases List.mem_cons.1 hn with rfl | hn
        · exact h1.2.1
        rcases List.mem_cons.1 hn with rfl | hn
        · exact h1.2.2
        rw [List.mem_singleton.1 hn]
        exact h2
  rcases List.mem_append.1 hy with hy | hy
  · exact lr_req h.be y hy
  rcases List.mem_append.1 hy with hy | hy
  · exact lr_req h.af y hy
  unfold tailL at hy
  rcases List.mem_cons.1 hy with rfl | hy
  · intro n hn
    rcases List.mem_cons.1 hn with rfl | hn
    · exact h.le
    rw [List.mem_singleton.1 hn]
    exact h.ofs
  rcases List.mem_append.1 hy with hy | hy
  · obtain ⟨z, hz, rfl⟩ := List.mem_map.1 hy
    exact h.ce z hz
  rcases List.mem_append.1 hy with hy | hy
  · obtain ⟨z, hz, rfl⟩ := List.mem_map.1 hy
    exact h.ch z hz
  rcases List.mem_append.1 hy with hy | hy
  · obtain ⟨z, hz, rfl⟩ := List.mem_map.1 hy
    exact h.wk z hz
  rcases List.mem_append.1 hy with hy | hy
  · obtain ⟨z, hz, rfl⟩ := List.mem_map.1 hy
    exact h.ou z hz
  · rw [List.mem_singleton.1 hy]
    intro n hn
    rw [List.mem_singleton.1 hn]
    exact h.sl
/-! Room -/
theorem line_len {w : ByteArray} {ns : List Int} (h : ∀ n ∈ ns, -9223372036854775808 ≤ n ∧ n ≤ 9223372036854775807) : (lineB w ns).length ≤ w.size + 22 * ns.length := by
  unfold lineB
  rw [List.length_append, ← size_list]
  have key : ∀ l : List Int, (∀ n ∈ l, -9223372036854775808 ≤ n ∧ n ≤ 9223372036854775807) → (l.flatMap fun n => 32 :: Lib.itoa n).length ≤ 22 * l.length := fun l => by
    induction l with
    | nil => intro _; exact Nat.zero_le _
    | cons n l ih =>
      intro h
      have h1 := Lib.itoa_length_le n (h n List.mem_cons_self).1 (h n List.mem_cons_self).2
      have h2 := ih fun m hm => h m (List.mem_cons_of_mem _ hm)
      rw [List.flatMap_cons, List.length_append, List.length_cons, List.length_cons]
      omega
  have := key ns h
  omega
theorem txt_len {L : List Ln} (hr : Lr L) (h : ∀ y ∈ L, y.1.size ≤ 8 ∧ y.2.length ≤ 20) : (txt L).length ≤ 449 * L.length := by
  induction L with
  | nil => exact Nat.zero_le _
  | cons y L ih =>
    have h1 := line_len (w := y.1) (hr y List.mem_cons_self)
    have h2 := h y List.mem_cons_self
    have h3 := ih hr.tail fun z hz => h z (List.mem_cons_of_mem _ hz)
    rw [txt_cons, List.length_append, List.length_append, List.length_cons]
    simp only [List.length_cons, List.length_nil]
    omega
theorem row_count {a : Nat} : ∀ (l : List Int) (b : Nat), (rowL a b l).length ≤ l.length
  | [], _ => Nat.le_refl _
  | v :: l, b => by
    have := row_count (a := a) l (b + 1)
    unfold rowL
    rw [List.length_append, List.length_cons]
    split <;> simp only [List.length_cons, List.length_nil] <;> omega
theorem pow_count : ∀ (l : List (List Int)) (a : Nat), (∀ r ∈ l, r.length ≤ 40) → (powL a l).length ≤ 40 * l.length
  | [], _, _ => Nat.le_refl _
  | r :: l, a, h => by
    have h1 := row_count (a := a) r 0
    have h2 := pow_count l (a + 1) fun q hq => h q (List.mem_cons_of_mem _ hq)
    have h3 := h r List.mem_cons_self
    unfold powL
    rw [List.length_append, List.length_cons]
    omega
theorem req_count {w : ByteArray} : ∀ (q : List Rq), (∀ x ∈ q, x.rs.length ≤ 4) → (reqL w q).length ≤ 5 * q.length
  | [], _ => Nat.le_refl _
  | x :: q, h => by
    have h1 := req_count (w := w) q fun y hy => h y (List.mem_cons_of_mem _ hy)
    have h2 := h x List.mem_cons_self
    rw [reqL_cons, List.length_append, List.length_cons]
    have h3 : (reqL1 w x).length = x.rs.length + 1 := by unfold reqL1 rtL; rw [List.length_cons, List.length_map]
    omega
/-- What is small. -/
structure FewX (x : Sn) : Prop where
  p : x.net.power.length ≤ 8
  r : ∀ r ∈ x.net.power, r.length ≤ 40
  l : x.net.links.length ≤ 60
  m : x.net.margin.length ≤ 60
  b : x.before.length ≤ 20
  a : x.after.length ≤ 20
  bq : ∀ q ∈ x.before, q.rs.length ≤ 4 ∧ ∀ r ∈ q.rs, r.length ≤ 20
  aq : ∀ q ∈ x.after, q.rs.length ≤ 4 ∧ ∀ r ∈ q.rs, r.length ≤ 20
theorem few_of {x : Sn} (h : few54B x = true) : FewX x := by
  unfold few54B at h
  rw [Bool.and_eq_true, Bool.not_eq_true'] at h
  obtain ⟨h1, h2⟩ := h
  have hq : ∀ q ∈ x.before ++ x.after, q.rs.length ≤ 4 ∧ ∀ r ∈ q.rs, r.length ≤ 20 := fun q hq => by
    have := List.all_eq_true.1 h2 q hq
    unfold okq at this
    rw [Bool.and_eq_true] at this
    exact ⟨of_decide_eq_true this.1, fun r hr => of_decide_eq_true (List.all_eq_true.1 this.2 r hr)⟩
  unfold tst54 at h1
  simp only [Bool.or_eq_false_iff] at h1
  obtain ⟨⟨⟨⟨⟨⟨⟨g1, _⟩, _⟩, _⟩, g5⟩, g6⟩, _⟩, _⟩ := h1
  have g1 : few31B x.net.power x.net.links.length x.net.margin.length = true := by simpa using g1
  unfold few31B at g1
  simp only [Bool.and_eq_true] at g1
  obtain ⟨k1, k2, k3, k4⟩ := g1
  have k2 := of_decide_eq_true k2
  have k3 := of_decide_eq_true k3
  have k4 := of_decide_eq_true k4
  have g5 := of_decide_eq_false g5
  have g6 := of_decide_eq_false g6
  exact ⟨by omega, fun r hr => of_decide_eq_true (List.all_eq_true.1 k1 r hr), by omega, by omega, by omega, by omega, fun q h => hq q (List.mem_append_left _ h), fun q h => hq q (List.mem_append_right _ h)⟩
theorem room_of {x : Sn} (h : FewX x) (hl : longX x = false) (hr : RgX x) : (txt (linesOf x)).length ≤ 140737488355328 := by
  have hL := lng_of hl
  have h0 : ∀ y ∈ linesOf x, y.1.size ≤ 8 ∧ y.2.length ≤ 20 := by
    intro y hy
    have hq : ∀ {w : ByteArray} {q : List Rq}, w.size ≤ 8 → (∀ z ∈ q, z.rs.length ≤ 4 ∧ ∀ r ∈ z.rs, r.length ≤ 20) → y ∈ reqL w q → y.1.size ≤ 8 ∧ y.2.length ≤ 20 := fun hw hq hy => by
      obtain ⟨z, hz, hy⟩ := List.mem_flatMap.1 hy
      rcases List.mem_cons.1 hy with rfl | hy
      · exact ⟨hw, by show (6 : Nat) ≤ 20; decide⟩
      · obtain ⟨r, hr, rfl⟩ := List.mem_map.1 hy
        exact ⟨by show wRoute.size ≤ 8; decide, (hq z hz).2 r hr⟩
    unfold linesOf at hy
    rcases List.mem_append.1 hy with hy | hy
    · unfold netL at hy
      rcases List.mem_cons.1 hy with rfl | hy
      · exact ⟨by show wNetwork.size ≤ 8; decide, by show (3 : Nat) ≤ 20; decide⟩
      · rcases List.mem_append.1 hy with hy | hy
        · refine ⟨by rw [good_pows _ _ y hy]; decide, ?_⟩
          have hr3 : ∀ (l : List Int) (a b : Nat), ∀ y ∈ rowL a b l, y.2.length ≤ 20 := fun l => by
            induction l with
            | nil => intro a b y hy; cases hy
            | cons v l ih =>
              intro a b y hy
              unfold rowL at hy
              rcases List.mem_append.1 hy with hy | hy
              · split at hy
                · cases hy
                · rw [List.mem_singleton.1 hy]; show (3 : Nat) ≤ 20; decide
              · exact ih a (b + 1) y hy
          have hp3 : ∀ (l : List (List Int)) (a : Nat), ∀ y ∈ powL a l, y.2.length ≤ 20 := fun l => by
            induction l with
            | nil => intro a y hy; cases hy
            | cons v l ih =>
              intro a y hy
              unfold powL at hy
              rcases List.mem_append.1 hy with hy | hy
              · exact hr3 v a 0 y hy
              · exact ih (a + 1) y hy
          exact hp3 _ _ y hy
        · obtain ⟨z, _, rfl⟩ := List.mem_map.1 hy
          exact ⟨by show wLink.size ≤ 8; decide, by show (4 : Nat) ≤ 20; decide⟩
    rcases List.mem_append.1 hy with hy | hy
    · exact hq (by decide) h.bq hy
    rcases List.mem_append.1 hy with hy | hy
    · exact hq (by decide) h.aq hy
    unfold tailL at hy
    rcases List.mem_cons.1 hy with rfl | hy
    · exact ⟨by show wSchedule.size ≤ 8; decide, by show (2 : Nat) ≤ 20; decide⟩
    rcases List.mem_append.1 hy with hy | hy
    · obtain ⟨z, _, rfl⟩ := List.mem_map.1 hy
      exact ⟨by show wCell.size ≤ 8; decide, by show (5 : Nat) ≤ 20; decide⟩
    rcases List.mem_append.1 hy with hy | hy
    · obtain ⟨z, _, rfl⟩ := List.mem_map.1 hy
      refine ⟨?_, by show (6 : Nat) ≤ 20; decide⟩
      unfold chL
      cases z.ad
      · show wRemove.size ≤ 8; decide
      · show wAdd.size ≤ 8; decide
    rcases List.mem_append.1 hy with hy | hy
    · obtain ⟨z, _, rfl⟩ := List.mem_map.1 hy
      exact ⟨by show wWeak.size ≤ 8; decide, by show (5 : Nat) ≤ 20; decide⟩
    rcases List.mem_append.1 hy with hy | hy
    · obtain ⟨z, _, rfl⟩ := List.mem_map.1 hy
      exact ⟨by show wOutage.size ≤ 8; decide, by show (3 : Nat) ≤ 20; decide⟩
    · rw [List.mem_singleton.1 hy]
      exact ⟨by show wSlots.size ≤ 8; decide, by show (1 : Nat) ≤ 20; decide⟩
  have h1 := txt_len (lr_of hr) h0
  have h2 : (linesOf x).length ≤ 100000 := by
    unfold linesOf netL linkL tailL
    have e1 := pow_count x.net.power 0 h.r
    have e2 := req_count (w := wBefore) x.before fun q hq => (h.bq q hq).1
    have e3 := req_count (w := wAfter) x.after fun q hq => (h.aq q hq).1
    have e4 := h.p
    have e5 := h.l
    have e6 := h.b
    have e7 := h.a
    have e8 := hL.cells
    have e9 := hL.changes
    have e10 := hL.weak
    have e11 := hL.outs
    simp only [List.length_append, List.length_cons, List.length_map, List.length_zip, List.length_nil]
    omega
  omega
theorem smX_of {x : Sn} (h : FewX x) (hl : longX x = false) : SmX x := by
  have hL := lng_of hl
  exact ⟨fun r hr => by have := h.r r hr; omega, by have := h.p; omega, by have := h.m; omega, by have := h.l; omega, by have := h.b; omega, by have := h.a; omega, fun q hq => ⟨by have := (h.bq q hq).1; omega, fun r hr => by have := (h.bq q hq).2 r hr; omega⟩, fun q hq => ⟨by have := (h.aq q hq).1; omega, fun r hr => by have := (h.aq q hq).2 r hr; omega⟩,
    by have := hL.cells; omega, by have := hL.changes; omega, by have := hL.weak; omega, by have := hL.outs; omega⟩
end Go.Proofs.YtcloigoajohppaaGreatDoor
/- Arguments of the laws of layer 59, opened; what the listed variables are. -/
namespace Go.Proofs.YtcloigoajohppaaGreatDoor
open Go.RowKit
open Av Sc
set_option maxRecDepth 100000
set_option linter.unusedSimpArgs false
open Go.ChangeShapes Go.WideShapes Go.ChangeAt

def cellR (w : World) : Reader := fun p => w.cell? p
theorem RepL.get {R : Reader} {ps : List PV} {us : List Value} (h : RepL R ps us) : us.length = ps.length ∧ ∀ (j : Nat) (p : PV), ps[j]? = some p → ∃ u, us[j]? = some u ∧ RepP R p u := by
  induction h with
  | nil => exact ⟨rfl, fun j p h => by simp at h⟩
  | cons h t ih =>
    refine ⟨by simp [ih.1], fun j p hj => ?_⟩
    cases j with
    | zero =>
      simp only [List.getElem?_cons_zero, Option.some.injEq] at hj
      subst hj
      exact ⟨_, rfl, h⟩
    | succ j => exact ih.2 j p (by simpa using hj)
/-- A slice, read by f. -/
theorem rep_of_slice {α : Type} {f : α → List PV} {w : World} {e : Ty} {A : Option Addr} {n c : Nat} (hz : 0 < e.cells) (hnc : n ≤ c) (hnil : A = none → n = 0) (hr : ∀ es, es.length = e.cells → e.holds w es → ∃ x, RepL (cellR w) (f x) es)
    (h : ∀ a, A = some a → ∀ i, i < n → ∃ es, es.length = e.cells ∧ e.holds w es ∧ ∀ j u, es[j]? = some u → w.cell? (a.add (i * e.cells + j)) = some u) :
    ∃ l : List α, l.length = n ∧ RepP (cellR w) (.sl e.cells (l.map f)) (.slice A n c) := by
  cases A with
  | none =>
    obtain rfl := hnil rfl
    exact ⟨[], rfl, .sl e.cells [] none c (fun _ _ => undef) (fun k row hk => by simp at hk) (.inl rfl) (fun k row j p hk => by simp at hk) (Nat.zero_le _)⟩
  | some a =>
    obtain ⟨l, hl, hq⟩ := list_of (Q := fun i x => ∃ es, es.length = e.cells ∧ RepL (cellR w) (f x) es ∧ ∀ j u, es[j]? = some u → w.cell? (a.add (i * e.cells + j)) = some u) n fun i hi => by
      obtain ⟨es, h1, h2, h3⟩ := h a rfl i hi
      obtain ⟨x, hx⟩ := hr es h1 h2
      exact ⟨x, es, h1, hx, h3⟩
    refine ⟨l, hl, ?_⟩
    have hrow : ∀ (k : Nat) (row : List PV), (l.map f)[k]? = some row → row.length = e.cells ∧ ∀ (j : Nat) (p : PV), row[j]? = some p → ∃ u, w.cell? (a.add (k * e.cells + j)) = some u ∧ RepP (cellR w) p u := fun k row hk => by
      rw [List.getElem?_map] at hk
      cases hx : l[k]? with
      | none => rw [hx] at hk; cases hk
      | some x =>
        rw [hx] at hk
        obtain rfl := Option.some.inj hk
        obtain ⟨es, h1, h2, h3⟩ := hq k x hx
        obtain ⟨g1, g2⟩ := RepL.get h2
        refine ⟨by rw [← g1, h1], fun j p hj => ?_⟩
        obtain ⟨u, hu, hp⟩ := g2 j p hj
        exact ⟨u, h3 j u hu, hp⟩
    have hlen : n = (l.map f).length := by rw [List.length_map, hl]
    rw [hlen]
    refine .sl e.cells (l.map f) (some a) c (fun k j => (w.cell? (a.add (k * e.cells + j))).getD undef) (fun k row hk => (hrow k row hk).1) ?_ (fun k row j p hk hj => ?_) (by rw [← hlen]; exact hnc)
    · by_cases hn : l = []
      · exact .inl (by rw [hn]; rfl)
      · right
        have h0 : 0 < l.length := by
          rcases Nat.eq_zero_or_pos l.length with h0 | h0
          · exact absurd (List.eq_nil_of_length_eq_zero h0) hn
          · exact h0
        obtain ⟨x0, hx0⟩ := get_of_lt h0
        obtain ⟨q1, q2⟩ := hrow 0 (f x0) (by rw [List.getElem?_map, hx0]; rfl)
        obtain ⟨p0, hp0⟩ := get_of_lt (l := f x0) (k := 0) (by rw [q1]; exact hz)
        obtain ⟨u0, hu0, _⟩ := q2 0 p0 hp0
        have ha0 : a.add 0 = a := by simp [Addr.add]
        rw [show 0 * e.cells + 0 = 0 by omega, ha0] at hu0
        obtain ⟨_, hsp⟩ := cell_lt hu0
        obtain ⟨b, off, sp⟩ := a
        dsimp only at hsp
        subst hsp
        have hadd : ∀ i : Nat, (⟨b, off, none⟩ : Addr).add i = ⟨b, off + i, none⟩ := fun i => by
          unfold Addr.add
          split
          · rename_i h0; rw [h0]; rfl
          · rfl
        refine ⟨b, off, rfl, fun k row j p hk hj => ?_⟩
        obtain ⟨u, hu, _⟩ := (hrow k row hk).2 j p hj
        rw [hu]
        rw [hadd, ← Nat.add_assoc] at hu
        exact hu
    · obtain ⟨u, hu, hp⟩ := (hrow k row hk).2 j p hj
      rw [hu]; exact hp
/-- A slice, read by f: what holds of all its elements. -/
theorem rep_of_sliceG {α : Type} {f : α → List PV} {G : α → Prop} {w : World} {e : Ty} {A : Option Addr} {n c : Nat} (hz : 0 < e.cells) (hnc : n ≤ c) (hnil : A = none → n = 0) (hr : ∀ es, es.length = e.cells → e.holds w es → ∃ x, RepL (cellR w) (f x) es ∧ G x)
    (h : ∀ a, A = some a → ∀ i, i < n → ∃ es, es.length = e.cells ∧ e.holds w es ∧ ∀ j u, es[j]? = some u → w.cell? (a.add (i * e.cells + j)) = some u) :
    ∃ l : List α, l.length = n ∧ RepP (cellR w) (.sl e.cells (l.map f)) (.slice A n c) ∧ ∀ x ∈ l, G x := by
  obtain ⟨l, h1, h2⟩ := rep_of_slice (α := { x : α // G x }) (f := fun x => f x.1) hz hnc hnil (fun es h1 h2 => by
    obtain ⟨x, h3, h4⟩ := hr es h1 h2
    exact ⟨⟨x, h4⟩, h3⟩) h
  refine ⟨l.map (·.1), by rw [List.length_map]; exact h1, by rw [List.map_map]; exact h2, fun x hx => ?_⟩
  obtain ⟨y, _, rfl⟩ := List.mem_map.1 hx
  exact y.2
theorem r64_wf {n : Int} (h : (Lit.int .i64 n).wf = true) : r64 n := by
  unfold Lit.wf at h
  rw [Bool.and_eq_true] at h
  have h1 := of_decide_eq_true h.1
  have h2 := of_decide_eq_true h.2
  exact ⟨h1, h2⟩
theorem max_len : maxLen = 9223372036854775807 := by decide
def Ty.qi : Ty := .int .i64
def Ty.qfw : Ty := .struct (.cons .qi (.cons .qi (.cons .qi (.cons .qi (.cons .qi (.cons .qi .nil))))))
def Ty.qrq : Ty := .struct (.cons .qfw (.cons (.slice (.slice .qi)) .nil))
def Ty.qce : Ty := .struct (.cons .qi (.cons .qi (.cons .qi (.cons .qi (.cons .qi .nil)))))
def Ty.qch : Ty := .struct (.cons .qi (.cons .bool (.cons .qce .nil)))
def Ty.qog : Ty := .struct (.cons .qi (.cons .qi (.cons .qi .nil)))
def Ty.qnt : Ty := .struct (.cons .qi (.cons (.slice (.slice .qi)) (.cons .qi (.cons .qi (.cons (.slice .qog) (.cons (.slice .qi) .nil))))))
def Ty.qsd : Ty := .struct (.cons .qi (.cons .qi (.cons (.slice .qce) .nil)))
def Ty.qsn : Ty := .struct (.cons .qnt (.cons (.slice .qrq) (.cons (.slice .qrq) (.cons .qsd (.cons (.slice .qch) (.cons (.slice .qce) (.cons (.slice .qog) (.cons .qi .nil))))))))
theorem Tryz.fitsQsn : Ty.qsn.fits Tryz.prog 35 = true := by kernel_rfl
section
variable {w : World}
theorem qint_of (es : List Value) (_hl : es.length = Ty.qi.cells) (h : Ty.qi.holds w es) : ∃ a : Int, RepL (cellR w) [ip a] es ∧ r64 a := by
  obtain ⟨n, rfl, h⟩ := h
  exact ⟨n, .cons (.v _ rfl) .nil, r64_wf h⟩
theorem qrow_of (es : List Value) (_hl : es.length = (Ty.slice .qi).cells) (h : (Ty.slice .qi).holds w es) : ∃ a : List Int, RepL (cellR w) [PV.sl 1 (a.map fun n => [ip n])] es ∧ a.length ≤ 9223372036854775807 ∧ ∀ n ∈ a, r64 n := by
  obtain ⟨A, n, c, rfl, hc, hm, hn, he⟩ := h
  obtain ⟨l, hl, hr, hg⟩ := rep_of_sliceG (f := fun n => [ip n]) (e := Ty.qi) (by decide) hc hn qint_of he
  have := max_len
  exact ⟨l, .cons hr .nil, by omega, hg⟩
theorem qce_of (es : List Value) (hl : es.length = Ty.qce.cells) (h : Ty.qce.holds w es) : ∃ a : Ce, RepL (cellR w) a.pv es ∧ ∀ n ∈ a.nums, r64 n := by
  match es, hl with
  | [c0, c1, c2, c3, c4], _ =>
    simp only [Ty.qce, Ty.qi, Ty.holds, Ty.cells, List.take, List.drop] at h
    obtain ⟨⟨n0, h0, g0⟩, ⟨n1, h1, g1⟩, ⟨n2, h2, g2⟩, ⟨n3, h3, g3⟩, ⟨n4, h4, g4⟩, _⟩ := h
    simp only [List.cons.injEq, and_true] at h0 h1 h2 h3 h4
    subst h0 h1 h2 h3 h4
    refine ⟨⟨n0, n1, n2, n3, n4⟩, .cons (.v _ rfl) (.cons (.v _ rfl) (.cons (.v _ rfl) (.cons (.v _ rfl) (.cons (.v _ rfl) .nil)))), fun n hn => ?_⟩
    unfold Ce.nums at hn
    simp only [List.mem_cons, List.not_mem_nil, or_false] at hn
    rcases hn with rfl | rfl | rfl | rfl | rfl
    · exact r64_wf g0
    · exact r64_wf g1
    · exact r64_wf g2
    · exact r64_wf g3
    · exact r64_wf g4
theorem qwk_of (es : List Value) (hl : es.length = Ty.qce.cells) (h : Ty.qce.holds w es) : ∃ a : Wk, RepL (cellR w) a.pv es ∧ ∀ n ∈ [a.fr, a.to, a.fi, a.un, a.re], r64 n := by
  obtain ⟨⟨a, b, c, d, e⟩, h, g⟩ := qce_of es hl h
  exact ⟨⟨a, b, c, d, e⟩, h, g⟩
theorem qog_of (es : List Value) (hl : es.length = Ty.qog.cells) (h : Ty.qog.holds w es) : ∃ a : Og, RepL (cellR w) a.pv es ∧ ∀ n ∈ [a.nd, a.fi, a.un], r64 n := by
  match es, hl with
  | [c0, c1, c2], _ =>
    simp only [Ty.qog, Ty.qi, Ty.holds, Ty.cells, List.take, List.drop] at h
    obtain ⟨⟨n0, h0, g0⟩, ⟨n1, h1, g1⟩, ⟨n2, h2, g2⟩, _⟩ := h
    simp only [List.cons.injEq, and_true] at h0 h1 h2
    subst h0 h1 h2
    refine ⟨⟨n0, n1, n2⟩, .cons (.v _ rfl) (.cons (.v _ rfl) (.cons (.v _ rfl) .nil)), fun n hn => ?_⟩
    simp only [List.mem_cons, List.not_mem_nil, or_false] at hn
    rcases hn with rfl | rfl | rfl
    · exact r64_wf g0
    · exact r64_wf g1
    · exact r64_wf g2
theorem qlk_of (es : List Value) (hl : es.length = Ty.qog.cells) (h : Ty.qog.holds w es) : ∃ a : Lk, RepL (cellR w) a.pv es ∧ (r64 a.fr ∧ r64 a.to ∧ r64 a.ls) := by
  obtain ⟨⟨a, b, c⟩, h, g⟩ := qog_of es hl h
  exact ⟨⟨a, b, c⟩, h, g a (by simp), g b (by simp), g c (by simp)⟩
theorem qch_of (es : List Value) (hl : es.length = Ty.qch.cells) (h : Ty.qch.holds w es) : ∃ a : Ch, RepL (cellR w) a.pv es ∧ ∀ n ∈ a.sl :: a.c.nums, r64 n := by
  match es, hl with
  | [c0, c1, c2, c3, c4, c5, c6], _ =>
    have h' : Ty.holds w .qi [c0] ∧ Ty.holds w .bool [c1] ∧ Ty.holds w .qce [c2, c3, c4, c5, c6] ∧ True := h
    obtain ⟨⟨n0, h0, g0⟩, ⟨b, h1⟩, h2, _⟩ := h'
    simp only [List.cons.injEq, and_true] at h0 h1
    subst h0 h1
    obtain ⟨c, hc, hg⟩ := qce_of _ rfl h2
    refine ⟨⟨n0, b, c⟩, .cons (.v _ rfl) (.cons (.v _ rfl) hc), fun n hn => ?_⟩
    rcases List.mem_cons.1 hn with rfl | hn
    · exact r64_wf g0
    · exact hg n hn
theorem qfw_of (es : List Value) (hl : es.length = Ty.qfw.cells) (h : Ty.qfw.holds w es) : ∃ a : Fw, es = a.nums.map (Value.int .i64) ∧ ∀ n ∈ a.nums, r64 n := by
  match es, hl with
  | [c0, c1, c2, c3, c4, c5], _ =>
    simp only [Ty.qfw, Ty.qi, Ty.holds, Ty.cells, List.take, List.drop] at h
    obtain ⟨⟨n0, h0, g0⟩, ⟨n1, h1, g1⟩, ⟨n2, h2, g2⟩, ⟨n3, h3, g3⟩, ⟨n4, h4, g4⟩, ⟨n5, h5, g5⟩, _⟩ := h
    simp only [List.cons.injEq, and_true] at h0 h1 h2 h3 h4 h5
    subst h0 h1 h2 h3 h4 h5
    refine ⟨⟨n0, n1, n2, n3, n4, n5⟩, rfl, fun n hn => ?_⟩
    unfold Fw.nums at hn
    simp only [List.mem_cons, List.not_mem_nil, or_false] at hn
    rcases hn with rfl | rfl | rfl | rfl | rfl | rfl
    · exact r64_wf g0
    · exact r64_wf g1
    · exact r64_wf g2
    · exact r64_wf g3
    · exact r64_wf g4
    · exact r64_wf g5
theorem qrq_of (es : List Value) (hl : es.length = Ty.qrq.cells) (h : Ty.qrq.holds w es) : ∃ a : Rq, RepL (cellR w) a.pv es ∧ ((∀ n ∈ a.f.nums, r64 n) ∧ ∀ r ∈ a.rs, ∀ n ∈ r, r64 n) := by
  match es, hl with
  | [c0, c1, c2, c3, c4, c5, c6], _ =>
    have h' : Ty.holds w .qfw [c0, c1, c2, c3, c4, c5] ∧ Ty.holds w (.slice (.slice .qi)) [c6] ∧ True := h
    obtain ⟨h0, ⟨A, n, c, h1, hc, hm, hn, he⟩, _⟩ := h'
    simp only [List.cons.injEq, and_true] at h1
    subst h1
    obtain ⟨f, hf, hg⟩ := qfw_of _ rfl h0
    obtain ⟨f0, f1, f2, f3, f4, f5⟩ := f
    have hf' : [c0, c1, c2, c3, c4, c5] = [.int .i64 f0, .int .i64 f1, .int .i64 f2, .int .i64 f3, .int .i64 f4, .int .i64 f5] := hf
    simp only [List.cons.injEq, and_true] at hf'
    obtain ⟨rfl, rfl, rfl, rfl, rfl, rfl⟩ := hf'
    obtain ⟨l, hl, hr, hg2⟩ := rep_of_sliceG (f := fun r : List Int => [PV.sl 1 (r.map fun n => [ip n])]) (e := Ty.slice .qi) (by decide) hc hn qrow_of he
    exact ⟨⟨⟨f0, f1, f2, f3, f4, f5⟩, l⟩, .cons (.v _ rfl) (.cons (.v _ rfl) (.cons (.v _ rfl) (.cons (.v _ rfl) (.cons (.v _ rfl) (.cons (.v _ rfl) (.cons hr .nil)))))), hg, fun r hr => (hg2 r hr).2⟩
end
section
variable {H : Type} {enc : TypeId × Value → H} {W : World} {base : Nat} {spare : Nat → Bool} {held : Bool} {r : Reach} {b0 : Nat} {v : Value} {d : DataW H} {p : List MemPlace}
theorem open_sn (hv : Value.okWide Tryz.prog W r b0 35 v) (h : DataW.Trod enc Tryz.prog W base spare held 35 v d p) : ∃ x : Sn, RgX x ∧ RepA (cellR W) (fun _ => 0) (.agg x.pv) v := by
  obtain ⟨cs, rfl, hsz⟩ := okWide_struct Tryz.underlying35 hv
  have hh := Ty.holds_trod (τ := Ty.qsn) Tryz.fitsQsn h
  obtain ⟨l⟩ := cs
  match l, hsz with
  | [c0, c1, c2, c3, c4, c5, c6, c7, c8, c9, c10, c11, c12, c13, c14], _ =>
    have hh' : (Ty.holds W .qi [c0] ∧ Ty.holds W (.slice (.slice .qi)) [c1] ∧ Ty.holds W .qi [c2] ∧ Ty.holds W .qi [c3] ∧ Ty.holds W (.slice .qog) [c4] ∧ Ty.holds W (.slice .qi) [c5] ∧ True) ∧ Ty.holds W (.slice .qrq) [c6] ∧ Ty.holds W (.slice .qrq) [c7] ∧
      (Ty.holds W .qi [c8] ∧ Ty.holds W .qi [c9] ∧ Ty.holds W (.slice .qce) [c10] ∧ True) ∧ Ty.holds W (.slice .qch) [c11] ∧ Ty.holds W (.slice .qce) [c12] ∧ Ty.holds W (.slice .qog) [c13] ∧ Ty.holds W .qi [c14] ∧ True := hh
    obtain ⟨⟨⟨n0, h0, g0⟩, ⟨A1, m1, k1, h1, hc1, hm1, hn1, he1⟩, ⟨n2, h2, g2⟩, ⟨n3, h3, g3⟩, ⟨A4, m4, k4, h4, hc4, hm4, hn4, he4⟩, ⟨A5, m5, k5, h5, hc5, hm5, hn5, he5⟩, _⟩, ⟨A6, m6, k6, h6, hc6, hm6, hn6, he6⟩, ⟨A7, m7, k7, h7, hc7, hm7, hn7, he7⟩,
      ⟨⟨n8, h8, g8⟩, ⟨n9, h9, g9⟩, ⟨A10, m10, k10, h10, hc10, hm10, hn10, he10⟩, _⟩, ⟨A11, m11, k11, h11, hc11, hm11, hn11, he11⟩, ⟨A12, m12, k12, h12, hc12, hm12, hn12, he12⟩, ⟨A13, m13, k13, h13, hc13, hm13, hn13, he13⟩, ⟨n14, h14, g14⟩, _⟩ := hh'
    simp only [List.cons.injEq, and_true] at h0 h1 h2 h3 h4 h5 h6 h7 h8 h9 h10 h11 h12 h13 h14
    subst h0 h1 h2 h3 h4 h5 h6 h7 h8 h9 h10 h11 h12 h13 h14
    obtain ⟨l1, e1, r1, q1⟩ := rep_of_sliceG (f := fun r : List Int => [PV.sl 1 (r.map fun n => [ip n])]) (e := Ty.slice .qi) (by decide) hc1 hn1 qrow_of he1
    obtain ⟨l4, e4, r4, q4⟩ := rep_of_sliceG (f := Lk.pv) (e := Ty.qog) (by decide) hc4 hn4 qlk_of he4
    obtain ⟨l5, e5, r5, q5⟩ := rep_of_sliceG (f := fun n => [ip n]) (e := Ty.qi) (by decide) hc5 hn5 qint_of he5
    obtain ⟨l6, e6, r6, q6⟩ := rep_of_sliceG (f := Rq.pv) (e := Ty.qrq) (by decide) hc6 hn6 qrq_of he6
    obtain ⟨l7, e7, r7, q7⟩ := rep_of_sliceG (f := Rq.pv) (e := Ty.qrq) (by decide) hc7 hn7 qrq_of he7
    obtain ⟨l10, e10, r10, q10⟩ := rep_of_sliceG (f := Ce.pv) (e := Ty.qce) (by decide) hc10 hn10 qce_of he10
    obtain ⟨l11, e11, r11, q11⟩ := rep_of_sliceG (f := Ch.pv) (e := Ty.qch) (by decide) hc11 hn11 qch_of he11
    obtain ⟨l12, e12, r12, q12⟩ := rep_of_sliceG (f := Wk.pv) (e := Ty.qce) (by decide) hc12 hn12 qwk_of he12
    obtain ⟨l13, e13, r13, q13⟩ := rep_of_sliceG (f := Og.pv) (e := Ty.qog) (by decide) hc13 hn13 qog_of he13
    have := max_len
    refine ⟨⟨⟨n0, l1, n2, n3, l4, l5⟩, l6, l7, n8, n9, l10, l11, l12, l13, n14⟩, ⟨r64_wf g0, r64_wf g2, r64_wf g3, by show l1.length ≤ _; omega, q1, q4, q5, q6, q7, r64_wf g8, r64_wf g9, q10, q11, q12, q13, r64_wf g14⟩, _, rfl, ?_⟩
    exact .cons (.v _ rfl) (.cons r1 (.cons (.v _ rfl) (.cons (.v _ rfl) (.cons r4 (.cons r5 (.cons r6 (.cons r7 (.cons (.v _ rfl) (.cons (.v _ rfl) (.cons r10 (.cons r11 (.cons r12 (.cons r13 (.cons (.v _ rfl) .nil))))))))))))))
end
/-- A law that returns true. -/
theorem calls_trueC {P : Program} {C : World → Prop} {f : FuncId} {args : List AV} (h : FnOKC P C f args ⟨bv true, none⟩) (W : World) (hC : C W) (us : List Value) (hus : RepAL (cellR W) args us) : Calls P f us.toArray W fun e W' => e = .returned (.bool true) ∧ Below W.heap.size W W' :=
  (h.2 W (cellR W) hC (fun _ _ h => h) us hus).mono fun e W' hq => by
    obtain ⟨u, rfl, hb, _, hr⟩ := hq
    exact ⟨by rw [show u = .bool true from hr], hb⟩
/-- The builder's lemma, with what the world's shape says. -/
theorem handed_and {H : Type} {enc : TypeId × Value → H} {a : Assume} {C : Checked} {os : Os} {f : FuncId} {fn : Func} {s : ChangeSpec} {conds : List PathCond} {apart fresh handsOn again : Bool} {X : World → Array Value → Prop} {Y : World → Prop} (hY : ∀ w : World, w.ShapedOpen C.prog → Y w)
    (hX : ∀ (w w' : World) (args : Array Value), w.heap = w'.heap → X w args → X w' args)
    (own : ownKnob C.prog.godebug = none) (started : os.Started) (noInit : C.prog.inits.idxOf? f = none) (hfn : C.prog.funcs[f]? = some fn)
    (witness : ∃ (w : World) (tape : Tape) (i : Input), w.os = os ∧ (w.forCall tape i).Shaped C.prog ∧ i.vars = [] ∧ Input.okWide C.prog (w.forCall tape i) .any w.heap.size f i ∧
      ((s.pre enc C.prog fn conds apart (w.forCall tape i).memory i.args ∧ X (w.forCall tape i).memory i.args) ∧ sizedMet enc C.prog fn (OpenSpec.ofChange s) apart (w.forCall tape i).memory i.args) ∧ a.holds C.prog (lone (Frame.enter C.prog f i.args .normal) [] (w.forCall tape i)))
    (contract : ∀ (W : World) (base : Nat) (args : Array Value) (ds gs : List (DataW H)) (before : List MemPlace),
      (∀ (j : Nat) t v, fn.params[j]? = some t → args[j]? = some v → Value.okWide C.prog W .any base t v) →
      DataW.Whole enc C.prog fn.params.toList s.vars apart W args.toList ds gs before →
      conds.all (PathCond.test C.prog ⟨fn.params.toList, ds, s.plain.varTypes C.prog, gs⟩) = true →
      (DataW.weightsEach C.prog (fn.params.toList ++ s.plain.varTypes C.prog) (ds ++ gs)).all (· ≤ reachBytes) = true → X W args →
      Y W → Calls C.prog f args W fun e W' => ∃ v, e = .returned v ∧ s.post enc C.prog fn apart fresh handsOn again W args v W') :
    ReturnsInHanded a C os f .any (fun w args => (s.pre enc C.prog fn conds apart w args ∧ X w args) ∧ sizedMet enc C.prog fn (OpenSpec.ofChange s) apart w args) (s.post enc C.prog fn apart fresh handsOn again) := by
  refine returnsInHanded_of_calls own started noInit witness ?_
  intro w tape i _ hsh _ hok hpre _
  obtain ⟨_, _, _, fn', hfn', _, _, _, _, hval⟩ := hok
  have e : fn' = fn := Option.some.inj (hfn'.symm.trans hfn)
  subst e
  obtain ⟨⟨⟨ds, gs, before, hw, hc⟩, hx⟩, hz⟩ := hpre
  have hw' := DataW.Whole.of_heap (w' := w.forCall tape i) (by rfl) hw
  refine (contract (w.forCall tape i) w.heap.size i.args ds gs before hval hw' hc (hz.weights hw) (hX _ _ _ (by rfl) hx) (hY _ hsh)).mono fun e W' ⟨v, he, hp⟩ => ?_
  subst he
  exact ChangeSpec.post_blind hp
theorem max_shaped (w : World) (h : w.ShapedOpen Tryz.prog) : MaxC w := Tryz.lays143.s1_3 w h
theorem Tryz.laidOut : laidOutB Tryz.prog = true := by kernel_rfl
theorem Tryz.own : ownKnob Tryz.prog.godebug = none := by kernel_rfl
def laid7 : List (String × DataW Unit) := [("math/bits.deBruijn32tab", Rows.laid_math_bits_deBruijn32tab), ("math/bits.deBruijn64tab", Rows.laid_math_bits_deBruijn64tab), ("internal/strconv.uint64pow10", Rows.laid_internal_strconv_uint64pow10), ("unicode/utf8.acceptRanges", Rows.laid_unicode_utf8_acceptRanges), ("strconv.ErrRange", Rows.laid_strconv_ErrRange), ("strconv.ErrSyntax", Rows.laid_strconv_ErrSyntax), ("unicode/utf8.first", Rows.laid_unicode_utf8_first)]
theorem door_met (os : Os) (args : Array Value) : laidMetH Tryz.prog laid7 ((World.laidAll Tryz.prog os laid7).forCall (fun _ _ => 0) ⟨#[], args, []⟩).memory := by
  rw [MakeChecks.laidMetH_plain _ _ _ (by kernel_rfl)]
  exact laidMet_laidAll _ (by kernel_rfl) (by kernel_rfl)

theorem plain_of_laid {W : World} (h : laidMetH Tryz.prog laid7 W) : laidMet Tryz.prog laid7 W := by
  rw [MakeChecks.laidMetH_plain _ _ _ (by kernel_rfl)] at h
  exact h
theorem tab_of_laid {W : World} (h : laidMetH Tryz.prog laid7 W) : TabC W := by
  have h1 := laidMet.tail (laidMet.tail (plain_of_laid h))
  have e : (Rows.laid_internal_strconv_uint64pow10 : DataW Unit) = Lib.tabData .u64 Lib.pow10Tab := by kernel_rfl
  rw [e] at h1
  exact Lib.tabIs_of_head (g := 5) (t := 219) (e := 199) (n := 20) (by kernel_rfl) (by kernel_rfl) Tryz.underlying219 Tryz.underlying199 (by kernel_rfl) (by kernel_rfl) h1
theorem star : "*" ++ "errors.errorString" = "*errors.errorString" := by decide
theorem err_row (u : TypeId) (h : Tryz.prog.typeName? 3 u = some "*errors.errorString") : u = 223 :=
  typeName_ptr_named (nm := "errors.errorString") (by rw [star]; kernel_rfl) (by kernel_rfl) (by decide) u (by rw [star]; exact h)

section
variable {H : Type} {enc : TypeId × Value → H} {P : Program}
/-- What the row asks behind a call that only made new memory. (After the guide's small lemmas.) -/
theorem post_of_below {f : Func} {s : ChangeSpec} {apart fresh handsOn again : Bool} {W W' : World} {args : Array Value} {v : Value} {ds gs : List (DataW H)} {before pa pv : List MemPlace}
    (hW : DataW.Whole enc P f.params.toList s.vars apart W args.toList ds gs before)
    (hres : ∀ (b : Nat) (sp : Nat → Bool) (hd : Bool), DataW.TrodAll enc P W' b sp hd f.resultTypes.toList (v.resultList f.resultTypes.size) (s.fn H (ds ++ gs)).results [])
    (hargs : ∀ sp : Nat → Bool, (∀ p ∈ before, sp p.block = true) → DataW.TrodAll enc P W' 0 sp true f.params.toList args.toList (s.fn H (ds ++ gs)).args pa)
    (hvars : ∀ sp : Nat → Bool, (∀ p ∈ before, sp p.block = true) → DataW.TrodVars enc P W' sp s.vars (s.fn H (ds ++ gs)).vars pv)
    (hps : before = pa ++ pv) (hb : Below W.heap.size W W')
    (hok : ∀ (j : Nat) (t : TypeId) (r : Value), f.resultTypes[j]? = some t → (v.resultList f.resultTypes.size)[j]? = some r → Value.okWide P W' .any 0 t r) :
    s.post enc P f apart fresh handsOn again W args v W' := by
  have hlt : ∀ p ∈ before, p.block < W.heap.size := fun p hp => hW.lt p hp
  have hold : ∀ p ∈ before, (fun b => decide (b < W.heap.size)) p.block = true := fun p hp => by simpa using hlt p hp
  refine ⟨ds, gs, before, [], pa, pv, hW, hres _ _ _, hargs _ hold, hvars _ hold, World.keptBut_mono (fun p hp => ⟨hp, ?_⟩) (hb.frame (· ∈ before)), fun _ => ?_⟩
  · rw [hps, List.mem_append] at hp
    exact Or.inr hp
  · obtain ⟨_, _, _, _, _, hz, hn⟩ := hW
    refine ⟨hok, _, _, ([] ++ pa) ++ pv, ⟨[] ++ pa, pv, trodAll_append (hargs _ (fun _ _ => rfl)) (hres _ _ _), hvars _ (fun _ _ => rfl), rfl, ?_, ?_⟩, ?_⟩
    · intro b off hp
      have hin : MemPlace.cell b off ∈ before := by rw [hps]; simpa using hp
      rw [hb.frozen (hlt _ hin)]
      exact hz b off hin
    · intro ha
      have := hn ha
      rw [hps] at this
      simpa using this
    · intro p hp _
      rw [hps]
      simpa using hp
end
/-- What the library asks of the world. -/
theorem lc_of {W : World} (h : laidMetH Tryz.prog laid7 W) (hM : MaxC W) : LC W := by
  refine ⟨tab_of_laid h, ?_, hM⟩
  have h1 := laidMet.tail (laidMet.tail (laidMet.tail (laidMet.tail (plain_of_laid h))))
  obtain ⟨a0, s0, hv0, -, -, -⟩ := laid_sentinel h1 (g := 4) (ti := 117) (te := 225) (by kernel_rfl) (by kernel_rfl) Tryz.underlying117 err_row Tryz.underlying223 Tryz.underlying225 rfl rfl Tryz.underlying9 (by kernel_rfl) (by kernel_rfl)
  obtain ⟨a1, s1, hv1, -, -, -⟩ := laid_sentinel (laidMet.tail h1) (g := 3) (ti := 117) (te := 225) (by kernel_rfl) (by kernel_rfl) Tryz.underlying117 err_row Tryz.underlying223 Tryz.underlying225 rfl rfl Tryz.underlying9 (by kernel_rfl) (by kernel_rfl)
  exact ⟨⟨_, _, hv1⟩, _, _, hv0⟩
end Go.Proofs.YtcloigoajohppaaGreatDoor
/- scenario.Format, where nothing is written. -/
namespace Go.Proofs.YtcloigoajohppaaGreatDoor
open Go.RowKit
open Av
open Sc
set_option maxRecDepth 100000
set_option linter.unusedSimpArgs false
attribute [local go_sem] Av.guardB Av.sop Av.hopx Av.hop Av.hopCall Av.hopF Av.hopB Av.evo Av.evos Av.avCells Av.loadK Av.bound Av.abin Av.aun Av.partsC Av.lfill Av.placesB Av.setAt Av.stl Av.takes Av.src Av.bxOf Av.ownOf Av.St.res Av.St.put Av.St.addBox Av.St.putOwn Av.delL Av.delS Av.look Av.lookL Av.storeSt Av.stealSt Av.St.setBox Av.keepL Av.hitB Av.snap Av.snaps Av.snapCaps Av.AV.lit Av.AV.refs Av.capRefs Av.PV.av Av.CV.av Av.startSt Av.steals Av.athen Av.ablock Av.appK Av.AllS Av.AllO Av.AllR Av.keepS Av.St.avAt Av.RetOK Av.retAll Av.retOne Av.intsOf Av.ptrB TypeDesc.isRow List.range_zero Option.some.injEq exists_eq_left' exists_eq_left exists_eq' exists_and_left exists_and_right exists_const true_and and_true and_self false_and and_false or_false false_or or_true true_or if_true if_false Bool.false_eq_true List.zipIdx_cons List.zipIdx_nil List.map_cons List.map_nil List.filter_cons List.filter_nil List.contains_cons List.contains_nil List.drop_succ_cons List.drop_zero List.take_succ_cons List.take_zero List.take_nil List.drop_nil List.length_cons List.length_nil List.cons_append List.nil_append List.append_nil List.getElem?_cons_zero List.getElem?_cons_succ List.getElem?_nil Option.bind_some Option.bind_none Option.map_some Option.map_none Option.isNone_none Option.isNone_some Option.isSome_some Option.isSome_none Bool.and_true Bool.true_and Bool.and_false Bool.false_and Bool.or_false Bool.false_or Bool.not_true Bool.not_false beq_true beq_false Bool.true_beq Bool.false_beq Loc.s.injEq Loc.b.injEq decide_true decide_false beq_self_eq_true Nat.zero_add Nat.add_zero List.getElem?_toArray List.toList_toArray List.size_toArray Value.oneCell' List.all_cons List.all_nil Value.int.injEq AV.v.injEq AV.sl.injEq AV.agg.injEq AV.ref.injEq AV.ept.injEq AV.tup.injEq Value.bool.injEq PV.v.injEq PV.sl.injEq List.isEmpty_nil List.isEmpty_cons forall_const not_true_eq_false not_false_eq_true true_implies false_implies Value.string.injEq List.length_map List.getElem?_map Int.toNat_natCast Int.natCast_nonneg List.length_append Value.cells implies_true TypeDesc.struct.injEq TypeDesc.slice.injEq TypeDesc.array.injEq List.getElem?_toArray Prod.mk.injEq and_assoc exists_false List.cons.injEq Operand.tmp.injEq ite_self AV.fnv.injEq AV.clo.injEq ne_eq eq_self Tryz.sz3 Tryz.zr3 Tryz.by3 Tryz.pl3 Tryz.is3 Tryz.underlying3 Tryz.sz4 Tryz.zr4 Tryz.by4 Tryz.pl4 Tryz.is4 Tryz.underlying4 Tryz.sz9 Tryz.zr9 Tryz.by9 Tryz.pl9 Tryz.is9 Tryz.underlying9 Tryz.sz5 Tryz.zr5 Tryz.by5 Tryz.pl5 Tryz.is5 Tryz.underlying5 Tryz.sz56 Tryz.zr56 Tryz.by56 Tryz.pl56 Tryz.is56 Tryz.underlying56 Tryz.sz24 Tryz.zr24 Tryz.by24 Tryz.pl24 Tryz.is24 Tryz.underlying24 Tryz.sz70 Tryz.zr70 Tryz.by70 Tryz.pl70 Tryz.is70 Tryz.underlying70 Tryz.sz69 Tryz.zr69 Tryz.by69 Tryz.pl69 Tryz.is69 Tryz.underlying69 Tryz.sz72 Tryz.zr72 Tryz.by72 Tryz.pl72 Tryz.is72 Tryz.underlying72 Tryz.sz74 Tryz.zr74 Tryz.by74 Tryz.pl74 Tryz.is74 Tryz.underlying74 Tryz.sz117 Tryz.zr117 Tryz.by117 Tryz.pl117 Tryz.is117 Tryz.underlying117 Tryz.sz182 Tryz.zr182 Tryz.by182 Tryz.pl182 Tryz.is182 Tryz.underlying182 Tryz.sz64 Tryz.zr64 Tryz.by64 Tryz.pl64 Tryz.is64 Tryz.underlying64 Tryz.sz67 Tryz.zr67 Tryz.by67 Tryz.pl67 Tryz.is67 Tryz.underlying67 Tryz.sz26 Tryz.zr26 Tryz.by26 Tryz.pl26 Tryz.is26 Tryz.underlying26 Tryz.sz30 Tryz.zr30 Tryz.by30 Tryz.pl30 Tryz.is30 Tryz.underlying30 Tryz.sz126 Tryz.zr126 Tryz.by126 Tryz.pl126 Tryz.is126 Tryz.underlying126 Tryz.sz79 Tryz.zr79 Tryz.by79 Tryz.pl79 Tryz.is79 Tryz.underlying79 Tryz.sz81 Tryz.zr81 Tryz.by81 Tryz.pl81 Tryz.is81 Tryz.underlying81 Tryz.sz83 Tryz.zr83 Tryz.by83 Tryz.pl83 Tryz.is83 Tryz.underlying83 Tryz.sz85 Tryz.zr85 Tryz.by85 Tryz.pl85 Tryz.is85 Tryz.underlying85 Tryz.sz35 Tryz.zr35 Tryz.by35 Tryz.pl35 Tryz.is35 Tryz.underlying35 Tryz.sz88 Tryz.zr88 Tryz.by88 Tryz.pl88 Tryz.is88 Tryz.underlying88 Tryz.sz22 Tryz.zr22 Tryz.by22 Tryz.pl22 Tryz.is22 Tryz.underlying22 Tryz.sz23 Tryz.zr23 Tryz.by23 Tryz.pl23 Tryz.is23 Tryz.underlying23 Tryz.sz27 Tryz.zr27 Tryz.by27 Tryz.pl27 Tryz.is27 Tryz.underlying27 Tryz.sz28 Tryz.zr28 Tryz.by28 Tryz.pl28 Tryz.is28 Tryz.underlying28 Tryz.sz31 Tryz.zr31 Tryz.by31 Tryz.pl31 Tryz.is31 Tryz.underlying31 Tryz.sz32 Tryz.zr32 Tryz.by32 Tryz.pl32 Tryz.is32 Tryz.underlying32 Tryz.sz33 Tryz.zr33 Tryz.by33 Tryz.pl33 Tryz.is33 Tryz.underlying33 Tryz.sz65 Tryz.zr65 Tryz.by65 Tryz.pl65 Tryz.is65 Tryz.underlying65 Tryz.sz68 Tryz.zr68 Tryz.by68 Tryz.pl68 Tryz.is68 Tryz.underlying68 Tryz.sz46 Tryz.zr46 Tryz.by46 Tryz.pl46 Tryz.is46 Tryz.underlying46 Tryz.sz38 Tryz.zr38 Tryz.by38 Tryz.pl38 Tryz.is38 Tryz.underlying38 Tryz.sz94 Tryz.zr94 Tryz.by94 Tryz.pl94 Tryz.is94 Tryz.underlying94 Tryz.sz91 Tryz.zr91 Tryz.by91 Tryz.pl91 Tryz.is91 Tryz.underlying91 Tryz.sz86 Tryz.zr86 Tryz.by86 Tryz.pl86 Tryz.is86 Tryz.underlying86 all_arr loc_ss loc_sb loc_bs loc_bb arr_two arr_one rg1 rg2 rg3 rg4 rg5 rg6 rg7 rg8 ResultVar.tmp.injEq Bool.not_true Bool.not_false undef Fn.func.injEq List.set_cons_zero Av.startStC Sc.Fw.pv Sc.Rq.pv Sc.Ce.pv Sc.Ch.pv Sc.Wk.pv Sc.Og.pv Sc.Lk.pv Sc.Nt.pv Sc.Sn.pv Sc.rsR
set_option maxHeartbeats 2000000 in
theorem format_earlyC (x : Sn) (hP : x.net.power.length ≤ 1000000) (hE : shaped x.net = false ∨ longX x = true) : FnOKC Tryz.prog TabC 11 [.agg x.pv] ⟨.tup [.c (.v (.string (fmt x).1)), .c (ip (fmt x).2)], none⟩ := by
 refine fn_okC (C := TabC) Tryz.func11 (by kernel_rfl) rfl (by rw [Tryz.ntmps11]; exact of_decide_eq_true rfl) (fun F hF => ?_)
 rw [Tryz.ntmps11] at hF
 rw [Tryz.results11]
 repeat (first
  | ((first | with_reducible refine sops_go ?_ | with_reducible refine sops_end ?_); simp only [go_sem, simprocAttr, hF])
  | with_reducible refine awp_seq_k fun _ _ => ?_
  | (with_reducible refine awp_region [1000032, 1000036, 1000040, 1000044, 1000048, 1000057, 1000078, 1000109, 1000130, 1000147, 1000153, 1000156, 1000157, 1000160, 1000161] ?_)
  | go_step)
 refine ⟨_, shaped_ok x.net hP, ?_⟩
 simp only [go_sem, simprocAttr, hF]
 repeat ((with_reducible refine sops_go ?_; simp only [go_sem, simprocAttr, hF]))
 cases hS : shaped x.net with
 | false =>
  try simp only [go_sem, simprocAttr, hF, hS, Bool.not_false]
  repeat (first
   | ((first | with_reducible refine sops_go ?_ | with_reducible refine sops_end ?_ | with_reducible refine awp_if ?_ | with_reducible refine awp_ret ?_); simp only [go_sem, simprocAttr, hF, hS])
   | with_reducible refine awp_seq_k fun _ _ => ?_
   | (with_reducible refine awp_region [1000032, 1000036, 1000040, 1000044, 1000048, 1000057, 1000078, 1000109, 1000130, 1000147, 1000153, 1000156, 1000157, 1000160, 1000161] ?_)
   | go_step)
  all_goals (try (unfold fmt; simp only [hS, Bool.not_false, Bool.true_or, if_true]))
  all_goals (try rfl)
 | true =>
  have hL0 : longX x = true := by
   rcases hE with h | h
   · rw [h] at hS; cases hS
   · exact h
  have hmx : mx (mx (mx (x.cells.length : Int) x.changes.length) x.weak.length) x.outs.length = max (max (max (x.cells.length : Int) x.changes.length) x.weak.length) x.outs.length := by
   simp only [mx, Int.max_def]
   repeat (first | rfl | omega | split)
  have hlx : decide (max (max (max (x.cells.length : Int) x.changes.length) x.weak.length) x.outs.length > 1024) = true := hL0
  try simp only [go_sem, simprocAttr, hF, hS]
  repeat ((with_reducible refine sops_go ?_; simp only [go_sem, simprocAttr, hF, hS]))
  refine hand_max4 rfl rfl (by decide) rfl rfl rfl rfl ?_
  simp only [go_sem, simprocAttr, hF, hmx, hlx]
  repeat (first
   | ((first | with_reducible refine sops_go ?_ | with_reducible refine sops_end ?_ | with_reducible refine awp_if ?_ | with_reducible refine awp_ret ?_); simp only [go_sem, simprocAttr, hF, hS, hmx, hlx])
   | with_reducible refine awp_seq_k fun _ _ => ?_
   | (with_reducible refine awp_region [1000032, 1000036, 1000040, 1000044, 1000048, 1000057, 1000078, 1000109, 1000130, 1000147, 1000153, 1000156, 1000157, 1000160, 1000161] ?_)
   | go_step)
  all_goals (try (unfold fmt; simp only [hS, hL0, Bool.not_true, Bool.or_true, Bool.true_or, Bool.false_or, if_true]))
  all_goals (try rfl)

theorem format_fewC (x : Sn) (h : few54B x = true) (hr : RgX x) : FnOKC Tryz.prog TabC 11 [.agg x.pv] ⟨.tup [.c (.v (.string (fmt x).1)), .c (ip (fmt x).2)], none⟩ := by
 have hf := few_of h
 have hp := hf.p
 cases hS : shaped x.net with
 | false => exact format_earlyC x (by omega) (.inl hS)
 | true =>
  cases hL : longX x with
  | true => exact format_earlyC x (by omega) (.inr hL)
  | false => exact format_okC x (by omega) (lr_of hr) (room_of hf hL hr)
/- The example holds. -/
theorem example_ok : FnOK Tryz.prog 22 [] ⟨.v (.string exB), none⟩ := by
 refine fn_ok Tryz.func22 (by kernel_rfl) rfl (by rw [Tryz.ntmps22]; exact of_decide_eq_true rfl) (fun F hF => ?_)
 rw [Tryz.ntmps22] at hF
 rw [Tryz.results22]
 repeat (first
  | ((first | with_reducible refine sops_go ?_ | with_reducible refine sops_end ?_ | with_reducible refine awp_ret ?_); simp only [go_sem, simprocAttr, hF])
  | with_reducible refine awp_seq_k fun _ _ => ?_
  | (with_reducible refine awp_region [] ?_)
  | go_step)
 all_goals (try rfl)

set_option maxHeartbeats 2000000 in
theorem awake_ok : FnOKC Tryz.prog LC 9 [] ⟨bv true, none⟩ := by
 have hp1 : FnOKC Tryz.prog LC 13 [.v (.string exB)] ⟨.tup [.g exX.pv, .c (ip 0), .c (ip 0)], none⟩ := by
  have h := parse_okC exB
  rw [parse_exB] at h
  exact h
 have hp2 : FnOKC Tryz.prog LC 13 [.v (.string exC)] ⟨.tup [.g snZ.pv, .c (ip 5), .c (ip 5)], none⟩ := by
  have h := parse_okC exC
  rw [parse_exC] at h
  exact h
 have hf : FnOKC Tryz.prog LC 11 [.agg exX.pv] ⟨.tup [.c (.v (.string exB)), .c (ip 0)], none⟩ := by
  have h := format_okC exX (by decide) (by show ∀ x ∈ linesOf exX, ∀ n ∈ x.2, _ ∧ _; decide) (Nat.le_of_ble_eq_true (by kernel_rfl))
  rw [fmt_exB] at h
  exact ⟨h.1, fun w R hC => h.2 w R hC.1⟩
 have hl : FnOKC Tryz.prog LC 23 [.v (.string ⟨#[119, 101, 97, 107, 32, 49, 32, 45, 50, 32, 51, 48]⟩)] ⟨.tup [.c (.v (.string ⟨#[119, 101, 97, 107]⟩)), .c (.sl 1 [[ip 1], [ip (-2)], [ip 30]]), .c (.v (.bool true))], none⟩ := by
  have h := line_okC ⟨#[119, 101, 97, 107, 32, 49, 32, 45, 50, 32, 51, 48]⟩ (by decide)
  rw [line_exW] at h
  exact h
 have e1 : exX.pv = [ip 2, .sl 1 (rsR exX.net.power), ip 1, ip 2000, .sl 3 [Lk.pv ⟨0, 1, 0⟩], .sl 1 [[ip 20]], .sl 7 [], .sl 7 [], ip 4, ip 1, .sl 5 [], .sl 7 [], .sl 5 [], .sl 3 [], ip 8] := rfl
 have e2 : snZ.pv = [ip 0, .sl 1 [], ip 0, ip 0, .sl 3 [], .sl 1 [], .sl 7 [], .sl 7 [], ip 0, ip 0, .sl 5 [], .sl 7 [], .sl 5 [], .sl 3 [], ip 0] := rfl
 rw [e1] at hp1 hf
 rw [e2] at hp2
 generalize rsR exX.net.power = pw at hp1 hf
 generalize Lk.pv ⟨0, 1, 0⟩ = lk at hp1 hf
 have he : decide ([1, -2, 30] = ([1, -2, 30] : List Int)) = true := rfl
 have hs : (exB.toList == exB.toList) = true := beq_self_eq_true _
 have hex := example_ok
 generalize exB = exb at hp1 hf hs hex
 refine fn_okC (C := LC) Tryz.func9 (by kernel_rfl) rfl (by rw [Tryz.ntmps9]; exact of_decide_eq_true rfl) (fun F hF => ?_)
 rw [Tryz.ntmps9] at hF
 rw [Tryz.results9]
 repeat (first
  | ((first | refine hand_fnC (C := LC) LC.below rfl rfl (by decide) rfl rfl rfl hp1 rfl ?_ | refine hand_fnC (C := LC) LC.below rfl rfl (by decide) rfl rfl rfl hf rfl ?_ | refine hand_fnC (C := LC) LC.below rfl rfl (by decide) rfl rfl rfl hp2 rfl ?_ | refine hand_fnC (C := LC) LC.below rfl rfl (by decide) rfl rfl rfl hl rfl ?_ | refine ⟨_, hex, ?_⟩ | refine ⟨_, eqI_ok [1, -2, 30] [1, -2, 30] (by decide), ?_⟩); simp only [go_sem, simprocAttr, hF, he, hs])
  | ((first | with_reducible refine sops_go ?_ | with_reducible refine sops_end ?_ | with_reducible refine awp_ret ?_); simp only [go_sem, simprocAttr, hF, he, hs])
  | with_reducible refine awp_seq_k fun _ _ => ?_
  | (with_reducible refine awp_region [1000014, 1000020, 1000024, 1000029] ?_)
  | go_step)
 all_goals (try rfl)
/- ScenarioReturns. -/
theorem tabLC {f : FuncId} {args : List AV} {res : FRes} (h : FnOKC Tryz.prog TabC f args res) : FnOKC Tryz.prog LC f args res := ⟨h.1, fun w R hC => h.2 w R hC.1⟩
/-- An empty text. -/
theorem eqb_self (s : ByteArray) : (s.toList == s.toList) = true := beq_self_eq_true _
set_option maxHeartbeats 4000000 in
theorem lawReturns_ok (x : Sn) (hr : RgX x) : FnOKC Tryz.prog LC 5 [.agg x.pv] ⟨bv true, none⟩ := by
 have hfw := few54_ok x hr.pl
 refine fn_okC (C := LC) Tryz.func5 (by kernel_rfl) rfl (by rw [Tryz.ntmps5]; exact of_decide_eq_true rfl) (fun F hF => ?_)
 rw [Tryz.ntmps5] at hF
 rw [Tryz.results5]
 repeat (first
  | ((refine hand_fnC (C := LC) LC.below rfl rfl (by decide) rfl rfl rfl awake_ok rfl ?_); simp only [go_sem, simprocAttr, hF])
  | ((first | with_reducible refine sops_go ?_ | with_reducible refine sops_end ?_); simp only [go_sem, simprocAttr, hF])
  | with_reducible refine awp_seq_k fun _ _ => ?_
  | (with_reducible refine awp_region [1000010, 1000017, 1000020, 1000032, 1000038] ?_)
  | go_step)
 refine ⟨_, hfw, ?_⟩
 simp only [go_sem, simprocAttr, hF]
 cases h1 : few54B x with
 | false =>
  try simp only [go_sem, simprocAttr, hF, h1]
  repeat (first
   | ((refine hand_fnC (C := LC) LC.below rfl rfl (by decide) rfl rfl rfl awake_ok rfl ?_); simp only [go_sem, simprocAttr, hF])
   | ((first | with_reducible refine sops_go ?_ | with_reducible refine sops_end ?_ | with_reducible refine awp_if ?_ | with_reducible refine awp_ret ?_); simp only [go_sem, simprocAttr, hF, h1])
   | with_reducible refine awp_seq_k fun _ _ => ?_
   | (with_reducible refine awp_region [1000010, 1000017, 1000020, 1000032, 1000038] ?_)
   | go_step)
  all_goals (try rfl)
 | true =>
  have hfm := tabLC (format_fewC x h1 hr)
  try simp only [go_sem, simprocAttr, hF, h1]
  by_cases he : (fmt x).2 = 0
  case neg =>
   have hne : ((fmt x).2 != 0) = true := by simpa using he
   have hz : (fmt x).1 = ⟨#[]⟩ := fmt_no he
   have hzz := eqb_self ⟨#[]⟩
   rw [hz] at hfm
   repeat (first
    | ((refine hand_fnC (C := LC) LC.below rfl rfl (by decide) rfl rfl rfl hfm rfl ?_); simp only [go_sem, simprocAttr, hF, h1])
    | ((first | with_reducible refine sops_go ?_ | with_reducible refine sops_end ?_ | with_reducible refine awp_if ?_ | with_reducible refine awp_skip ?_ | with_reducible refine awp_ret ?_); simp only [go_sem, simprocAttr, hF, h1, hne, hzz])
    | with_reducible refine awp_seq_k fun _ _ => ?_
    | (with_reducible refine awp_region [1000010, 1000017, 1000020, 1000032, 1000038] ?_)
    | go_step)
   all_goals (try rfl)
  have hfx : fmt x = ((fmt x).1, 0) := by rw [← he]
  obtain ⟨hcan, htx⟩ := canW_of hfx
  have hne : ((0 : Int) != 0) = false := rfl
  rw [he] at hfm
  obtain ⟨s, hs⟩ : ∃ s, s = (fmt x).1 := ⟨_, rfl⟩
  rw [← hs] at hfm htx hfx
  by_cases hbig : 65536 < s.size
  case pos =>
   have hb : decide ((s.size : Int) > 65536) = true := decide_eq_true (by omega)
   repeat (first
    | ((refine hand_fnC (C := LC) LC.below rfl rfl (by decide) rfl rfl rfl hfm rfl ?_); simp only [go_sem, simprocAttr, hF, h1])
    | ((first | with_reducible refine sops_go ?_ | with_reducible refine sops_end ?_ | with_reducible refine awp_if ?_ | with_reducible refine awp_skip ?_ | with_reducible refine awp_ret ?_); simp only [go_sem, simprocAttr, hF, h1, hb])
    | with_reducible refine awp_seq_k fun _ _ => ?_
    | (with_reducible refine awp_region [1000010, 1000017, 1000020, 1000032, 1000038] ?_)
    | go_step)
   all_goals (try rfl)
  have hb : decide ((s.size : Int) > 65536) = false := decide_eq_false (by omega)
  have hpa : FnOKC Tryz.prog LC 13 [.v (.string s)] ⟨.tup [.g x.pv, .c (ip 0), .c (ip 0)], none⟩ := by
   have h := parse_okC s
   rw [htx, parse_fmt hcan (by rw [htx, mkB_size] at hbig; omega), ← htx] at h
   exact h
  have hsm := same_ok x (smX_of (few_of h1) hcan.long)
  have hss := eqb_self s
  unfold Sn.pv at hpa hsm
  clear htx hfx hs
  repeat (first
   | ((first | refine hand_fnC (C := LC) LC.below rfl rfl (by decide) rfl rfl rfl hfm rfl ?_ | refine hand_fnC (C := LC) LC.below rfl rfl (by decide) rfl rfl rfl hpa rfl ?_); simp only [go_sem, simprocAttr, hF, h1])
   | ((refine ⟨_, hsm, ?_⟩); simp only [go_sem, simprocAttr, hF])
   | ((first | with_reducible refine sops_go ?_ | with_reducible refine sops_end ?_ | with_reducible refine awp_if ?_ | with_reducible refine awp_skip ?_ | with_reducible refine awp_ret ?_); simp only [go_sem, simprocAttr, hF, h1, hb, hss])
   | with_reducible refine awp_seq_k fun _ _ => ?_
   | (with_reducible refine awp_region [1000010, 1000017, 1000020, 1000032, 1000038] ?_)
   | go_step)
  all_goals (try rfl)
end Go.Proofs.YtcloigoajohppaaGreatDoor

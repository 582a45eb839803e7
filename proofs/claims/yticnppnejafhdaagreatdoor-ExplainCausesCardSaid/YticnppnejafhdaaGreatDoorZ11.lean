import Derived.Shelf.SlSortCmp.WholeK
import Derived.Test.YticnppnejafhdaaGreatDoorZ10
set_option linter.unusedVariables false
set_option linter.unusedSimpArgs false
/- What is small, by abstract states. -/
namespace Go.Proofs.YticnppnejafhdaaGreatDoor
open Go.RowKit
open Nd Rc Mo
open Av
set_option maxRecDepth 100000
set_option linter.unusedSimpArgs false
attribute [local go_sem] Av.guardB Av.sop Av.hopx Av.hop Av.hopCall Av.hopF Av.hopB Av.evo Av.evos Av.avCells Av.loadK Av.bound Av.abin Av.aun Av.partsC Av.lfill Av.placesB Av.setAt Av.stl Av.takes Av.src Av.bxOf Av.ownOf Av.St.res Av.St.put Av.St.addBox Av.St.putOwn Av.delL Av.delS Av.look Av.lookL Av.storeSt Av.stealSt Av.St.setBox Av.keepL Av.hitB Av.snap Av.snaps Av.snapCaps Av.AV.lit Av.AV.refs Av.capRefs Av.PV.av Av.CV.av Av.startSt Av.steals Av.athen Av.ablock Av.appK Av.AllS Av.AllO Av.AllR Av.keepS Av.St.avAt Av.RetOK Av.retAll Av.retOne Av.intsOf Av.ptrB Av.appB Av.appSt TypeDesc.isRow List.range_zero Option.some.injEq exists_eq_left' exists_eq_left exists_eq' exists_and_left exists_and_right exists_const true_and and_true and_self false_and and_false or_false false_or or_true true_or if_true if_false Bool.false_eq_true List.zipIdx_cons List.zipIdx_nil List.map_cons List.map_nil List.filter_cons List.filter_nil List.contains_cons List.contains_nil List.drop_succ_cons List.drop_zero List.take_succ_cons List.take_zero List.take_nil List.drop_nil List.length_cons List.length_nil List.cons_append List.nil_append List.append_nil List.getElem?_cons_zero List.getElem?_cons_succ List.getElem?_nil Option.bind_some Option.bind_none Option.map_some Option.map_none Option.isNone_none Option.isNone_some Option.isSome_some Option.isSome_none Bool.and_true Bool.true_and Bool.and_false Bool.false_and Bool.or_false Bool.false_or Bool.not_true Bool.not_false beq_true beq_false Bool.true_beq Bool.false_beq Loc.s.injEq Loc.b.injEq decide_true decide_false beq_self_eq_true Nat.zero_add Nat.add_zero List.getElem?_toArray List.toList_toArray List.size_toArray Value.oneCell' List.all_cons List.all_nil Value.int.injEq AV.v.injEq AV.sl.injEq AV.agg.injEq AV.ref.injEq AV.ept.injEq AV.tup.injEq Value.bool.injEq PV.v.injEq PV.sl.injEq List.isEmpty_nil List.isEmpty_cons forall_const not_true_eq_false not_false_eq_true true_implies false_implies Value.string.injEq List.length_map List.getElem?_map Int.toNat_natCast Int.natCast_nonneg List.length_append Value.cells implies_true TypeDesc.struct.injEq TypeDesc.slice.injEq TypeDesc.array.injEq List.getElem?_toArray Prod.mk.injEq and_assoc exists_false List.cons.injEq Operand.tmp.injEq ite_self AV.fnv.injEq AV.clo.injEq ne_eq eq_self Tryz.sz3 Tryz.zr3 Tryz.by3 Tryz.pl3 Tryz.is3 Tryz.underlying3 Tryz.sz4 Tryz.zr4 Tryz.by4 Tryz.pl4 Tryz.is4 Tryz.underlying4 Tryz.sz43 Tryz.zr43 Tryz.by43 Tryz.pl43 Tryz.is43 Tryz.underlying43 Tryz.sz35 Tryz.zr35 Tryz.by35 Tryz.pl35 Tryz.is35 Tryz.underlying35 Tryz.sz33 Tryz.zr33 Tryz.by33 Tryz.pl33 Tryz.is33 Tryz.underlying33 Tryz.sz28 Tryz.zr28 Tryz.by28 Tryz.pl28 Tryz.is28 Tryz.underlying28 Tryz.sz39 Tryz.zr39 Tryz.by39 Tryz.pl39 Tryz.is39 Tryz.underlying39 Tryz.sz57 Tryz.zr57 Tryz.by57 Tryz.pl57 Tryz.is57 Tryz.underlying57 Tryz.sz137 Tryz.zr137 Tryz.by137 Tryz.pl137 Tryz.is137 Tryz.underlying137 Tryz.sz66 Tryz.zr66 Tryz.by66 Tryz.pl66 Tryz.is66 Tryz.underlying66 Tryz.sz64 Tryz.zr64 Tryz.by64 Tryz.pl64 Tryz.is64 Tryz.underlying64 Tryz.sz60 Tryz.zr60 Tryz.by60 Tryz.pl60 Tryz.is60 Tryz.underlying60 Tryz.sz100 Tryz.zr100 Tryz.by100 Tryz.pl100 Tryz.is100 Tryz.underlying100 Tryz.sz103 Tryz.zr103 Tryz.by103 Tryz.pl103 Tryz.is103 Tryz.underlying103 Tryz.sz26 Tryz.zr26 Tryz.by26 Tryz.pl26 Tryz.is26 Tryz.underlying26 Tryz.sz120 Tryz.zr120 Tryz.by120 Tryz.pl120 Tryz.is120 Tryz.underlying120 Tryz.sz117 Tryz.zr117 Tryz.by117 Tryz.pl117 Tryz.is117 Tryz.underlying117 Tryz.sz30 Tryz.zr30 Tryz.by30 Tryz.pl30 Tryz.is30 Tryz.underlying30 Tryz.sz31 Tryz.zr31 Tryz.by31 Tryz.pl31 Tryz.is31 Tryz.underlying31 Tryz.sz40 Tryz.zr40 Tryz.by40 Tryz.pl40 Tryz.is40 Tryz.underlying40 Tryz.sz23 Tryz.zr23 Tryz.by23 Tryz.pl23 Tryz.is23 Tryz.underlying23 Tryz.sz24 Tryz.zr24 Tryz.by24 Tryz.pl24 Tryz.is24 Tryz.underlying24 Tryz.sz22 Tryz.zr22 Tryz.by22 Tryz.pl22 Tryz.is22 Tryz.underlying22 Tryz.sz141 Tryz.zr141 Tryz.by141 Tryz.pl141 Tryz.is141 Tryz.underlying141 Tryz.sz42 Tryz.zr42 Tryz.by42 Tryz.pl42 Tryz.is42 Tryz.underlying42 Tryz.sz29 Tryz.zr29 Tryz.by29 Tryz.pl29 Tryz.is29 Tryz.underlying29 Tryz.sz83 Tryz.zr83 Tryz.by83 Tryz.pl83 Tryz.is83 Tryz.underlying83 Tryz.sz67 Tryz.zr67 Tryz.by67 Tryz.pl67 Tryz.is67 Tryz.underlying67 Tryz.sz20 Tryz.zr20 Tryz.by20 Tryz.pl20 Tryz.is20 Tryz.underlying20 Tryz.sz89 Tryz.zr89 Tryz.by89 Tryz.pl89 Tryz.is89 Tryz.underlying89 Tryz.sz132 Tryz.zr132 Tryz.by132 Tryz.pl132 Tryz.is132 Tryz.underlying132 Tryz.sz113 Tryz.zr113 Tryz.by113 Tryz.pl113 Tryz.is113 Tryz.underlying113 Tryz.sz9 Tryz.zr9 Tryz.by9 Tryz.pl9 Tryz.is9 Tryz.underlying9 Tryz.it39 Tryz.eg39 Tryz.it137 Tryz.eg137 Tryz.it66 Tryz.eg66 Tryz.it28 Tryz.eg28 Tryz.it60 Tryz.eg60 all_arr loc_ss loc_sb loc_bs loc_bb arr_two arr_one rg1 rg2 rg3 rg4 rg5 rg6 rg7 rg8 ResultVar.tmp.injEq Bool.not_true Bool.not_false undef Rc.Rec.pv Nd.Fl.pv Rc.Dlv.pv Rc.Att.pv Mo.Lt.pv Fn.func.injEq Mo.Net.pv Mo.Lk.pv prow_pv irow_pv Br.pv Ex.pv
def nfewB (n : Net) : Bool := n.pow.all (fun l => decide (l.length ≤ 40)) && (decide ((n.pow.length : Int) ≤ 8) && (decide ((n.lk.length : Int) ≤ 60) && decide ((n.mg.length : Int) ≤ 60)))

def rfewB (r : Rec) : Bool := decide ((r.al.length : Int) ≤ 150) && decide ((r.dl.length : Int) ≤ 100)

def fewRB (ps : List (List Int)) : Bool := ps.all (fun p => decide (p.length ≤ 20)) && decide ((ps.length : Int) ≤ 4)
def few57B (n : Net) (ps : List (List Int)) (r : Rec) : Bool := nfewB n && (fewRB ps && rfewB r)
theorem few57_inv {n : Net} {ps : List (List Int)} {r : Rec} (h : few57B n ps r = true) : SmallN n ∧ ps.length ≤ 4 ∧ (∀ p ∈ ps, p.length ≤ 20) ∧ r.al.length ≤ 150 ∧ r.dl.length ≤ 100 := by
 unfold few57B nfewB fewRB rfewB at h
 simp only [Bool.and_eq_true, decide_eq_true_eq, List.all_eq_true] at h
 obtain ⟨⟨h1, h2, h3, h4⟩, ⟨h5, h6⟩, h7, h8⟩ := h
 exact ⟨⟨by omega, fun l hl => Nat.le_trans (h1 l hl) (by decide), by omega, by omega⟩, by omega, h5, by omega, by omega⟩
set_option maxHeartbeats 2000000 in
theorem nfew_ok (n : Net) (hp : n.pow.length ≤ 9223372036854775807) : FnOK Tryz.prog 33 [.agg n.pv] ⟨bv (nfewB n), none⟩ := by
 refine fn_ok Tryz.func33 (by kernel_rfl) rfl (by rw [Tryz.ntmps33]; exact of_decide_eq_true rfl) (fun F hF => ?_)
 rw [Tryz.ntmps33] at hF
 rw [Tryz.results33]
 repeat (first
  | (with_reducible (first | refine sops_go ?_ | refine headW_end ?_ | refine sops_end ?_ | refine awp_if ?_ | refine awp_skip ?_ | refine awp_ret ?_ | refine awp_exit ?_); simp only [go_sem, simprocAttr, hF])
  | with_reducible (first | refine awp_seq_k fun _ _ => ?_ | refine awp_region [] ?_ | refine awp_block ?_)
  | go_step)
 refine awp_loop_by (ι := {k : Nat // k ≤ n.pow.length ∧ ∀ l ∈ n.pow.take k, l.length ≤ 40}) (fun k σ => ⟨(3, iv (k.1 : Int)) :: keepS [1, 2] σ.slot, σ.box, [], σ.ext⟩) (fun k => n.pow.length - k.1) ⟨0, by omega, by simp⟩ (sub_mk ?_) (fun R hR k => ?_)
 · simp only [go_sem, simprocAttr, hF]
   repeat' (first | rfl | refine ⟨?_, ?_⟩)
 obtain ⟨k, hk, hT⟩ := k
 dsimp only
 simp only [go_sem, simprocAttr, hF]
 by_cases hlt : k < n.pow.length
 case neg =>
  have hd : decide ((k : Int) < (n.pow.length : Int)) = false := decide_eq_false (by omega)
  rw [List.take_of_length_le (by omega)] at hT
  have hall : n.pow.all (fun l => decide (l.length ≤ 40)) = true := List.all_eq_true.2 fun l hl => decide_eq_true (hT l hl)
  cases h1 : decide ((n.pow.length : Int) ≤ 8) <;> cases h2 : decide ((n.lk.length : Int) ≤ 60) <;> cases h3 : decide ((n.mg.length : Int) ≤ 60)
  · repeat (first
   | (with_reducible (first | refine sops_go ?_ | refine headW_end ?_ | refine sops_end ?_ | refine awp_if ?_ | refine awp_skip ?_ | refine awp_ret ?_ | refine awp_exit ?_); simp only [go_sem, simprocAttr, hF, hd, h1, h2, h3])
   | with_reducible (first | refine awp_seq_k fun _ _ => ?_ | refine awp_region [] ?_ | refine awp_block ?_)
   | go_step)
    rw [nfewB, hall, h1, h2, h3]
    try rfl
  · repeat (first
   | (with_reducible (first | refine sops_go ?_ | refine headW_end ?_ | refine sops_end ?_ | refine awp_if ?_ | refine awp_skip ?_ | refine awp_ret ?_ | refine awp_exit ?_); simp only [go_sem, simprocAttr, hF, hd, h1, h2, h3])
   | with_reducible (first | refine awp_seq_k fun _ _ => ?_ | refine awp_region [] ?_ | refine awp_block ?_)
   | go_step)
    rw [nfewB, hall, h1, h2, h3]
    try rfl
  · repeat (first
   | (with_reducible (first | refine sops_go ?_ | refine headW_end ?_ | refine sops_end ?_ | refine awp_if ?_ | refine awp_skip ?_ | refine awp_ret ?_ | refine awp_exit ?_); simp only [go_sem, simprocAttr, hF, hd, h1, h2, h3])
   | with_reducible (first | refine awp_seq_k fun _ _ => ?_ | refine awp_region [] ?_ | refine awp_block ?_)
   | go_step)
    rw [nfewB, hall, h1, h2, h3]
    try rfl
  · repeat (first
   | (with_reducible (first | refine sops_go ?_ | refine headW_end ?_ | refine sops_end ?_ | refine awp_if ?_ | refine awp_skip ?_ | refine awp_ret ?_ | refine awp_exit ?_); simp only [go_sem, simprocAttr, hF, hd, h1, h2, h3])
   | with_reducible (first | refine awp_seq_k fun _ _ => ?_ | refine awp_region [] ?_ | refine awp_block ?_)
   | go_step)
    rw [nfewB, hall, h1, h2, h3]
    try rfl
  · repeat (first
   | (with_reducible (first | refine sops_go ?_ | refine headW_end ?_ | refine sops_end ?_ | refine awp_if ?_ | refine awp_skip ?_ | refine awp_ret ?_ | refine awp_exit ?_); simp only [go_sem, simprocAttr, hF, hd, h1, h2, h3])
   | with_reducible (first | refine awp_seq_k fun _ _ => ?_ | refine awp_region [] ?_ | refine awp_block ?_)
   | go_step)
    rw [nfewB, hall, h1, h2, h3]
    try rfl
  · repeat (first
   | (with_reducible (first | refine sops_go ?_ | refine headW_end ?_ | refine sops_end ?_ | refine awp_if ?_ | refine awp_skip ?_ | refine awp_ret ?_ | refine awp_exit ?_); simp only [go_sem, simprocAttr, hF, hd, h1, h2, h3])
   | with_reducible (first | refine awp_seq_k fun _ _ => ?_ | refine awp_region [] ?_ | refine awp_block ?_)
   | go_step)
    rw [nfewB, hall, h1, h2, h3]
    try rfl
  · repeat (first
   | (with_reducible (first | refine sops_go ?_ | refine headW_end ?_ | refine sops_end ?_ | refine awp_if ?_ | refine awp_skip ?_ | refine awp_ret ?_ | refine awp_exit ?_); simp only [go_sem, simprocAttr, hF, hd, h1, h2, h3])
   | with_reducible (first | refine awp_seq_k fun _ _ => ?_ | refine awp_region [] ?_ | refine awp_block ?_)
   | go_step)
    rw [nfewB, hall, h1, h2, h3]
    try rfl
  · repeat (first
   | (with_reducible (first | refine sops_go ?_ | refine headW_end ?_ | refine sops_end ?_ | refine awp_if ?_ | refine awp_skip ?_ | refine awp_ret ?_ | refine awp_exit ?_); simp only [go_sem, simprocAttr, hF, hd, h1, h2, h3])
   | with_reducible (first | refine awp_seq_k fun _ _ => ?_ | refine awp_region [] ?_ | refine awp_block ?_)
   | go_step)
    rw [nfewB, hall, h1, h2, h3]
    try rfl
 obtain ⟨d, hdk⟩ := get_of_lt hlt
 have hd : decide ((k : Int) < (n.pow.length : Int)) = true := decide_eq_true (by omega)
 have hw : IntKind.i64.wrap ((k : Int) + 1) = ((k + 1 : Nat) : Int) := by rw [IntKind.wrap_i64]; omega
 by_cases h40 : d.length ≤ 40
 case neg =>
  have he : decide ((40 : Int) < (d.length : Int)) = true := decide_eq_true (by omega)
  have hall : n.pow.all (fun l => decide (l.length ≤ 40)) = false := by
   refine Bool.eq_false_iff.2 fun h => h40 ?_
   exact of_decide_eq_true (List.all_eq_true.1 h d (List.mem_of_getElem? hdk))
  repeat (first
   | (with_reducible (first | refine sops_go ?_ | refine headW_end ?_ | refine sops_end ?_ | refine awp_if ?_ | refine awp_skip ?_ | refine awp_ret ?_ | refine awp_exit ?_); simp only [go_sem, simprocAttr, hF, hd, hdk, he])
   | with_reducible (first | refine awp_seq_k fun _ _ => ?_ | refine awp_region [] ?_ | refine awp_block ?_)
   | go_step)
  rw [nfewB, hall]
  rfl
 have he : decide ((40 : Int) < (d.length : Int)) = false := decide_eq_false (by omega)
 repeat (first
  | (with_reducible (first | refine sops_go ?_ | refine headW_end ?_ | refine sops_end ?_ | refine awp_if ?_ | refine awp_skip ?_ | refine awp_ret ?_ | refine awp_exit ?_); simp only [go_sem, simprocAttr, hF, hd, hdk, he])
  | with_reducible (first | refine awp_seq_k fun _ _ => ?_ | refine awp_region [] ?_ | refine awp_block ?_)
  | go_step)
 refine ⟨⟨k + 1, by omega, fun l hl => by
  rw [List.take_add_one, hdk] at hl
  rcases List.mem_append.1 hl with hl | hl
  · exact hT l hl
  · simp at hl; subst hl; exact h40⟩, by dsimp only; omega, hR _ _ (sub_mk ?_)⟩
 simp only [go_sem, simprocAttr, hF, hw]

set_option maxHeartbeats 2000000 in
theorem rfew_ok (r : Rec) : FnOK Tryz.prog 35 [.agg r.pv] ⟨bv (rfewB r), none⟩ := by
 refine fn_ok Tryz.func35 (by kernel_rfl) rfl (by rw [Tryz.ntmps35]; exact of_decide_eq_true rfl) (fun F hF => ?_)
 rw [Tryz.ntmps35] at hF
 rw [Tryz.results35]
 unfold rfewB
 cases h1 : decide ((r.al.length : Int) ≤ 150) <;> cases h2 : decide ((r.dl.length : Int) ≤ 100)
 · repeat (first
  | (with_reducible (first | refine sops_go ?_ | refine headW_end ?_ | refine sops_end ?_ | refine awp_if ?_ | refine awp_skip ?_ | refine awp_ret ?_ | refine awp_exit ?_); simp only [go_sem, simprocAttr, hF, h1, h2])
  | with_reducible (first | refine awp_seq_k fun _ _ => ?_ | refine awp_region [] ?_ | refine awp_block ?_)
  | go_step)
   all_goals (try rfl)
 · repeat (first
  | (with_reducible (first | refine sops_go ?_ | refine headW_end ?_ | refine sops_end ?_ | refine awp_if ?_ | refine awp_skip ?_ | refine awp_ret ?_ | refine awp_exit ?_); simp only [go_sem, simprocAttr, hF, h1, h2])
  | with_reducible (first | refine awp_seq_k fun _ _ => ?_ | refine awp_region [] ?_ | refine awp_block ?_)
  | go_step)
   all_goals (try rfl)
 · repeat (first
  | (with_reducible (first | refine sops_go ?_ | refine headW_end ?_ | refine sops_end ?_ | refine awp_if ?_ | refine awp_skip ?_ | refine awp_ret ?_ | refine awp_exit ?_); simp only [go_sem, simprocAttr, hF, h1, h2])
  | with_reducible (first | refine awp_seq_k fun _ _ => ?_ | refine awp_region [] ?_ | refine awp_block ?_)
  | go_step)
   all_goals (try rfl)
 · repeat (first
  | (with_reducible (first | refine sops_go ?_ | refine headW_end ?_ | refine sops_end ?_ | refine awp_if ?_ | refine awp_skip ?_ | refine awp_ret ?_ | refine awp_exit ?_); simp only [go_sem, simprocAttr, hF, h1, h2])
  | with_reducible (first | refine awp_seq_k fun _ _ => ?_ | refine awp_region [] ?_ | refine awp_block ?_)
  | go_step)
   all_goals (try rfl)

set_option maxHeartbeats 2000000 in
theorem fewR_ok (ps : List (List Int)) (hps : ps.length ≤ 9223372036854775807) : FnOK Tryz.prog 34 [.sl 1 (ps.map prow_pv)] ⟨bv (fewRB ps), none⟩ := by
 refine fn_ok Tryz.func34 (by kernel_rfl) rfl (by rw [Tryz.ntmps34]; exact of_decide_eq_true rfl) (fun F hF => ?_)
 rw [Tryz.ntmps34] at hF
 rw [Tryz.results34]
 repeat (first
  | (with_reducible (first | refine sops_go ?_ | refine headW_end ?_ | refine sops_end ?_ | refine awp_if ?_ | refine awp_skip ?_ | refine awp_ret ?_ | refine awp_exit ?_); simp only [go_sem, simprocAttr, hF])
  | with_reducible (first | refine awp_seq_k fun _ _ => ?_ | refine awp_region [] ?_ | refine awp_block ?_)
  | go_step)
 refine awp_loop_by (ι := {k : Nat // k ≤ ps.length ∧ ∀ y ∈ ps.take k, y.length ≤ 20}) (fun k σ => ⟨(3, iv (k.1 : Int)) :: keepS [0] σ.slot, σ.box, [], σ.ext⟩) (fun k => ps.length - k.1) ⟨0, by omega, by simp⟩ (sub_mk ?_) (fun R hR k => ?_)
 · simp only [go_sem, simprocAttr, hF]
   repeat' (first | rfl | refine ⟨?_, ?_⟩)
 obtain ⟨k, hk, hT⟩ := k
 dsimp only
 simp only [go_sem, simprocAttr, hF]
 by_cases hlt : k < ps.length
 case neg =>
  have hd : decide ((k : Int) < (ps.length : Int)) = false := decide_eq_false (by omega)
  rw [List.take_of_length_le (by omega)] at hT
  have hall : ps.all (fun y => decide (y.length ≤ 20)) = true := List.all_eq_true.2 fun l hl => decide_eq_true (hT l hl)
  cases h1 : decide ((ps.length : Int) ≤ 4)
  · repeat (first
   | (with_reducible (first | refine sops_go ?_ | refine headW_end ?_ | refine sops_end ?_ | refine awp_if ?_ | refine awp_skip ?_ | refine awp_ret ?_ | refine awp_exit ?_); simp only [go_sem, simprocAttr, hF, hd, h1])
   | with_reducible (first | refine awp_seq_k fun _ _ => ?_ | refine awp_region [] ?_ | refine awp_block ?_)
   | go_step)
    rw [fewRB, hall, h1]
    try rfl
  · repeat (first
   | (with_reducible (first | refine sops_go ?_ | refine headW_end ?_ | refine sops_end ?_ | refine awp_if ?_ | refine awp_skip ?_ | refine awp_ret ?_ | refine awp_exit ?_); simp only [go_sem, simprocAttr, hF, hd, h1])
   | with_reducible (first | refine awp_seq_k fun _ _ => ?_ | refine awp_region [] ?_ | refine awp_block ?_)
   | go_step)
    rw [fewRB, hall, h1]
    try rfl
 obtain ⟨d, hdk⟩ := get_of_lt hlt
 have hd : decide ((k : Int) < (ps.length : Int)) = true := decide_eq_true (by omega)
 have hw : IntKind.i64.wrap ((k : Int) + 1) = ((k + 1 : Nat) : Int) := by rw [IntKind.wrap_i64]; omega
 by_cases h40 : d.length ≤ 20
 case neg =>
  have he : decide ((20 : Int) < (d.length : Int)) = true := decide_eq_true (by omega)
  have hall : ps.all (fun y => decide (y.length ≤ 20)) = false := by
   refine Bool.eq_false_iff.2 fun h => h40 ?_
   exact of_decide_eq_true (List.all_eq_true.1 h d (List.mem_of_getElem? hdk))
  repeat (first
   | (with_reducible (first | refine sops_go ?_ | refine headW_end ?_ | refine sops_end ?_ | refine awp_if ?_ | refine awp_skip ?_ | refine awp_ret ?_ | refine awp_exit ?_); simp only [go_sem, simprocAttr, hF, hd, hdk, he])
   | with_reducible (first | refine awp_seq_k fun _ _ => ?_ | refine awp_region [] ?_ | refine awp_block ?_)
   | go_step)
  rw [fewRB, hall]
  rfl
 have he : decide ((20 : Int) < (d.length : Int)) = false := decide_eq_false (by omega)
 repeat (first
  | (with_reducible (first | refine sops_go ?_ | refine headW_end ?_ | refine sops_end ?_ | refine awp_if ?_ | refine awp_skip ?_ | refine awp_ret ?_ | refine awp_exit ?_); simp only [go_sem, simprocAttr, hF, hd, hdk, he])
  | with_reducible (first | refine awp_seq_k fun _ _ => ?_ | refine awp_region [] ?_ | refine awp_block ?_)
  | go_step)
 refine ⟨⟨k + 1, by omega, fun l hl => by
  rw [List.take_add_one, hdk] at hl
  rcases List.mem_append.1 hl with hl | hl
  · exact hT l hl
  · simp at hl; subst hl; exact h40⟩, by dsimp only; omega, hR _ _ (sub_mk ?_)⟩
 simp only [go_sem, simprocAttr, hF, hw]

set_option maxHeartbeats 2000000 in
theorem few57_ok (n : Net) (ps : List (List Int)) (r : Rec) (hp : n.pow.length ≤ 9223372036854775807) (hps : ps.length ≤ 9223372036854775807) : FnOK Tryz.prog 10 [.agg n.pv, .sl 1 (ps.map prow_pv), .agg r.pv] ⟨bv (few57B n ps r), none⟩ := by
 refine fn_ok Tryz.func10 (by kernel_rfl) rfl (by rw [Tryz.ntmps10]; exact of_decide_eq_true rfl) (fun F hF => ?_)
 rw [Tryz.ntmps10] at hF
 rw [Tryz.results10]
 unfold few57B
 cases h1 : nfewB n <;> cases h2 : fewRB ps <;> cases h3 : rfewB r
 · repeat (first
  | (with_reducible (first | refine sops_go ?_ | refine headW_end ?_ | refine sops_end ?_ | refine awp_if ?_ | refine awp_skip ?_ | refine awp_ret ?_ | refine awp_exit ?_); simp only [go_sem, simprocAttr, hF, h1, h2, h3])
  | with_reducible (first | refine awp_seq_k fun _ _ => ?_ | refine awp_region [] ?_ | refine awp_block ?_)
  | go_step)
   refine ⟨_, nfew_ok n hp, ?_⟩
   simp only [go_sem, simprocAttr, hF, h1, h2, h3]
   repeat (first
    | (with_reducible (first | refine sops_go ?_ | refine headW_end ?_ | refine sops_end ?_ | refine awp_if ?_ | refine awp_skip ?_ | refine awp_ret ?_ | refine awp_exit ?_); simp only [go_sem, simprocAttr, hF, h1, h2, h3])
    | with_reducible (first | refine awp_seq_k fun _ _ => ?_ | refine awp_region [] ?_ | refine awp_block ?_)
    | go_step)
   all_goals (try rfl)
 · repeat (first
  | (with_reducible (first | refine sops_go ?_ | refine headW_end ?_ | refine sops_end ?_ | refine awp_if ?_ | refine awp_skip ?_ | refine awp_ret ?_ | refine awp_exit ?_); simp only [go_sem, simprocAttr, hF, h1, h2, h3])
  | with_reducible (first | refine awp_seq_k fun _ _ => ?_ | refine awp_region [] ?_ | refine awp_block ?_)
  | go_step)
   refine ⟨_, nfew_ok n hp, ?_⟩
   simp only [go_sem, simprocAttr, hF, h1, h2, h3]
   repeat (first
    | (with_reducible (first | refine sops_go ?_ | refine headW_end ?_ | refine sops_end ?_ | refine awp_if ?_ | refine awp_skip ?_ | refine awp_ret ?_ | refine awp_exit ?_); simp only [go_sem, simprocAttr, hF, h1, h2, h3])
    | with_reducible (first | refine awp_seq_k fun _ _ => ?_ | refine awp_region [] ?_ | refine awp_block ?_)
    | go_step)
   all_goals (try rfl)
 · repeat (first
  | (with_reducible (first | refine sops_go ?_ | refine headW_end ?_ | refine sops_end ?_ | refine awp_if ?_ | refine awp_skip ?_ | refine awp_ret ?_ | refine awp_exit ?_); simp only [go_sem, simprocAttr, hF, h1, h2, h3])
  | with_reducible (first | refine awp_seq_k fun _ _ => ?_ | refine awp_region [] ?_ | refine awp_block ?_)
  | go_step)
   refine ⟨_, nfew_ok n hp, ?_⟩
   simp only [go_sem, simprocAttr, hF, h1, h2, h3]
   repeat (first
    | (with_reducible (first | refine sops_go ?_ | refine headW_end ?_ | refine sops_end ?_ | refine awp_if ?_ | refine awp_skip ?_ | refine awp_ret ?_ | refine awp_exit ?_); simp only [go_sem, simprocAttr, hF, h1, h2, h3])
    | with_reducible (first | refine awp_seq_k fun _ _ => ?_ | refine awp_region [] ?_ | refine awp_block ?_)
    | go_step)
   all_goals (try rfl)
 · repeat (first
  | (with_reducible (first | refine sops_go ?_ | refine headW_end ?_ | refine sops_end ?_ | refine awp_if ?_ | refine awp_skip ?_ | refine awp_ret ?_ | refine awp_exit ?_); simp only [go_sem, simprocAttr, hF, h1, h2, h3])
  | with_reducible (first | refine awp_seq_k fun _ _ => ?_ | refine awp_region [] ?_ | refine awp_block ?_)
  | go_step)
   refine ⟨_, nfew_ok n hp, ?_⟩
   simp only [go_sem, simprocAttr, hF, h1, h2, h3]
   repeat (first
    | (with_reducible (first | refine sops_go ?_ | refine headW_end ?_ | refine sops_end ?_ | refine awp_if ?_ | refine awp_skip ?_ | refine awp_ret ?_ | refine awp_exit ?_); simp only [go_sem, simprocAttr, hF, h1, h2, h3])
    | with_reducible (first | refine awp_seq_k fun _ _ => ?_ | refine awp_region [] ?_ | refine awp_block ?_)
    | go_step)
   all_goals (try rfl)
 · repeat (first
  | (with_reducible (first | refine sops_go ?_ | refine headW_end ?_ | refine sops_end ?_ | refine awp_if ?_ | refine awp_skip ?_ | refine awp_ret ?_ | refine awp_exit ?_); simp only [go_sem, simprocAttr, hF, h1, h2, h3])
  | with_reducible (first | refine awp_seq_k fun _ _ => ?_ | refine awp_region [] ?_ | refine awp_block ?_)
  | go_step)
   refine ⟨_, nfew_ok n hp, ?_⟩
   simp only [go_sem, simprocAttr, hF, h1, h2, h3]
   repeat (first
    | (with_reducible (first | refine sops_go ?_ | refine headW_end ?_ | refine sops_end ?_ | refine awp_if ?_ | refine awp_skip ?_ | refine awp_ret ?_ | refine awp_exit ?_); simp only [go_sem, simprocAttr, hF, h1, h2, h3])
    | with_reducible (first | refine awp_seq_k fun _ _ => ?_ | refine awp_region [] ?_ | refine awp_block ?_)
    | go_step)
   refine ⟨_, fewR_ok ps hps, ?_⟩
   simp only [go_sem, simprocAttr, hF, h1, h2, h3]
   repeat (first
    | (with_reducible (first | refine sops_go ?_ | refine headW_end ?_ | refine sops_end ?_ | refine awp_if ?_ | refine awp_skip ?_ | refine awp_ret ?_ | refine awp_exit ?_); simp only [go_sem, simprocAttr, hF, h1, h2, h3])
    | with_reducible (first | refine awp_seq_k fun _ _ => ?_ | refine awp_region [] ?_ | refine awp_block ?_)
    | go_step)
   all_goals (try rfl)
 · repeat (first
  | (with_reducible (first | refine sops_go ?_ | refine headW_end ?_ | refine sops_end ?_ | refine awp_if ?_ | refine awp_skip ?_ | refine awp_ret ?_ | refine awp_exit ?_); simp only [go_sem, simprocAttr, hF, h1, h2, h3])
  | with_reducible (first | refine awp_seq_k fun _ _ => ?_ | refine awp_region [] ?_ | refine awp_block ?_)
  | go_step)
   refine ⟨_, nfew_ok n hp, ?_⟩
   simp only [go_sem, simprocAttr, hF, h1, h2, h3]
   repeat (first
    | (with_reducible (first | refine sops_go ?_ | refine headW_end ?_ | refine sops_end ?_ | refine awp_if ?_ | refine awp_skip ?_ | refine awp_ret ?_ | refine awp_exit ?_); simp only [go_sem, simprocAttr, hF, h1, h2, h3])
    | with_reducible (first | refine awp_seq_k fun _ _ => ?_ | refine awp_region [] ?_ | refine awp_block ?_)
    | go_step)
   refine ⟨_, fewR_ok ps hps, ?_⟩
   simp only [go_sem, simprocAttr, hF, h1, h2, h3]
   repeat (first
    | (with_reducible (first | refine sops_go ?_ | refine headW_end ?_ | refine sops_end ?_ | refine awp_if ?_ | refine awp_skip ?_ | refine awp_ret ?_ | refine awp_exit ?_); simp only [go_sem, simprocAttr, hF, h1, h2, h3])
    | with_reducible (first | refine awp_seq_k fun _ _ => ?_ | refine awp_region [] ?_ | refine awp_block ?_)
    | go_step)
   all_goals (try rfl)
 · repeat (first
  | (with_reducible (first | refine sops_go ?_ | refine headW_end ?_ | refine sops_end ?_ | refine awp_if ?_ | refine awp_skip ?_ | refine awp_ret ?_ | refine awp_exit ?_); simp only [go_sem, simprocAttr, hF, h1, h2, h3])
  | with_reducible (first | refine awp_seq_k fun _ _ => ?_ | refine awp_region [] ?_ | refine awp_block ?_)
  | go_step)
   refine ⟨_, nfew_ok n hp, ?_⟩
   simp only [go_sem, simprocAttr, hF, h1, h2, h3]
   repeat (first
    | (with_reducible (first | refine sops_go ?_ | refine headW_end ?_ | refine sops_end ?_ | refine awp_if ?_ | refine awp_skip ?_ | refine awp_ret ?_ | refine awp_exit ?_); simp only [go_sem, simprocAttr, hF, h1, h2, h3])
    | with_reducible (first | refine awp_seq_k fun _ _ => ?_ | refine awp_region [] ?_ | refine awp_block ?_)
    | go_step)
   refine ⟨_, fewR_ok ps hps, ?_⟩
   simp only [go_sem, simprocAttr, hF, h1, h2, h3]
   repeat (first
    | (with_reducible (first | refine sops_go ?_ | refine headW_end ?_ | refine sops_end ?_ | refine awp_if ?_ | refine awp_skip ?_ | refine awp_ret ?_ | refine awp_exit ?_); simp only [go_sem, simprocAttr, hF, h1, h2, h3])
    | with_reducible (first | refine awp_seq_k fun _ _ => ?_ | refine awp_region [] ?_ | refine awp_block ?_)
    | go_step)
   refine ⟨_, rfew_ok r, ?_⟩
   simp only [go_sem, simprocAttr, hF, h1, h2, h3]
   repeat (first
    | (with_reducible (first | refine sops_go ?_ | refine headW_end ?_ | refine sops_end ?_ | refine awp_if ?_ | refine awp_skip ?_ | refine awp_ret ?_ | refine awp_exit ?_); simp only [go_sem, simprocAttr, hF, h1, h2, h3])
    | with_reducible (first | refine awp_seq_k fun _ _ => ?_ | refine awp_region [] ?_ | refine awp_block ?_)
    | go_step)
   all_goals (try rfl)
 · repeat (first
  | (with_reducible (first | refine sops_go ?_ | refine headW_end ?_ | refine sops_end ?_ | refine awp_if ?_ | refine awp_skip ?_ | refine awp_ret ?_ | refine awp_exit ?_); simp only [go_sem, simprocAttr, hF, h1, h2, h3])
  | with_reducible (first | refine awp_seq_k fun _ _ => ?_ | refine awp_region [] ?_ | refine awp_block ?_)
  | go_step)
   refine ⟨_, nfew_ok n hp, ?_⟩
   simp only [go_sem, simprocAttr, hF, h1, h2, h3]
   repeat (first
    | (with_reducible (first | refine sops_go ?_ | refine headW_end ?_ | refine sops_end ?_ | refine awp_if ?_ | refine awp_skip ?_ | refine awp_ret ?_ | refine awp_exit ?_); simp only [go_sem, simprocAttr, hF, h1, h2, h3])
    | with_reducible (first | refine awp_seq_k fun _ _ => ?_ | refine awp_region [] ?_ | refine awp_block ?_)
    | go_step)
   refine ⟨_, fewR_ok ps hps, ?_⟩
   simp only [go_sem, simprocAttr, hF, h1, h2, h3]
   repeat (first
    | (with_reducible (first | refine sops_go ?_ | refine headW_end ?_ | refine sops_end ?_ | refine awp_if ?_ | refine awp_skip ?_ | refine awp_ret ?_ | refine awp_exit ?_); simp only [go_sem, simprocAttr, hF, h1, h2, h3])
    | with_reducible (first | refine awp_seq_k fun _ _ => ?_ | refine awp_region [] ?_ | refine awp_block ?_)
    | go_step)
   refine ⟨_, rfew_ok r, ?_⟩
   simp only [go_sem, simprocAttr, hF, h1, h2, h3]
   repeat (first
    | (with_reducible (first | refine sops_go ?_ | refine headW_end ?_ | refine sops_end ?_ | refine awp_if ?_ | refine awp_skip ?_ | refine awp_ret ?_ | refine awp_exit ?_); simp only [go_sem, simprocAttr, hF, h1, h2, h3])
    | with_reducible (first | refine awp_seq_k fun _ _ => ?_ | refine awp_region [] ?_ | refine awp_block ?_)
    | go_step)
   all_goals (try rfl)
/- By abstract states: slices.Clone. -/
namespace Av
/-- Is a slice nil? Then it has no rows. -/
theorem hand_sliceNil {P : Program} {n d : Nat} {σ : St} {o : Oper} {K : St → Prop} {T T' e : TypeId} {x : Operand} {sz : Nat} {rows : List (List PV)} (ho : o.op = .binOp .eql T x (.const (.slice none 0 0)) T') (hd : o.dst = some d) (hdn : d < n) (hT : P.underlying T = some (.slice e)) (hx : evo (look σ.slot) x = some (.sl sz rows))
 (h : ∀ b : Bool, (b = true → rows = []) → K (σ.put d (.v (.bool b)))) : Hand P n σ o K := by
 refine hand_value hd hdn fun F γ a w _ hr => ?_
 have e1 : RepP _ (.sl sz rows) (a.eval x) := (evo_ok hr (fun _ _ _ hy => hy) hx).1
 have e3 : a.eval (.const (.slice none 0 0)) = .slice none 0 0 := rfl
 generalize hv : a.eval x = v at e1
 cases e1 with
 | sl _ _ A cap f hsz hA hf hc =>
  refine ⟨.v (.bool A.isNone), .bool A.isNone, w, σ.ext, ?_, Turn.same hr.exth (fun _ h => h) (fun _ h => .inr h), rfl, (fun k hk => by cases hk), h _ (fun hn => ?_)⟩
  · simp [execOp, ho, hv, e3, eqGuard, binOp, run_equal_slice_nil w T e A rows.length cap hT]
  · rcases hA with h0 | ⟨b, off, rfl, _⟩
    · exact h0
    · cases hn
end Av

set_option maxHeartbeats 2000000 in
theorem cloneI_ok (rows : List (List PV)) (hl : rows.length ≤ 100000000) : FnOK Tryz.prog 58 [.sl 1 rows] ⟨.sl 1 rows, some 3⟩ := by
 refine fn_ok Tryz.func58 (by kernel_rfl) rfl (by rw [Tryz.ntmps58]; exact of_decide_eq_true rfl) (fun F hF => ?_)
 rw [Tryz.ntmps58] at hF
 rw [Tryz.results58]
 repeat (first
  | (with_reducible (first | refine sops_go ?_ | refine headW_end ?_ | refine sops_end ?_ | refine awp_if ?_ | refine awp_skip ?_ | refine awp_ret ?_ | refine awp_exit ?_); simp only [go_sem, ↓reduceIte, Nat.reduceEqDiff, Nat.reduceLT, Nat.reduceLeDiff, Nat.reduceAdd, Nat.reduceMul, Nat.reduceSub, Nat.reduceBEq, reduceCtorEq, Int.reduceBNe, Int.reduceBEq, Int.reduceLT, Int.reduceLE, Int.reduceGT, Int.reduceGE, ne_eq, eq_self, hF])
  | with_reducible (first | refine awp_seq_k fun _ _ => ?_ | refine awp_region [1000004] ?_ | refine awp_block ?_)
  | go_step)
 refine hand_sliceNil (e := 3) rfl rfl (by decide) Tryz.underlying24 rfl (fun b hb => ?_)
 simp only [go_sem, ↓reduceIte, Nat.reduceEqDiff, Nat.reduceLT, Nat.reduceLeDiff, Nat.reduceAdd, Nat.reduceMul, Nat.reduceSub, Nat.reduceBEq, reduceCtorEq, Int.reduceBNe, Int.reduceBEq, Int.reduceLT, Int.reduceLE, Int.reduceGT, Int.reduceGE, ne_eq, eq_self, hF]
 cases b with
 | true =>
  obtain rfl := hb rfl
  repeat (first
   | ((refine awp_nil (c := .ret) 2 1 3 (by rw [hF]; decide) (by first | rfl | simp only [Av.look]; rfl) ?_); simp only [go_sem, ↓reduceIte, Nat.reduceEqDiff, Nat.reduceLT, Nat.reduceLeDiff, Nat.reduceAdd, Nat.reduceMul, Nat.reduceSub, Nat.reduceBEq, reduceCtorEq, Int.reduceBNe, Int.reduceBEq, Int.reduceLT, Int.reduceLE, Int.reduceGT, Int.reduceGE, ne_eq, eq_self, hF])
   | (with_reducible (first | refine sops_go ?_ | refine headW_end ?_ | refine sops_end ?_ | refine awp_if ?_ | refine awp_skip ?_ | refine awp_ret ?_ | refine awp_exit ?_); simp only [go_sem, ↓reduceIte, Nat.reduceEqDiff, Nat.reduceLT, Nat.reduceLeDiff, Nat.reduceAdd, Nat.reduceMul, Nat.reduceSub, Nat.reduceBEq, reduceCtorEq, Int.reduceBNe, Int.reduceBEq, Int.reduceLT, Int.reduceLE, Int.reduceGT, Int.reduceGE, ne_eq, eq_self, hF])
   | with_reducible (first | refine awp_seq_k fun _ _ => ?_ | refine awp_region [1000004] ?_ | refine awp_block ?_)
   | go_step)
 | false =>
  repeat (first
   | (with_reducible (first | refine sops_go ?_ | refine headW_end ?_ | refine sops_end ?_ | refine awp_if ?_ | refine awp_skip ?_ | refine awp_ret ?_ | refine awp_exit ?_); simp only [go_sem, ↓reduceIte, Nat.reduceEqDiff, Nat.reduceLT, Nat.reduceLeDiff, Nat.reduceAdd, Nat.reduceMul, Nat.reduceSub, Nat.reduceBEq, reduceCtorEq, Int.reduceBNe, Int.reduceBEq, Int.reduceLT, Int.reduceLE, Int.reduceGT, Int.reduceGE, ne_eq, eq_self, hF, hl])
   | with_reducible (first | refine awp_seq_k fun _ _ => ?_ | refine awp_region [1000004] ?_ | refine awp_block ?_)
   | go_step)
  try rfl

/- Sorts of lists of one breach or none. -/
attribute [local go_sem] Tryz.underlying184 Tryz.underlying5
set_option maxHeartbeats 2000000 in
theorem len64_0  : FnOK Tryz.prog 147 [.v (.int .u64 0)] ⟨iv 0, none⟩ := by
 refine fn_ok Tryz.func147 (by kernel_rfl) rfl (by rw [Tryz.ntmps147]; exact of_decide_eq_true rfl) (fun F hF => ?_)
 rw [Tryz.ntmps147] at hF
 rw [Tryz.results147]
 repeat (first
  | (with_reducible (first | refine sops_go ?_ | refine headW_end ?_ | refine sops_end ?_ | refine awp_if ?_ | refine awp_skip ?_ | refine awp_ret ?_ | refine awp_exit ?_); simp only [go_sem, ↓reduceIte, Nat.reduceEqDiff, Nat.reduceLT, Nat.reduceLeDiff, Nat.reduceAdd, Nat.reduceMul, Nat.reduceSub, Nat.reduceBEq, reduceCtorEq, Int.reduceBNe, Int.reduceBEq, Int.reduceLT, Int.reduceLE, Int.reduceGT, Int.reduceGE, ne_eq, eq_self, hF])
  | with_reducible (first | refine awp_seq_k fun _ _ => ?_ | refine awp_region [] ?_ | refine awp_block ?_)
  | go_step)
 first | refine ⟨Tryz.underlying9, 0, rfl, ?_⟩ | refine ⟨0, rfl, ?_⟩ | skip
 repeat (first
  | (with_reducible (first | refine sops_go ?_ | refine headW_end ?_ | refine sops_end ?_ | refine awp_if ?_ | refine awp_skip ?_ | refine awp_ret ?_ | refine awp_exit ?_); simp only [go_sem, ↓reduceIte, Nat.reduceEqDiff, Nat.reduceLT, Nat.reduceLeDiff, Nat.reduceAdd, Nat.reduceMul, Nat.reduceSub, Nat.reduceBEq, reduceCtorEq, Int.reduceBNe, Int.reduceBEq, Int.reduceLT, Int.reduceLE, Int.reduceGT, Int.reduceGE, ne_eq, eq_self, hF])
  | with_reducible (first | refine awp_seq_k fun _ _ => ?_ | refine awp_region [] ?_ | refine awp_block ?_)
  | go_step)
 trace_state
 try rfl

set_option maxHeartbeats 2000000 in
theorem len_0  : FnOK Tryz.prog 97 [.v (.int .u64 0)] ⟨iv 0, none⟩ := by
 refine fn_ok Tryz.func97 (by kernel_rfl) rfl (by rw [Tryz.ntmps97]; exact of_decide_eq_true rfl) (fun F hF => ?_)
 rw [Tryz.ntmps97] at hF
 rw [Tryz.results97]
 repeat (first
  | (with_reducible (first | refine sops_go ?_ | refine headW_end ?_ | refine sops_end ?_ | refine awp_if ?_ | refine awp_skip ?_ | refine awp_ret ?_ | refine awp_exit ?_); simp only [go_sem, ↓reduceIte, Nat.reduceEqDiff, Nat.reduceLT, Nat.reduceLeDiff, Nat.reduceAdd, Nat.reduceMul, Nat.reduceSub, Nat.reduceBEq, reduceCtorEq, Int.reduceBNe, Int.reduceBEq, Int.reduceLT, Int.reduceLE, Int.reduceGT, Int.reduceGE, ne_eq, eq_self, hF])
  | with_reducible (first | refine awp_seq_k fun _ _ => ?_ | refine awp_region [] ?_ | refine awp_block ?_)
  | go_step)
 refine ⟨_, len64_0, ?_⟩
 simp only [go_sem, ↓reduceIte, Nat.reduceEqDiff, Nat.reduceLT, Nat.reduceLeDiff, Nat.reduceAdd, Nat.reduceMul, Nat.reduceSub, Nat.reduceBEq, reduceCtorEq, Int.reduceBNe, Int.reduceBEq, Int.reduceLT, Int.reduceLE, Int.reduceGT, Int.reduceGE, ne_eq, eq_self, hF]
 repeat (first
  | (with_reducible (first | refine sops_go ?_ | refine headW_end ?_ | refine sops_end ?_ | refine awp_if ?_ | refine awp_skip ?_ | refine awp_ret ?_ | refine awp_exit ?_); simp only [go_sem, ↓reduceIte, Nat.reduceEqDiff, Nat.reduceLT, Nat.reduceLeDiff, Nat.reduceAdd, Nat.reduceMul, Nat.reduceSub, Nat.reduceBEq, reduceCtorEq, Int.reduceBNe, Int.reduceBEq, Int.reduceLT, Int.reduceLE, Int.reduceGT, Int.reduceGE, ne_eq, eq_self, hF])
  | with_reducible (first | refine awp_seq_k fun _ _ => ?_ | refine awp_region [] ?_ | refine awp_block ?_)
  | go_step)

set_option maxHeartbeats 2000000 in
theorem isort_ok (rows : List (List PV)) (n : Int) (c : FuncId) (h0 : 0 ≤ n) (h1 : n ≤ 1) : FnOK Tryz.prog 138 [.sl 5 rows, iv 0, iv n, .fnv c []] ⟨.tup [], none⟩ := by
 have hd : decide ((1 : Int) < n) = false := decide_eq_false (by omega)
 have hw : IntKind.i64.wrap ((0 : Int) + 1) = 1 := rfl
 refine fn_ok Tryz.func138 (by kernel_rfl) rfl (by rw [Tryz.ntmps138]; exact of_decide_eq_true rfl) (fun F hF => ?_)
 rw [Tryz.ntmps138] at hF
 rw [Tryz.results138]
 repeat (first
  | (with_reducible (first | refine sops_go ?_ | refine headW_end ?_ | refine sops_end ?_ | refine awp_if ?_ | refine awp_skip ?_ | refine awp_ret ?_ | refine awp_exit ?_); simp only [go_sem, ↓reduceIte, Nat.reduceEqDiff, Nat.reduceLT, Nat.reduceLeDiff, Nat.reduceAdd, Nat.reduceMul, Nat.reduceSub, Nat.reduceBEq, reduceCtorEq, Int.reduceBNe, Int.reduceBEq, Int.reduceLT, Int.reduceLE, Int.reduceGT, Int.reduceGE, ne_eq, eq_self, hF, hw])
  | ((with_reducible refine headW_go ?_); simp only [go_sem, ↓reduceIte, Nat.reduceEqDiff, Nat.reduceLT, Nat.reduceLeDiff, Nat.reduceAdd, Nat.reduceMul, Nat.reduceSub, Nat.reduceBEq, reduceCtorEq, Int.reduceBNe, Int.reduceBEq, Int.reduceLT, Int.reduceLE, Int.reduceGT, Int.reduceGE, ne_eq, eq_self, hF, hw, hbx])
  | with_reducible refine awp_seq_k fun _ _ => ?_
  | (refine awp_draw' (id := 4) [] 17 (by kernel_rfl) (by kernel_rfl) rfl rfl (fun bx0 hbx => ?_); try dsimp only [List.take, List.drop])
  | (refine awp_draw' (id := 6) [] 15 (by kernel_rfl) (by kernel_rfl) rfl rfl (fun bx0 hbx => ?_); try dsimp only [List.take, List.drop])
  | with_reducible (first | refine awp_region [] ?_ | refine awp_block ?_)
  | go_step)
 refine awp_loop_by (ι := {k : Nat // k ≤ 0}) (fun _ σ => ⟨keepS [0, 1, 2, 3, 8] σ.slot, [], [], σ.ext⟩) (fun _ => 0) ⟨0, Nat.le_refl _⟩ (sub_mk ?_) (fun R hR k => ?_)
 · simp only [go_sem, ↓reduceIte, Nat.reduceEqDiff, Nat.reduceLT, Nat.reduceLeDiff, Nat.reduceAdd, Nat.reduceMul, Nat.reduceSub, Nat.reduceBEq, reduceCtorEq, Int.reduceBNe, Int.reduceBEq, Int.reduceLT, Int.reduceLE, Int.reduceGT, Int.reduceGE, ne_eq, eq_self, hF]
   try trivial
 repeat (first
  | (with_reducible (first | refine sops_go ?_ | refine headW_end ?_ | refine sops_end ?_ | refine awp_if ?_ | refine awp_skip ?_ | refine awp_ret ?_ | refine awp_exit ?_); simp only [go_sem, ↓reduceIte, Nat.reduceEqDiff, Nat.reduceLT, Nat.reduceLeDiff, Nat.reduceAdd, Nat.reduceMul, Nat.reduceSub, Nat.reduceBEq, reduceCtorEq, Int.reduceBNe, Int.reduceBEq, Int.reduceLT, Int.reduceLE, Int.reduceGT, Int.reduceGE, ne_eq, eq_self, hF, hd])
  | ((with_reducible refine headW_go ?_); simp only [go_sem, ↓reduceIte, Nat.reduceEqDiff, Nat.reduceLT, Nat.reduceLeDiff, Nat.reduceAdd, Nat.reduceMul, Nat.reduceSub, Nat.reduceBEq, reduceCtorEq, Int.reduceBNe, Int.reduceBEq, Int.reduceLT, Int.reduceLE, Int.reduceGT, Int.reduceGE, ne_eq, eq_self, hF, hd, hbx])
  | with_reducible refine awp_seq_k fun _ _ => ?_
  | (refine awp_draw' (id := 4) [] 17 (by kernel_rfl) (by kernel_rfl) rfl rfl (fun bx0 hbx => ?_); try dsimp only [List.take, List.drop])
  | (refine awp_draw' (id := 6) [] 15 (by kernel_rfl) (by kernel_rfl) rfl rfl (fun bx0 hbx => ?_); try dsimp only [List.take, List.drop])
  | with_reducible (first | refine awp_region [] ?_ | refine awp_block ?_)
  | go_step)

set_option maxHeartbeats 2000000 in
theorem pdq_ok (rows : List (List PV)) (n l : Int) (c : FuncId) (h0 : 0 ≤ n) (h1 : n ≤ 1) : FnOK Tryz.prog 96 [.sl 5 rows, iv 0, iv n, iv l, .fnv c []] ⟨.tup [], none⟩ := by
 have hd : decide (n ≤ (12 : Int)) = true := decide_eq_true (by omega)
 have hw : IntKind.i64.wrap (n - 0) = n := by rw [IntKind.wrap_i64]; omega
 refine fn_ok Tryz.func96 (by kernel_rfl) rfl (by rw [Tryz.ntmps96]; exact of_decide_eq_true rfl) (fun F hF => ?_)
 rw [Tryz.ntmps96] at hF
 rw [Tryz.results96]
 repeat (first
  | (with_reducible (first | refine sops_go ?_ | refine headW_end ?_ | refine sops_end ?_ | refine awp_if ?_ | refine awp_skip ?_ | refine awp_ret ?_ | refine awp_exit ?_); simp only [go_sem, ↓reduceIte, Nat.reduceEqDiff, Nat.reduceLT, Nat.reduceLeDiff, Nat.reduceAdd, Nat.reduceMul, Nat.reduceSub, Nat.reduceBEq, reduceCtorEq, Int.reduceBNe, Int.reduceBEq, Int.reduceLT, Int.reduceLE, Int.reduceGT, Int.reduceGE, ne_eq, eq_self, hF, hw])
  | ((with_reducible refine headW_go ?_); simp only [go_sem, ↓reduceIte, Nat.reduceEqDiff, Nat.reduceLT, Nat.reduceLeDiff, Nat.reduceAdd, Nat.reduceMul, Nat.reduceSub, Nat.reduceBEq, reduceCtorEq, Int.reduceBNe, Int.reduceBEq, Int.reduceLT, Int.reduceLE, Int.reduceGT, Int.reduceGE, ne_eq, eq_self, hF, hw, hbx])
  | with_reducible refine awp_seq_k fun _ _ => ?_
  | (refine awp_draw' (id := 17) [] 17 (by kernel_rfl) (by kernel_rfl) rfl rfl (fun bx0 hbx => ?_); try dsimp only [List.take, List.drop])
  | with_reducible (first | refine awp_region [] ?_ | refine awp_block ?_)
  | go_step)
 refine awp_loop_by (ι := {k : Nat // k ≤ 0}) (fun _ σ => ⟨keepS [0, 1, 2, 3, 4] σ.slot, [], [], σ.ext⟩) (fun _ => 0) ⟨0, Nat.le_refl _⟩ (sub_mk ?_) (fun R hR k => ?_)
 · simp only [go_sem, ↓reduceIte, Nat.reduceEqDiff, Nat.reduceLT, Nat.reduceLeDiff, Nat.reduceAdd, Nat.reduceMul, Nat.reduceSub, Nat.reduceBEq, reduceCtorEq, Int.reduceBNe, Int.reduceBEq, Int.reduceLT, Int.reduceLE, Int.reduceGT, Int.reduceGE, ne_eq, eq_self, hF]
   try trivial
 repeat (first
  | (with_reducible (first | refine sops_go ?_ | refine headW_end ?_ | refine sops_end ?_ | refine awp_if ?_ | refine awp_skip ?_ | refine awp_ret ?_ | refine awp_exit ?_); simp only [go_sem, ↓reduceIte, Nat.reduceEqDiff, Nat.reduceLT, Nat.reduceLeDiff, Nat.reduceAdd, Nat.reduceMul, Nat.reduceSub, Nat.reduceBEq, reduceCtorEq, Int.reduceBNe, Int.reduceBEq, Int.reduceLT, Int.reduceLE, Int.reduceGT, Int.reduceGE, ne_eq, eq_self, hF, hd, hw])
  | ((with_reducible refine headW_go ?_); simp only [go_sem, ↓reduceIte, Nat.reduceEqDiff, Nat.reduceLT, Nat.reduceLeDiff, Nat.reduceAdd, Nat.reduceMul, Nat.reduceSub, Nat.reduceBEq, reduceCtorEq, Int.reduceBNe, Int.reduceBEq, Int.reduceLT, Int.reduceLE, Int.reduceGT, Int.reduceGE, ne_eq, eq_self, hF, hd, hw, hbx])
  | with_reducible refine awp_seq_k fun _ _ => ?_
  | (refine awp_draw' (id := 17) [] 17 (by kernel_rfl) (by kernel_rfl) rfl rfl (fun bx0 hbx => ?_); try dsimp only [List.take, List.drop])
  | with_reducible (first | refine awp_region [] ?_ | refine awp_block ?_)
  | go_step)
 refine ⟨_, isort_ok rows n c h0 h1, ?_⟩
 simp only [go_sem, ↓reduceIte, Nat.reduceEqDiff, Nat.reduceLT, Nat.reduceLeDiff, Nat.reduceAdd, Nat.reduceMul, Nat.reduceSub, Nat.reduceBEq, reduceCtorEq, Int.reduceBNe, Int.reduceBEq, Int.reduceLT, Int.reduceLE, Int.reduceGT, Int.reduceGE, ne_eq, eq_self, hF]
 repeat (first
  | (with_reducible (first | refine sops_go ?_ | refine headW_end ?_ | refine sops_end ?_ | refine awp_if ?_ | refine awp_skip ?_ | refine awp_ret ?_ | refine awp_exit ?_); simp only [go_sem, ↓reduceIte, Nat.reduceEqDiff, Nat.reduceLT, Nat.reduceLeDiff, Nat.reduceAdd, Nat.reduceMul, Nat.reduceSub, Nat.reduceBEq, reduceCtorEq, Int.reduceBNe, Int.reduceBEq, Int.reduceLT, Int.reduceLE, Int.reduceGT, Int.reduceGE, ne_eq, eq_self, hF])
  | ((with_reducible refine headW_go ?_); simp only [go_sem, ↓reduceIte, Nat.reduceEqDiff, Nat.reduceLT, Nat.reduceLeDiff, Nat.reduceAdd, Nat.reduceMul, Nat.reduceSub, Nat.reduceBEq, reduceCtorEq, Int.reduceBNe, Int.reduceBEq, Int.reduceLT, Int.reduceLE, Int.reduceGT, Int.reduceGE, ne_eq, eq_self, hF, hbx])
  | with_reducible refine awp_seq_k fun _ _ => ?_
  | (refine awp_draw' (id := 17) [] 17 (by kernel_rfl) (by kernel_rfl) rfl rfl (fun bx0 hbx => ?_); try dsimp only [List.take, List.drop])
  | with_reducible (first | refine awp_region [] ?_ | refine awp_block ?_)
  | go_step)

set_option maxHeartbeats 2000000 in
theorem sort0 (c : FuncId) : FnOK Tryz.prog 59 [.sl 5 [], .fnv c []] ⟨.tup [], none⟩ := by
 refine fn_ok Tryz.func59 (by kernel_rfl) rfl (by rw [Tryz.ntmps59]; exact of_decide_eq_true rfl) (fun F hF => ?_)
 rw [Tryz.ntmps59] at hF
 rw [Tryz.results59]
 repeat (first
  | (with_reducible (first | refine sops_go ?_ | refine headW_end ?_ | refine sops_end ?_ | refine awp_if ?_ | refine awp_skip ?_ | refine awp_ret ?_ | refine awp_exit ?_); simp only [go_sem, ↓reduceIte, Nat.reduceEqDiff, Nat.reduceLT, Nat.reduceLeDiff, Nat.reduceAdd, Nat.reduceMul, Nat.reduceSub, Nat.reduceBEq, reduceCtorEq, Int.reduceBNe, Int.reduceBEq, Int.reduceLT, Int.reduceLE, Int.reduceGT, Int.reduceGE, ne_eq, eq_self, hF])
  | with_reducible (first | refine awp_seq_k fun _ _ => ?_ | refine awp_region [] ?_ | refine awp_block ?_)
  | go_step)
 refine ⟨_, len_0, ?_⟩
 simp only [go_sem, ↓reduceIte, Nat.reduceEqDiff, Nat.reduceLT, Nat.reduceLeDiff, Nat.reduceAdd, Nat.reduceMul, Nat.reduceSub, Nat.reduceBEq, reduceCtorEq, Int.reduceBNe, Int.reduceBEq, Int.reduceLT, Int.reduceLE, Int.reduceGT, Int.reduceGE, ne_eq, eq_self, hF]
 repeat (first
  | (with_reducible (first | refine sops_go ?_ | refine headW_end ?_ | refine sops_end ?_ | refine awp_if ?_ | refine awp_skip ?_ | refine awp_ret ?_ | refine awp_exit ?_); simp only [go_sem, ↓reduceIte, Nat.reduceEqDiff, Nat.reduceLT, Nat.reduceLeDiff, Nat.reduceAdd, Nat.reduceMul, Nat.reduceSub, Nat.reduceBEq, reduceCtorEq, Int.reduceBNe, Int.reduceBEq, Int.reduceLT, Int.reduceLE, Int.reduceGT, Int.reduceGE, ne_eq, eq_self, hF])
  | with_reducible (first | refine awp_seq_k fun _ _ => ?_ | refine awp_region [] ?_ | refine awp_block ?_)
  | go_step)
 refine ⟨_, pdq_ok [] 0 0 c (by decide) (by decide), ?_⟩
 simp only [go_sem, ↓reduceIte, Nat.reduceEqDiff, Nat.reduceLT, Nat.reduceLeDiff, Nat.reduceAdd, Nat.reduceMul, Nat.reduceSub, Nat.reduceBEq, reduceCtorEq, Int.reduceBNe, Int.reduceBEq, Int.reduceLT, Int.reduceLE, Int.reduceGT, Int.reduceGE, ne_eq, eq_self, hF]
 repeat (first
  | (with_reducible (first | refine sops_go ?_ | refine headW_end ?_ | refine sops_end ?_ | refine awp_if ?_ | refine awp_skip ?_ | refine awp_ret ?_ | refine awp_exit ?_); simp only [go_sem, ↓reduceIte, Nat.reduceEqDiff, Nat.reduceLT, Nat.reduceLeDiff, Nat.reduceAdd, Nat.reduceMul, Nat.reduceSub, Nat.reduceBEq, reduceCtorEq, Int.reduceBNe, Int.reduceBEq, Int.reduceLT, Int.reduceLE, Int.reduceGT, Int.reduceGE, ne_eq, eq_self, hF])
  | with_reducible (first | refine awp_seq_k fun _ _ => ?_ | refine awp_region [] ?_ | refine awp_block ?_)
  | go_step)

end Go.Proofs.YticnppnejafhdaaGreatDoor
/- The sort of breaches, of whatever number, by hand: the library's contract over a list that the frame holds alone. -/
namespace Go.Proofs.YticnppnejafhdaaGreatDoor
open Go.RowKit
open Nd Rc Mo
open Av
open Go.Sort
set_option maxRecDepth 100000
theorem cmpI_zero {x y : Int} : cmpI x y = 0 ↔ x = y := by
  unfold cmpI; split
  · constructor <;> intro h <;> omega
  · split <;> constructor <;> intro h <;> omega
theorem cmpI_neg {x y : Int} : cmpI x y < 0 ↔ x < y := by
  unfold cmpI; split
  · constructor <;> intro h <;> omega
  · split <;> constructor <;> intro h <;> omega
theorem or_lex : ∀ {l m : List Int}, l.length = m.length → decide (orI (List.zipWith cmpI l m) < 0) = lexB l m
  | [], [], _ => rfl
  | [], _ :: _, h => by cases h
  | _ :: _, [], h => by cases h
  | x :: l, y :: m, h => by
    rw [List.zipWith_cons_cons]
    unfold orI lexB
    by_cases e : x = y
    · rw [if_pos (cmpI_zero.2 e), if_pos e]; exact or_lex (by simpa using h)
    · rw [if_neg (fun h => e (cmpI_zero.1 h)), if_neg e]
      exact decide_eq_decide.2 cmpI_neg
theorem lexB_ntrans {l m k : List Int} (h0 : l.length = m.length) (h1 : lexB l m = false) (h2 : lexB m k = false) : lexB l k = false := by
  by_cases e : l = m
  · rw [e]; exact h2
  · rw [Bool.eq_false_iff]
    intro h
    rw [lexB_trans (lexB_total h0 h1 e) h] at h2
    cases h2
def brCf (a b : Br) : Int := orI [cmpI a.fl b.fl, cmpI a.fr b.fr, cmpI a.fm b.fm, cmpI a.tt b.tt, cmpI (a.sl.headD 0) (b.sl.headD 0)]
theorem brCf_lt (a b : Br) : decide (brCf a b < 0) = a.lt b := or_lex (l := a.key) (m := b.key) rfl
theorem swo_br {α : Type} (f : α → Br) : SWO (ltOf fun i j => brCf (f i) (f j)) where
  irrefl x := by unfold ltOf; rw [brCf_lt]; exact lexB_irrefl _
  trans x y z h1 h2 := by unfold ltOf at *; rw [brCf_lt] at *; exact lexB_trans h1 h2
  ntrans x y z h1 h2 := by unfold ltOf at *; rw [brCf_lt] at *; exact lexB_ntrans (l := (f x).key) (m := (f y).key) rfl h1 h2
section
variable {α : Type} [Inhabited α]
theorem heap_sortK {w : World} {g k m : Nat} {os : Array Obj} {cur : Array Value} {e : TypeId} {fr : Nat × Nat} (enc : α → List Value) (d : Array α) (hb : w.heap[g]? = some (.cells cur e fr)) :
    (sortWorldK enc k w g 0 m d os).heap[g]? = some (.cells (putCells id 0 (flatK enc k d) cur) e fr) := by
  have hg : g < w.heap.size := (Array.getElem?_eq_some_iff.1 hb).1
  unfold sortWorldK putRowK
  rw [heap_grow_old _ _ (by simpa using hg)]
  simp [putRow, mapBlock, Sort.ahead, Array.getElem?_modify, hb, onCells]
theorem grownBy_sortK {w : World} {g k m : Nat} {os : Array Obj} (enc : α → List Value) (d : Array α) : w.grownBy (sortWorldK enc k w g 0 m d os) (some g) := by
  unfold sortWorldK putRowK
  refine ⟨rfl, rfl, rfl, by simp, fun j hj hne => ?_⟩
  rw [heap_grow_old _ _ (by simpa using hj)]
  have : g ≠ j := fun e => hne (by rw [e])
  simp [putRow, mapBlock, Sort.ahead, Array.getElem?_modify, this]
theorem put_get {cur F : Array Value} {j : Nat} (hj : j < F.size) (hs : F.size ≤ cur.size) : (putCells id 0 F cur)[j]? = some F[j]! := by
  have : j < cur.size := by omega
  simp [putCells, hj, this]
end
/-- The cells of a row of five. -/
theorem five {b : Br} {us : List Value} {R : Reader} (h : RepL R b.pv us) (hne : b.sl ≠ []) : ∃ g o n c, us = [.int .i64 b.fl, .int .i64 b.fr, .int .i64 b.fm, .int .i64 b.tt, .slice (some ⟨g, o, none⟩) (n + 1) c] ∧ R ⟨g, o, none⟩ = some (.int .i64 (b.sl.headD 0)) := by
  unfold Br.pv at h
  cases h with | cons h0 h =>
  cases h with | cons h1 h =>
  cases h with | cons h2 h =>
  cases h with | cons h3 h =>
  cases h with | cons h4 h =>
  cases h
  cases h0; cases h1; cases h2; cases h3
  generalize hp : PV.sl 1 (b.sl.map fun x => [ip x]) = p at h4
  cases h4 with
  | v => cases hp
  | sl sz rows A cap f hsz hA hf hc =>
    injection hp with e1 e2
    subst e1
    subst e2
    cases hs : b.sl with
    | nil => exact absurd hs hne
    | cons s l =>
      rw [hs] at hA hf
      rcases hA with hA | ⟨g, o, rfl, hr⟩
      · cases hA
      · have q1 := hr 0 [ip s] 0 (ip s) rfl rfl
        have q2 := hf 0 [ip s] 0 (ip s) rfl rfl
        have q3 : f 0 0 = .int .i64 s := (fun (u : Value) (h : RepP R (.v (.int .i64 s)) u) => show u = .int .i64 s by cases h; rfl) _ q2
        rw [q3] at q1
        refine ⟨g, o, l.length, cap, ?_, by simpa using q1⟩
        simp

section
variable {w : World} {R : Reader} {g m : Nat} {xs : List Value} {L : List Br}
theorem extract_all {α : Type} (a : Array α) (n : Nat) (h : a.size = n) : a.extract 0 n = a := by subst h; exact Array.extract_size
/-- Row i's cells. -/
def encB (xs : List Value) (m : Nat) (i : Fin (m + 1)) : List Value := (xs.drop (i.val * 5)).take 5
theorem encB_len (hx : xs.length = (m + 1) * 5) (i : Fin (m + 1)) : (encB xs m i).length = 5 := by
  have := i.isLt
  unfold encB; rw [List.length_take, List.length_drop, hx]; omega
theorem encB_get (i : Fin (m + 1)) {j : Nat} (hj : j < 5) : (encB xs m i)[j]? = xs[i.val * 5 + j]? := by
  unfold encB; rw [List.getElem?_take, if_pos hj, List.getElem?_drop]
def brOf (L : List Br) (hL : L.length = m + 1) (i : Fin (m + 1)) : Br := L[i.val]'(by have := i.isLt; omega)
theorem brOf_mem (hL : L.length = m + 1) (i : Fin (m + 1)) : brOf L hL i ∈ L := List.getElem_mem _
theorem pv_len (b : Br) : b.pv.length = 5 := rfl
theorem encB_rep (hL : L.length = m + 1) (hrd : RowsRd R 5 xs (L.map Br.pv)) (hx : xs.length = (m + 1) * 5) (i : Fin (m + 1)) : RepL R (brOf L hL i).pv (encB xs m i) := by
  have hk : (L.map Br.pv)[i.val]? = some (brOf L hL i).pv := by rw [List.getElem?_map, List.getElem?_eq_getElem (by have := i.isLt; omega)]; rfl
  refine RepL.of (by rw [encB_len hx, pv_len]) fun j p u hj hu => ?_
  have hj5 : j < 5 := by have := (List.getElem?_eq_some_iff.1 hj).1; rw [pv_len] at this; exact this
  obtain ⟨x, h1, h2⟩ := hrd.rd _ _ _ _ hk hj
  rw [encB_get i hj5] at hu
  rw [h1] at hu
  cases hu
  exact h2
def idxA (m : Nat) : Array (Fin (m + 1)) := Array.ofFn fun i => i
theorem idxA_size : (idxA m).size = m + 1 := by simp [idxA]
theorem idxA_get {j : Nat} (h : j < m + 1) : (idxA m)[j]! = ⟨j, h⟩ := by
  rw [getElem!_pos _ _ (by rw [idxA_size]; exact h)]; simp [idxA]
theorem idxA_map (hL : L.length = m + 1) : (idxA m).toList.map (brOf L hL) = L := by
  apply List.ext_getElem
  · simp [idxA, hL]
  · intro i h1 h2
    have e : (idxA m).toList[i]'(by rw [Array.length_toList, idxA_size]; omega) = ⟨i, by omega⟩ := by unfold idxA; rw [Array.getElem_toList, Array.getElem_ofFn]
    rw [List.getElem_map, e]
    rfl
theorem getB_of_some {l : List Value} {j : Nat} {u : Value} (h : l[j]? = some u) : l[j]! = u := by
  rw [List.getElem!_eq_getElem?_getD, h]; rfl
theorem flat_idx (hx : xs.length = (m + 1) * 5) {j : Nat} (hj : j < (m + 1) * 5) : some (flatK (encB xs m) 5 (idxA m))[j]! = xs[j]? := by
  rw [get_flatK _ _ _ _ (by rw [idxA_size]; exact hj), idxA_get (j := j / 5) (by omega)]
  have h1 : j % 5 < 5 := Nat.mod_lt _ (by decide)
  have h2 := encB_get (xs := xs) (m := m) ⟨j / 5, by omega⟩ h1
  have h3 : (⟨j / 5, by omega⟩ : Fin (m + 1)).val * 5 + j % 5 = j := by show j / 5 * 5 + j % 5 = j; omega
  rw [h3, List.getElem?_eq_getElem (l := xs) (i := j) (by omega)] at h2
  rw [getB_of_some h2, List.getElem?_eq_getElem (l := xs) (i := j) (by omega)]
theorem flatB_get (hx : xs.length = (m + 1) * 5) (d : Array (Fin (m + 1))) {k j : Nat} (hk : k < d.size) (hj : j < 5) : (flatK (encB xs m) 5 d).toList[k * 5 + j]? = xs[(d[k]!).val * 5 + j]? := by
  have hlt : k * 5 + j < d.size * 5 := by omega
  have e1 : (k * 5 + j) / 5 = k := by omega
  have e2 : (k * 5 + j) % 5 = j := by omega
  have hd := (d[k]!).isLt
  have h0 : (flatK (encB xs m) 5 d)[k * 5 + j]! = (encB xs m d[k]!)[j]! := by rw [get_flatK _ _ _ _ hlt, e1, e2]
  have h2 := encB_get (xs := xs) (m := m) d[k]! hj
  rw [List.getElem?_eq_getElem (l := xs) (by omega)] at h2
  rw [getB_of_some h2, getElem!_pos _ _ (by rw [size_flatK]; exact hlt)] at h0
  rw [Array.getElem?_toList, Array.getElem?_eq_getElem (by rw [size_flatK]; exact hlt), h0, List.getElem?_eq_getElem (by omega)]
end

set_option maxHeartbeats 2000000 in
theorem sort_any (L : List Br) (w : World) (g cap : Nat) (xs : List Value) (R : Reader) (hR : ∀ p v, R p = some v → w.cell? p = some v ∧ p.block ≠ g) (hrow : RowsOK w 57 5 (some g) (.slice (some ⟨g, 0, none⟩) L.length cap) xs L.length) (hrd : RowsRd R 5 xs (L.map Br.pv)) (hne : ∀ b ∈ L, b.sl ≠ []) (hn : L ≠ []) (hsz : L.length < 4611686018427387904) :
    Calls Tryz.prog 59 #[.slice (some ⟨g, 0, none⟩) L.length cap, .func (.func 60) #[] #[]] w fun e w' => e = .returned (.tuple #[]) ∧ w.grownBy w' (some g) ∧
      ∃ (L' : List Br) (xs' : List Value), L'.Perm L ∧ (L'.Pairwise fun a b => b.lt a = false) ∧ RowsOK w' 57 5 (some g) (.slice (some ⟨g, 0, none⟩) L.length cap) xs' L'.length ∧ RowsRd R 5 xs' (L'.map Br.pv) := by
  obtain ⟨m, hL⟩ : ∃ m, L.length = m + 1 := ⟨L.length - 1, by cases L with | nil => exact absurd rfl hn | cons => simp⟩
  have hx : xs.length = (m + 1) * 5 := by rw [hrow.len, hL]
  obtain ⟨cap', cur, e0, hb0, hg, hc1, hc2, hc3⟩ := hrow.own
  injection e0 with _ _ e0
  subst e0
  have hgl : g < w.heap.size := (Array.getElem?_eq_some_iff.1 hg).1
  have hfz : ∀ k, w.frozen? ⟨g, k, none⟩ = false := fun k => by simp [World.frozen?, hg]
  have hH : HoldsK (encB xs m) 5 w g 0 (idxA m) := fun j hj => by
    rw [size_flatK, idxA_size] at hj
    have h1 := flat_idx (xs := xs) (m := m) hx hj
    refine ⟨?_, by rw [Nat.zero_add]; exact hfz j⟩
    rw [Nat.zero_add]
    exact hrow.at_ g rfl j _ h1.symm
  have hone : ∀ i, ∀ v ∈ encB xs m i, v.oneCell' = true := fun i => (encB_rep hL hrd hx i).one
  have hcmp : CmpLays Tryz.prog 60 #[] (encB xs m) 5 (fun i j => brCf (brOf L hL i) (brOf L hL j)) g 0 (idxA m).size w := fun q os dk _ x y => by
    obtain ⟨b1, o1, n1, c1, e1, r1⟩ := five (encB_rep hL hrd hx x) (hne _ (brOf_mem hL x))
    obtain ⟨b2, o2, n2, c2, e2, r2⟩ := five (encB_rep hL hrd hx y) (hne _ (brOf_mem hL y))
    obtain ⟨s1, t1⟩ := hR _ _ r1
    obtain ⟨s2, t2⟩ := hR _ _ r2
    have hc : ∀ (p : Addr) v, w.cell? p = some v → p.block ≠ g → (sortWorldK (encB xs m) 5 w g 0 q dk os).cell? p = some v := fun p v h1 h2 =>
      (World.cell?_of_block (w := w) (a := p) ((grownBy_sortK (encB xs m) dk).block _ (World.block_lt_of_cell? w p h1) (fun e => h2 (by cases e; rfl)))).trans h1
    rw [e1, e2]
    exact brcmp_any _ _ _ _ _ _ _ _ _ _ b1 o1 n1 c1 b2 o2 n2 c2 _ (hc _ _ s1 t1) (hc _ _ s2 t2)
  have eg : ∀ args w, (callFunc 60 args).run Tryz.prog w = .ok (.enter 60 args) w := enters_of Tryz.func60 (by kernel_rfl) rfl
  have hcon := AnyQ.slices_SortFunc Tryz.sortBr 5 Tryz.isAgg57 Tryz.sizeOf57 (encB xs m) (encB_len hx) hone (fun i j => brCf (brOf L hL i) (brOf L hL j)) (swo_br (brOf L hL)) 60 #[] g 0 cap (idxA m) w eg hcmp hH hgl (by rw [idxA_size]; omega)
  rw [idxA_size] at hcon
  rw [hL]
  refine hcon.mono ?_
  rintro e w' ⟨rfl, d', q, os, ⟨hp1, _, hp2⟩, hs, rfl⟩
  refine ⟨rfl, grownBy_sortK _ _, d'.toList.map (brOf L hL), (flatK (encB xs m) 5 d').toList, ?_, ?_, ?_, ?_⟩
  · have h1 : d'.size = m + 1 := by rw [hp1, idxA_size]
    have h2 : d'.extract 0 (m + 1) = d' := extract_all _ _ h1
    have h3 : (idxA m).extract 0 (m + 1) = idxA m := extract_all _ _ idxA_size
    rw [h2, h3] at hp2
    have h4 := hp2.map (brOf L hL)
    rw [idxA_map hL] at h4
    exact h4
  · have h1 : d'.size = m + 1 := by rw [hp1, idxA_size]
    rw [List.pairwise_map, List.pairwise_iff_getElem]
    intro i j hi hj hij
    rw [Array.length_toList] at hi hj
    have h2 := hs i j (Nat.zero_le _) hij (by omega)
    unfold ltOf at h2
    rw [brCf_lt, getElem!_pos d' i hi, getElem!_pos d' j hj] at h2
    simpa using h2
  · have h1 : d'.size = m + 1 := by rw [hp1, idxA_size]
    have hlen : (d'.toList.map (brOf L hL)).length = m + 1 := by rw [List.length_map, Array.length_toList, h1]
    rw [hlen]
    refine ⟨?_, by rw [Array.length_toList, size_flatK, h1], fun g' hg' j u hu => ?_⟩
    · rw [hL] at hc1
      exact ⟨cap, _, rfl, hb0, heap_sortK _ _ hg, hc1, hc2, by simp [putCells, hc3]⟩
    · cases hg'
      have hj : j < (flatK (encB xs m) 5 d').size := by have := (List.getElem?_eq_some_iff.1 hu).1; rwa [Array.length_toList] at this
      rw [Array.getElem?_toList] at hu
      have hcs : (flatK (encB xs m) 5 d').size ≤ cur.size := by rw [size_flatK, h1, hc3, ← hL]; exact Nat.mul_le_mul_right _ hc1
      rw [cell_of_row _ g j _ _ (0, 0) (heap_sortK _ _ hg), put_get hj hcs, ← hu, getElem!_pos (flatK (encB xs m) 5 d') j hj, Array.getElem?_eq_getElem hj]
  · refine ⟨fun k row hk => ?_, fun k row j p hk hj => ?_⟩
    · rw [List.getElem?_map] at hk
      obtain ⟨b, _, rfl⟩ := Option.map_eq_some_iff.1 hk
      rfl
    · rw [List.getElem?_map, List.getElem?_map] at hk
      obtain ⟨b, hb, rfl⟩ := Option.map_eq_some_iff.1 hk
      obtain ⟨i, hi, rfl⟩ := Option.map_eq_some_iff.1 hb
      rw [Array.getElem?_toList] at hi
      obtain ⟨hk1, hi2⟩ := Array.getElem?_eq_some_iff.1 hi
      have hj5 : j < 5 := by have := (List.getElem?_eq_some_iff.1 hj).1; rw [pv_len] at this; exact this
      have hk2 : (L.map Br.pv)[i.val]? = some (brOf L hL i).pv := by rw [List.getElem?_map, List.getElem?_eq_getElem (by have := i.isLt; omega)]; rfl
      obtain ⟨x, h2, h3⟩ := hrd.rd _ _ _ _ hk2 hj
      refine ⟨x, ?_, h3⟩
      rw [flatB_get hx d' hk1 hj5, getElem!_pos d' k hk1, hi2]
      exact h2

section
variable {n d : Nat} {σ : Av.St} {o : Oper} {K : Av.St → Prop}
/-- The sort, by hand. -/
theorem hand_sortBr {x : Operand} {ats : Array TypeId} {E0 : Ext} {q : Option Nat} {V : Value} {xs : List Value} {L : List Br} (ho : o.op = .call { callee := .value (.func 59), args := #[x, .func 60], argTypes := ats }) (hd : o.dst = some d) (hdn : d < n)
    (hE : σ.ext = E0.and (rowsE 57 5 q V xs (L.map Br.pv))) (hx : evo (Av.look σ.slot) x = some (.v V)) (hne : ∀ b ∈ L, b.sl ≠ []) (hsz : L.length ≤ 1000000000)
    (h : ∀ (L' : List Br) (xs' : List Value), L'.Perm L → (L'.Pairwise fun a b => b.lt a = false) → K (({ σ with ext := E0.and (rowsE 57 5 q V xs' (L'.map Br.pv)) } : Av.St).put d (.tup []))) : Hand Tryz.prog n σ o K := by
  refine hand_call hd fun F γ a w hF hr => ?_
  have hext := hr.exth
  rw [hE] at hext
  obtain ⟨h0, hrow, hdis⟩ := hext
  have hrd := hr.extr
  rw [hE] at hrd
  have hrow : RowsOK w 57 5 q V xs (L.map Br.pv).length := hrow
  rw [List.length_map] at hrow
  have eV : a.eval x = V := eval_raw hr hx
  have hfoot : ∀ b, q = some b → F.w0.heap.size ≤ b ∧ b < w.heap.size := fun b hb => ⟨(hr.extf b (.inl (by rw [hE]; exact .inr hb))).1, (hr.extf b (.inl (by rw [hE]; exact .inr hb))).2.1⟩
  refine ⟨59, #[a.eval x, .func (.func 60) #[] #[]], ?_, ?_⟩
  · have henter : Av.Enters Tryz.prog 59 := ⟨Tryz.f59, _, Tryz.func59, by kernel_rfl, rfl⟩
    have hf : ∀ k, a.eval (.func k) = .func (.func k) #[] #[] := fun _ => rfl
    simp [execOp, ho, resolve, hf, Deferred.ofValue, invoke, run_callFunc henter]
  rw [eV]
  by_cases hL : L = []
  · subst hL
    have hrep : ∀ R : Reader, RepAL R [.sl 5 [], .fnv 60 []] [V, .func (.func 60) #[] #[]] := fun R => by
      have hV : RepP R (.sl 5 []) V := by
        have mk : ∀ A c, RepP R (.sl 5 []) (.slice A 0 c) := fun A c => .sl 5 [] A c (fun _ _ => undef) (fun k row hk => by simp at hk) (.inl rfl) (fun k row _ _ hk => by simp at hk) (Nat.zero_le _)
        have ho := hrow.own
        cases q with
        | none => rw [ho.1]; exact mk _ _
        | some g => obtain ⟨cap, cur, h1, _⟩ := ho; rw [h1]; exact mk _ _
      exact .cons hV rfl (.cons ⟨[], rfl, .nil⟩ rfl .nil)
    refine ((sort0 60).2 w (fun p => w.cell? p) (fun _ _ h => h) _ (hrep _)).mono ?_
    rintro e w1 ⟨u, rfl, hb, hres⟩
    have hu : u = .tuple #[] := by
      obtain ⟨_, h1⟩ := hres
      obtain ⟨us, rfl, h2⟩ := h1
      cases h2; rfl
    have hg := hr.grow hb
    refine ⟨u, _, γ, rfl, h [] xs (List.Perm.refl _) List.Pairwise.nil, ?_⟩
    have : ({ σ with ext := E0.and (rowsE 57 5 q V xs (([] : List Br).map Br.pv)) } : Av.St) = σ := by rw [← hE]
    rw [this]
    exact hg.put (by rw [hF]; exact hdn) (x := .tup []) ⟨[], hu, .nil⟩ (fun k hk => by cases hk)
  · obtain ⟨g, hq⟩ : ∃ g, q = some g := by
      cases q with
      | some g => exact ⟨g, rfl⟩
      | none =>
        have := hrow.own.2
        exact absurd (List.eq_nil_of_length_eq_zero this) hL
    subst hq
    obtain ⟨cap, hV⟩ : ∃ cap, V = .slice (some ⟨g, 0, none⟩) L.length cap := by
      obtain ⟨cap, cur, h1, _⟩ := hrow.own
      exact ⟨cap, h1⟩
    subst hV
    obtain ⟨f1, f2⟩ := hfoot g rfl
    have hR : ∀ p v, rdr F.R0 F.w0.heap.size σ γ w p = some v → w.cell? p = some v ∧ p.block ≠ g := fun p v hp => by
      refine ⟨hr.cell hp, fun e => ?_⟩
      unfold rdr at hp
      rw [if_neg (by omega), if_pos (.inr (.inr (by rw [hE]; exact .inr (by rw [e]; rfl))))] at hp
      cases hp
    refine (sort_any L w g cap xs _ hR hrow hrd.2 hne hL (by omega)).mono ?_
    rintro e w1 ⟨rfl, hgr, L', xs', hp, hs, hrow', hrd'⟩
    have hl : L'.length = L.length := hp.length_eq
    refine ⟨_, _, γ, rfl, h L' xs' hp hs, Rel.put ?_ (by rw [hF]; exact hdn) (x := .tup []) ⟨[], rfl, .nil⟩ (fun k hk => by cases hk)⟩
    refine hr.turnR ?_ fun R hRR hrdR => ?_
    · rw [hE]
      refine Turn.mute_right (Turn.right (fun b hb => (hr.extf b (by rw [hE]; exact hb.elim (fun h => .inl (.inl h)) (fun h => .inr (.inl h)))).2.1) ⟨h0, (show RowsOK w _ 5 (some g) _ xs (L.map Br.pv).length by rw [List.length_map]; exact hrow), hdis⟩ ⟨hgr.os, hgr.tape, hgr.output, hgr.size, fun k hk hn => hgr.block k hk (fun e => hn (by cases e; rfl)), ?_, fun b hb => .inl hb, fun b hb => hb.elim, fun _ h => h, fun _ _ => trivial⟩)
      show RowsOK w1 _ 5 (some g) _ xs' (L'.map Br.pv).length
      rw [List.length_map]; exact hrow'
    · rw [hE] at hrdR
      refine ⟨hrdR.1, hrd'.len, fun k row j p hk hj => ?_⟩
      obtain ⟨x, h1, h2⟩ := hrd'.rd k row j p hk hj
      exact ⟨x, h1, h2.mono hRR⟩
end
end Go.Proofs.YticnppnejafhdaaGreatDoor

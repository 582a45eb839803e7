import Derived.WalkKit
import Derived.ProofKit
import Derived.OpenShut
import Derived.Carry
import Derived.ChangeSame
import Derived.Deep.Slices
import Derived.Test.YticnppnejafhdaaGreatDoorZ14
import Derived.Test.YticnppnejafhdaaGreatDoorRows
/- What is small, by abstract states. -/
namespace Go.Proofs.YticnppnejafhdaaGreatDoor
open Go.RowKit
open Nd Rc Mo
open Av
set_option maxRecDepth 100000
set_option linter.unusedSimpArgs false
attribute [local go_sem] Av.guardB Av.sop Av.hopx Av.hop Av.hopCall Av.hopF Av.hopB Av.evo Av.evos Av.avCells Av.loadK Av.bound Av.abin Av.aun Av.partsC Av.lfill Av.placesB Av.setAt Av.stl Av.takes Av.src Av.bxOf Av.ownOf Av.St.res Av.St.put Av.St.addBox Av.St.putOwn Av.delL Av.delS Av.look Av.lookL Av.storeSt Av.stealSt Av.St.setBox Av.keepL Av.hitB Av.snap Av.snaps Av.snapCaps Av.AV.lit Av.AV.refs Av.capRefs Av.PV.av Av.CV.av Av.startSt Av.steals Av.athen Av.ablock Av.appK Av.AllS Av.AllO Av.AllR Av.keepS Av.St.avAt Av.RetOK Av.retAll Av.retOne Av.intsOf Av.ptrB TypeDesc.isRow List.range_zero Option.some.injEq exists_eq_left' exists_eq_left exists_eq' exists_and_left exists_and_right exists_const true_and and_true and_self false_and and_false or_false false_or or_true true_or if_true if_false Bool.false_eq_true List.zipIdx_cons List.zipIdx_nil List.map_cons List.map_nil List.filter_cons List.filter_nil List.contains_cons List.contains_nil List.drop_succ_cons List.drop_zero List.take_succ_cons List.take_zero List.take_nil List.drop_nil List.length_cons List.length_nil List.cons_append List.nil_append List.append_nil List.getElem?_cons_zero List.getElem?_cons_succ List.getElem?_nil Option.bind_some Option.bind_none Option.map_some Option.map_none Option.isNone_none Option.isNone_some Option.isSome_some Option.isSome_none Bool.and_true Bool.true_and Bool.and_false Bool.false_and Bool.or_false Bool.false_or Bool.not_true Bool.not_false beq_true beq_false Bool.true_beq Bool.false_beq Loc.s.injEq Loc.b.injEq decide_true decide_false beq_self_eq_true Nat.zero_add Nat.add_zero List.getElem?_toArray List.toList_toArray List.size_toArray Value.oneCell' List.all_cons List.all_nil Value.int.injEq AV.v.injEq AV.sl.injEq AV.agg.injEq AV.ref.injEq AV.ept.injEq AV.tup.injEq Value.bool.injEq PV.v.injEq PV.sl.injEq List.isEmpty_nil List.isEmpty_cons forall_const not_true_eq_false not_false_eq_true true_implies false_implies Value.string.injEq List.length_map List.getElem?_map Int.toNat_natCast Int.natCast_nonneg List.length_append Value.cells implies_true TypeDesc.struct.injEq TypeDesc.slice.injEq TypeDesc.array.injEq List.getElem?_toArray Prod.mk.injEq and_assoc exists_false List.cons.injEq Operand.tmp.injEq ite_self AV.fnv.injEq AV.clo.injEq ne_eq eq_self Tryz.sz3 Tryz.zr3 Tryz.by3 Tryz.pl3 Tryz.is3 Tryz.underlying3 Tryz.sz4 Tryz.zr4 Tryz.by4 Tryz.pl4 Tryz.is4 Tryz.underlying4 Tryz.sz43 Tryz.zr43 Tryz.by43 Tryz.pl43 Tryz.is43 Tryz.underlying43 Tryz.sz35 Tryz.zr35 Tryz.by35 Tryz.pl35 Tryz.is35 Tryz.underlying35 Tryz.sz33 Tryz.zr33 Tryz.by33 Tryz.pl33 Tryz.is33 Tryz.underlying33 Tryz.sz28 Tryz.zr28 Tryz.by28 Tryz.pl28 Tryz.is28 Tryz.underlying28 Tryz.sz39 Tryz.zr39 Tryz.by39 Tryz.pl39 Tryz.is39 Tryz.underlying39 Tryz.sz57 Tryz.zr57 Tryz.by57 Tryz.pl57 Tryz.is57 Tryz.underlying57 Tryz.sz137 Tryz.zr137 Tryz.by137 Tryz.pl137 Tryz.is137 Tryz.underlying137 Tryz.sz66 Tryz.zr66 Tryz.by66 Tryz.pl66 Tryz.is66 Tryz.underlying66 Tryz.sz64 Tryz.zr64 Tryz.by64 Tryz.pl64 Tryz.is64 Tryz.underlying64 Tryz.sz60 Tryz.zr60 Tryz.by60 Tryz.pl60 Tryz.is60 Tryz.underlying60 Tryz.sz100 Tryz.zr100 Tryz.by100 Tryz.pl100 Tryz.is100 Tryz.underlying100 Tryz.sz103 Tryz.zr103 Tryz.by103 Tryz.pl103 Tryz.is103 Tryz.underlying103 Tryz.sz26 Tryz.zr26 Tryz.by26 Tryz.pl26 Tryz.is26 Tryz.underlying26 Tryz.sz120 Tryz.zr120 Tryz.by120 Tryz.pl120 Tryz.is120 Tryz.underlying120 Tryz.sz117 Tryz.zr117 Tryz.by117 Tryz.pl117 Tryz.is117 Tryz.underlying117 Tryz.sz30 Tryz.zr30 Tryz.by30 Tryz.pl30 Tryz.is30 Tryz.underlying30 Tryz.sz31 Tryz.zr31 Tryz.by31 Tryz.pl31 Tryz.is31 Tryz.underlying31 Tryz.sz40 Tryz.zr40 Tryz.by40 Tryz.pl40 Tryz.is40 Tryz.underlying40 Tryz.sz23 Tryz.zr23 Tryz.by23 Tryz.pl23 Tryz.is23 Tryz.underlying23 Tryz.sz24 Tryz.zr24 Tryz.by24 Tryz.pl24 Tryz.is24 Tryz.underlying24 Tryz.sz22 Tryz.zr22 Tryz.by22 Tryz.pl22 Tryz.is22 Tryz.underlying22 Tryz.sz141 Tryz.zr141 Tryz.by141 Tryz.pl141 Tryz.is141 Tryz.underlying141 Tryz.sz42 Tryz.zr42 Tryz.by42 Tryz.pl42 Tryz.is42 Tryz.underlying42 Tryz.sz29 Tryz.zr29 Tryz.by29 Tryz.pl29 Tryz.is29 Tryz.underlying29 Tryz.sz83 Tryz.zr83 Tryz.by83 Tryz.pl83 Tryz.is83 Tryz.underlying83 Tryz.sz67 Tryz.zr67 Tryz.by67 Tryz.pl67 Tryz.is67 Tryz.underlying67 Tryz.sz20 Tryz.zr20 Tryz.by20 Tryz.pl20 Tryz.is20 Tryz.underlying20 Tryz.sz89 Tryz.zr89 Tryz.by89 Tryz.pl89 Tryz.is89 Tryz.underlying89 Tryz.sz132 Tryz.zr132 Tryz.by132 Tryz.pl132 Tryz.is132 Tryz.underlying132 Tryz.sz113 Tryz.zr113 Tryz.by113 Tryz.pl113 Tryz.is113 Tryz.underlying113 Tryz.sz9 Tryz.zr9 Tryz.by9 Tryz.pl9 Tryz.is9 Tryz.underlying9 Tryz.it39 Tryz.eg39 Tryz.it137 Tryz.eg137 Tryz.it66 Tryz.eg66 Tryz.it28 Tryz.eg28 Tryz.it60 Tryz.eg60 all_arr loc_ss loc_sb loc_bs loc_bb arr_two arr_one rg1 rg2 rg3 rg4 rg5 rg6 rg7 rg8 ResultVar.tmp.injEq Bool.not_true Bool.not_false undef Rc.Rec.pv Nd.Fl.pv Rc.Dlv.pv Rc.Att.pv Mo.Lt.pv Fn.func.injEq Mo.Net.pv Mo.Lk.pv prow_pv irow_pv Br.pv Ex.pv
def nfewB (n : Net) : Bool := n.pow.all (fun l => decide (l.length ≤ 40)) && (decide ((n.pow.length : Int) ≤ 8) && (decide ((n.lk.length : Int) ≤ 60) && decide ((n.mg.length : Int) ≤ 60)))

def rfewB (r : Rec) : Bool := decide ((r.al.length : Int) ≤ 150) && decide ((r.dl.length : Int) ≤ 100)

def fewRB (ps : List (List Int)) : Bool := ps.all (fun p => decide (p.length ≤ 20)) && decide ((ps.length : Int) ≤ 4)
def few57B (n : Net) (ps : List (List Int)) (r : Rec) : Bool := nfewB n && (fewRB ps && rfewB r)
def fewXB (x : Ex) : Bool := x.ca.all (fun c => decide (c.sl.length ≤ 12)) && (decide ((x.ca.length : Int) ≤ 6) || ((x.ca.length : Int) == 1025))
theorem few57_inv {n : Net} {ps : List (List Int)} {r : Rec} (h : few57B n ps r = true) : SmallN n ∧ ps.length ≤ 4 ∧ (∀ p ∈ ps, p.length ≤ 20) ∧ r.al.length ≤ 150 ∧ r.dl.length ≤ 100 := by
  unfold few57B nfewB fewRB rfewB at h
  simp only [Bool.and_eq_true, decide_eq_true_eq, List.all_eq_true] at h
  obtain ⟨⟨h1, h2, h3, h4⟩, ⟨h5, h6⟩, h7, h8⟩ := h
  exact ⟨⟨by omega, fun l hl => Nat.le_trans (h1 l hl) (by decide), by omega, by omega⟩, by omega, h5, by omega, by omega⟩
theorem fewX_inv {x : Ex} (h : fewXB x = true) : (∀ c ∈ x.ca, c.sl.length ≤ 12) ∧ x.ca.length ≤ 1025 := by
  unfold fewXB at h
  simp only [Bool.and_eq_true, Bool.or_eq_true, decide_eq_true_eq, List.all_eq_true, beq_iff_eq] at h
  exact ⟨h.1, by omega⟩

set_option maxHeartbeats 2000000 in
theorem nfew_ok (n : Net) (hp : n.pow.length ≤ 9223372036854775807) : FnOK Tryz.prog 33 [.agg n.pv] ⟨bv (nfewB n), none⟩ := by
  refine fn_ok Tryz.func33 (by kernel_rfl) rfl (by rw [Tryz.ntmps33]; exact of_decide_eq_true rfl) (fun F hF => ?_)
  rw [Tryz.ntmps33] at hF
  rw [Tryz.results33]
  repeat (first
    | ((first | with_reducible refine sops_go ?_ | with_reducible refine headW_end ?_ | with_reducible refine sops_end ?_ | with_reducible refine awp_if ?_ | with_reducible refine awp_skip ?_ | with_reducible refine awp_ret ?_ | with_reducible refine awp_exit ?_); simp only [go_sem, simprocAttr, hF])
    | (with_reducible refine awp_seq_k (fun _ _ => ?_))
    | (with_reducible refine awp_region [] ?_)
    | (with_reducible refine awp_block ?_)
    | go_step)
  refine awp_loop_by (ι := {k : Nat // k ≤ n.pow.length ∧ ∀ l ∈ n.pow.take k, l.length ≤ 40}) (fun k σ => ⟨(3, iv (k.1 : Int)) :: keepS [1, 2] σ.slot, σ.box, [], σ.ext⟩) (fun k => n.pow.length - k.1) ⟨0, by omega, by simp⟩ (sub_mk ?_) (fun R hR k => ?_)
  · simp only [go_sem, simprocAttr, hF]
    repeat' (first | rfl | refine ⟨?_, ?_⟩)
  obtain ⟨k, hk, hT⟩ := k
  dsimp only
  simp only [go_sem, simprocAttr, hF]
  by_cases hlt : k < n.pow.length
  case neg =>
    have hd : decide ((k : Int) < (n.pow.length : Int)) = false := decide_eq_false (by omega)
    rw [List.take_of_length_le (by omega)] at hT
    have hall : n.pow.all (fun l => decide (l.length ≤ 40)) = true := List.all_eq_true.2 fun l hl => decide_eq_true (hT l hl)
    cases h1 : decide ((n.pow.length : Int) ≤ 8) <;> cases h2 : decide ((n.lk.length : Int) ≤ 60) <;> cases h3 : decide ((n.mg.length : Int) ≤ 60)
    · repeat (first
        | ((first | with_reducible refine sops_go ?_ | with_reducible refine headW_end ?_ | with_reducible refine sops_end ?_ | with_reducible refine awp_if ?_ | with_reducible refine awp_skip ?_ | with_reducible refine awp_ret ?_ | with_reducible refine awp_exit ?_); simp only [go_sem, simprocAttr, hF, hd, h1, h2, h3])
        | (with_reducible refine awp_seq_k (fun _ _ => ?_))
        | (with_reducible refine awp_region [] ?_)
        | (with_reducible refine awp_block ?_)
        | go_step)
      rw [nfewB, hall, h1, h2, h3]
      try rfl
    · repeat (first
        | ((first | with_reducible refine sops_go ?_ | with_reducible refine headW_end ?_ | with_reducible refine sops_end ?_ | with_reducible refine awp_if ?_ | with_reducible refine awp_skip ?_ | with_reducible refine awp_ret ?_ | with_reducible refine awp_exit ?_); simp only [go_sem, simprocAttr, hF, hd, h1, h2, h3])
        | (with_reducible refine awp_seq_k (fun _ _ => ?_))
        | (with_reducible refine awp_region [] ?_)
        | (with_reducible refine awp_block ?_)
        | go_step)
      rw [nfewB, hall, h1, h2, h3]
      try rfl
    · repeat (first
        | ((first | with_reducible refine sops_go ?_ | with_reducible refine headW_end ?_ | with_reducible refine sops_end ?_ | with_reducible refine awp_if ?_ | with_reducible refine awp_skip ?_ | with_reducible refine awp_ret ?_ | with_reducible refine awp_exit ?_); simp only [go_sem, simprocAttr, hF, hd, h1, h2, h3])
        | (with_reducible refine awp_seq_k (fun _ _ => ?_))
        | (with_reducible refine awp_region [] ?_)
        | (with_reducible refine awp_block ?_)
        | go_step)
      rw [nfewB, hall, h1, h2, h3]
      try rfl
    · repeat (first
        | ((first | with_reducible refine sops_go ?_ | with_reducible refine headW_end ?_ | with_reducible refine sops_end ?_ | with_reducible refine awp_if ?_ | with_reducible refine awp_skip ?_ | with_reducible refine awp_ret ?_ | with_reducible refine awp_exit ?_); simp only [go_sem, simprocAttr, hF, hd, h1, h2, h3])
        | (with_reducible refine awp_seq_k (fun _ _ => ?_))
        | (with_reducible refine awp_region [] ?_)
        | (with_reducible refine awp_block ?_)
        | go_step)
      rw [nfewB, hall, h1, h2, h3]
      try rfl
    · repeat (first
        | ((first | with_reducible refine sops_go ?_ | with_reducible refine headW_end ?_ | with_reducible refine sops_end ?_ | with_reducible refine awp_if ?_ | with_reducible refine awp_skip ?_ | with_reducible refine awp_ret ?_ | with_reducible refine awp_exit ?_); simp only [go_sem, simprocAttr, hF, hd, h1, h2, h3])
        | (with_reducible refine awp_seq_k (fun _ _ => ?_))
        | (with_reducible refine awp_region [] ?_)
        | (with_reducible refine awp_block ?_)
        | go_step)
      rw [nfewB, hall, h1, h2, h3]
      try rfl
    · repeat (first
        | ((first | with_reducible refine sops_go ?_ | with_reducible refine headW_end ?_ | with_reducible refine sops_end ?_ | with_reducible refine awp_if ?_ | with_reducible refine awp_skip ?_ | with_reducible refine awp_ret ?_ | with_reducible refine awp_exit ?_); simp only [go_sem, simprocAttr, hF, hd, h1, h2, h3])
        | (with_reducible refine awp_seq_k (fun _ _ => ?_))
        | (with_reducible refine awp_region [] ?_)
        | (with_reducible refine awp_block ?_)
        | go_step)
      rw [nfewB, hall, h1, h2, h3]
      try rfl
    · repeat (first
        | ((first | with_reducible refine sops_go ?_ | with_reducible refine headW_end ?_ | with_reducible refine sops_end ?_ | with_reducible refine awp_if ?_ | with_reducible refine awp_skip ?_ | with_reducible refine awp_ret ?_ | with_reducible refine awp_exit ?_); simp only [go_sem, simprocAttr, hF, hd, h1, h2, h3])
        | (with_reducible refine awp_seq_k (fun _ _ => ?_))
        | (with_reducible refine awp_region [] ?_)
        | (with_reducible refine awp_block ?_)
        | go_step)
      rw [nfewB, hall, h1, h2, h3]
      try rfl
    · repeat (first
        | ((first | with_reducible refine sops_go ?_ | with_reducible refine headW_end ?_ | with_reducible refine sops_end ?_ | with_reducible refine awp_if ?_ | with_reducible refine awp_skip ?_ | with_reducible refine awp_ret ?_ | with_reducible refine awp_exit ?_); simp only [go_sem, simprocAttr, hF, hd, h1, h2, h3])
        | (with_reducible refine awp_seq_k (fun _ _ => ?_))
        | (with_reducible refine awp_region [] ?_)
        | (with_reducible refine awp_block ?_)
        | go_step)
      rw [nfewB, hall, h1, h2, h3]
      try rfl
  obtain ⟨d, hdk⟩ := get_of_lt hlt
  have hd : decide ((k : Int) < (n.pow.length : Int)) = true := decide_eq_true (by omega)
  have hw : IntKind.i64.wrap ((k : Int) + 1) = ((k + 1 : Nat) : Int) := by rw [IntKind.wrap_i64]; omega
  by_cases h40 : d.length ≤ 40
  case neg =>
    have he : decide ((40 : Int) < (d.length : Int)) = true := decide_eq_true (by omega)
    have hall : n.pow.all (fun l => decide (l.length ≤ 40)) = false := by
      refine Bool.eq_false_iff.2 fun h => h40 ?_
      exact of_decide_eq_true (List.all_eq_true.1 h d (List.mem_of_getElem? hdk))
    repeat (first
      | ((first | with_reducible refine sops_go ?_ | with_reducible refine headW_end ?_ | with_reducible refine sops_end ?_ | with_reducible refine awp_if ?_ | with_reducible refine awp_skip ?_ | with_reducible refine awp_ret ?_ | with_reducible refine awp_exit ?_); simp only [go_sem, simprocAttr, hF, hd, hdk, he])
      | (with_reducible refine awp_seq_k (fun _ _ => ?_))
      | (with_reducible refine awp_region [] ?_)
      | (with_reducible refine awp_block ?_)
      | go_step)
    rw [nfewB, hall]
    rfl
  have he : decide ((40 : Int) < (d.length : Int)) = false := decide_eq_false (by omega)
  repeat (first
    | ((first | with_reducible refine sops_go ?_ | with_reducible refine headW_end ?_ | with_reducible refine sops_end ?_ | with_reducible refine awp_if ?_ | with_reducible refine awp_skip ?_ | with_reducible refine awp_ret ?_ | with_reducible refine awp_exit ?_); simp only [go_sem, simprocAttr, hF, hd, hdk, he])
    | (with_reducible refine awp_seq_k (fun _ _ => ?_))
    | (with_reducible refine awp_region [] ?_)
    | (with_reducible refine awp_block ?_)
    | go_step)
  refine ⟨⟨k + 1, by omega, fun l hl => by
      rw [List.take_add_one, hdk] at hl
      rcases List.mem_append.1 hl with hl | hl
      · exact hT l hl
      · simp at hl; subst hl; exact h40⟩, by dsimp only; omega, hR _ _ (sub_mk ?_)⟩
  simp only [go_sem, simprocAttr, hF, hw]

set_option maxHeartbeats 2000000 in
theorem rfew_ok (r : Rec) : FnOK Tryz.prog 35 [.agg r.pv] ⟨bv (rfewB r), none⟩ := by
  refine fn_ok Tryz.func35 (by kernel_rfl) rfl (by rw [Tryz.ntmps35]; exact of_decide_eq_true rfl) (fun F hF => ?_)
  rw [Tryz.ntmps35] at hF
  rw [Tryz.results35]
  unfold rfewB
  cases h1 : decide ((r.al.length : Int) ≤ 150) <;> cases h2 : decide ((r.dl.length : Int) ≤ 100)
  · repeat (first
      | ((first | with_reducible refine sops_go ?_ | with_reducible refine headW_end ?_ | with_reducible refine sops_end ?_ | with_reducible refine awp_if ?_ | with_reducible refine awp_skip ?_ | with_reducible refine awp_ret ?_ | with_reducible refine awp_exit ?_); simp only [go_sem, simprocAttr, hF, h1, h2])
      | (with_reducible refine awp_seq_k (fun _ _ => ?_))
      | (with_reducible refine awp_region [] ?_)
      | (with_reducible refine awp_block ?_)
      | go_step)
    all_goals (try rfl)
  · repeat (first
      | ((first | with_reducible refine sops_go ?_ | with_reducible refine headW_end ?_ | with_reducible refine sops_end ?_ | with_reducible refine awp_if ?_ | with_reducible refine awp_skip ?_ | with_reducible refine awp_ret ?_ | with_reducible refine awp_exit ?_); simp only [go_sem, simprocAttr, hF, h1, h2])
      | (with_reducible refine awp_seq_k (fun _ _ => ?_))
      | (with_reducible refine awp_region [] ?_)
      | (with_reducible refine awp_block ?_)
      | go_step)
    all_goals (try rfl)
  · repeat (first
      | ((first | with_reducible refine sops_go ?_ | with_reducible refine headW_end ?_ | with_reducible refine sops_end ?_ | with_reducible refine awp_if ?_ | with_reducible refine awp_skip ?_ | with_reducible refine awp_ret ?_ | with_reducible refine awp_exit ?_); simp only [go_sem, simprocAttr, hF, h1, h2])
      | (with_reducible refine awp_seq_k (fun _ _ => ?_))
      | (with_reducible refine awp_region [] ?_)
      | (with_reducible refine awp_block ?_)
      | go_step)
    all_goals (try rfl)
  · repeat (first
      | ((first | with_reducible refine sops_go ?_ | with_reducible refine headW_end ?_ | with_reducible refine sops_end ?_ | with_reducible refine awp_if ?_ | with_reducible refine awp_skip ?_ | with_reducible refine awp_ret ?_ | with_reducible refine awp_exit ?_); simp only [go_sem, simprocAttr, hF, h1, h2])
      | (with_reducible refine awp_seq_k (fun _ _ => ?_))
      | (with_reducible refine awp_region [] ?_)
      | (with_reducible refine awp_block ?_)
      | go_step)
    all_goals (try rfl)

set_option maxHeartbeats 2000000 in
theorem fewR_ok (ps : List (List Int)) (hps : ps.length ≤ 9223372036854775807) : FnOK Tryz.prog 34 [.sl 1 (ps.map prow_pv)] ⟨bv (fewRB ps), none⟩ := by
  refine fn_ok Tryz.func34 (by kernel_rfl) rfl (by rw [Tryz.ntmps34]; exact of_decide_eq_true rfl) (fun F hF => ?_)
  rw [Tryz.ntmps34] at hF
  rw [Tryz.results34]
  repeat (first
    | ((first | with_reducible refine sops_go ?_ | with_reducible refine headW_end ?_ | with_reducible refine sops_end ?_ | with_reducible refine awp_if ?_ | with_reducible refine awp_skip ?_ | with_reducible refine awp_ret ?_ | with_reducible refine awp_exit ?_); simp only [go_sem, simprocAttr, hF])
    | (with_reducible refine awp_seq_k (fun _ _ => ?_))
    | (with_reducible refine awp_region [] ?_)
    | (with_reducible refine awp_block ?_)
    | go_step)
  refine awp_loop_by (ι := {k : Nat // k ≤ ps.length ∧ ∀ y ∈ ps.take k, y.length ≤ 20}) (fun k σ => ⟨(3, iv (k.1 : Int)) :: keepS [0] σ.slot, σ.box, [], σ.ext⟩) (fun k => ps.length - k.1) ⟨0, by omega, by simp⟩ (sub_mk ?_) (fun R hR k => ?_)
  · simp only [go_sem, simprocAttr, hF]
    repeat' (first | rfl | refine ⟨?_, ?_⟩)
  obtain ⟨k, hk, hT⟩ := k
  dsimp only
  simp only [go_sem, simprocAttr, hF]
  by_cases hlt : k < ps.length
  case neg =>
    have hd : decide ((k : Int) < (ps.length : Int)) = false := decide_eq_false (by omega)
    rw [List.take_of_length_le (by omega)] at hT
    have hall : ps.all (fun y => decide (y.length ≤ 20)) = true := List.all_eq_true.2 fun l hl => decide_eq_true (hT l hl)
    cases h1 : decide ((ps.length : Int) ≤ 4)
    · repeat (first
        | ((first | with_reducible refine sops_go ?_ | with_reducible refine headW_end ?_ | with_reducible refine sops_end ?_ | with_reducible refine awp_if ?_ | with_reducible refine awp_skip ?_ | with_reducible refine awp_ret ?_ | with_reducible refine awp_exit ?_); simp only [go_sem, simprocAttr, hF, hd, h1])
        | (with_reducible refine awp_seq_k (fun _ _ => ?_))
        | (with_reducible refine awp_region [] ?_)
        | (with_reducible refine awp_block ?_)
        | go_step)
      rw [fewRB, hall, h1]
      try rfl
    · repeat (first
        | ((first | with_reducible refine sops_go ?_ | with_reducible refine headW_end ?_ | with_reducible refine sops_end ?_ | with_reducible refine awp_if ?_ | with_reducible refine awp_skip ?_ | with_reducible refine awp_ret ?_ | with_reducible refine awp_exit ?_); simp only [go_sem, simprocAttr, hF, hd, h1])
        | (with_reducible refine awp_seq_k (fun _ _ => ?_))
        | (with_reducible refine awp_region [] ?_)
        | (with_reducible refine awp_block ?_)
        | go_step)
      rw [fewRB, hall, h1]
      try rfl
  obtain ⟨d, hdk⟩ := get_of_lt hlt
  have hd : decide ((k : Int) < (ps.length : Int)) = true := decide_eq_true (by omega)
  have hw : IntKind.i64.wrap ((k : Int) + 1) = ((k + 1 : Nat) : Int) := by rw [IntKind.wrap_i64]; omega
  by_cases h40 : d.length ≤ 20
  case neg =>
    have he : decide ((20 : Int) < (d.length : Int)) = true := decide_eq_true (by omega)
    have hall : ps.all (fun y => decide (y.length ≤ 20)) = false := by
      refine Bool.eq_false_iff.2 fun h => h40 ?_
      exact of_decide_eq_true (List.all_eq_true.1 h d (List.mem_of_getElem? hdk))
    repeat (first
      | ((first | with_reducible refine sops_go ?_ | with_reducible refine headW_end ?_ | with_reducible refine sops_end ?_ | with_reducible refine awp_if ?_ | with_reducible refine awp_skip ?_ | with_reducible refine awp_ret ?_ | with_reducible refine awp_exit ?_); simp only [go_sem, simprocAttr, hF, hd, hdk, he])
      | (with_reducible refine awp_seq_k (fun _ _ => ?_))
      | (with_reducible refine awp_region [] ?_)
      | (with_reducible refine awp_block ?_)
      | go_step)
    rw [fewRB, hall]
    rfl
  have he : decide ((20 : Int) < (d.length : Int)) = false := decide_eq_false (by omega)
  repeat (first
    | ((first | with_reducible refine sops_go ?_ | with_reducible refine headW_end ?_ | with_reducible refine sops_end ?_ | with_reducible refine awp_if ?_ | with_reducible refine awp_skip ?_ | with_reducible refine awp_ret ?_ | with_reducible refine awp_exit ?_); simp only [go_sem, simprocAttr, hF, hd, hdk, he])
    | (with_reducible refine awp_seq_k (fun _ _ => ?_))
    | (with_reducible refine awp_region [] ?_)
    | (with_reducible refine awp_block ?_)
    | go_step)
  refine ⟨⟨k + 1, by omega, fun l hl => by
      rw [List.take_add_one, hdk] at hl
      rcases List.mem_append.1 hl with hl | hl
      · exact hT l hl
      · simp at hl; subst hl; exact h40⟩, by dsimp only; omega, hR _ _ (sub_mk ?_)⟩
  simp only [go_sem, simprocAttr, hF, hw]

set_option maxHeartbeats 2000000 in
theorem fewX_ok (x : Ex) (hca : x.ca.length ≤ 9223372036854775807) : FnOK Tryz.prog 17 [.agg x.pv] ⟨bv (fewXB x), none⟩ := by
  refine fn_ok Tryz.func17 (by kernel_rfl) rfl (by rw [Tryz.ntmps17]; exact of_decide_eq_true rfl) (fun F hF => ?_)
  rw [Tryz.ntmps17] at hF
  rw [Tryz.results17]
  repeat (first
    | ((first | with_reducible refine sops_go ?_ | with_reducible refine headW_end ?_ | with_reducible refine sops_end ?_ | with_reducible refine awp_if ?_ | with_reducible refine awp_skip ?_ | with_reducible refine awp_ret ?_ | with_reducible refine awp_exit ?_); simp only [go_sem, simprocAttr, hF])
    | (with_reducible refine awp_seq_k (fun _ _ => ?_))
    | (with_reducible refine awp_region [] ?_)
    | (with_reducible refine awp_block ?_)
    | go_step)
  refine awp_loop_by (ι := {k : Nat // k ≤ x.ca.length ∧ ∀ y ∈ x.ca.take k, y.sl.length ≤ 12}) (fun k σ => ⟨(3, iv (k.1 : Int)) :: keepS [1] σ.slot, keepS [1] σ.box, [], σ.ext⟩) (fun k => x.ca.length - k.1) ⟨0, by omega, by simp⟩ (sub_mk ?_) (fun R hR k => ?_)
  · simp only [go_sem, simprocAttr, hF]
    repeat' (first | rfl | refine ⟨?_, ?_⟩)
  obtain ⟨k, hk, hT⟩ := k
  dsimp only
  simp only [go_sem, simprocAttr, hF]
  by_cases hlt : k < x.ca.length
  case neg =>
    have hd : decide ((k : Int) < (x.ca.length : Int)) = false := decide_eq_false (by omega)
    rw [List.take_of_length_le (by omega)] at hT
    have hall : x.ca.all (fun y => decide (y.sl.length ≤ 12)) = true := List.all_eq_true.2 fun l hl => decide_eq_true (hT l hl)
    cases h1 : decide ((x.ca.length : Int) ≤ 6) <;> cases h2 : ((x.ca.length : Int) == 1025)
    · repeat (first
        | ((first | with_reducible refine sops_go ?_ | with_reducible refine headW_end ?_ | with_reducible refine sops_end ?_ | with_reducible refine awp_if ?_ | with_reducible refine awp_skip ?_ | with_reducible refine awp_ret ?_ | with_reducible refine awp_exit ?_); simp only [go_sem, simprocAttr, hF, hd, h1, h2])
        | (with_reducible refine awp_seq_k (fun _ _ => ?_))
        | (with_reducible refine awp_region [] ?_)
        | (with_reducible refine awp_block ?_)
        | go_step)
      rw [fewXB, hall, h1, h2]
      try rfl
    · repeat (first
        | ((first | with_reducible refine sops_go ?_ | with_reducible refine headW_end ?_ | with_reducible refine sops_end ?_ | with_reducible refine awp_if ?_ | with_reducible refine awp_skip ?_ | with_reducible refine awp_ret ?_ | with_reducible refine awp_exit ?_); simp only [go_sem, simprocAttr, hF, hd, h1, h2])
        | (with_reducible refine awp_seq_k (fun _ _ => ?_))
        | (with_reducible refine awp_region [] ?_)
        | (with_reducible refine awp_block ?_)
        | go_step)
      rw [fewXB, hall, h1, h2]
      try rfl
    · repeat (first
        | ((first | with_reducible refine sops_go ?_ | with_reducible refine headW_end ?_ | with_reducible refine sops_end ?_ | with_reducible refine awp_if ?_ | with_reducible refine awp_skip ?_ | with_reducible refine awp_ret ?_ | with_reducible refine awp_exit ?_); simp only [go_sem, simprocAttr, hF, hd, h1, h2])
        | (with_reducible refine awp_seq_k (fun _ _ => ?_))
        | (with_reducible refine awp_region [] ?_)
        | (with_reducible refine awp_block ?_)
        | go_step)
      rw [fewXB, hall, h1, h2]
      try rfl
    · repeat (first
        | ((first | with_reducible refine sops_go ?_ | with_reducible refine headW_end ?_ | with_reducible refine sops_end ?_ | with_reducible refine awp_if ?_ | with_reducible refine awp_skip ?_ | with_reducible refine awp_ret ?_ | with_reducible refine awp_exit ?_); simp only [go_sem, simprocAttr, hF, hd, h1, h2])
        | (with_reducible refine awp_seq_k (fun _ _ => ?_))
        | (with_reducible refine awp_region [] ?_)
        | (with_reducible refine awp_block ?_)
        | go_step)
      rw [fewXB, hall, h1, h2]
      try rfl
  obtain ⟨d, hdk⟩ := get_of_lt hlt
  have hd : decide ((k : Int) < (x.ca.length : Int)) = true := decide_eq_true (by omega)
  have hw : IntKind.i64.wrap ((k : Int) + 1) = ((k + 1 : Nat) : Int) := by rw [IntKind.wrap_i64]; omega
  by_cases h40 : d.sl.length ≤ 12
  case neg =>
    have he : decide ((12 : Int) < (d.sl.length : Int)) = true := decide_eq_true (by omega)
    have hall : x.ca.all (fun y => decide (y.sl.length ≤ 12)) = false := by
      refine Bool.eq_false_iff.2 fun h => h40 ?_
      exact of_decide_eq_true (List.all_eq_true.1 h d (List.mem_of_getElem? hdk))
    repeat (first
      | ((first | with_reducible refine sops_go ?_ | with_reducible refine headW_end ?_ | with_reducible refine sops_end ?_ | with_reducible refine awp_if ?_ | with_reducible refine awp_skip ?_ | with_reducible refine awp_ret ?_ | with_reducible refine awp_exit ?_); simp only [go_sem, simprocAttr, hF, hd, hdk, he])
      | (with_reducible refine awp_seq_k (fun _ _ => ?_))
      | (with_reducible refine awp_region [] ?_)
      | (with_reducible refine awp_block ?_)
      | go_step)
    rw [fewXB, hall]
    rfl
  have he : decide ((12 : Int) < (d.sl.length : Int)) = false := decide_eq_false (by omega)
  repeat (first
    | ((first | with_reducible refine sops_go ?_ | with_reducible refine headW_end ?_ | with_reducible refine sops_end ?_ | with_reducible refine awp_if ?_ | with_reducible refine awp_skip ?_ | with_reducible refine awp_ret ?_ | with_reducible refine awp_exit ?_); simp only [go_sem, simprocAttr, hF, hd, hdk, he])
    | (with_reducible refine awp_seq_k (fun _ _ => ?_))
    | (with_reducible refine awp_region [] ?_)
    | (with_reducible refine awp_block ?_)
    | go_step)
  refine ⟨⟨k + 1, by omega, fun l hl => by
      rw [List.take_add_one, hdk] at hl
      rcases List.mem_append.1 hl with hl | hl
      · exact hT l hl
      · simp at hl; subst hl; exact h40⟩, by dsimp only; omega, hR _ _ (sub_mk ?_)⟩
  simp only [go_sem, simprocAttr, hF, hw]

set_option maxHeartbeats 2000000 in
theorem few57_ok (n : Net) (ps : List (List Int)) (r : Rec) (hp : n.pow.length ≤ 9223372036854775807) (hps : ps.length ≤ 9223372036854775807) : FnOK Tryz.prog 10 [.agg n.pv, .sl 1 (ps.map prow_pv), .agg r.pv] ⟨bv (few57B n ps r), none⟩ := by
  refine fn_ok Tryz.func10 (by kernel_rfl) rfl (by rw [Tryz.ntmps10]; exact of_decide_eq_true rfl) (fun F hF => ?_)
  rw [Tryz.ntmps10] at hF
  rw [Tryz.results10]
  unfold few57B
  cases h1 : nfewB n <;> cases h2 : fewRB ps <;> cases h3 : rfewB r
  · repeat (first
      | ((first | with_reducible refine sops_go ?_ | with_reducible refine headW_end ?_ | with_reducible refine sops_end ?_ | with_reducible refine awp_if ?_ | with_reducible refine awp_skip ?_ | with_reducible refine awp_ret ?_ | with_reducible refine awp_exit ?_); simp only [go_sem, simprocAttr, hF, h1, h2, h3])
      | (with_reducible refine awp_seq_k (fun _ _ => ?_))
      | (with_reducible refine awp_region [] ?_)
      | (with_reducible refine awp_block ?_)
      | go_step)
    refine ⟨_, nfew_ok n hp, ?_⟩
    simp only [go_sem, simprocAttr, hF, h1, h2, h3]
    repeat (first
      | ((first | with_reducible refine sops_go ?_ | with_reducible refine headW_end ?_ | with_reducible refine sops_end ?_ | with_reducible refine awp_if ?_ | with_reducible refine awp_skip ?_ | with_reducible refine awp_ret ?_ | with_reducible refine awp_exit ?_); simp only [go_sem, simprocAttr, hF, h1, h2, h3])
      | (with_reducible refine awp_seq_k (fun _ _ => ?_))
      | (with_reducible refine awp_region [] ?_)
      | (with_reducible refine awp_block ?_)
      | go_step)
    all_goals (try rfl)
  · repeat (first
      | ((first | with_reducible refine sops_go ?_ | with_reducible refine headW_end ?_ | with_reducible refine sops_end ?_ | with_reducible refine awp_if ?_ | with_reducible refine awp_skip ?_ | with_reducible refine awp_ret ?_ | with_reducible refine awp_exit ?_); simp only [go_sem, simprocAttr, hF, h1, h2, h3])
      | (with_reducible refine awp_seq_k (fun _ _ => ?_))
      | (with_reducible refine awp_region [] ?_)
      | (with_reducible refine awp_block ?_)
      | go_step)
    refine ⟨_, nfew_ok n hp, ?_⟩
    simp only [go_sem, simprocAttr, hF, h1, h2, h3]
    repeat (first
      | ((first | with_reducible refine sops_go ?_ | with_reducible refine headW_end ?_ | with_reducible refine sops_end ?_ | with_reducible refine awp_if ?_ | with_reducible refine awp_skip ?_ | with_reducible refine awp_ret ?_ | with_reducible refine awp_exit ?_); simp only [go_sem, simprocAttr, hF, h1, h2, h3])
      | (with_reducible refine awp_seq_k (fun _ _ => ?_))
      | (with_reducible refine awp_region [] ?_)
      | (with_reducible refine awp_block ?_)
      | go_step)
    all_goals (try rfl)
  · repeat (first
      | ((first | with_reducible refine sops_go ?_ | with_reducible refine headW_end ?_ | with_reducible refine sops_end ?_ | with_reducible refine awp_if ?_ | with_reducible refine awp_skip ?_ | with_reducible refine awp_ret ?_ | with_reducible refine awp_exit ?_); simp only [go_sem, simprocAttr, hF, h1, h2, h3])
      | (with_reducible refine awp_seq_k (fun _ _ => ?_))
      | (with_reducible refine awp_region [] ?_)
      | (with_reducible refine awp_block ?_)
      | go_step)
    refine ⟨_, nfew_ok n hp, ?_⟩
    simp only [go_sem, simprocAttr, hF, h1, h2, h3]
    repeat (first
      | ((first | with_reducible refine sops_go ?_ | with_reducible refine headW_end ?_ | with_reducible refine sops_end ?_ | with_reducible refine awp_if ?_ | with_reducible refine awp_skip ?_ | with_reducible refine awp_ret ?_ | with_reducible refine awp_exit ?_); simp only [go_sem, simprocAttr, hF, h1, h2, h3])
      | (with_reducible refine awp_seq_k (fun _ _ => ?_))
      | (with_reducible refine awp_region [] ?_)
      | (with_reducible refine awp_block ?_)
      | go_step)
    all_goals (try rfl)
  · repeat (first
      | ((first | with_reducible refine sops_go ?_ | with_reducible refine headW_end ?_ | with_reducible refine sops_end ?_ | with_reducible refine awp_if ?_ | with_reducible refine awp_skip ?_ | with_reducible refine awp_ret ?_ | with_reducible refine awp_exit ?_); simp only [go_sem, simprocAttr, hF, h1, h2, h3])
      | (with_reducible refine awp_seq_k (fun _ _ => ?_))
      | (with_reducible refine awp_region [] ?_)
      | (with_reducible refine awp_block ?_)
      | go_step)
    refine ⟨_, nfew_ok n hp, ?_⟩
    simp only [go_sem, simprocAttr, hF, h1, h2, h3]
    repeat (first
      | ((first | with_reducible refine sops_go ?_ | with_reducible refine headW_end ?_ | with_reducible refine sops_end ?_ | with_reducible refine awp_if ?_ | with_reducible refine awp_skip ?_ | with_reducible refine awp_ret ?_ | with_reducible refine awp_exit ?_); simp only [go_sem, simprocAttr, hF, h1, h2, h3])
      | (with_reducible refine awp_seq_k (fun _ _ => ?_))
      | (with_reducible refine awp_region [] ?_)
      | (with_reducible refine awp_block ?_)
      | go_step)
    all_goals (try rfl)
  · repeat (first
      | ((first | with_reducible refine sops_go ?_ | with_reducible refine headW_end ?_ | with_reducible refine sops_end ?_ | with_reducible refine awp_if ?_ | with_reducible refine awp_skip ?_ | with_reducible refine awp_ret ?_ | with_reducible refine awp_exit ?_); simp only [go_sem, simprocAttr, hF, h1, h2, h3])
      | (with_reducible refine awp_seq_k (fun _ _ => ?_))
      | (with_reducible refine awp_region [] ?_)
      | (with_reducible refine awp_block ?_)
      | go_step)
    refine ⟨_, nfew_ok n hp, ?_⟩
    simp only [go_sem, simprocAttr, hF, h1, h2, h3]
    repeat (first
      | ((first | with_reducible refine sops_go ?_ | with_reducible refine headW_end ?_ | with_reducible refine sops_end ?_ | with_reducible refine awp_if ?_ | with_reducible refine awp_skip ?_ | with_reducible refine awp_ret ?_ | with_reducible refine awp_exit ?_); simp only [go_sem, simprocAttr, hF, h1, h2, h3])
      | (with_reducible refine awp_seq_k (fun _ _ => ?_))
      | (with_reducible refine awp_region [] ?_)
      | (with_reducible refine awp_block ?_)
      | go_step)
    refine ⟨_, fewR_ok ps hps, ?_⟩
    simp only [go_sem, simprocAttr, hF, h1, h2, h3]
    repeat (first
      | ((first | with_reducible refine sops_go ?_ | with_reducible refine headW_end ?_ | with_reducible refine sops_end ?_ | with_reducible refine awp_if ?_ | with_reducible refine awp_skip ?_ | with_reducible refine awp_ret ?_ | with_reducible refine awp_exit ?_); simp only [go_sem, simprocAttr, hF, h1, h2, h3])
      | (with_reducible refine awp_seq_k (fun _ _ => ?_))
      | (with_reducible refine awp_region [] ?_)
      | (with_reducible refine awp_block ?_)
      | go_step)
    all_goals (try rfl)
  · repeat (first
      | ((first | with_reducible refine sops_go ?_ | with_reducible refine headW_end ?_ | with_reducible refine sops_end ?_ | with_reducible refine awp_if ?_ | with_reducible refine awp_skip ?_ | with_reducible refine awp_ret ?_ | with_reducible refine awp_exit ?_); simp only [go_sem, simprocAttr, hF, h1, h2, h3])
      | (with_reducible refine awp_seq_k (fun _ _ => ?_))
      | (with_reducible refine awp_region [] ?_)
      | (with_reducible refine awp_block ?_)
      | go_step)
    refine ⟨_, nfew_ok n hp, ?_⟩
    simp only [go_sem, simprocAttr, hF, h1, h2, h3]
    repeat (first
      | ((first | with_reducible refine sops_go ?_ | with_reducible refine headW_end ?_ | with_reducible refine sops_end ?_ | with_reducible refine awp_if ?_ | with_reducible refine awp_skip ?_ | with_reducible refine awp_ret ?_ | with_reducible refine awp_exit ?_); simp only [go_sem, simprocAttr, hF, h1, h2, h3])
      | (with_reducible refine awp_seq_k (fun _ _ => ?_))
      | (with_reducible refine awp_region [] ?_)
      | (with_reducible refine awp_block ?_)
      | go_step)
    refine ⟨_, fewR_ok ps hps, ?_⟩
    simp only [go_sem, simprocAttr, hF, h1, h2, h3]
    repeat (first
      | ((first | with_reducible refine sops_go ?_ | with_reducible refine headW_end ?_ | with_reducible refine sops_end ?_ | with_reducible refine awp_if ?_ | with_reducible refine awp_skip ?_ | with_reducible refine awp_ret ?_ | with_reducible refine awp_exit ?_); simp only [go_sem, simprocAttr, hF, h1, h2, h3])
      | (with_reducible refine awp_seq_k (fun _ _ => ?_))
      | (with_reducible refine awp_region [] ?_)
      | (with_reducible refine awp_block ?_)
      | go_step)
    all_goals (try rfl)
  · repeat (first
      | ((first | with_reducible refine sops_go ?_ | with_reducible refine headW_end ?_ | with_reducible refine sops_end ?_ | with_reducible refine awp_if ?_ | with_reducible refine awp_skip ?_ | with_reducible refine awp_ret ?_ | with_reducible refine awp_exit ?_); simp only [go_sem, simprocAttr, hF, h1, h2, h3])
      | (with_reducible refine awp_seq_k (fun _ _ => ?_))
      | (with_reducible refine awp_region [] ?_)
      | (with_reducible refine awp_block ?_)
      | go_step)
    refine ⟨_, nfew_ok n hp, ?_⟩
    simp only [go_sem, simprocAttr, hF, h1, h2, h3]
    repeat (first
      | ((first | with_reducible refine sops_go ?_ | with_reducible refine headW_end ?_ | with_reducible refine sops_end ?_ | with_reducible refine awp_if ?_ | with_reducible refine awp_skip ?_ | with_reducible refine awp_ret ?_ | with_reducible refine awp_exit ?_); simp only [go_sem, simprocAttr, hF, h1, h2, h3])
      | (with_reducible refine awp_seq_k (fun _ _ => ?_))
      | (with_reducible refine awp_region [] ?_)
      | (with_reducible refine awp_block ?_)
      | go_step)
    refine ⟨_, fewR_ok ps hps, ?_⟩
    simp only [go_sem, simprocAttr, hF, h1, h2, h3]
    repeat (first
      | ((first | with_reducible refine sops_go ?_ | with_reducible refine headW_end ?_ | with_reducible refine sops_end ?_ | with_reducible refine awp_if ?_ | with_reducible refine awp_skip ?_ | with_reducible refine awp_ret ?_ | with_reducible refine awp_exit ?_); simp only [go_sem, simprocAttr, hF, h1, h2, h3])
      | (with_reducible refine awp_seq_k (fun _ _ => ?_))
      | (with_reducible refine awp_region [] ?_)
      | (with_reducible refine awp_block ?_)
      | go_step)
    refine ⟨_, rfew_ok r, ?_⟩
    simp only [go_sem, simprocAttr, hF, h1, h2, h3]
    repeat (first
      | ((first | with_reducible refine sops_go ?_ | with_reducible refine headW_end ?_ | with_reducible refine sops_end ?_ | with_reducible refine awp_if ?_ | with_reducible refine awp_skip ?_ | with_reducible refine awp_ret ?_ | with_reducible refine awp_exit ?_); simp only [go_sem, simprocAttr, hF, h1, h2, h3])
      | (with_reducible refine awp_seq_k (fun _ _ => ?_))
      | (with_reducible refine awp_region [] ?_)
      | (with_reducible refine awp_block ?_)
      | go_step)
    all_goals (try rfl)
  · repeat (first
      | ((first | with_reducible refine sops_go ?_ | with_reducible refine headW_end ?_ | with_reducible refine sops_end ?_ | with_reducible refine awp_if ?_ | with_reducible refine awp_skip ?_ | with_reducible refine awp_ret ?_ | with_reducible refine awp_exit ?_); simp only [go_sem, simprocAttr, hF, h1, h2, h3])
      | (with_reducible refine awp_seq_k (fun _ _ => ?_))
      | (with_reducible refine awp_region [] ?_)
      | (with_reducible refine awp_block ?_)
      | go_step)
    refine ⟨_, nfew_ok n hp, ?_⟩
    simp only [go_sem, simprocAttr, hF, h1, h2, h3]
    repeat (first
      | ((first | with_reducible refine sops_go ?_ | with_reducible refine headW_end ?_ | with_reducible refine sops_end ?_ | with_reducible refine awp_if ?_ | with_reducible refine awp_skip ?_ | with_reducible refine awp_ret ?_ | with_reducible refine awp_exit ?_); simp only [go_sem, simprocAttr, hF, h1, h2, h3])
      | (with_reducible refine awp_seq_k (fun _ _ => ?_))
      | (with_reducible refine awp_region [] ?_)
      | (with_reducible refine awp_block ?_)
      | go_step)
    refine ⟨_, fewR_ok ps hps, ?_⟩
    simp only [go_sem, simprocAttr, hF, h1, h2, h3]
    repeat (first
      | ((first | with_reducible refine sops_go ?_ | with_reducible refine headW_end ?_ | with_reducible refine sops_end ?_ | with_reducible refine awp_if ?_ | with_reducible refine awp_skip ?_ | with_reducible refine awp_ret ?_ | with_reducible refine awp_exit ?_); simp only [go_sem, simprocAttr, hF, h1, h2, h3])
      | (with_reducible refine awp_seq_k (fun _ _ => ?_))
      | (with_reducible refine awp_region [] ?_)
      | (with_reducible refine awp_block ?_)
      | go_step)
    refine ⟨_, rfew_ok r, ?_⟩
    simp only [go_sem, simprocAttr, hF, h1, h2, h3]
    repeat (first
      | ((first | with_reducible refine sops_go ?_ | with_reducible refine headW_end ?_ | with_reducible refine sops_end ?_ | with_reducible refine awp_if ?_ | with_reducible refine awp_skip ?_ | with_reducible refine awp_ret ?_ | with_reducible refine awp_exit ?_); simp only [go_sem, simprocAttr, hF, h1, h2, h3])
      | (with_reducible refine awp_seq_k (fun _ _ => ?_))
      | (with_reducible refine awp_region [] ?_)
      | (with_reducible refine awp_block ?_)
      | go_step)
    all_goals (try rfl)
end Go.Proofs.YticnppnejafhdaaGreatDoor
/- The law ExplainNamed, by abstract states. -/
namespace Go.Proofs.YticnppnejafhdaaGreatDoor
open Go.RowKit
open Nd Rc Mo
open Av
set_option maxRecDepth 100000
set_option linter.unusedSimpArgs false
attribute [local go_sem] Av.guardB Av.sop Av.hopx Av.hop Av.hopCall Av.hopF Av.hopB Av.evo Av.evos Av.avCells Av.loadK Av.bound Av.abin Av.aun Av.partsC Av.lfill Av.placesB Av.setAt Av.stl Av.takes Av.src Av.bxOf Av.ownOf Av.St.res Av.St.put Av.St.addBox Av.St.putOwn Av.delL Av.delS Av.look Av.lookL Av.storeSt Av.stealSt Av.St.setBox Av.keepL Av.hitB Av.snap Av.snaps Av.snapCaps Av.AV.lit Av.AV.refs Av.capRefs Av.PV.av Av.CV.av Av.startSt Av.steals Av.athen Av.ablock Av.appK Av.AllS Av.AllO Av.AllR Av.keepS Av.St.avAt Av.RetOK Av.retAll Av.retOne Av.intsOf Av.ptrB TypeDesc.isRow List.range_zero Option.some.injEq exists_eq_left' exists_eq_left exists_eq' exists_and_left exists_and_right exists_const true_and and_true and_self false_and and_false or_false false_or or_true true_or if_true if_false Bool.false_eq_true List.zipIdx_cons List.zipIdx_nil List.map_cons List.map_nil List.filter_cons List.filter_nil List.contains_cons List.contains_nil List.drop_succ_cons List.drop_zero List.take_succ_cons List.take_zero List.take_nil List.drop_nil List.length_cons List.length_nil List.cons_append List.nil_append List.append_nil List.getElem?_cons_zero List.getElem?_cons_succ List.getElem?_nil Option.bind_some Option.bind_none Option.map_some Option.map_none Option.isNone_none Option.isNone_some Option.isSome_some Option.isSome_none Bool.and_true Bool.true_and Bool.and_false Bool.false_and Bool.or_false Bool.false_or Bool.not_true Bool.not_false beq_true beq_false Bool.true_beq Bool.false_beq Loc.s.injEq Loc.b.injEq decide_true decide_false beq_self_eq_true Nat.zero_add Nat.add_zero List.getElem?_toArray List.toList_toArray List.size_toArray Value.oneCell' List.all_cons List.all_nil Value.int.injEq AV.v.injEq AV.sl.injEq AV.agg.injEq AV.ref.injEq AV.ept.injEq AV.tup.injEq Value.bool.injEq PV.v.injEq PV.sl.injEq List.isEmpty_nil List.isEmpty_cons forall_const not_true_eq_false not_false_eq_true true_implies false_implies Value.string.injEq List.length_map List.getElem?_map Int.toNat_natCast Int.natCast_nonneg List.length_append Value.cells implies_true TypeDesc.struct.injEq TypeDesc.slice.injEq TypeDesc.array.injEq List.getElem?_toArray Prod.mk.injEq and_assoc exists_false List.cons.injEq Operand.tmp.injEq ite_self AV.fnv.injEq AV.clo.injEq ne_eq eq_self Tryz.sz3 Tryz.zr3 Tryz.by3 Tryz.pl3 Tryz.is3 Tryz.underlying3 Tryz.sz4 Tryz.zr4 Tryz.by4 Tryz.pl4 Tryz.is4 Tryz.underlying4 Tryz.sz43 Tryz.zr43 Tryz.by43 Tryz.pl43 Tryz.is43 Tryz.underlying43 Tryz.sz35 Tryz.zr35 Tryz.by35 Tryz.pl35 Tryz.is35 Tryz.underlying35 Tryz.sz33 Tryz.zr33 Tryz.by33 Tryz.pl33 Tryz.is33 Tryz.underlying33 Tryz.sz28 Tryz.zr28 Tryz.by28 Tryz.pl28 Tryz.is28 Tryz.underlying28 Tryz.sz39 Tryz.zr39 Tryz.by39 Tryz.pl39 Tryz.is39 Tryz.underlying39 Tryz.sz57 Tryz.zr57 Tryz.by57 Tryz.pl57 Tryz.is57 Tryz.underlying57 Tryz.sz137 Tryz.zr137 Tryz.by137 Tryz.pl137 Tryz.is137 Tryz.underlying137 Tryz.sz66 Tryz.zr66 Tryz.by66 Tryz.pl66 Tryz.is66 Tryz.underlying66 Tryz.sz64 Tryz.zr64 Tryz.by64 Tryz.pl64 Tryz.is64 Tryz.underlying64 Tryz.sz60 Tryz.zr60 Tryz.by60 Tryz.pl60 Tryz.is60 Tryz.underlying60 Tryz.sz100 Tryz.zr100 Tryz.by100 Tryz.pl100 Tryz.is100 Tryz.underlying100 Tryz.sz103 Tryz.zr103 Tryz.by103 Tryz.pl103 Tryz.is103 Tryz.underlying103 Tryz.sz26 Tryz.zr26 Tryz.by26 Tryz.pl26 Tryz.is26 Tryz.underlying26 Tryz.sz120 Tryz.zr120 Tryz.by120 Tryz.pl120 Tryz.is120 Tryz.underlying120 Tryz.sz117 Tryz.zr117 Tryz.by117 Tryz.pl117 Tryz.is117 Tryz.underlying117 Tryz.sz30 Tryz.zr30 Tryz.by30 Tryz.pl30 Tryz.is30 Tryz.underlying30 Tryz.sz31 Tryz.zr31 Tryz.by31 Tryz.pl31 Tryz.is31 Tryz.underlying31 Tryz.sz40 Tryz.zr40 Tryz.by40 Tryz.pl40 Tryz.is40 Tryz.underlying40 Tryz.sz23 Tryz.zr23 Tryz.by23 Tryz.pl23 Tryz.is23 Tryz.underlying23 Tryz.sz24 Tryz.zr24 Tryz.by24 Tryz.pl24 Tryz.is24 Tryz.underlying24 Tryz.sz22 Tryz.zr22 Tryz.by22 Tryz.pl22 Tryz.is22 Tryz.underlying22 Tryz.sz141 Tryz.zr141 Tryz.by141 Tryz.pl141 Tryz.is141 Tryz.underlying141 Tryz.sz42 Tryz.zr42 Tryz.by42 Tryz.pl42 Tryz.is42 Tryz.underlying42 Tryz.sz29 Tryz.zr29 Tryz.by29 Tryz.pl29 Tryz.is29 Tryz.underlying29 Tryz.sz83 Tryz.zr83 Tryz.by83 Tryz.pl83 Tryz.is83 Tryz.underlying83 Tryz.sz67 Tryz.zr67 Tryz.by67 Tryz.pl67 Tryz.is67 Tryz.underlying67 Tryz.sz20 Tryz.zr20 Tryz.by20 Tryz.pl20 Tryz.is20 Tryz.underlying20 Tryz.sz89 Tryz.zr89 Tryz.by89 Tryz.pl89 Tryz.is89 Tryz.underlying89 Tryz.sz132 Tryz.zr132 Tryz.by132 Tryz.pl132 Tryz.is132 Tryz.underlying132 Tryz.sz113 Tryz.zr113 Tryz.by113 Tryz.pl113 Tryz.is113 Tryz.underlying113 Tryz.sz9 Tryz.zr9 Tryz.by9 Tryz.pl9 Tryz.is9 Tryz.underlying9 Tryz.it39 Tryz.eg39 Tryz.it137 Tryz.eg137 Tryz.it66 Tryz.eg66 Tryz.it28 Tryz.eg28 Tryz.it60 Tryz.eg60 all_arr loc_ss loc_sb loc_bs loc_bb arr_two arr_one rg1 rg2 rg3 rg4 rg5 rg6 rg7 rg8 ResultVar.tmp.injEq Bool.not_true Bool.not_false undef Rc.Rec.pv Nd.Fl.pv Rc.Dlv.pv Rc.Att.pv Mo.Lt.pv Fn.func.injEq Mo.Net.pv Mo.Lk.pv prow_pv irow_pv Br.pv Ex.pv
set_option maxHeartbeats 2000000 in
theorem named1_ok (l : Lk) (b : Br) : FnOK Tryz.prog 23 [.agg l.pv, .ept b.pv] ⟨bv (lkP b.fm b.tt l), none⟩ := by
  refine fn_ok Tryz.func23 (by kernel_rfl) rfl (by rw [Tryz.ntmps23]; exact of_decide_eq_true rfl) (fun F hF => ?_)
  rw [Tryz.ntmps23] at hF
  rw [Tryz.results23]
  unfold lkP
  cases h1 : (l.fr == b.fm) <;> cases h2 : (l.tt == b.tt)
  · repeat (first
      | ((first | with_reducible refine sops_go ?_ | with_reducible refine headW_end ?_ | with_reducible refine sops_end ?_ | with_reducible refine awp_if ?_ | with_reducible refine awp_skip ?_ | with_reducible refine awp_ret ?_ | with_reducible refine awp_exit ?_); simp only [go_sem, simprocAttr, hF, h1, h2])
      | (with_reducible refine awp_seq_k (fun _ _ => ?_))
      | (with_reducible refine awp_region [] ?_)
      | (with_reducible refine awp_block ?_)
      | go_step)
    all_goals (try rfl)
  · repeat (first
      | ((first | with_reducible refine sops_go ?_ | with_reducible refine headW_end ?_ | with_reducible refine sops_end ?_ | with_reducible refine awp_if ?_ | with_reducible refine awp_skip ?_ | with_reducible refine awp_ret ?_ | with_reducible refine awp_exit ?_); simp only [go_sem, simprocAttr, hF, h1, h2])
      | (with_reducible refine awp_seq_k (fun _ _ => ?_))
      | (with_reducible refine awp_region [] ?_)
      | (with_reducible refine awp_block ?_)
      | go_step)
    all_goals (try rfl)
  · repeat (first
      | ((first | with_reducible refine sops_go ?_ | with_reducible refine headW_end ?_ | with_reducible refine sops_end ?_ | with_reducible refine awp_if ?_ | with_reducible refine awp_skip ?_ | with_reducible refine awp_ret ?_ | with_reducible refine awp_exit ?_); simp only [go_sem, simprocAttr, hF, h1, h2])
      | (with_reducible refine awp_seq_k (fun _ _ => ?_))
      | (with_reducible refine awp_region [] ?_)
      | (with_reducible refine awp_block ?_)
      | go_step)
    all_goals (try rfl)
  · repeat (first
      | ((first | with_reducible refine sops_go ?_ | with_reducible refine headW_end ?_ | with_reducible refine sops_end ?_ | with_reducible refine awp_if ?_ | with_reducible refine awp_skip ?_ | with_reducible refine awp_ret ?_ | with_reducible refine awp_exit ?_); simp only [go_sem, simprocAttr, hF, h1, h2])
      | (with_reducible refine awp_seq_k (fun _ _ => ?_))
      | (with_reducible refine awp_region [] ?_)
      | (with_reducible refine awp_block ?_)
      | go_step)
    all_goals (try rfl)

set_option maxHeartbeats 2000000 in
theorem named2_ok (a : Att) (slot : Int) (x : Ex) (f : Fl) (b : Br) : FnOK Tryz.prog 25 [.agg a.pv, .ept [ip slot], .ept x.pv, .ept f.pv, .ept b.pv] ⟨bv (namedA slot x f b a), none⟩ := by
  refine fn_ok Tryz.func25 (by kernel_rfl) rfl (by rw [Tryz.ntmps25]; exact of_decide_eq_true rfl) (fun F hF => ?_)
  rw [Tryz.ntmps25] at hF
  rw [Tryz.results25]
  unfold namedA
  cases e0 : (a.s == slot) with
  | false =>
    repeat (first
      | ((first | with_reducible refine sops_go ?_ | with_reducible refine headW_end ?_ | with_reducible refine sops_end ?_ | with_reducible refine awp_if ?_ | with_reducible refine awp_skip ?_ | with_reducible refine awp_ret ?_ | with_reducible refine awp_exit ?_); simp only [go_sem, simprocAttr, hF, e0])
      | (with_reducible refine awp_seq_k (fun _ _ => ?_))
      | (with_reducible refine awp_region [] ?_)
      | (with_reducible refine awp_block ?_)
      | go_step)
    all_goals (try rfl)
  | true =>
    cases e1 : (a.f == x.lt.fr) with
    | false =>
      repeat (first
        | ((first | with_reducible refine sops_go ?_ | with_reducible refine headW_end ?_ | with_reducible refine sops_end ?_ | with_reducible refine awp_if ?_ | with_reducible refine awp_skip ?_ | with_reducible refine awp_ret ?_ | with_reducible refine awp_exit ?_); simp only [go_sem, simprocAttr, hF, e0, e1])
        | (with_reducible refine awp_seq_k (fun _ _ => ?_))
        | (with_reducible refine awp_region [] ?_)
        | (with_reducible refine awp_block ?_)
        | go_step)
      all_goals (try rfl)
    | true =>
      cases e2 : (a.cl == f.id) with
      | false =>
        repeat (first
          | ((first | with_reducible refine sops_go ?_ | with_reducible refine headW_end ?_ | with_reducible refine sops_end ?_ | with_reducible refine awp_if ?_ | with_reducible refine awp_skip ?_ | with_reducible refine awp_ret ?_ | with_reducible refine awp_exit ?_); simp only [go_sem, simprocAttr, hF, e0, e1, e2])
          | (with_reducible refine awp_seq_k (fun _ _ => ?_))
          | (with_reducible refine awp_region [] ?_)
          | (with_reducible refine awp_block ?_)
          | go_step)
        all_goals (try rfl)
      | true =>
        cases e3 : (a.cf == b.fm) with
        | false =>
          repeat (first
            | ((first | with_reducible refine sops_go ?_ | with_reducible refine headW_end ?_ | with_reducible refine sops_end ?_ | with_reducible refine awp_if ?_ | with_reducible refine awp_skip ?_ | with_reducible refine awp_ret ?_ | with_reducible refine awp_exit ?_); simp only [go_sem, simprocAttr, hF, e0, e1, e2, e3])
            | (with_reducible refine awp_seq_k (fun _ _ => ?_))
            | (with_reducible refine awp_region [] ?_)
            | (with_reducible refine awp_block ?_)
            | go_step)
          all_goals (try rfl)
        | true =>
          cases e4 : (a.ct == b.tt) with
          | false =>
            repeat (first
              | ((first | with_reducible refine sops_go ?_ | with_reducible refine headW_end ?_ | with_reducible refine sops_end ?_ | with_reducible refine awp_if ?_ | with_reducible refine awp_skip ?_ | with_reducible refine awp_ret ?_ | with_reducible refine awp_exit ?_); simp only [go_sem, simprocAttr, hF, e0, e1, e2, e3, e4])
              | (with_reducible refine awp_seq_k (fun _ _ => ?_))
              | (with_reducible refine awp_region [] ?_)
              | (with_reducible refine awp_block ?_)
              | go_step)
            all_goals (try rfl)
          | true =>
            repeat (first
              | ((first | with_reducible refine sops_go ?_ | with_reducible refine headW_end ?_ | with_reducible refine sops_end ?_ | with_reducible refine awp_if ?_ | with_reducible refine awp_skip ?_ | with_reducible refine awp_ret ?_ | with_reducible refine awp_exit ?_); simp only [go_sem, simprocAttr, hF, e0, e1, e2, e3, e4])
              | (with_reducible refine awp_seq_k (fun _ _ => ?_))
              | (with_reducible refine awp_region [] ?_)
              | (with_reducible refine awp_block ?_)
              | go_step)
            all_goals (try rfl)

set_option maxHeartbeats 20000000 in
theorem lawNamed_ok (n : Net) (f : Fl) (ps : List (List Int)) (r : Rec) (x : Ex) (hp : n.pow.length ≤ 9223372036854775807) (hps : ps.length ≤ 9223372036854775807) (hca : x.ca.length ≤ 9223372036854775807) : FnOK Tryz.prog 5 [.agg n.pv, .agg f.pv, .sl 1 (ps.map prow_pv), .agg r.pv, .agg x.pv] ⟨bv true, none⟩ := by
  refine fn_ok Tryz.func5 (by kernel_rfl) rfl (by rw [Tryz.ntmps5]; exact of_decide_eq_true rfl) (fun F hF => ?_)
  rw [Tryz.ntmps5] at hF
  rw [Tryz.results5]
  repeat (first
    | ((first | with_reducible refine sops_go ?_ | with_reducible refine headW_end ?_ | with_reducible refine sops_end ?_ | with_reducible refine awp_if ?_ | with_reducible refine awp_skip ?_ | with_reducible refine awp_ret ?_ | with_reducible refine awp_exit ?_); simp only [go_sem, simprocAttr, hF])
    | ((with_reducible refine headW_go ?_); simp only [go_sem, simprocAttr, hF, hbx])
    | (with_reducible refine awp_seq_k (fun _ _ => ?_))
    | (refine awp_draw' (id := 7) [] 15 (by kernel_rfl) (by kernel_rfl) rfl rfl (fun bx0 hbx => ?_); (try dsimp only [List.take_succ_cons, List.take_zero, List.take_nil, List.drop_succ_cons, List.drop_zero, List.drop_nil]))
    | (with_reducible refine awp_region [] ?_)
    | (with_reducible refine awp_block ?_)
    | go_step)
  refine ⟨_, awake_ok, ?_⟩
  simp only [go_sem, simprocAttr, hF]
  repeat (first
    | ((first | with_reducible refine sops_go ?_ | with_reducible refine headW_end ?_ | with_reducible refine sops_end ?_ | with_reducible refine awp_if ?_ | with_reducible refine awp_skip ?_ | with_reducible refine awp_ret ?_ | with_reducible refine awp_exit ?_); simp only [go_sem, simprocAttr, hF])
    | ((with_reducible refine headW_go ?_); simp only [go_sem, simprocAttr, hF, hbx])
    | (with_reducible refine awp_seq_k (fun _ _ => ?_))
    | (refine awp_draw' (id := 7) [] 15 (by kernel_rfl) (by kernel_rfl) rfl rfl (fun bx0 hbx => ?_); (try dsimp only [List.take_succ_cons, List.take_zero, List.take_nil, List.drop_succ_cons, List.drop_zero, List.drop_nil]))
    | (with_reducible refine awp_region [] ?_)
    | (with_reducible refine awp_block ?_)
    | go_step)
  refine ⟨_, few57_ok n ps r hp hps, ?_⟩
  simp only [go_sem, simprocAttr, hF]
  cases h1 : few57B n ps r with
  | false =>
    try simp only [go_sem, simprocAttr, hF, h1]
    repeat (first
      | ((first | with_reducible refine sops_go ?_ | with_reducible refine headW_end ?_ | with_reducible refine sops_end ?_ | with_reducible refine awp_if ?_ | with_reducible refine awp_skip ?_ | with_reducible refine awp_ret ?_ | with_reducible refine awp_exit ?_); simp only [go_sem, simprocAttr, hF, h1])
      | ((with_reducible refine headW_go ?_); simp only [go_sem, simprocAttr, hF, h1, hbx])
      | (with_reducible refine awp_seq_k (fun _ _ => ?_))
      | (refine awp_draw' (id := 7) [] 15 (by kernel_rfl) (by kernel_rfl) rfl rfl (fun bx0 hbx => ?_); (try dsimp only [List.take_succ_cons, List.take_zero, List.take_nil, List.drop_succ_cons, List.drop_zero, List.drop_nil]))
      | (with_reducible refine awp_region [] ?_)
      | (with_reducible refine awp_block ?_)
      | go_step)
    refine ⟨_, awake_ok, ?_⟩
    simp only [go_sem, simprocAttr, hF]
    repeat (first
      | ((first | with_reducible refine sops_go ?_ | with_reducible refine headW_end ?_ | with_reducible refine sops_end ?_ | with_reducible refine awp_if ?_ | with_reducible refine awp_skip ?_ | with_reducible refine awp_ret ?_ | with_reducible refine awp_exit ?_); simp only [go_sem, simprocAttr, hF])
      | ((with_reducible refine headW_go ?_); simp only [go_sem, simprocAttr, hF, hbx])
      | (with_reducible refine awp_seq_k (fun _ _ => ?_))
      | (refine awp_draw' (id := 7) [] 15 (by kernel_rfl) (by kernel_rfl) rfl rfl (fun bx0 hbx => ?_); (try dsimp only [List.take_succ_cons, List.take_zero, List.take_nil, List.drop_succ_cons, List.drop_zero, List.drop_nil]))
      | (with_reducible refine awp_region [] ?_)
      | (with_reducible refine awp_block ?_)
      | go_step)
    all_goals (try rfl)
  | true =>
    obtain ⟨hS, hps4, hpl, hla, hld⟩ := few57_inv h1
    try simp only [go_sem, simprocAttr, hF, h1]
    repeat (first
      | ((first | with_reducible refine sops_go ?_ | with_reducible refine headW_end ?_ | with_reducible refine sops_end ?_ | with_reducible refine awp_if ?_ | with_reducible refine awp_skip ?_ | with_reducible refine awp_ret ?_ | with_reducible refine awp_exit ?_); simp only [go_sem, simprocAttr, hF, h1])
      | ((with_reducible refine headW_go ?_); simp only [go_sem, simprocAttr, hF, h1, hbx])
      | (with_reducible refine awp_seq_k (fun _ _ => ?_))
      | (refine awp_draw' (id := 7) [] 15 (by kernel_rfl) (by kernel_rfl) rfl rfl (fun bx0 hbx => ?_); (try dsimp only [List.take_succ_cons, List.take_zero, List.take_nil, List.drop_succ_cons, List.drop_zero, List.drop_nil]))
      | (with_reducible refine awp_region [] ?_)
      | (with_reducible refine awp_block ?_)
      | go_step)
    refine ⟨_, fewX_ok x hca, ?_⟩
    simp only [go_sem, simprocAttr, hF]
    cases h2 : fewXB x with
    | false =>
      try simp only [go_sem, simprocAttr, hF, h2]
      repeat (first
        | ((first | with_reducible refine sops_go ?_ | with_reducible refine headW_end ?_ | with_reducible refine sops_end ?_ | with_reducible refine awp_if ?_ | with_reducible refine awp_skip ?_ | with_reducible refine awp_ret ?_ | with_reducible refine awp_exit ?_); simp only [go_sem, simprocAttr, hF, h2])
        | ((with_reducible refine headW_go ?_); simp only [go_sem, simprocAttr, hF, h2, hbx])
        | (with_reducible refine awp_seq_k (fun _ _ => ?_))
        | (refine awp_draw' (id := 7) [] 15 (by kernel_rfl) (by kernel_rfl) rfl rfl (fun bx0 hbx => ?_); (try dsimp only [List.take_succ_cons, List.take_zero, List.take_nil, List.drop_succ_cons, List.drop_zero, List.drop_nil]))
        | (with_reducible refine awp_region [] ?_)
        | (with_reducible refine awp_block ?_)
        | go_step)
      refine ⟨_, awake_ok, ?_⟩
      simp only [go_sem, simprocAttr, hF]
      repeat (first
        | ((first | with_reducible refine sops_go ?_ | with_reducible refine headW_end ?_ | with_reducible refine sops_end ?_ | with_reducible refine awp_if ?_ | with_reducible refine awp_skip ?_ | with_reducible refine awp_ret ?_ | with_reducible refine awp_exit ?_); simp only [go_sem, simprocAttr, hF])
        | ((with_reducible refine headW_go ?_); simp only [go_sem, simprocAttr, hF, hbx])
        | (with_reducible refine awp_seq_k (fun _ _ => ?_))
        | (refine awp_draw' (id := 7) [] 15 (by kernel_rfl) (by kernel_rfl) rfl rfl (fun bx0 hbx => ?_); (try dsimp only [List.take_succ_cons, List.take_zero, List.take_nil, List.drop_succ_cons, List.drop_zero, List.drop_nil]))
        | (with_reducible refine awp_region [] ?_)
        | (with_reducible refine awp_block ?_)
        | go_step)
      all_goals (try rfl)
    | true =>
      obtain ⟨hsl, hcl⟩ := fewX_inv h2
      try simp only [go_sem, simprocAttr, hF, h2]
      repeat (first
        | ((first | with_reducible refine sops_go ?_ | with_reducible refine headW_end ?_ | with_reducible refine sops_end ?_ | with_reducible refine awp_if ?_ | with_reducible refine awp_skip ?_ | with_reducible refine awp_ret ?_ | with_reducible refine awp_exit ?_); simp only [go_sem, simprocAttr, hF, h2])
        | ((with_reducible refine headW_go ?_); simp only [go_sem, simprocAttr, hF, h2, hbx])
        | (with_reducible refine awp_seq_k (fun _ _ => ?_))
        | (refine awp_draw' (id := 7) [] 15 (by kernel_rfl) (by kernel_rfl) rfl rfl (fun bx0 hbx => ?_); (try dsimp only [List.take_succ_cons, List.take_zero, List.take_nil, List.drop_succ_cons, List.drop_zero, List.drop_nil]))
        | (with_reducible refine awp_region [] ?_)
        | (with_reducible refine awp_block ?_)
        | go_step)
      refine ⟨_, check_okX n f ps r x hS (by omega) (by omega) (by omega) (fun p hp => Nat.le_trans (hpl p hp) (by decide)), ?_⟩
      simp only [go_sem, simprocAttr, hF]
      by_cases h3 : checkX n f ps r x = 0
      case neg =>
        have e3 : (checkX n f ps r x != 0) = true := by simpa using h3
        try simp only [go_sem, simprocAttr, hF, e3]
        repeat (first
          | ((first | with_reducible refine sops_go ?_ | with_reducible refine headW_end ?_ | with_reducible refine sops_end ?_ | with_reducible refine awp_if ?_ | with_reducible refine awp_skip ?_ | with_reducible refine awp_ret ?_ | with_reducible refine awp_exit ?_); simp only [go_sem, simprocAttr, hF, e3])
          | ((with_reducible refine headW_go ?_); simp only [go_sem, simprocAttr, hF, e3, hbx])
          | (with_reducible refine awp_seq_k (fun _ _ => ?_))
          | (refine awp_draw' (id := 7) [] 15 (by kernel_rfl) (by kernel_rfl) rfl rfl (fun bx0 hbx => ?_); (try dsimp only [List.take_succ_cons, List.take_zero, List.take_nil, List.drop_succ_cons, List.drop_zero, List.drop_nil]))
          | (with_reducible refine awp_region [] ?_)
          | (with_reducible refine awp_block ?_)
          | go_step)
        refine ⟨_, awake_ok, ?_⟩
        simp only [go_sem, simprocAttr, hF]
        repeat (first
          | ((first | with_reducible refine sops_go ?_ | with_reducible refine headW_end ?_ | with_reducible refine sops_end ?_ | with_reducible refine awp_if ?_ | with_reducible refine awp_skip ?_ | with_reducible refine awp_ret ?_ | with_reducible refine awp_exit ?_); simp only [go_sem, simprocAttr, hF])
          | ((with_reducible refine headW_go ?_); simp only [go_sem, simprocAttr, hF, hbx])
          | (with_reducible refine awp_seq_k (fun _ _ => ?_))
          | (refine awp_draw' (id := 7) [] 15 (by kernel_rfl) (by kernel_rfl) rfl rfl (fun bx0 hbx => ?_); (try dsimp only [List.take_succ_cons, List.take_zero, List.take_nil, List.drop_succ_cons, List.drop_zero, List.drop_nil]))
          | (with_reducible refine awp_region [] ?_)
          | (with_reducible refine awp_block ?_)
          | go_step)
        all_goals (try rfl)
      have e3 : (checkX n f ps r x != 0) = false := by rw [h3]; rfl
      obtain ⟨hlen, hlaw⟩ := named_law h3
      have hel : ((x.ca.length : Int) == (ps.length : Int)) = true := by rw [hlen]; exact beq_self_eq_true _
      try simp only [go_sem, simprocAttr, hF, e3]
      repeat (first
        | ((first | with_reducible refine sops_go ?_ | with_reducible refine headW_end ?_ | with_reducible refine sops_end ?_ | with_reducible refine awp_if ?_ | with_reducible refine awp_skip ?_ | with_reducible refine awp_ret ?_ | with_reducible refine awp_exit ?_); simp only [go_sem, simprocAttr, hF, e3])
        | ((with_reducible refine headW_go ?_); simp only [go_sem, simprocAttr, hF, e3, hbx])
        | (with_reducible refine awp_seq_k (fun _ _ => ?_))
        | (refine awp_draw' (id := 7) [] 15 (by kernel_rfl) (by kernel_rfl) rfl rfl (fun bx0 hbx => ?_); (try dsimp only [List.take_succ_cons, List.take_zero, List.take_nil, List.drop_succ_cons, List.drop_zero, List.drop_nil]))
        | (with_reducible refine awp_region [] ?_)
        | (with_reducible refine awp_block ?_)
        | go_step)
      refine awp_loop_by (ι := {k : Nat // k ≤ x.ca.length}) (fun k σ => ⟨(43, iv (k.1 : Int)) :: keepS [2, 5, 6, 8, 9, 41, 42] σ.slot, keepS [5, 6, 8, 9] σ.box, [], σ.ext⟩) (fun k => x.ca.length - k.1) ⟨0, by omega⟩ (sub_mk ?_) (fun R hR k => ?_)
      · simp only [go_sem, simprocAttr, hF]
        repeat' (first | rfl | refine ⟨?_, ?_⟩)
      obtain ⟨k, hk⟩ := k
      dsimp only
      simp only [go_sem, simprocAttr, hF]
      by_cases hlt : k < x.ca.length
      case neg =>
        have hd : decide ((k : Int) < (x.ca.length : Int)) = false := decide_eq_false (by omega)
        repeat (first
          | ((first | with_reducible refine sops_go ?_ | with_reducible refine headW_end ?_ | with_reducible refine sops_end ?_ | with_reducible refine awp_if ?_ | with_reducible refine awp_skip ?_ | with_reducible refine awp_ret ?_ | with_reducible refine awp_exit ?_); simp only [go_sem, simprocAttr, hF, hd, hel])
          | ((with_reducible refine headW_go ?_); simp only [go_sem, simprocAttr, hF, hd, hel, hbx])
          | (with_reducible refine awp_seq_k (fun _ _ => ?_))
          | (refine awp_draw' (id := 7) [] 15 (by kernel_rfl) (by kernel_rfl) rfl rfl (fun bx0 hbx => ?_); (try dsimp only [List.take_succ_cons, List.take_zero, List.take_nil, List.drop_succ_cons, List.drop_zero, List.drop_nil]))
          | (with_reducible refine awp_region [] ?_)
          | (with_reducible refine awp_block ?_)
          | go_step)
        all_goals (try rfl)
      obtain ⟨c, hdk⟩ := get_of_lt hlt
      have hd : decide ((k : Int) < (x.ca.length : Int)) = true := decide_eq_true (by omega)
      have hw : IntKind.i64.wrap ((k : Int) + 1) = ((k + 1 : Nat) : Int) := by rw [IntKind.wrap_i64]; omega
      obtain ⟨i, l, hl, hq, hsz, hany⟩ := hlaw c (List.mem_of_getElem? hdk)
      have hcs := hsl c (List.mem_of_getElem? hdk)
      have hq' : idxP (lkP c.fm c.tt) n.lk 0 = (i : Int) := hq
      have e4 : decide ((i : Int) < 0) = false := decide_eq_false (by omega)
      have w4 : IntKind.i64.wrap (l.ls + 1) = l.ls + 1 := by rw [IntKind.wrap_i64]; omega
      have e5 : ((c.sl.length : Int) != l.ls + 1) = false := by rw [hsz]; simp
      repeat (first
        | ((first | with_reducible refine sops_go ?_ | with_reducible refine headW_end ?_ | with_reducible refine sops_end ?_ | with_reducible refine awp_if ?_ | with_reducible refine awp_skip ?_ | with_reducible refine awp_ret ?_ | with_reducible refine awp_exit ?_); simp only [go_sem, simprocAttr, hF, hd, hdk])
        | ((with_reducible refine headW_go ?_); simp only [go_sem, simprocAttr, hF, hd, hdk, hbx])
        | (with_reducible refine awp_seq_k (fun _ _ => ?_))
        | (refine awp_draw' (id := 7) [] 15 (by kernel_rfl) (by kernel_rfl) rfl rfl (fun bx0 hbx => ?_); (try dsimp only [List.take_succ_cons, List.take_zero, List.take_nil, List.drop_succ_cons, List.drop_zero, List.drop_nil]))
        | (with_reducible refine awp_region [] ?_)
        | (with_reducible refine awp_block ?_)
        | go_step)
      refine ⟨_, idxL_ok _ [c.pv] (lkP c.fm c.tt) n.lk hS.lk (fun y _ => named1_ok y c), ?_⟩
      simp only [go_sem, simprocAttr, hF, hq']
      repeat (first
        | ((first | with_reducible refine sops_go ?_ | with_reducible refine headW_end ?_ | with_reducible refine sops_end ?_ | with_reducible refine awp_if ?_ | with_reducible refine awp_skip ?_ | with_reducible refine awp_ret ?_ | with_reducible refine awp_exit ?_); simp only [go_sem, simprocAttr, hF, hq', e4, hl, w4, e5])
        | ((with_reducible refine headW_go ?_); simp only [go_sem, simprocAttr, hF, hq', e4, hl, w4, e5, hbx])
        | (with_reducible refine awp_seq_k (fun _ _ => ?_))
        | (refine awp_draw' (id := 7) [] 15 (by kernel_rfl) (by kernel_rfl) rfl rfl (fun bx0 hbx => ?_); (try dsimp only [List.take_succ_cons, List.take_zero, List.take_nil, List.drop_succ_cons, List.drop_zero, List.drop_nil]))
        | (with_reducible refine awp_region [] ?_)
        | (with_reducible refine awp_block ?_)
        | go_step)
      refine awp_loop_by (ι := {j : Nat // j ≤ c.sl.length}) (fun j σ => ⟨(69, iv (j.1 : Int)) :: keepS [2, 5, 6, 8, 9, 12, 41, 42, 43, 67, 68] σ.slot, (12, [ip c.fl, ip c.fr, ip c.fm, ip c.tt, .sl 1 (c.sl.map fun x => [ip x])]) :: keepS [5, 6, 8, 9] σ.box, [], σ.ext⟩) (fun j => c.sl.length - j.1) ⟨0, by omega⟩ (sub_mk ?_) (fun R2 hR2 j => ?_)
      · simp only [go_sem, simprocAttr, hF]
        repeat' (first | rfl | refine ⟨?_, ?_⟩)
      obtain ⟨j, hj⟩ := j
      dsimp only
      simp only [go_sem, simprocAttr, hF]
      by_cases hjt : j < c.sl.length
      case neg =>
        have hdj : decide ((j : Int) < (c.sl.length : Int)) = false := decide_eq_false (by omega)
        repeat (first
          | ((first | with_reducible refine sops_go ?_ | with_reducible refine headW_end ?_ | with_reducible refine sops_end ?_ | with_reducible refine awp_if ?_ | with_reducible refine awp_skip ?_ | with_reducible refine awp_ret ?_ | with_reducible refine awp_exit ?_); simp only [go_sem, simprocAttr, hF, hdj])
          | ((with_reducible refine headW_go ?_); simp only [go_sem, simprocAttr, hF, hdj, hbx])
          | (with_reducible refine awp_seq_k (fun _ _ => ?_))
          | (refine awp_draw' (id := 7) [] 15 (by kernel_rfl) (by kernel_rfl) rfl rfl (fun bx0 hbx => ?_); (try dsimp only [List.take_succ_cons, List.take_zero, List.take_nil, List.drop_succ_cons, List.drop_zero, List.drop_nil]))
          | (with_reducible refine awp_region [] ?_)
          | (with_reducible refine awp_block ?_)
          | go_step)
        refine ⟨⟨k + 1, by omega⟩, by dsimp only; omega, hR _ _ (sub_mk ?_)⟩
        simp only [go_sem, simprocAttr, hF, hw]
      obtain ⟨s, hsj⟩ := get_of_lt hjt
      have hdj : decide ((j : Int) < (c.sl.length : Int)) = true := decide_eq_true (by omega)
      have hwj : IntKind.i64.wrap ((j : Int) + 1) = ((j + 1 : Nat) : Int) := by rw [IntKind.wrap_i64]; omega
      have hA := hany s (List.mem_of_getElem? hsj)
      repeat (first
        | ((first | with_reducible refine sops_go ?_ | with_reducible refine headW_end ?_ | with_reducible refine sops_end ?_ | with_reducible refine awp_if ?_ | with_reducible refine awp_skip ?_ | with_reducible refine awp_ret ?_ | with_reducible refine awp_exit ?_); simp only [go_sem, simprocAttr, hF, hdj, hsj])
        | ((with_reducible refine headW_go ?_); simp only [go_sem, simprocAttr, hF, hdj, hsj, hbx])
        | (with_reducible refine awp_seq_k (fun _ _ => ?_))
        | (refine awp_draw' (id := 7) [] 15 (by kernel_rfl) (by kernel_rfl) rfl rfl (fun bx0 hbx => ?_); (try dsimp only [List.take_succ_cons, List.take_zero, List.take_nil, List.drop_succ_cons, List.drop_zero, List.drop_nil]))
        | (with_reducible refine awp_region [] ?_)
        | (with_reducible refine awp_block ?_)
        | go_step)
      refine ⟨_, contA_ok _ [[ip s], x.pv, f.pv, c.pv] (namedA s x f c) r.al (by omega) (fun y _ => named2_ok y s x f c), ?_⟩
      simp only [go_sem, simprocAttr, hF, hA]
      repeat (first
        | ((first | with_reducible refine sops_go ?_ | with_reducible refine headW_end ?_ | with_reducible refine sops_end ?_ | with_reducible refine awp_if ?_ | with_reducible refine awp_skip ?_ | with_reducible refine awp_ret ?_ | with_reducible refine awp_exit ?_); simp only [go_sem, simprocAttr, hF, hA])
        | ((with_reducible refine headW_go ?_); simp only [go_sem, simprocAttr, hF, hA, hbx])
        | (with_reducible refine awp_seq_k (fun _ _ => ?_))
        | (refine awp_draw' (id := 7) [] 15 (by kernel_rfl) (by kernel_rfl) rfl rfl (fun bx0 hbx => ?_); (try dsimp only [List.take_succ_cons, List.take_zero, List.take_nil, List.drop_succ_cons, List.drop_zero, List.drop_nil]))
        | (with_reducible refine awp_region [] ?_)
        | (with_reducible refine awp_block ?_)
        | go_step)
      refine ⟨⟨j + 1, by omega⟩, by dsimp only; omega, hR2 _ _ (sub_mk ?_)⟩
      simp only [go_sem, simprocAttr, hF, hwj]
end Go.Proofs.YticnppnejafhdaaGreatDoor
/- What an argument's reading says of its cells, for types made of integers, bools, strings, structs and slices. Generic: no program's numbers. -/
namespace Go.Proofs.YticnppnejafhdaaGreatDoor
open Go.RowKit Go.ChangeShapes Go.WideShapes Go.Deep

/-- Shapes of types; the fields of a struct by 'nil' and 'cons'. -/
inductive Ty where
  | int (k : IntKind)
  | bool
  | str
  | slice (e : Ty)
  | struct (l : Ty)
  | nil
  | cons (a l : Ty)

def Ty.cells : Ty → Nat
  | .int _ | .bool | .str | .slice _ => 1
  | .struct l => l.cells
  | .nil => 0
  | .cons a l => a.cells + l.cells

mutual
def Ty.fits (P : Program) : Ty → TypeId → Bool
  | .int k, t => match P.underlying t with
    | some (.int k') => decide (k = k')
    | _ => false
  | .bool, t => match P.underlying t with
    | some .bool => true
    | _ => false
  | .str, t => match P.underlying t with
    | some .string => true
    | _ => false
  | .slice e, t => match P.underlying t with
    | some (.slice u) => e.fits P u && P.cellsOf u == e.cells
    | _ => false
  | .struct l, t => match P.underlying t with
    | some (.struct fs) => l.fitsF P fs.toList 0
    | _ => false
  | .nil, _ => false
  | .cons _ _, _ => false
def Ty.fitsF (P : Program) : Ty → List Field → Nat → Bool
  | .nil, [], _ => true
  | .cons a l, f :: fs, off => f.offset == off && (P.cellsOf f.type == a.cells && (a.fits P f.type && l.fitsF P fs (off + a.cells)))
  | _, _, _ => false
end

/-- The cells cs hold a value of that shape. -/
def Ty.holds (w : World) : Ty → List Value → Prop
  | .int k, cs => ∃ n, cs = [.int k n] ∧ (Lit.int k n).wf = true
  | .bool, cs => ∃ b, cs = [.bool b]
  | .str, cs => ∃ s : ByteArray, cs = [.string s] ∧ s.size ≤ maxLen
  | .slice e, cs => ∃ A n c, cs = [.slice A n c] ∧ n ≤ c ∧ c ≤ maxLen ∧ (A = none → n = 0) ∧ ∀ a, A = some a → ∀ i, i < n → ∃ es, es.length = e.cells ∧ e.holds w es ∧ ∀ j u, es[j]? = some u → w.cell? (a.add (i * e.cells + j)) = some u
  | .struct l, cs => l.holds w cs
  | .nil, _ => True
  | .cons a l, cs => a.holds w (cs.take a.cells) ∧ l.holds w (cs.drop a.cells)

section
variable {H : Type} {enc : TypeId × Value → H} {P : Program} {w : World} {base : Nat} {spare : Nat → Bool} {held : Bool}

theorem add_add_ (a : Addr) (i j : Nat) : (a.add i).add j = a.add (i + j) := (Go.Deep.add_add a i j)

mutual
theorem Ty.holds_of : ∀ (τ : Ty) (t : TypeId) (fuel : Nat) (cs : List Value) (x : DataW H × List MemPlace), τ.fits P t = true → DataW.trod enc P w base spare held fuel t cs = some x → τ.holds w cs
  | .int k, t, fuel, cs, x, hf, h => by
    simp only [Ty.fits] at hf
    split at hf
    · rename_i k' hu
      obtain rfl : k = k' := by simpa using hf
      obtain ⟨n, e, _, hw⟩ := DataW.trod_int hu h
      exact ⟨n, e, hw⟩
    · cases hf
  | .bool, t, fuel, cs, x, hf, h => by
    simp only [Ty.fits] at hf
    split at hf
    · rename_i hu
      obtain ⟨n, e, _⟩ := DataW.trod_bool hu h
      exact ⟨n, e⟩
    · cases hf
  | .str, t, fuel, cs, x, hf, h => by
    simp only [Ty.fits] at hf
    split at hf
    · rename_i hu
      obtain ⟨n, e, _, hl⟩ := DataW.trod_string hu h
      exact ⟨n, e, hl⟩
    · cases hf
  | .slice e, t, fuel, cs, x, hf, h => by
    simp only [Ty.fits] at hf
    split at hf
    · rename_i u hu
      simp only [Bool.and_eq_true, beq_iff_eq] at hf
      obtain ⟨hfe, hce⟩ := hf
      rcases open_slice hu h with ⟨rfl, _⟩ | ⟨a, len, cap, m, n, D, Pl, rfl, hb, hl, hm, hmm, _, hel⟩
      · exact ⟨none, 0, 0, rfl, Nat.le_refl _, Nat.zero_le _, fun _ => rfl, fun a ha => by cases ha⟩
      · refine ⟨some a, len, cap, rfl, hl, hm, fun h0 => (by cases h0), fun a' ha i hi => ?_⟩
        cases ha
        have him : i < m := by rw [hmm]; split <;> omega
        obtain ⟨cs', hc, ht⟩ := hel i him
        rw [hce] at hc
        obtain ⟨_, hlen, hat⟩ := World.cells?_some hc
        refine ⟨cs', hlen, Ty.holds_of e u n cs' _ hfe ht, fun j v hv => ?_⟩
        have hj : j < e.cells := by rw [← hlen]; exact (List.getElem?_eq_some_iff.1 hv).1
        have := hat j hj
        rw [add_add_] at this
        rw [this, hv]
    · cases hf
  | .struct l, t, fuel, cs, x, hf, h => by
    simp only [Ty.fits] at hf
    split at hf
    · rename_i fs hu
      obtain ⟨xs, n, _, _, _, hlen, hff⟩ := DataW.trod_struct hu h
      have := Ty.holds_ofF l fs.toList 0 cs n hf (fun f hm => by
        obtain ⟨i, hi, e⟩ := List.getElem_of_mem hm
        have hi' : i < fs.size := by simpa using hi
        have h1 : fs[i]? = some f := by rw [Array.getElem?_eq_getElem hi']; simpa using e
        have h2 := hff i f h1
        rw [List.getElem?_eq_getElem (by omega)] at h2
        exact ⟨_, h2⟩)
      simpa [Ty.holds] using this
    · cases hf
  | .nil, _, _, _, _, hf, _ => by simp [Ty.fits] at hf
  | .cons _ _, _, _, _, _, hf, _ => by simp [Ty.fits] at hf
theorem Ty.holds_ofF : ∀ (l : Ty) (fs : List Field) (off : Nat) (cs : List Value) (n : Nat), l.fitsF P fs off = true → (∀ f ∈ fs, ∃ y, DataW.trod enc P w base spare held n f.type ((cs.drop f.offset).take (P.cellsOf f.type)) = some y) → l.holds w (cs.drop off)
  | .nil, _, _, _, _, _, _ => by simp [Ty.holds]
  | .cons a l, [], _, _, _, hf, _ => by simp [Ty.fitsF] at hf
  | .cons a l, f :: fs, off, cs, n, hf, h => by
    simp only [Ty.fitsF, Bool.and_eq_true, beq_iff_eq] at hf
    obtain ⟨h1, h2, h3, h4⟩ := hf
    obtain ⟨y, hy⟩ := h f List.mem_cons_self
    rw [h1, h2] at hy
    refine ⟨Ty.holds_of a f.type n _ _ h3 hy, ?_⟩
    rw [List.drop_drop]
    exact Ty.holds_ofF l fs (off + a.cells) cs n h4 fun g hg => h g (List.mem_cons_of_mem _ hg)
  | .int _, _, _, _, _, hf, _ => by simp [Ty.fitsF] at hf
  | .bool, _, _, _, _, hf, _ => by simp [Ty.fitsF] at hf
  | .str, _, _, _, _, hf, _ => by simp [Ty.fitsF] at hf
  | .slice _, _, _, _, _, hf, _ => by simp [Ty.fitsF] at hf
  | .struct _, _, _, _, _, hf, _ => by simp [Ty.fitsF] at hf
end

theorem Ty.holds_trod {τ : Ty} {t : TypeId} {v : Value} {d : DataW H} {p : List MemPlace} (hf : τ.fits P t = true) (h : DataW.Trod enc P w base spare held t v d p) : τ.holds w v.cells.toList := by
  obtain ⟨fuel, h⟩ := h
  exact Ty.holds_of τ t fuel _ _ hf h
end

theorem cell_lt {w : World} {a : Addr} {u : Value} (h : w.cell? a = some u) : a.block < w.heap.size ∧ a.spot = none := by
  unfold World.cell? at h
  split at h
  · rename_i c t fr hh
    refine ⟨?_, ?_⟩
    · rcases Nat.lt_or_ge a.block w.heap.size with h' | h'
      · exact h'
      · rw [Array.getElem?_eq_none h'] at hh; cases hh
    · split at h
      · cases h
      · rename_i hs
        cases hsp : a.spot with
        | none => rfl
        | some s => rw [hsp] at hs; simp at hs
  · cases h

/-- A list out of what is known of each index. -/
theorem list_of {α : Type} {Q : Nat → α → Prop} : ∀ (n : Nat), (∀ i, i < n → ∃ x, Q i x) → ∃ l : List α, l.length = n ∧ ∀ i x, l[i]? = some x → Q i x
  | 0, _ => ⟨[], rfl, fun i x h => by simp at h⟩
  | n + 1, h => by
    obtain ⟨l, hl, hq⟩ := list_of n fun i hi => h i (by omega)
    obtain ⟨x, hx⟩ := h n (by omega)
    refine ⟨l ++ [x], by simp [hl], fun i y hy => ?_⟩
    rcases Nat.lt_or_ge i n with hi | hi
    · rw [List.getElem?_append_left (by omega)] at hy
      exact hq i y hy
    · rw [List.getElem?_append_right (by omega)] at hy
      obtain rfl : i = n := by
        rcases Nat.lt_or_ge (i - l.length) 1 with h1 | h1
        · omega
        · rw [List.getElem?_eq_none (by simpa using h1)] at hy; cases hy
      rw [hl, Nat.sub_self] at hy
      simp at hy
      subst hy
      exact hx

end Go.Proofs.YticnppnejafhdaaGreatDoor

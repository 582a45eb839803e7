import Derived.Test.YtkdigdnacggknaaZ10
set_option linter.unusedVariables false
set_option linter.unusedSimpArgs false
/- The reference of networks by abstract states: in, Find, Few. -/
namespace Go.Proofs.Ytkdigdnacggknaa
open Go.RowKit
open Nd Rc Mo
open Av
set_option maxRecDepth 100000
set_option linter.unusedSimpArgs false
attribute [local go_sem] Av.guardB Av.sop Av.hopx Av.hop Av.hopCall Av.hopF Av.hopB Av.evo Av.evos Av.avCells Av.loadK Av.bound Av.abin Av.aun Av.partsC Av.lfill Av.placesB Av.setAt Av.stl Av.takes Av.src Av.bxOf Av.ownOf Av.St.res Av.St.put Av.St.addBox Av.St.putOwn Av.delL Av.delS Av.look Av.lookL Av.storeSt Av.stealSt Av.St.setBox Av.keepL Av.hitB Av.snap Av.snaps Av.snapCaps Av.AV.lit Av.AV.refs Av.capRefs Av.PV.av Av.CV.av Av.startSt Av.steals Av.athen Av.ablock Av.appK Av.AllS Av.AllO Av.AllR Av.keepS Av.St.avAt Av.RetOK Av.retAll Av.retOne Av.intsOf Av.ptrB Av.appB Av.appSt TypeDesc.isRow List.range_zero Option.some.injEq exists_eq_left' exists_eq_left exists_eq' exists_and_left exists_and_right exists_const true_and and_true and_self false_and and_false or_false false_or or_true true_or if_true if_false Bool.false_eq_true List.zipIdx_cons List.zipIdx_nil List.map_cons List.map_nil List.filter_cons List.filter_nil List.contains_cons List.contains_nil List.drop_succ_cons List.drop_zero List.take_succ_cons List.take_zero List.take_nil List.drop_nil List.length_cons List.length_nil List.cons_append List.nil_append List.append_nil List.getElem?_cons_zero List.getElem?_cons_succ List.getElem?_nil Option.bind_some Option.bind_none Option.map_some Option.map_none Option.isNone_none Option.isNone_some Option.isSome_some Option.isSome_none Bool.and_true Bool.true_and Bool.and_false Bool.false_and Bool.or_false Bool.false_or Bool.not_true Bool.not_false beq_true beq_false Bool.true_beq Bool.false_beq Loc.s.injEq Loc.b.injEq decide_true decide_false beq_self_eq_true Nat.zero_add Nat.add_zero List.getElem?_toArray List.toList_toArray List.size_toArray Value.oneCell' List.all_cons List.all_nil Value.int.injEq AV.v.injEq AV.sl.injEq AV.agg.injEq AV.ref.injEq AV.ept.injEq AV.tup.injEq Value.bool.injEq PV.v.injEq PV.sl.injEq List.isEmpty_nil List.isEmpty_cons forall_const not_true_eq_false not_false_eq_true true_implies false_implies Value.string.injEq List.length_map List.getElem?_map Int.toNat_natCast Int.natCast_nonneg List.length_append Value.cells implies_true TypeDesc.struct.injEq TypeDesc.slice.injEq TypeDesc.array.injEq List.getElem?_toArray Prod.mk.injEq and_assoc exists_false List.cons.injEq Operand.tmp.injEq ite_self AV.fnv.injEq AV.clo.injEq ne_eq eq_self Try.sz3 Try.zr3 Try.by3 Try.pl3 Try.is3 Try.underlying3 Try.sz4 Try.zr4 Try.by4 Try.pl4 Try.is4 Try.underlying4 Try.sz32 Try.zr32 Try.by32 Try.pl32 Try.is32 Try.underlying32 Try.sz28 Try.zr28 Try.by28 Try.pl28 Try.is28 Try.underlying28 Try.sz26 Try.zr26 Try.by26 Try.pl26 Try.is26 Try.underlying26 Try.sz37 Try.zr37 Try.by37 Try.pl37 Try.is37 Try.underlying37 Try.sz68 Try.zr68 Try.by68 Try.pl68 Try.is68 Try.underlying68 Try.sz57 Try.zr57 Try.by57 Try.pl57 Try.is57 Try.underlying57 Try.sz70 Try.zr70 Try.by70 Try.pl70 Try.is70 Try.underlying70 Try.sz54 Try.zr54 Try.by54 Try.pl54 Try.is54 Try.underlying54 Try.sz66 Try.zr66 Try.by66 Try.pl66 Try.is66 Try.underlying66 Try.sz64 Try.zr64 Try.by64 Try.pl64 Try.is64 Try.underlying64 Try.sz73 Try.zr73 Try.by73 Try.pl73 Try.is73 Try.underlying73 Try.sz102 Try.zr102 Try.by102 Try.pl102 Try.is102 Try.underlying102 Try.sz105 Try.zr105 Try.by105 Try.pl105 Try.is105 Try.underlying105 Try.sz44 Try.zr44 Try.by44 Try.pl44 Try.is44 Try.underlying44 Try.sz22 Try.zr22 Try.by22 Try.pl22 Try.is22 Try.underlying22 Try.sz31 Try.zr31 Try.by31 Try.pl31 Try.is31 Try.underlying31 Try.sz23 Try.zr23 Try.by23 Try.pl23 Try.is23 Try.underlying23 Try.sz24 Try.zr24 Try.by24 Try.pl24 Try.is24 Try.underlying24 Try.sz46 Try.zr46 Try.by46 Try.pl46 Try.is46 Try.underlying46 Try.sz41 Try.zr41 Try.by41 Try.pl41 Try.is41 Try.underlying41 Try.sz42 Try.zr42 Try.by42 Try.pl42 Try.is42 Try.underlying42 Try.sz40 Try.zr40 Try.by40 Try.pl40 Try.is40 Try.underlying40 Try.it68 Try.eg68 Try.it54 Try.eg54 Try.it66 Try.eg66 Try.it57 Try.eg57 Try.it37 Try.eg37 Try.it73 Try.eg73 all_arr loc_ss loc_sb loc_bs loc_bb arr_two arr_one rg1 rg2 rg3 rg4 rg5 rg6 rg7 rg8 ResultVar.tmp.injEq Bool.not_true Bool.not_false undef Rc.Rec.pv Nd.Fl.pv Rc.Dlv.pv Rc.Att.pv Mo.Lt.pv Mo.Sv.pv Mo.Net.pv Mo.Lk.pv prow_pv irow_pv
def inR (n a b : Int) : Bool := decide (a ≤ n) && decide (n ≤ b)

set_option maxHeartbeats 2000000 in
theorem in31_ok (n a b : Int) : FnOK Try.prog 80 [iv n, iv a, iv b] ⟨bv (inR n a b), none⟩ := by
  refine fn_ok Try.func80 (by kernel_rfl) rfl (by rw [Try.ntmps80]; exact of_decide_eq_true rfl) (fun F hF => ?_)
  rw [Try.ntmps80] at hF
  rw [Try.results80]
  unfold inR
  cases h1 : decide (a ≤ n) <;> cases h2 : decide (n ≤ b)
  · repeat (first
      | (with_reducible (first | refine sops_go ?_ | refine headW_end ?_ | refine sops_end ?_ | refine awp_if ?_ | refine awp_skip ?_ | refine awp_ret ?_ | refine awp_exit ?_); simp only [go_sem, simprocAttr, hF, h1, h2])
      | with_reducible (first | refine awp_seq_k fun _ _ => ?_ | refine awp_region [] ?_ | refine awp_block ?_)
      | go_step)
    all_goals (try rfl)
  · repeat (first
      | (with_reducible (first | refine sops_go ?_ | refine headW_end ?_ | refine sops_end ?_ | refine awp_if ?_ | refine awp_skip ?_ | refine awp_ret ?_ | refine awp_exit ?_); simp only [go_sem, simprocAttr, hF, h1, h2])
      | with_reducible (first | refine awp_seq_k fun _ _ => ?_ | refine awp_region [] ?_ | refine awp_block ?_)
      | go_step)
    all_goals (try rfl)
  · repeat (first
      | (with_reducible (first | refine sops_go ?_ | refine headW_end ?_ | refine sops_end ?_ | refine awp_if ?_ | refine awp_skip ?_ | refine awp_ret ?_ | refine awp_exit ?_); simp only [go_sem, simprocAttr, hF, h1, h2])
      | with_reducible (first | refine awp_seq_k fun _ _ => ?_ | refine awp_region [] ?_ | refine awp_block ?_)
      | go_step)
    all_goals (try rfl)
  · repeat (first
      | (with_reducible (first | refine sops_go ?_ | refine headW_end ?_ | refine sops_end ?_ | refine awp_if ?_ | refine awp_skip ?_ | refine awp_ret ?_ | refine awp_exit ?_); simp only [go_sem, simprocAttr, hF, h1, h2])
      | with_reducible (first | refine awp_seq_k fun _ _ => ?_ | refine awp_region [] ?_ | refine awp_block ?_)
      | go_step)
    all_goals (try rfl)

set_option maxHeartbeats 2000000 in
theorem nfind_ok (n : Net) (a b : Int) (hk : n.lk.length ≤ 1000000) : FnOK Try.prog 59 [.agg n.pv, iv a, iv b] ⟨iv (idxP (fun l : Lk => l.fr == a && l.tt == b) n.lk 0), none⟩ := by
  refine fn_ok Try.func59 (by kernel_rfl) rfl (by rw [Try.ntmps59]; exact of_decide_eq_true rfl) (fun F hF => ?_)
  rw [Try.ntmps59] at hF
  rw [Try.results59]
  repeat (first
    | (with_reducible (first | refine sops_go ?_ | refine headW_end ?_ | refine sops_end ?_ | refine awp_if ?_ | refine awp_skip ?_ | refine awp_ret ?_ | refine awp_exit ?_); simp only [go_sem, simprocAttr, hF])
    | with_reducible (first | refine awp_seq_k fun _ _ => ?_ | refine awp_region [] ?_ | refine awp_block ?_)
    | go_step)
  refine awp_loop_by (ι := {k : Nat // k ≤ n.lk.length ∧ idxP (fun l : Lk => l.fr == a && l.tt == b) n.lk 0 = idxP (fun l : Lk => l.fr == a && l.tt == b) (n.lk.drop k) (k : Int)}) (fun k σ => ⟨(7, iv (k.1 : Int)) :: keepS [1, 2, 3, 6] σ.slot, σ.box, [], σ.ext⟩) (fun k => n.lk.length - k.1) ⟨0, by omega, rfl⟩ (sub_mk ?_) (fun R hR k => ?_)
  · simp only [go_sem, simprocAttr, hF]
    repeat' (first | rfl | refine ⟨?_, ?_⟩)
  obtain ⟨k, hk, hT⟩ := k
  dsimp only
  simp only [go_sem, simprocAttr, hF]
  by_cases hlt : k < n.lk.length
  case neg =>
    have hd : decide ((k : Int) < (n.lk.length : Int)) = false := decide_eq_false (by omega)
    repeat (first
      | (with_reducible (first | refine sops_go ?_ | refine headW_end ?_ | refine sops_end ?_ | refine awp_if ?_ | refine awp_skip ?_ | refine awp_ret ?_ | refine awp_exit ?_); simp only [go_sem, simprocAttr, hF, hd])
      | with_reducible (first | refine awp_seq_k fun _ _ => ?_ | refine awp_region [] ?_ | refine awp_block ?_)
      | go_step)
    rw [hT, List.drop_of_length_le (by omega)]
    rfl
  obtain ⟨d, hdk⟩ := get_of_lt hlt
  have hd : decide ((k : Int) < (n.lk.length : Int)) = true := decide_eq_true (by omega)
  have hw : IntKind.i64.wrap ((k : Int) + 1) = ((k + 1 : Nat) : Int) := by rw [IntKind.wrap_i64]; omega
  have hT' : idxP (fun l : Lk => l.fr == a && l.tt == b) n.lk 0 = if (d.fr == a && d.tt == b) = true then (k : Int) else idxP (fun l : Lk => l.fr == a && l.tt == b) (n.lk.drop (k + 1)) ((k + 1 : Nat) : Int) := by rw [hT, drop_of_get hdk, idxP]; rfl
  cases e1 : (d.fr == a) with
  | false =>
    repeat (first
      | (with_reducible (first | refine sops_go ?_ | refine headW_end ?_ | refine sops_end ?_ | refine awp_if ?_ | refine awp_skip ?_ | refine awp_ret ?_ | refine awp_exit ?_); simp only [go_sem, simprocAttr, hF, hd, hdk, e1])
      | with_reducible (first | refine awp_seq_k fun _ _ => ?_ | refine awp_region [] ?_ | refine awp_block ?_)
      | go_step)
    refine ⟨⟨k + 1, by omega, by rw [hT', e1]; rfl⟩, by dsimp only; omega, hR _ _ (sub_mk ?_)⟩
    simp only [go_sem, simprocAttr, hF, hw]
  | true =>
    cases e2 : (d.tt == b) with
    | false =>
      repeat (first
        | (with_reducible (first | refine sops_go ?_ | refine headW_end ?_ | refine sops_end ?_ | refine awp_if ?_ | refine awp_skip ?_ | refine awp_ret ?_ | refine awp_exit ?_); simp only [go_sem, simprocAttr, hF, hd, hdk, e1, e2])
        | with_reducible (first | refine awp_seq_k fun _ _ => ?_ | refine awp_region [] ?_ | refine awp_block ?_)
        | go_step)
      refine ⟨⟨k + 1, by omega, by rw [hT', e1, e2]; rfl⟩, by dsimp only; omega, hR _ _ (sub_mk ?_)⟩
      simp only [go_sem, simprocAttr, hF, hw]
    | true =>
      repeat (first
        | (with_reducible (first | refine sops_go ?_ | refine headW_end ?_ | refine sops_end ?_ | refine awp_if ?_ | refine awp_skip ?_ | refine awp_ret ?_ | refine awp_exit ?_); simp only [go_sem, simprocAttr, hF, hd, hdk, e1, e2])
        | with_reducible (first | refine awp_seq_k fun _ _ => ?_ | refine awp_region [] ?_ | refine awp_block ?_)
        | go_step)
      rw [hT', e1, e2]
      rfl

def nfewB (n : Net) : Bool := n.pow.all (fun l => decide (l.length ≤ 40)) && (decide ((n.pow.length : Int) ≤ 8) && (decide ((n.lk.length : Int) ≤ 60) && decide ((n.mg.length : Int) ≤ 60)))

set_option maxHeartbeats 2000000 in
theorem nfew_ok (n : Net) (hp : n.pow.length ≤ 9223372036854775807) : FnOK Try.prog 16 [.agg n.pv] ⟨bv (nfewB n), none⟩ := by
  refine fn_ok Try.func16 (by kernel_rfl) rfl (by rw [Try.ntmps16]; exact of_decide_eq_true rfl) (fun F hF => ?_)
  rw [Try.ntmps16] at hF
  rw [Try.results16]
  repeat (first
    | (with_reducible (first | refine sops_go ?_ | refine headW_end ?_ | refine sops_end ?_ | refine awp_if ?_ | refine awp_skip ?_ | refine awp_ret ?_ | refine awp_exit ?_); simp only [go_sem, simprocAttr, hF])
    | with_reducible (first | refine awp_seq_k fun _ _ => ?_ | refine awp_region [] ?_ | refine awp_block ?_)
    | go_step)
  refine awp_loop_by (ι := {k : Nat // k ≤ n.pow.length ∧ ∀ l ∈ n.pow.take k, l.length ≤ 40}) (fun k σ => ⟨(3, iv (k.1 : Int)) :: keepS [1, 2] σ.slot, σ.box, [], σ.ext⟩) (fun k => n.pow.length - k.1) ⟨0, by omega, by simp⟩ (sub_mk ?_) (fun R hR k => ?_)
  · simp only [go_sem, simprocAttr, hF]
    repeat' (first | rfl | refine ⟨?_, ?_⟩)
  obtain ⟨k, hk, hT⟩ := k
  dsimp only
  simp only [go_sem, simprocAttr, hF]
  by_cases hlt : k < n.pow.length
  case neg =>
    have hd : decide ((k : Int) < (n.pow.length : Int)) = false := decide_eq_false (by omega)
    rw [List.take_of_length_le (by omega)] at hT
    have hall : n.pow.all (fun l => decide (l.length ≤ 40)) = true := List.all_eq_true.2 fun l hl => decide_eq_true (hT l hl)
    cases h1 : decide ((n.pow.length : Int) ≤ 8) <;> cases h2 : decide ((n.lk.length : Int) ≤ 60) <;> cases h3 : decide ((n.mg.length : Int) ≤ 60)
    · repeat (first
        | (with_reducible (first | refine sops_go ?_ | refine headW_end ?_ | refine sops_end ?_ | refine awp_if ?_ | refine awp_skip ?_ | refine awp_ret ?_ | refine awp_exit ?_); simp only [go_sem, simprocAttr, hF, hd, h1, h2, h3])
        | with_reducible (first | refine awp_seq_k fun _ _ => ?_ | refine awp_region [] ?_ | refine awp_block ?_)
        | go_step)
      rw [nfewB, hall, h1, h2, h3]
      try rfl
    · repeat (first
        | (with_reducible (first | refine sops_go ?_ | refine headW_end ?_ | refine sops_end ?_ | refine awp_if ?_ | refine awp_skip ?_ | refine awp_ret ?_ | refine awp_exit ?_); simp only [go_sem, simprocAttr, hF, hd, h1, h2, h3])
        | with_reducible (first | refine awp_seq_k fun _ _ => ?_ | refine awp_region [] ?_ | refine awp_block ?_)
        | go_step)
      rw [nfewB, hall, h1, h2, h3]
      try rfl
    · repeat (first
        | (with_reducible (first | refine sops_go ?_ | refine headW_end ?_ | refine sops_end ?_ | refine awp_if ?_ | refine awp_skip ?_ | refine awp_ret ?_ | refine awp_exit ?_); simp only [go_sem, simprocAttr, hF, hd, h1, h2, h3])
        | with_reducible (first | refine awp_seq_k fun _ _ => ?_ | refine awp_region [] ?_ | refine awp_block ?_)
        | go_step)
      rw [nfewB, hall, h1, h2, h3]
      try rfl
    · repeat (first
        | (with_reducible (first | refine sops_go ?_ | refine headW_end ?_ | refine sops_end ?_ | refine awp_if ?_ | refine awp_skip ?_ | refine awp_ret ?_ | refine awp_exit ?_); simp only [go_sem, simprocAttr, hF, hd, h1, h2, h3])
        | with_reducible (first | refine awp_seq_k fun _ _ => ?_ | refine awp_region [] ?_ | refine awp_block ?_)
        | go_step)
      rw [nfewB, hall, h1, h2, h3]
      try rfl
    · repeat (first
        | (with_reducible (first | refine sops_go ?_ | refine headW_end ?_ | refine sops_end ?_ | refine awp_if ?_ | refine awp_skip ?_ | refine awp_ret ?_ | refine awp_exit ?_); simp only [go_sem, simprocAttr, hF, hd, h1, h2, h3])
        | with_reducible (first | refine awp_seq_k fun _ _ => ?_ | refine awp_region [] ?_ | refine awp_block ?_)
        | go_step)
      rw [nfewB, hall, h1, h2, h3]
      try rfl
    · repeat (first
        | (with_reducible (first | refine sops_go ?_ | refine headW_end ?_ | refine sops_end ?_ | refine awp_if ?_ | refine awp_skip ?_ | refine awp_ret ?_ | refine awp_exit ?_); simp only [go_sem, simprocAttr, hF, hd, h1, h2, h3])
        | with_reducible (first | refine awp_seq_k fun _ _ => ?_ | refine awp_region [] ?_ | refine awp_block ?_)
        | go_step)
      rw [nfewB, hall, h1, h2, h3]
      try rfl
    · repeat (first
        | (with_reducible (first | refine sops_go ?_ | refine headW_end ?_ | refine sops_end ?_ | refine awp_if ?_ | refine awp_skip ?_ | refine awp_ret ?_ | refine awp_exit ?_); simp only [go_sem, simprocAttr, hF, hd, h1, h2, h3])
        | with_reducible (first | refine awp_seq_k fun _ _ => ?_ | refine awp_region [] ?_ | refine awp_block ?_)
        | go_step)
      rw [nfewB, hall, h1, h2, h3]
      try rfl
    · repeat (first
        | (with_reducible (first | refine sops_go ?_ | refine headW_end ?_ | refine sops_end ?_ | refine awp_if ?_ | refine awp_skip ?_ | refine awp_ret ?_ | refine awp_exit ?_); simp only [go_sem, simprocAttr, hF, hd, h1, h2, h3])
        | with_reducible (first | refine awp_seq_k fun _ _ => ?_ | refine awp_region [] ?_ | refine awp_block ?_)
        | go_step)
      rw [nfewB, hall, h1, h2, h3]
      try rfl
  obtain ⟨d, hdk⟩ := get_of_lt hlt
  have hd : decide ((k : Int) < (n.pow.length : Int)) = true := decide_eq_true (by omega)
  have hw : IntKind.i64.wrap ((k : Int) + 1) = ((k + 1 : Nat) : Int) := by rw [IntKind.wrap_i64]; omega
  by_cases h40 : d.length ≤ 40
  case neg =>
    have he : decide ((40 : Int) < (d.length : Int)) = true := decide_eq_true (by omega)
    have hall : n.pow.all (fun l => decide (l.length ≤ 40)) = false := by
      refine Bool.eq_false_iff.2 fun h => h40 ?_
      exact of_decide_eq_true (List.all_eq_true.1 h d (List.mem_of_getElem? hdk))
    repeat (first
      | (with_reducible (first | refine sops_go ?_ | refine headW_end ?_ | refine sops_end ?_ | refine awp_if ?_ | refine awp_skip ?_ | refine awp_ret ?_ | refine awp_exit ?_); simp only [go_sem, simprocAttr, hF, hd, hdk, he])
      | with_reducible (first | refine awp_seq_k fun _ _ => ?_ | refine awp_region [] ?_ | refine awp_block ?_)
      | go_step)
    rw [nfewB, hall]
    rfl
  have he : decide ((40 : Int) < (d.length : Int)) = false := decide_eq_false (by omega)
  repeat (first
    | (with_reducible (first | refine sops_go ?_ | refine headW_end ?_ | refine sops_end ?_ | refine awp_if ?_ | refine awp_skip ?_ | refine awp_ret ?_ | refine awp_exit ?_); simp only [go_sem, simprocAttr, hF, hd, hdk, he])
    | with_reducible (first | refine awp_seq_k fun _ _ => ?_ | refine awp_region [] ?_ | refine awp_block ?_)
    | go_step)
  refine ⟨⟨k + 1, by omega, fun l hl => by
      rw [List.take_add_one, hdk] at hl
      rcases List.mem_append.1 hl with hl | hl
      · exact hT l hl
      · simp at hl; subst hl; exact h40⟩, by dsimp only; omega, hR _ _ (sub_mk ?_)⟩
  simp only [go_sem, simprocAttr, hF, hw]
/- The reference of networks by abstract states: table. -/
set_option maxHeartbeats 20000000 in
theorem table_ok (n : Net) (hp : n.pow.length ≤ 1000000) (hpl : ∀ l ∈ n.pow, l.length ≤ 1000000) : FnOK Try.prog 81 [.agg n.pv] ⟨iv (powE n.nodes n.pow), none⟩ := by
  have hp1 := hp
  refine fn_ok Try.func81 (by kernel_rfl) rfl (by rw [Try.ntmps81]; exact of_decide_eq_true rfl) (fun F hF => ?_)
  rw [Try.ntmps81] at hF
  rw [Try.results81]
  by_cases hlen : (n.pow.length : Int) = n.nodes
  case neg =>
    have he : ((n.pow.length : Int) != n.nodes) = true := by simpa using hlen
    repeat (first
      | (with_reducible (first | refine sops_go ?_ | refine headW_end ?_ | refine sops_end ?_ | refine awp_if ?_ | refine awp_skip ?_ | refine awp_ret ?_ | refine awp_exit ?_); simp only [go_sem, simprocAttr, hF, he])
      | ((with_reducible refine headW_go ?_); simp only [go_sem, simprocAttr, hF, he, hbx])
      | with_reducible refine awp_seq_k fun _ _ => ?_
      | (refine awp_draw' (id := 6) [] 9 (by kernel_rfl) (by kernel_rfl) rfl rfl (fun bx0 hbx => ?_); try dsimp only [List.take, List.drop])
      | with_reducible (first | refine awp_region [] ?_ | refine awp_block ?_)
      | go_step)
    rw [powE, if_pos (.inl hlen)]
  have he : ((n.pow.length : Int) != n.nodes) = false := by simpa using hlen
  repeat (first
    | (with_reducible (first | refine sops_go ?_ | refine headW_end ?_ | refine sops_end ?_ | refine awp_if ?_ | refine awp_skip ?_ | refine awp_ret ?_ | refine awp_exit ?_); simp only [go_sem, simprocAttr, hF, he])
    | ((with_reducible refine headW_go ?_); simp only [go_sem, simprocAttr, hF, he, hbx])
    | with_reducible refine awp_seq_k fun _ _ => ?_
    | (refine awp_draw' (id := 6) [] 9 (by kernel_rfl) (by kernel_rfl) rfl rfl (fun bx0 hbx => ?_); try dsimp only [List.take, List.drop])
    | with_reducible (first | refine awp_region [] ?_ | refine awp_block ?_)
    | go_step)
  refine awp_loop_by (ι := {k : Nat // k ≤ n.pow.length ∧ ∀ l ∈ n.pow.take k, (l.length : Int) = n.nodes}) (fun k σ => ⟨(3, iv (k.1 : Int)) :: keepS [1, 2] σ.slot, σ.box, [], σ.ext⟩) (fun k => n.pow.length - k.1) ⟨0, by omega, by simp⟩ (sub_mk ?_) (fun R hR k => ?_)
  · simp only [go_sem, simprocAttr, hF]
    repeat' (first | rfl | refine ⟨?_, ?_⟩)
  obtain ⟨k, hk, hT⟩ := k
  dsimp only
  simp only [go_sem, simprocAttr, hF]
  by_cases hlt : k < n.pow.length
  case neg =>
    have hd : decide ((k : Int) < n.nodes) = false := decide_eq_false (by omega)
    rw [List.take_of_length_le (by omega)] at hT
    have hA : (n.pow.any fun r => !(((r.length : Nat) : Int) == n.nodes)) = false := by
      rw [List.any_eq_false]
      intro l hl
      simp [hT l hl]
    repeat (first
      | (with_reducible (first | refine sops_go ?_ | refine headW_end ?_ | refine sops_end ?_ | refine awp_if ?_ | refine awp_skip ?_ | refine awp_ret ?_ | refine awp_exit ?_); simp only [go_sem, simprocAttr, hF, hd])
      | ((with_reducible refine headW_go ?_); simp only [go_sem, simprocAttr, hF, hd, hbx])
      | with_reducible refine awp_seq_k fun _ _ => ?_
      | (refine awp_draw' (id := 6) [] 9 (by kernel_rfl) (by kernel_rfl) rfl rfl (fun bx0 hbx => ?_); try dsimp only [List.take, List.drop])
      | with_reducible (first | refine awp_region [] ?_ | refine awp_block ?_)
      | go_step)
    refine awp_loop_by (ι := {k : Nat // k ≤ n.pow.length ∧ (n.pow.take k).any (fun r => r.any outP) = false}) (fun k σ => ⟨(4, iv (k.1 : Int)) :: keepS [1, 2] σ.slot, σ.box, [], σ.ext⟩) (fun k => n.pow.length - k.1) ⟨0, by omega, rfl⟩ (sub_mk ?_) (fun R2 hR2 j => ?_)
    · simp only [go_sem, simprocAttr, hF]
      repeat' (first | rfl | refine ⟨?_, ?_⟩)
    obtain ⟨j, hj, hU⟩ := j
    dsimp only
    simp only [go_sem, simprocAttr, hF]
    by_cases hjt : j < n.pow.length
    case neg =>
      have hdj : decide ((j : Int) < n.nodes) = false := decide_eq_false (by omega)
      rw [List.take_of_length_le (by omega)] at hU
      repeat (first
        | (with_reducible (first | refine sops_go ?_ | refine headW_end ?_ | refine sops_end ?_ | refine awp_if ?_ | refine awp_skip ?_ | refine awp_ret ?_ | refine awp_exit ?_); simp only [go_sem, simprocAttr, hF, hdj])
        | ((with_reducible refine headW_go ?_); simp only [go_sem, simprocAttr, hF, hdj, hbx])
        | with_reducible refine awp_seq_k fun _ _ => ?_
        | (refine awp_draw' (id := 6) [] 9 (by kernel_rfl) (by kernel_rfl) rfl rfl (fun bx0 hbx => ?_); try dsimp only [List.take, List.drop])
        | with_reducible (first | refine awp_region [] ?_ | refine awp_block ?_)
        | go_step)
      rw [powE, if_neg (by rintro (h | h); exact h hlen; rw [hA] at h; cases h), if_neg (by rw [hU]; decide)]
    obtain ⟨row, hrow⟩ := get_of_lt hjt
    have hrl := hT row (List.mem_of_getElem? hrow)
    have hdj : decide ((j : Int) < n.nodes) = true := decide_eq_true (by omega)
    have hwj : IntKind.i64.wrap ((j : Int) + 1) = ((j + 1 : Nat) : Int) := by rw [IntKind.wrap_i64]; omega
    have hTj : n.pow.take (j + 1) = n.pow.take j ++ [row] := by rw [List.take_add_one, hrow]; rfl
    repeat (first
      | (with_reducible (first | refine sops_go ?_ | refine headW_end ?_ | refine sops_end ?_ | refine awp_if ?_ | refine awp_skip ?_ | refine awp_ret ?_ | refine awp_exit ?_); simp only [go_sem, simprocAttr, hF, hdj])
      | ((with_reducible refine headW_go ?_); simp only [go_sem, simprocAttr, hF, hdj, hbx])
      | with_reducible refine awp_seq_k fun _ _ => ?_
      | (refine awp_draw' (id := 6) [] 9 (by kernel_rfl) (by kernel_rfl) rfl rfl (fun bx0 hbx => ?_); try dsimp only [List.take, List.drop])
      | with_reducible (first | refine awp_region [] ?_ | refine awp_block ?_)
      | go_step)
    refine awp_loop_by (ι := {i : Nat // i ≤ row.length ∧ (row.take i).any outP = false}) (fun i σ => ⟨(5, iv (i.1 : Int)) :: keepS [1, 2, 4] σ.slot, σ.box, [], σ.ext⟩) (fun i => row.length - i.1) ⟨0, by omega, rfl⟩ (sub_mk ?_) (fun R3 hR3 i => ?_)
    · simp only [go_sem, simprocAttr, hF]
      repeat' (first | rfl | refine ⟨?_, ?_⟩)
    obtain ⟨i, hi, hV⟩ := i
    dsimp only
    simp only [go_sem, simprocAttr, hF]
    by_cases hit : i < row.length
    case neg =>
      have hdi : decide ((i : Int) < n.nodes) = false := decide_eq_false (by omega)
      rw [List.take_of_length_le (by omega)] at hV
      repeat (first
        | (with_reducible (first | refine sops_go ?_ | refine headW_end ?_ | refine sops_end ?_ | refine awp_if ?_ | refine awp_skip ?_ | refine awp_ret ?_ | refine awp_exit ?_); simp only [go_sem, simprocAttr, hF, hdi])
        | ((with_reducible refine headW_go ?_); simp only [go_sem, simprocAttr, hF, hdi, hbx])
        | with_reducible refine awp_seq_k fun _ _ => ?_
        | (refine awp_draw' (id := 6) [] 9 (by kernel_rfl) (by kernel_rfl) rfl rfl (fun bx0 hbx => ?_); try dsimp only [List.take, List.drop])
        | with_reducible (first | refine awp_region [] ?_ | refine awp_block ?_)
        | go_step)
      refine ⟨⟨j + 1, by omega, by rw [hTj, List.any_append, hU, List.any_cons, hV]; rfl⟩, by dsimp only; omega, hR2 _ _ (sub_mk ?_)⟩
      simp only [go_sem, simprocAttr, hF, hwj]
    obtain ⟨x, hx⟩ := get_of_lt hit
    have hdi : decide ((i : Int) < n.nodes) = true := decide_eq_true (by omega)
    have hwi : IntKind.i64.wrap ((i : Int) + 1) = ((i + 1 : Nat) : Int) := by rw [IntKind.wrap_i64]; omega
    repeat (first
      | (with_reducible (first | refine sops_go ?_ | refine headW_end ?_ | refine sops_end ?_ | refine awp_if ?_ | refine awp_skip ?_ | refine awp_ret ?_ | refine awp_exit ?_); simp only [go_sem, simprocAttr, hF, hdi, hrow, hx])
      | ((with_reducible refine headW_go ?_); simp only [go_sem, simprocAttr, hF, hdi, hrow, hx, hbx])
      | with_reducible refine awp_seq_k fun _ _ => ?_
      | (refine awp_draw' (id := 6) [] 9 (by kernel_rfl) (by kernel_rfl) rfl rfl (fun bx0 hbx => ?_); try dsimp only [List.take, List.drop])
      | with_reducible (first | refine awp_region [] ?_ | refine awp_block ?_)
      | go_step)
    refine ⟨_, in31_ok x 0 68719476736, ?_⟩
    simp only [go_sem, simprocAttr, hF]
    cases ho : inR x 0 68719476736 with
    | false =>
      have hout : outP x = true := by
        unfold outP
        unfold inR at ho
        simp only [Bool.and_eq_false_iff, decide_eq_false_iff_not] at ho
        simp only [Bool.or_eq_true, decide_eq_true_eq]
        omega
      have hB : (n.pow.any fun r => r.any outP) = true := List.any_eq_true.2 ⟨row, List.mem_of_getElem? hrow, List.any_eq_true.2 ⟨x, List.mem_of_getElem? hx, hout⟩⟩
      try simp only [go_sem, simprocAttr, hF, ho]
      repeat (first
        | (with_reducible (first | refine sops_go ?_ | refine headW_end ?_ | refine sops_end ?_ | refine awp_if ?_ | refine awp_skip ?_ | refine awp_ret ?_ | refine awp_exit ?_); simp only [go_sem, simprocAttr, hF, ho])
        | ((with_reducible refine headW_go ?_); simp only [go_sem, simprocAttr, hF, ho, hbx])
        | with_reducible refine awp_seq_k fun _ _ => ?_
        | (refine awp_draw' (id := 6) [] 9 (by kernel_rfl) (by kernel_rfl) rfl rfl (fun bx0 hbx => ?_); try dsimp only [List.take, List.drop])
        | with_reducible (first | refine awp_region [] ?_ | refine awp_block ?_)
        | go_step)
      rw [powE, if_neg (by rintro (h | h); exact h hlen; rw [hA] at h; cases h), if_pos hB]
    | true =>
      have hout : outP x = false := by
        unfold outP
        unfold inR at ho
        simp only [Bool.and_eq_true, decide_eq_true_eq] at ho
        simp only [Bool.or_eq_false_iff, decide_eq_false_iff_not]
        omega
      try simp only [go_sem, simprocAttr, hF, ho]
      repeat (first
        | (with_reducible (first | refine sops_go ?_ | refine headW_end ?_ | refine sops_end ?_ | refine awp_if ?_ | refine awp_skip ?_ | refine awp_ret ?_ | refine awp_exit ?_); simp only [go_sem, simprocAttr, hF, ho])
        | ((with_reducible refine headW_go ?_); simp only [go_sem, simprocAttr, hF, ho, hbx])
        | with_reducible refine awp_seq_k fun _ _ => ?_
        | (refine awp_draw' (id := 6) [] 9 (by kernel_rfl) (by kernel_rfl) rfl rfl (fun bx0 hbx => ?_); try dsimp only [List.take, List.drop])
        | with_reducible (first | refine awp_region [] ?_ | refine awp_block ?_)
        | go_step)
      refine ⟨⟨i + 1, by omega, by rw [List.take_add_one, hx, List.any_append, hV]; simp [hout]⟩, by dsimp only; omega, hR3 _ _ (sub_mk ?_)⟩
      simp only [go_sem, simprocAttr, hF, hwi]
  obtain ⟨d, hdk⟩ := get_of_lt hlt
  have hd : decide ((k : Int) < n.nodes) = true := decide_eq_true (by omega)
  have hw : IntKind.i64.wrap ((k : Int) + 1) = ((k + 1 : Nat) : Int) := by rw [IntKind.wrap_i64]; omega
  by_cases hne : (d.length : Int) = n.nodes
  case neg =>
    have h1 : ((d.length : Int) != n.nodes) = true := by simpa using hne
    have hA : (n.pow.any fun r => !(((r.length : Nat) : Int) == n.nodes)) = true := List.any_eq_true.2 ⟨d, List.mem_of_getElem? hdk, by simpa using hne⟩
    repeat (first
      | (with_reducible (first | refine sops_go ?_ | refine headW_end ?_ | refine sops_end ?_ | refine awp_if ?_ | refine awp_skip ?_ | refine awp_ret ?_ | refine awp_exit ?_); simp only [go_sem, simprocAttr, hF, hd, hdk, h1])
      | ((with_reducible refine headW_go ?_); simp only [go_sem, simprocAttr, hF, hd, hdk, h1, hbx])
      | with_reducible refine awp_seq_k fun _ _ => ?_
      | (refine awp_draw' (id := 6) [] 9 (by kernel_rfl) (by kernel_rfl) rfl rfl (fun bx0 hbx => ?_); try dsimp only [List.take, List.drop])
      | with_reducible (first | refine awp_region [] ?_ | refine awp_block ?_)
      | go_step)
    rw [powE, if_pos (.inr hA)]
  have h1 : ((d.length : Int) != n.nodes) = false := by simpa using hne
  repeat (first
    | (with_reducible (first | refine sops_go ?_ | refine headW_end ?_ | refine sops_end ?_ | refine awp_if ?_ | refine awp_skip ?_ | refine awp_ret ?_ | refine awp_exit ?_); simp only [go_sem, simprocAttr, hF, hd, hdk, h1])
    | ((with_reducible refine headW_go ?_); simp only [go_sem, simprocAttr, hF, hd, hdk, h1, hbx])
    | with_reducible refine awp_seq_k fun _ _ => ?_
    | (refine awp_draw' (id := 6) [] 9 (by kernel_rfl) (by kernel_rfl) rfl rfl (fun bx0 hbx => ?_); try dsimp only [List.take, List.drop])
    | with_reducible (first | refine awp_region [] ?_ | refine awp_block ?_)
    | go_step)
  refine ⟨⟨k + 1, by omega, fun l hl => by
      rw [List.take_add_one, hdk] at hl
      rcases List.mem_append.1 hl with hl | hl
      · exact hT l hl
      · simp at hl; subst hl; exact hne⟩, by dsimp only; omega, hR _ _ (sub_mk ?_)⟩
  simp only [go_sem, simprocAttr, hF, hw]
/- The reference of networks by abstract states: link. -/
theorem lkB_cases {nodes : Int} {l : Lk} : lkB nodes l = (inR l.fr 0 (nodes - 1) && (inR l.tt 0 (nodes - 1) && (!(l.fr == l.tt) && inR l.ls 0 7))) := rfl

set_option maxHeartbeats 20000000 in
theorem link_ok (n : Net) (k : Nat) (d : Lk) (m : Int) (hp : n.pow.length ≤ 1000000) (hl : n.lk.length ≤ 1000000) (hd : n.lk[k]? = some d) (hm : n.mg[k]? = some m) (hpe : powE n.nodes n.pow = 0) (hn : 2 ≤ n.nodes ∧ n.nodes ≤ 32) : FnOK Try.prog 82 [.agg n.pv, iv (k : Int)] ⟨iv (lkE n.nodes n.pow (if k = 0 then none else n.lk[k - 1]?) d m), none⟩ := by
  have hmul : ∀ l ∈ n.pow, (l.length : Int) = n.nodes ∧ (n.pow.length : Int) = n.nodes := fun l hl => by
    unfold powE at hpe
    split at hpe
    · cases hpe
    · rename_i hc
      refine ⟨?_, Classical.byContradiction fun h => hc (.inl h)⟩
      refine Classical.byContradiction fun h => hc (.inr (List.any_eq_true.2 ⟨l, hl, by simpa using h⟩))
  have hnl : (n.pow.length : Int) = n.nodes := by
    unfold powE at hpe
    split at hpe
    · cases hpe
    · rename_i hc
      exact Classical.byContradiction fun h => hc (.inl h)
  have hwn : IntKind.i64.wrap (n.nodes - 1) = n.nodes - 1 := by rw [IntKind.wrap_i64]; omega
  have hklt : k < n.lk.length := (List.getElem?_eq_some_iff.1 hd).1
  obtain ⟨p, hp0⟩ : ∃ p, p = (if k = 0 then none else n.lk[k - 1]?) := ⟨_, rfl⟩
  rw [← hp0]
  refine fn_ok Try.func82 (by kernel_rfl) rfl (by rw [Try.ntmps82]; exact of_decide_eq_true rfl) (fun F hF => ?_)
  rw [Try.ntmps82] at hF
  rw [Try.results82]
  repeat (first
    | (with_reducible (first | refine sops_go ?_ | refine headW_end ?_ | refine sops_end ?_ | refine awp_if ?_ | refine awp_skip ?_ | refine awp_ret ?_ | refine awp_exit ?_); simp only [go_sem, simprocAttr, hF, hd, hwn])
    | ((with_reducible refine headW_go ?_); simp only [go_sem, simprocAttr, hF, hd, hwn, hbx])
    | with_reducible refine awp_seq_k fun _ _ => ?_
    | (refine awp_draw' (id := 4) [] 38 (by kernel_rfl) (by kernel_rfl) rfl rfl (fun bx0 hbx => ?_); try dsimp only [List.take, List.drop])
    | (refine awp_draw' (id := 6) [] 17 (by kernel_rfl) (by kernel_rfl) rfl rfl (fun bx0 hbx => ?_); try dsimp only [List.take, List.drop])
    | with_reducible (first | refine awp_region [] ?_ | refine awp_block ?_)
    | go_step)
  refine ⟨_, in31_ok d.fr 0 (n.nodes - 1), ?_⟩
  simp only [go_sem, simprocAttr, hF]
  cases b1 : inR d.fr 0 (n.nodes - 1) with
  | false =>
    try simp only [go_sem, simprocAttr, hF, b1]
    repeat (first
      | (with_reducible (first | refine sops_go ?_ | refine headW_end ?_ | refine sops_end ?_ | refine awp_if ?_ | refine awp_skip ?_ | refine awp_ret ?_ | refine awp_exit ?_); simp only [go_sem, simprocAttr, hF, b1])
      | ((with_reducible refine headW_go ?_); simp only [go_sem, simprocAttr, hF, b1, hbx])
      | with_reducible refine awp_seq_k fun _ _ => ?_
      | (refine awp_draw' (id := 4) [] 38 (by kernel_rfl) (by kernel_rfl) rfl rfl (fun bx0 hbx => ?_); try dsimp only [List.take, List.drop])
      | (refine awp_draw' (id := 6) [] 17 (by kernel_rfl) (by kernel_rfl) rfl rfl (fun bx0 hbx => ?_); try dsimp only [List.take, List.drop])
      | with_reducible (first | refine awp_region [] ?_ | refine awp_block ?_)
      | go_step)
    unfold lkE
    rw [if_pos (by rw [lkB_cases]; simp [b1])]
  | true =>
    try simp only [go_sem, simprocAttr, hF, b1]
    repeat (first
      | (with_reducible (first | refine sops_go ?_ | refine headW_end ?_ | refine sops_end ?_ | refine awp_if ?_ | refine awp_skip ?_ | refine awp_ret ?_ | refine awp_exit ?_); simp only [go_sem, simprocAttr, hF, b1, hwn])
      | ((with_reducible refine headW_go ?_); simp only [go_sem, simprocAttr, hF, b1, hwn, hbx])
      | with_reducible refine awp_seq_k fun _ _ => ?_
      | (refine awp_draw' (id := 4) [] 38 (by kernel_rfl) (by kernel_rfl) rfl rfl (fun bx0 hbx => ?_); try dsimp only [List.take, List.drop])
      | (refine awp_draw' (id := 6) [] 17 (by kernel_rfl) (by kernel_rfl) rfl rfl (fun bx0 hbx => ?_); try dsimp only [List.take, List.drop])
      | with_reducible (first | refine awp_region [] ?_ | refine awp_block ?_)
      | go_step)
    refine ⟨_, in31_ok d.tt 0 (n.nodes - 1), ?_⟩
    simp only [go_sem, simprocAttr, hF]
    cases b2 : inR d.tt 0 (n.nodes - 1) with
    | false =>
      try simp only [go_sem, simprocAttr, hF, b2]
      repeat (first
        | (with_reducible (first | refine sops_go ?_ | refine headW_end ?_ | refine sops_end ?_ | refine awp_if ?_ | refine awp_skip ?_ | refine awp_ret ?_ | refine awp_exit ?_); simp only [go_sem, simprocAttr, hF, b2])
        | ((with_reducible refine headW_go ?_); simp only [go_sem, simprocAttr, hF, b2, hbx])
        | with_reducible refine awp_seq_k fun _ _ => ?_
        | (refine awp_draw' (id := 4) [] 38 (by kernel_rfl) (by kernel_rfl) rfl rfl (fun bx0 hbx => ?_); try dsimp only [List.take, List.drop])
        | (refine awp_draw' (id := 6) [] 17 (by kernel_rfl) (by kernel_rfl) rfl rfl (fun bx0 hbx => ?_); try dsimp only [List.take, List.drop])
        | with_reducible (first | refine awp_region [] ?_ | refine awp_block ?_)
        | go_step)
      unfold lkE
      rw [if_pos (by rw [lkB_cases]; simp [b1, b2])]
    | true =>
      cases b3 : (d.fr == d.tt) with
      | true =>
        try simp only [go_sem, simprocAttr, hF, b2, b3]
        repeat (first
          | (with_reducible (first | refine sops_go ?_ | refine headW_end ?_ | refine sops_end ?_ | refine awp_if ?_ | refine awp_skip ?_ | refine awp_ret ?_ | refine awp_exit ?_); simp only [go_sem, simprocAttr, hF, b2, b3])
          | ((with_reducible refine headW_go ?_); simp only [go_sem, simprocAttr, hF, b2, b3, hbx])
          | with_reducible refine awp_seq_k fun _ _ => ?_
          | (refine awp_draw' (id := 4) [] 38 (by kernel_rfl) (by kernel_rfl) rfl rfl (fun bx0 hbx => ?_); try dsimp only [List.take, List.drop])
          | (refine awp_draw' (id := 6) [] 17 (by kernel_rfl) (by kernel_rfl) rfl rfl (fun bx0 hbx => ?_); try dsimp only [List.take, List.drop])
          | with_reducible (first | refine awp_region [] ?_ | refine awp_block ?_)
          | go_step)
        have b3e : d.fr = d.tt := by simpa using b3
        unfold lkE
        rw [if_pos (by rw [lkB_cases]; simp [b1, b2, b3e])]
      | false =>
        try simp only [go_sem, simprocAttr, hF, b2, b3]
        repeat (first
          | (with_reducible (first | refine sops_go ?_ | refine headW_end ?_ | refine sops_end ?_ | refine awp_if ?_ | refine awp_skip ?_ | refine awp_ret ?_ | refine awp_exit ?_); simp only [go_sem, simprocAttr, hF, b2, b3])
          | ((with_reducible refine headW_go ?_); simp only [go_sem, simprocAttr, hF, b2, b3, hbx])
          | with_reducible refine awp_seq_k fun _ _ => ?_
          | (refine awp_draw' (id := 4) [] 38 (by kernel_rfl) (by kernel_rfl) rfl rfl (fun bx0 hbx => ?_); try dsimp only [List.take, List.drop])
          | (refine awp_draw' (id := 6) [] 17 (by kernel_rfl) (by kernel_rfl) rfl rfl (fun bx0 hbx => ?_); try dsimp only [List.take, List.drop])
          | with_reducible (first | refine awp_region [] ?_ | refine awp_block ?_)
          | go_step)
        refine ⟨_, in31_ok d.ls 0 7, ?_⟩
        simp only [go_sem, simprocAttr, hF]
        cases b4 : inR d.ls 0 7 with
        | false =>
          try simp only [go_sem, simprocAttr, hF, b4]
          repeat (first
            | (with_reducible (first | refine sops_go ?_ | refine headW_end ?_ | refine sops_end ?_ | refine awp_if ?_ | refine awp_skip ?_ | refine awp_ret ?_ | refine awp_exit ?_); simp only [go_sem, simprocAttr, hF, b4])
            | ((with_reducible refine headW_go ?_); simp only [go_sem, simprocAttr, hF, b4, hbx])
            | with_reducible refine awp_seq_k fun _ _ => ?_
            | (refine awp_draw' (id := 4) [] 38 (by kernel_rfl) (by kernel_rfl) rfl rfl (fun bx0 hbx => ?_); try dsimp only [List.take, List.drop])
            | (refine awp_draw' (id := 6) [] 17 (by kernel_rfl) (by kernel_rfl) rfl rfl (fun bx0 hbx => ?_); try dsimp only [List.take, List.drop])
            | with_reducible (first | refine awp_region [] ?_ | refine awp_block ?_)
            | go_step)
          unfold lkE
          rw [if_pos (by rw [lkB_cases]; simp [b1, b2, b4])]
        | true =>
          have hB : lkB n.nodes d = true := by rw [lkB_cases, b1, b2, b3, b4]; rfl
          have q1 : 0 ≤ d.fr ∧ d.fr ≤ n.nodes - 1 := by simpa [inR] using b1
          have q2 : 0 ≤ d.tt ∧ d.tt ≤ n.nodes - 1 := by simpa [inR] using b2
          obtain ⟨row, hrow⟩ := get_of_lt (l := n.pow) (k := d.fr.toNat) (by omega)
          have hrl := (hmul row (List.mem_of_getElem? hrow)).1
          obtain ⟨v, hv⟩ := get_of_lt (l := row) (k := d.tt.toNat) (by omega)
          have hpa : powAt n.pow d.fr d.tt = v := by
            unfold powAt
            rw [List.getD_eq_getElem?_getD, List.getD_eq_getElem?_getD, hrow, Option.getD_some, hv, Option.getD_some]
          have q10 : 0 ≤ d.fr := q1.1
          have q20 : 0 ≤ d.tt := q2.1
          by_cases hk0 : k = 0
          · have z0 : decide ((0 : Int) < (k : Int)) = false := decide_eq_false (by omega)
            have hpb : ¬ prevBadL p d = true := by rw [hp0, if_pos hk0]; simp [prevBadL]
            try simp only [go_sem, simprocAttr, hF, b4]
            repeat (first
              | (with_reducible (first | refine sops_go ?_ | refine headW_end ?_ | refine sops_end ?_ | refine awp_if ?_ | refine awp_skip ?_ | refine awp_ret ?_ | refine awp_exit ?_); simp only [go_sem, simprocAttr, hF, b4, z0])
              | ((with_reducible refine headW_go ?_); simp only [go_sem, simprocAttr, hF, b4, z0, hbx])
              | with_reducible refine awp_seq_k fun _ _ => ?_
              | (refine awp_draw' (id := 4) [] 38 (by kernel_rfl) (by kernel_rfl) rfl rfl (fun bx0 hbx => ?_); try dsimp only [List.take, List.drop])
              | (refine awp_draw' (id := 6) [] 17 (by kernel_rfl) (by kernel_rfl) rfl rfl (fun bx0 hbx => ?_); try dsimp only [List.take, List.drop])
              | with_reducible (first | refine awp_region [] ?_ | refine awp_block ?_)
              | go_step)
            try simp only [go_sem, simprocAttr, hF, hm, hrow, hv, q10, q20]
            repeat (first
              | (with_reducible (first | refine sops_go ?_ | refine headW_end ?_ | refine sops_end ?_ | refine awp_if ?_ | refine awp_skip ?_ | refine awp_ret ?_ | refine awp_exit ?_); simp only [go_sem, simprocAttr, hF, hm, hrow, hv, q10, q20])
              | ((with_reducible refine headW_go ?_); simp only [go_sem, simprocAttr, hF, hm, hrow, hv, q10, q20, hbx])
              | with_reducible refine awp_seq_k fun _ _ => ?_
              | (refine awp_draw' (id := 4) [] 38 (by kernel_rfl) (by kernel_rfl) rfl rfl (fun bx0 hbx => ?_); try dsimp only [List.take, List.drop])
              | (refine awp_draw' (id := 6) [] 17 (by kernel_rfl) (by kernel_rfl) rfl rfl (fun bx0 hbx => ?_); try dsimp only [List.take, List.drop])
              | with_reducible (first | refine awp_region [] ?_ | refine awp_block ?_)
              | go_step)
            refine ⟨_, in31_ok m 0 v, ?_⟩
            simp only [go_sem, simprocAttr, hF]
            cases b5 : inR m 0 v with
            | false =>
              have hb5 : m < 0 ∨ v < m := by
                unfold inR at b5
                simp only [Bool.and_eq_false_iff, decide_eq_false_iff_not] at b5
                omega
              try simp only [go_sem, simprocAttr, hF, b5]
              repeat (first
                | (with_reducible (first | refine sops_go ?_ | refine headW_end ?_ | refine sops_end ?_ | refine awp_if ?_ | refine awp_skip ?_ | refine awp_ret ?_ | refine awp_exit ?_); simp only [go_sem, simprocAttr, hF, b5])
                | ((with_reducible refine headW_go ?_); simp only [go_sem, simprocAttr, hF, b5, hbx])
                | with_reducible refine awp_seq_k fun _ _ => ?_
                | (refine awp_draw' (id := 4) [] 38 (by kernel_rfl) (by kernel_rfl) rfl rfl (fun bx0 hbx => ?_); try dsimp only [List.take, List.drop])
                | (refine awp_draw' (id := 6) [] 17 (by kernel_rfl) (by kernel_rfl) rfl rfl (fun bx0 hbx => ?_); try dsimp only [List.take, List.drop])
                | with_reducible (first | refine awp_region [] ?_ | refine awp_block ?_)
                | go_step)
              unfold lkE
              rw [if_neg (by rw [hB]; decide), if_neg hpb, hpa, if_pos hb5]
            | true =>
              have hb5 : ¬ (m < 0 ∨ v < m) := by
                unfold inR at b5
                simp only [Bool.and_eq_true, decide_eq_true_eq] at b5
                omega
              try simp only [go_sem, simprocAttr, hF, b5]
              repeat (first
                | (with_reducible (first | refine sops_go ?_ | refine headW_end ?_ | refine sops_end ?_ | refine awp_if ?_ | refine awp_skip ?_ | refine awp_ret ?_ | refine awp_exit ?_); simp only [go_sem, simprocAttr, hF, b5])
                | ((with_reducible refine headW_go ?_); simp only [go_sem, simprocAttr, hF, b5, hbx])
                | with_reducible refine awp_seq_k fun _ _ => ?_
                | (refine awp_draw' (id := 4) [] 38 (by kernel_rfl) (by kernel_rfl) rfl rfl (fun bx0 hbx => ?_); try dsimp only [List.take, List.drop])
                | (refine awp_draw' (id := 6) [] 17 (by kernel_rfl) (by kernel_rfl) rfl rfl (fun bx0 hbx => ?_); try dsimp only [List.take, List.drop])
                | with_reducible (first | refine awp_region [] ?_ | refine awp_block ?_)
                | go_step)
              unfold lkE
              rw [if_neg (by rw [hB]; decide), if_neg hpb, hpa, if_neg hb5]
          have z0 : decide ((0 : Int) < (k : Int)) = true := decide_eq_true (by omega)
          obtain ⟨q, hq⟩ := get_of_lt (l := n.lk) (k := k - 1) (by omega)
          have hwk : IntKind.i64.wrap ((k : Int) - 1) = ((k - 1 : Nat) : Int) := by rw [IntKind.wrap_i64]; omega
          cases e1 : decide (d.fr < q.fr) with
          | true =>
            have hpb : prevBadL p d = true := by rw [hp0, if_neg hk0, hq]; simp [prevBadL, e1]
            try simp only [go_sem, simprocAttr, hF, b4]
            repeat (first
              | (with_reducible (first | refine sops_go ?_ | refine headW_end ?_ | refine sops_end ?_ | refine awp_if ?_ | refine awp_skip ?_ | refine awp_ret ?_ | refine awp_exit ?_); simp only [go_sem, simprocAttr, hF, b4, z0, hwk, hq, e1])
              | ((with_reducible refine headW_go ?_); simp only [go_sem, simprocAttr, hF, b4, z0, hwk, hq, e1, hbx])
              | with_reducible refine awp_seq_k fun _ _ => ?_
              | (refine awp_draw' (id := 4) [] 38 (by kernel_rfl) (by kernel_rfl) rfl rfl (fun bx0 hbx => ?_); try dsimp only [List.take, List.drop])
              | (refine awp_draw' (id := 6) [] 17 (by kernel_rfl) (by kernel_rfl) rfl rfl (fun bx0 hbx => ?_); try dsimp only [List.take, List.drop])
              | with_reducible (first | refine awp_region [] ?_ | refine awp_block ?_)
              | go_step)
            unfold lkE
            rw [if_neg (by rw [hB]; decide), if_pos hpb]
          | false =>
            cases e2 : (q.fr == d.fr) with
            | false =>
              have hpb : ¬ prevBadL p d = true := by rw [hp0, if_neg hk0, hq]; simp [prevBadL, e1, e2]
              try simp only [go_sem, simprocAttr, hF, b4]
              repeat (first
                | (with_reducible (first | refine sops_go ?_ | refine headW_end ?_ | refine sops_end ?_ | refine awp_if ?_ | refine awp_skip ?_ | refine awp_ret ?_ | refine awp_exit ?_); simp only [go_sem, simprocAttr, hF, b4, z0, hwk, hq, e1, e2])
                | ((with_reducible refine headW_go ?_); simp only [go_sem, simprocAttr, hF, b4, z0, hwk, hq, e1, e2, hbx])
                | with_reducible refine awp_seq_k fun _ _ => ?_
                | (refine awp_draw' (id := 4) [] 38 (by kernel_rfl) (by kernel_rfl) rfl rfl (fun bx0 hbx => ?_); try dsimp only [List.take, List.drop])
                | (refine awp_draw' (id := 6) [] 17 (by kernel_rfl) (by kernel_rfl) rfl rfl (fun bx0 hbx => ?_); try dsimp only [List.take, List.drop])
                | with_reducible (first | refine awp_region [] ?_ | refine awp_block ?_)
                | go_step)
              try simp only [go_sem, simprocAttr, hF, hm, hrow, hv, q10, q20]
              repeat (first
                | (with_reducible (first | refine sops_go ?_ | refine headW_end ?_ | refine sops_end ?_ | refine awp_if ?_ | refine awp_skip ?_ | refine awp_ret ?_ | refine awp_exit ?_); simp only [go_sem, simprocAttr, hF, hm, hrow, hv, q10, q20])
                | ((with_reducible refine headW_go ?_); simp only [go_sem, simprocAttr, hF, hm, hrow, hv, q10, q20, hbx])
                | with_reducible refine awp_seq_k fun _ _ => ?_
                | (refine awp_draw' (id := 4) [] 38 (by kernel_rfl) (by kernel_rfl) rfl rfl (fun bx0 hbx => ?_); try dsimp only [List.take, List.drop])
                | (refine awp_draw' (id := 6) [] 17 (by kernel_rfl) (by kernel_rfl) rfl rfl (fun bx0 hbx => ?_); try dsimp only [List.take, List.drop])
                | with_reducible (first | refine awp_region [] ?_ | refine awp_block ?_)
                | go_step)
              refine ⟨_, in31_ok m 0 v, ?_⟩
              simp only [go_sem, simprocAttr, hF]
              cases b5 : inR m 0 v with
              | false =>
                have hb5 : m < 0 ∨ v < m := by
                  unfold inR at b5
                  simp only [Bool.and_eq_false_iff, decide_eq_false_iff_not] at b5
                  omega
                try simp only [go_sem, simprocAttr, hF, b5]
                repeat (first
                  | (with_reducible (first | refine sops_go ?_ | refine headW_end ?_ | refine sops_end ?_ | refine awp_if ?_ | refine awp_skip ?_ | refine awp_ret ?_ | refine awp_exit ?_); simp only [go_sem, simprocAttr, hF, b5])
                  | ((with_reducible refine headW_go ?_); simp only [go_sem, simprocAttr, hF, b5, hbx])
                  | with_reducible refine awp_seq_k fun _ _ => ?_
                  | (refine awp_draw' (id := 4) [] 38 (by kernel_rfl) (by kernel_rfl) rfl rfl (fun bx0 hbx => ?_); try dsimp only [List.take, List.drop])
                  | (refine awp_draw' (id := 6) [] 17 (by kernel_rfl) (by kernel_rfl) rfl rfl (fun bx0 hbx => ?_); try dsimp only [List.take, List.drop])
                  | with_reducible (first | refine awp_region [] ?_ | refine awp_block ?_)
                  | go_step)
                unfold lkE
                rw [if_neg (by rw [hB]; decide), if_neg hpb, hpa, if_pos hb5]
              | true =>
                have hb5 : ¬ (m < 0 ∨ v < m) := by
                  unfold inR at b5
                  simp only [Bool.and_eq_true, decide_eq_true_eq] at b5
                  omega
                try simp only [go_sem, simprocAttr, hF, b5]
                repeat (first
                  | (with_reducible (first | refine sops_go ?_ | refine headW_end ?_ | refine sops_end ?_ | refine awp_if ?_ | refine awp_skip ?_ | refine awp_ret ?_ | refine awp_exit ?_); simp only [go_sem, simprocAttr, hF, b5])
                  | ((with_reducible refine headW_go ?_); simp only [go_sem, simprocAttr, hF, b5, hbx])
                  | with_reducible refine awp_seq_k fun _ _ => ?_
                  | (refine awp_draw' (id := 4) [] 38 (by kernel_rfl) (by kernel_rfl) rfl rfl (fun bx0 hbx => ?_); try dsimp only [List.take, List.drop])
                  | (refine awp_draw' (id := 6) [] 17 (by kernel_rfl) (by kernel_rfl) rfl rfl (fun bx0 hbx => ?_); try dsimp only [List.take, List.drop])
                  | with_reducible (first | refine awp_region [] ?_ | refine awp_block ?_)
                  | go_step)
                unfold lkE
                rw [if_neg (by rw [hB]; decide), if_neg hpb, hpa, if_neg hb5]
            | true =>
              cases e3 : decide (d.tt ≤ q.tt) with
              | true =>
                have hpb : prevBadL p d = true := by rw [hp0, if_neg hk0, hq]; simp [prevBadL, e1, e2, e3]
                try simp only [go_sem, simprocAttr, hF, b4]
                repeat (first
                  | (with_reducible (first | refine sops_go ?_ | refine headW_end ?_ | refine sops_end ?_ | refine awp_if ?_ | refine awp_skip ?_ | refine awp_ret ?_ | refine awp_exit ?_); simp only [go_sem, simprocAttr, hF, b4, z0, hwk, hq, e1, e2, e3])
                  | ((with_reducible refine headW_go ?_); simp only [go_sem, simprocAttr, hF, b4, z0, hwk, hq, e1, e2, e3, hbx])
                  | with_reducible refine awp_seq_k fun _ _ => ?_
                  | (refine awp_draw' (id := 4) [] 38 (by kernel_rfl) (by kernel_rfl) rfl rfl (fun bx0 hbx => ?_); try dsimp only [List.take, List.drop])
                  | (refine awp_draw' (id := 6) [] 17 (by kernel_rfl) (by kernel_rfl) rfl rfl (fun bx0 hbx => ?_); try dsimp only [List.take, List.drop])
                  | with_reducible (first | refine awp_region [] ?_ | refine awp_block ?_)
                  | go_step)
                unfold lkE
                rw [if_neg (by rw [hB]; decide), if_pos hpb]
              | false =>
                have hpb : ¬ prevBadL p d = true := by rw [hp0, if_neg hk0, hq]; simp [prevBadL, e1, e2, e3]
                try simp only [go_sem, simprocAttr, hF, b4]
                repeat (first
                  | (with_reducible (first | refine sops_go ?_ | refine headW_end ?_ | refine sops_end ?_ | refine awp_if ?_ | refine awp_skip ?_ | refine awp_ret ?_ | refine awp_exit ?_); simp only [go_sem, simprocAttr, hF, b4, z0, hwk, hq, e1, e2, e3])
                  | ((with_reducible refine headW_go ?_); simp only [go_sem, simprocAttr, hF, b4, z0, hwk, hq, e1, e2, e3, hbx])
                  | with_reducible refine awp_seq_k fun _ _ => ?_
                  | (refine awp_draw' (id := 4) [] 38 (by kernel_rfl) (by kernel_rfl) rfl rfl (fun bx0 hbx => ?_); try dsimp only [List.take, List.drop])
                  | (refine awp_draw' (id := 6) [] 17 (by kernel_rfl) (by kernel_rfl) rfl rfl (fun bx0 hbx => ?_); try dsimp only [List.take, List.drop])
                  | with_reducible (first | refine awp_region [] ?_ | refine awp_block ?_)
                  | go_step)
                try simp only [go_sem, simprocAttr, hF, hm, hrow, hv, q10, q20]
                repeat (first
                  | (with_reducible (first | refine sops_go ?_ | refine headW_end ?_ | refine sops_end ?_ | refine awp_if ?_ | refine awp_skip ?_ | refine awp_ret ?_ | refine awp_exit ?_); simp only [go_sem, simprocAttr, hF, hm, hrow, hv, q10, q20])
                  | ((with_reducible refine headW_go ?_); simp only [go_sem, simprocAttr, hF, hm, hrow, hv, q10, q20, hbx])
                  | with_reducible refine awp_seq_k fun _ _ => ?_
                  | (refine awp_draw' (id := 4) [] 38 (by kernel_rfl) (by kernel_rfl) rfl rfl (fun bx0 hbx => ?_); try dsimp only [List.take, List.drop])
                  | (refine awp_draw' (id := 6) [] 17 (by kernel_rfl) (by kernel_rfl) rfl rfl (fun bx0 hbx => ?_); try dsimp only [List.take, List.drop])
                  | with_reducible (first | refine awp_region [] ?_ | refine awp_block ?_)
                  | go_step)
                refine ⟨_, in31_ok m 0 v, ?_⟩
                simp only [go_sem, simprocAttr, hF]
                cases b5 : inR m 0 v with
                | false =>
                  have hb5 : m < 0 ∨ v < m := by
                    unfold inR at b5
                    simp only [Bool.and_eq_false_iff, decide_eq_false_iff_not] at b5
                    omega
                  try simp only [go_sem, simprocAttr, hF, b5]
                  repeat (first
                    | (with_reducible (first | refine sops_go ?_ | refine headW_end ?_ | refine sops_end ?_ | refine awp_if ?_ | refine awp_skip ?_ | refine awp_ret ?_ | refine awp_exit ?_); simp only [go_sem, simprocAttr, hF, b5])
                    | ((with_reducible refine headW_go ?_); simp only [go_sem, simprocAttr, hF, b5, hbx])
                    | with_reducible refine awp_seq_k fun _ _ => ?_
                    | (refine awp_draw' (id := 4) [] 38 (by kernel_rfl) (by kernel_rfl) rfl rfl (fun bx0 hbx => ?_); try dsimp only [List.take, List.drop])
                    | (refine awp_draw' (id := 6) [] 17 (by kernel_rfl) (by kernel_rfl) rfl rfl (fun bx0 hbx => ?_); try dsimp only [List.take, List.drop])
                    | with_reducible (first | refine awp_region [] ?_ | refine awp_block ?_)
                    | go_step)
                  unfold lkE
                  rw [if_neg (by rw [hB]; decide), if_neg hpb, hpa, if_pos hb5]
                | true =>
                  have hb5 : ¬ (m < 0 ∨ v < m) := by
                    unfold inR at b5
                    simp only [Bool.and_eq_true, decide_eq_true_eq] at b5
                    omega
                  try simp only [go_sem, simprocAttr, hF, b5]
                  repeat (first
                    | (with_reducible (first | refine sops_go ?_ | refine headW_end ?_ | refine sops_end ?_ | refine awp_if ?_ | refine awp_skip ?_ | refine awp_ret ?_ | refine awp_exit ?_); simp only [go_sem, simprocAttr, hF, b5])
                    | ((with_reducible refine headW_go ?_); simp only [go_sem, simprocAttr, hF, b5, hbx])
                    | with_reducible refine awp_seq_k fun _ _ => ?_
                    | (refine awp_draw' (id := 4) [] 38 (by kernel_rfl) (by kernel_rfl) rfl rfl (fun bx0 hbx => ?_); try dsimp only [List.take, List.drop])
                    | (refine awp_draw' (id := 6) [] 17 (by kernel_rfl) (by kernel_rfl) rfl rfl (fun bx0 hbx => ?_); try dsimp only [List.take, List.drop])
                    | with_reducible (first | refine awp_region [] ?_ | refine awp_block ?_)
                    | go_step)
                  unfold lkE
                  rw [if_neg (by rw [hB]; decide), if_neg hpb, hpa, if_neg hb5]
/- The reference of networks by abstract states: Check. -/
set_option maxHeartbeats 20000000 in
theorem ncheckR_ok (n : Net) (hp : n.pow.length ≤ 1000000) (hpl : ∀ l ∈ n.pow, l.length ≤ 1000000) (hk' : n.lk.length ≤ 1000000) (hg : n.mg.length ≤ 1000000) : FnOK Try.prog 57 [.agg n.pv] ⟨iv (chkN n), none⟩ := by
  refine fn_ok Try.func57 (by kernel_rfl) rfl (by rw [Try.ntmps57]; exact of_decide_eq_true rfl) (fun F hF => ?_)
  rw [Try.ntmps57] at hF
  rw [Try.results57]
  repeat (first
    | (with_reducible (first | refine sops_go ?_ | refine headW_end ?_ | refine sops_end ?_ | refine awp_if ?_ | refine awp_skip ?_ | refine awp_ret ?_ | refine awp_exit ?_); simp only [go_sem, simprocAttr, hF])
    | with_reducible (first | refine awp_seq_k fun _ _ => ?_ | refine awp_region [] ?_ | refine awp_block ?_)
    | go_step)
  refine ⟨_, in31_ok n.nodes 2 32, ?_⟩
  simp only [go_sem, simprocAttr, hF]
  cases b1 : inR n.nodes 2 32 with
  | false =>
    have hb : n.nodes < 2 ∨ 32 < n.nodes := by
      unfold inR at b1
      simp only [Bool.and_eq_false_iff, decide_eq_false_iff_not] at b1
      omega
    try simp only [go_sem, simprocAttr, hF, b1]
    repeat (first
      | (with_reducible (first | refine sops_go ?_ | refine headW_end ?_ | refine sops_end ?_ | refine awp_if ?_ | refine awp_skip ?_ | refine awp_ret ?_ | refine awp_exit ?_); simp only [go_sem, simprocAttr, hF, b1])
      | with_reducible (first | refine awp_seq_k fun _ _ => ?_ | refine awp_region [] ?_ | refine awp_block ?_)
      | go_step)
    rw [chkN, if_pos hb]
  | true =>
    have hn : 2 ≤ n.nodes ∧ n.nodes ≤ 32 := by
      unfold inR at b1
      simpa using b1
    have hb : ¬ (n.nodes < 2 ∨ 32 < n.nodes) := by omega
    try simp only [go_sem, simprocAttr, hF, b1]
    repeat (first
      | (with_reducible (first | refine sops_go ?_ | refine headW_end ?_ | refine sops_end ?_ | refine awp_if ?_ | refine awp_skip ?_ | refine awp_ret ?_ | refine awp_exit ?_); simp only [go_sem, simprocAttr, hF, b1])
      | with_reducible (first | refine awp_seq_k fun _ _ => ?_ | refine awp_region [] ?_ | refine awp_block ?_)
      | go_step)
    refine ⟨_, table_ok n hp hpl, ?_⟩
    simp only [go_sem, simprocAttr, hF]
    by_cases hpe : powE n.nodes n.pow = 0
    case neg =>
      have he : (powE n.nodes n.pow != 0) = true := by simpa using hpe
      try simp only [go_sem, simprocAttr, hF, he]
      repeat (first
        | (with_reducible (first | refine sops_go ?_ | refine headW_end ?_ | refine sops_end ?_ | refine awp_if ?_ | refine awp_skip ?_ | refine awp_ret ?_ | refine awp_exit ?_); simp only [go_sem, simprocAttr, hF, he])
        | with_reducible (first | refine awp_seq_k fun _ _ => ?_ | refine awp_region [] ?_ | refine awp_block ?_)
        | go_step)
      rw [chkN, if_neg hb, if_pos hpe]
    have he : (powE n.nodes n.pow != 0) = false := by simpa using hpe
    try simp only [go_sem, simprocAttr, hF, he]
    repeat (first
      | (with_reducible (first | refine sops_go ?_ | refine headW_end ?_ | refine sops_end ?_ | refine awp_if ?_ | refine awp_skip ?_ | refine awp_ret ?_ | refine awp_exit ?_); simp only [go_sem, simprocAttr, hF, he])
      | with_reducible (first | refine awp_seq_k fun _ _ => ?_ | refine awp_region [] ?_ | refine awp_block ?_)
      | go_step)
    refine ⟨_, in31_ok n.noise 0 68719476736, ?_⟩
    simp only [go_sem, simprocAttr, hF]
    cases b2 : inR n.noise 0 68719476736 with
    | false =>
      try simp only [go_sem, simprocAttr, hF, b2]
      repeat (first
        | (with_reducible (first | refine sops_go ?_ | refine headW_end ?_ | refine sops_end ?_ | refine awp_if ?_ | refine awp_skip ?_ | refine awp_ret ?_ | refine awp_exit ?_); simp only [go_sem, simprocAttr, hF, b2])
        | with_reducible (first | refine awp_seq_k fun _ _ => ?_ | refine awp_region [] ?_ | refine awp_block ?_)
        | go_step)
      rw [chkN, if_neg hb, if_neg (by rw [hpe]; decide), if_pos (.inl b2)]
    | true =>
      try simp only [go_sem, simprocAttr, hF, b2]
      repeat (first
        | (with_reducible (first | refine sops_go ?_ | refine headW_end ?_ | refine sops_end ?_ | refine awp_if ?_ | refine awp_skip ?_ | refine awp_ret ?_ | refine awp_exit ?_); simp only [go_sem, simprocAttr, hF, b2])
        | with_reducible (first | refine awp_seq_k fun _ _ => ?_ | refine awp_region [] ?_ | refine awp_block ?_)
        | go_step)
      refine ⟨_, in31_ok n.thr 1000 100000, ?_⟩
      simp only [go_sem, simprocAttr, hF]
      cases b3 : inR n.thr 1000 100000 with
      | false =>
        try simp only [go_sem, simprocAttr, hF, b3]
        repeat (first
          | (with_reducible (first | refine sops_go ?_ | refine headW_end ?_ | refine sops_end ?_ | refine awp_if ?_ | refine awp_skip ?_ | refine awp_ret ?_ | refine awp_exit ?_); simp only [go_sem, simprocAttr, hF, b3])
          | with_reducible (first | refine awp_seq_k fun _ _ => ?_ | refine awp_region [] ?_ | refine awp_block ?_)
          | go_step)
        rw [chkN, if_neg hb, if_neg (by rw [hpe]; decide), if_pos (.inr b3)]
      | true =>
        have hb4 : ¬ (Nd.inB n.noise 0 68719476736 = false ∨ Nd.inB n.thr 1000 100000 = false) := by
          rintro (h | h)
          · rw [show Nd.inB n.noise 0 68719476736 = true from b2] at h; cases h
          · rw [show Nd.inB n.thr 1000 100000 = true from b3] at h; cases h
        by_cases h128 : 128 < n.lk.length
        case pos =>
          have h1 : decide ((128 : Int) < (n.lk.length : Int)) = true := decide_eq_true (by omega)
          try simp only [go_sem, simprocAttr, hF, b3]
          repeat (first
            | (with_reducible (first | refine sops_go ?_ | refine headW_end ?_ | refine sops_end ?_ | refine awp_if ?_ | refine awp_skip ?_ | refine awp_ret ?_ | refine awp_exit ?_); simp only [go_sem, simprocAttr, hF, b3, h1])
            | with_reducible (first | refine awp_seq_k fun _ _ => ?_ | refine awp_region [] ?_ | refine awp_block ?_)
            | go_step)
          rw [chkN, if_neg hb, if_neg (by rw [hpe]; decide), if_neg hb4, if_pos h128]
        have h1 : decide ((128 : Int) < (n.lk.length : Int)) = false := decide_eq_false (by omega)
        by_cases hml : n.mg.length = n.lk.length
        case neg =>
          have h2 : ((n.mg.length : Int) != (n.lk.length : Int)) = true := by simpa using fun h => hml (by omega)
          try simp only [go_sem, simprocAttr, hF, b3]
          repeat (first
            | (with_reducible (first | refine sops_go ?_ | refine headW_end ?_ | refine sops_end ?_ | refine awp_if ?_ | refine awp_skip ?_ | refine awp_ret ?_ | refine awp_exit ?_); simp only [go_sem, simprocAttr, hF, b3, h1, h2])
            | with_reducible (first | refine awp_seq_k fun _ _ => ?_ | refine awp_region [] ?_ | refine awp_block ?_)
            | go_step)
          rw [chkN, if_neg hb, if_neg (by rw [hpe]; decide), if_neg hb4, if_neg h128, if_pos hml]
        have h2 : ((n.mg.length : Int) != (n.lk.length : Int)) = false := by simp [hml]
        have hC : chkN n = lkGo n.nodes n.pow none n.lk n.mg := by rw [chkN, if_neg hb, if_neg (by rw [hpe]; decide), if_neg hb4, if_neg h128, if_neg (by rw [hml]; simp)]
        try simp only [go_sem, simprocAttr, hF, b3]
        repeat (first
          | (with_reducible (first | refine sops_go ?_ | refine headW_end ?_ | refine sops_end ?_ | refine awp_if ?_ | refine awp_skip ?_ | refine awp_ret ?_ | refine awp_exit ?_); simp only [go_sem, simprocAttr, hF, b3, h1, h2])
          | with_reducible (first | refine awp_seq_k fun _ _ => ?_ | refine awp_region [] ?_ | refine awp_block ?_)
          | go_step)
        refine awp_loop_by (ι := {k : Nat // k ≤ n.lk.length ∧ lkGo n.nodes n.pow none n.lk n.mg = lkGo n.nodes n.pow (if k = 0 then none else n.lk[k - 1]?) (n.lk.drop k) (n.mg.drop k)}) (fun k σ => ⟨(4, iv (k.1 : Int)) :: keepS [1, 2] σ.slot, σ.box, [], σ.ext⟩) (fun k => n.lk.length - k.1) ⟨0, by omega, rfl⟩ (sub_mk ?_) (fun R hR k => ?_)
        · simp only [go_sem, simprocAttr, hF]
          repeat' (first | rfl | refine ⟨?_, ?_⟩)
        obtain ⟨k, hk, hT⟩ := k
        dsimp only
        simp only [go_sem, simprocAttr, hF]
        by_cases hlt : k < n.lk.length
        case neg =>
          have hd : decide ((k : Int) < (n.lk.length : Int)) = false := decide_eq_false (by omega)
          repeat (first
            | (with_reducible (first | refine sops_go ?_ | refine headW_end ?_ | refine sops_end ?_ | refine awp_if ?_ | refine awp_skip ?_ | refine awp_ret ?_ | refine awp_exit ?_); simp only [go_sem, simprocAttr, hF, hd])
            | with_reducible (first | refine awp_seq_k fun _ _ => ?_ | refine awp_region [] ?_ | refine awp_block ?_)
            | go_step)
          rw [hC, hT, List.drop_of_length_le (by omega), lkGo]
        obtain ⟨d, hdk⟩ := get_of_lt hlt
        obtain ⟨m, hmk⟩ := get_of_lt (l := n.mg) (k := k) (by omega)
        have hd : decide ((k : Int) < (n.lk.length : Int)) = true := decide_eq_true (by omega)
        have hw : IntKind.i64.wrap ((k : Int) + 1) = ((k + 1 : Nat) : Int) := by rw [IntKind.wrap_i64]; omega
        obtain ⟨E, hE⟩ : ∃ E, E = lkE n.nodes n.pow (if k = 0 then none else n.lk[k - 1]?) d m := ⟨_, rfl⟩
        have hlk := link_ok n k d m hp hk' hdk hmk hpe hn
        rw [← hE] at hlk
        have hT' : lkGo n.nodes n.pow none n.lk n.mg = if E = 0 then lkGo n.nodes n.pow (some d) (n.lk.drop (k + 1)) (n.mg.drop (k + 1)) else E := by
          rw [hT, drop_of_get hdk, drop_of_get hmk, lkGo, hE]
          rfl
        repeat (first
          | (with_reducible (first | refine sops_go ?_ | refine headW_end ?_ | refine sops_end ?_ | refine awp_if ?_ | refine awp_skip ?_ | refine awp_ret ?_ | refine awp_exit ?_); simp only [go_sem, simprocAttr, hF, hd])
          | with_reducible (first | refine awp_seq_k fun _ _ => ?_ | refine awp_region [] ?_ | refine awp_block ?_)
          | go_step)
        refine ⟨_, hlk, ?_⟩
        simp only [go_sem, simprocAttr, hF]
        by_cases h0 : E = 0
        case neg =>
          have h1 : (E != 0) = true := by simpa using h0
          try simp only [go_sem, simprocAttr, hF, h1]
          repeat (first
            | (with_reducible (first | refine sops_go ?_ | refine headW_end ?_ | refine sops_end ?_ | refine awp_if ?_ | refine awp_skip ?_ | refine awp_ret ?_ | refine awp_exit ?_); simp only [go_sem, simprocAttr, hF, h1])
            | with_reducible (first | refine awp_seq_k fun _ _ => ?_ | refine awp_region [] ?_ | refine awp_block ?_)
            | go_step)
          rw [hC, hT', if_neg h0]
        have h1 : (E != 0) = false := by simpa using h0
        try simp only [go_sem, simprocAttr, hF, h1]
        repeat (first
          | (with_reducible (first | refine sops_go ?_ | refine headW_end ?_ | refine sops_end ?_ | refine awp_if ?_ | refine awp_skip ?_ | refine awp_ret ?_ | refine awp_exit ?_); simp only [go_sem, simprocAttr, hF, h1])
          | with_reducible (first | refine awp_seq_k fun _ _ => ?_ | refine awp_region [] ?_ | refine awp_block ?_)
          | go_step)
        refine ⟨⟨k + 1, by omega, by rw [hT', if_pos h0, if_neg (by omega), Nat.add_sub_cancel, hdk]⟩, by dsimp only; omega, hR _ _ (sub_mk ?_)⟩
        simp only [go_sem, simprocAttr, hF, hw]
end Go.Proofs.Ytkdigdnacggknaa

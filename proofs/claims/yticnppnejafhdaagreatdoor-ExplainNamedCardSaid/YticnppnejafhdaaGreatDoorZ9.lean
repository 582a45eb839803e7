import Derived.Test.YticnppnejafhdaaGreatDoorZ8
/- IndexFunc and ContainsFunc by abstract states, at whatever closure. -/
namespace Go.Proofs.YticnppnejafhdaaGreatDoor
open Go.RowKit
open Nd Rc Mo
open Av
set_option maxRecDepth 100000
set_option linter.unusedSimpArgs false
attribute [local go_sem] Av.guardB Av.sop Av.hopx Av.hop Av.hopCall Av.hopF Av.hopB Av.evo Av.evos Av.avCells Av.loadK Av.bound Av.abin Av.aun Av.partsC Av.lfill Av.placesB Av.setAt Av.stl Av.takes Av.src Av.bxOf Av.ownOf Av.St.res Av.St.put Av.St.addBox Av.St.putOwn Av.delL Av.delS Av.look Av.lookL Av.storeSt Av.stealSt Av.St.setBox Av.keepL Av.hitB Av.snap Av.snaps Av.snapCaps Av.AV.lit Av.AV.refs Av.capRefs Av.PV.av Av.CV.av Av.startSt Av.steals Av.athen Av.ablock Av.appK Av.AllS Av.AllO Av.AllR Av.keepS Av.St.avAt Av.RetOK Av.retAll Av.retOne Av.intsOf Av.ptrB TypeDesc.isRow List.range_zero Option.some.injEq exists_eq_left' exists_eq_left exists_eq' exists_and_left exists_and_right exists_const true_and and_true and_self false_and and_false or_false false_or or_true true_or if_true if_false Bool.false_eq_true List.zipIdx_cons List.zipIdx_nil List.map_cons List.map_nil List.filter_cons List.filter_nil List.contains_cons List.contains_nil List.drop_succ_cons List.drop_zero List.take_succ_cons List.take_zero List.take_nil List.drop_nil List.length_cons List.length_nil List.cons_append List.nil_append List.append_nil List.getElem?_cons_zero List.getElem?_cons_succ List.getElem?_nil Option.bind_some Option.bind_none Option.map_some Option.map_none Option.isNone_none Option.isNone_some Option.isSome_some Option.isSome_none Bool.and_true Bool.true_and Bool.and_false Bool.false_and Bool.or_false Bool.false_or Bool.not_true Bool.not_false beq_true beq_false Bool.true_beq Bool.false_beq Loc.s.injEq Loc.b.injEq decide_true decide_false beq_self_eq_true Nat.zero_add Nat.add_zero List.getElem?_toArray List.toList_toArray List.size_toArray Value.oneCell' List.all_cons List.all_nil Value.int.injEq AV.v.injEq AV.sl.injEq AV.agg.injEq AV.ref.injEq AV.ept.injEq AV.tup.injEq Value.bool.injEq PV.v.injEq PV.sl.injEq List.isEmpty_nil List.isEmpty_cons forall_const not_true_eq_false not_false_eq_true true_implies false_implies Value.string.injEq List.length_map List.getElem?_map Int.toNat_natCast Int.natCast_nonneg List.length_append Value.cells implies_true TypeDesc.struct.injEq TypeDesc.slice.injEq TypeDesc.array.injEq List.getElem?_toArray Prod.mk.injEq and_assoc exists_false List.cons.injEq Operand.tmp.injEq ite_self AV.fnv.injEq AV.clo.injEq ne_eq eq_self Tryz.sz3 Tryz.zr3 Tryz.by3 Tryz.pl3 Tryz.is3 Tryz.underlying3 Tryz.sz4 Tryz.zr4 Tryz.by4 Tryz.pl4 Tryz.is4 Tryz.underlying4 Tryz.sz43 Tryz.zr43 Tryz.by43 Tryz.pl43 Tryz.is43 Tryz.underlying43 Tryz.sz35 Tryz.zr35 Tryz.by35 Tryz.pl35 Tryz.is35 Tryz.underlying35 Tryz.sz33 Tryz.zr33 Tryz.by33 Tryz.pl33 Tryz.is33 Tryz.underlying33 Tryz.sz28 Tryz.zr28 Tryz.by28 Tryz.pl28 Tryz.is28 Tryz.underlying28 Tryz.sz39 Tryz.zr39 Tryz.by39 Tryz.pl39 Tryz.is39 Tryz.underlying39 Tryz.sz57 Tryz.zr57 Tryz.by57 Tryz.pl57 Tryz.is57 Tryz.underlying57 Tryz.sz137 Tryz.zr137 Tryz.by137 Tryz.pl137 Tryz.is137 Tryz.underlying137 Tryz.sz66 Tryz.zr66 Tryz.by66 Tryz.pl66 Tryz.is66 Tryz.underlying66 Tryz.sz64 Tryz.zr64 Tryz.by64 Tryz.pl64 Tryz.is64 Tryz.underlying64 Tryz.sz60 Tryz.zr60 Tryz.by60 Tryz.pl60 Tryz.is60 Tryz.underlying60 Tryz.sz100 Tryz.zr100 Tryz.by100 Tryz.pl100 Tryz.is100 Tryz.underlying100 Tryz.sz103 Tryz.zr103 Tryz.by103 Tryz.pl103 Tryz.is103 Tryz.underlying103 Tryz.sz26 Tryz.zr26 Tryz.by26 Tryz.pl26 Tryz.is26 Tryz.underlying26 Tryz.sz120 Tryz.zr120 Tryz.by120 Tryz.pl120 Tryz.is120 Tryz.underlying120 Tryz.sz117 Tryz.zr117 Tryz.by117 Tryz.pl117 Tryz.is117 Tryz.underlying117 Tryz.sz30 Tryz.zr30 Tryz.by30 Tryz.pl30 Tryz.is30 Tryz.underlying30 Tryz.sz31 Tryz.zr31 Tryz.by31 Tryz.pl31 Tryz.is31 Tryz.underlying31 Tryz.sz40 Tryz.zr40 Tryz.by40 Tryz.pl40 Tryz.is40 Tryz.underlying40 Tryz.sz23 Tryz.zr23 Tryz.by23 Tryz.pl23 Tryz.is23 Tryz.underlying23 Tryz.sz24 Tryz.zr24 Tryz.by24 Tryz.pl24 Tryz.is24 Tryz.underlying24 Tryz.sz22 Tryz.zr22 Tryz.by22 Tryz.pl22 Tryz.is22 Tryz.underlying22 Tryz.sz141 Tryz.zr141 Tryz.by141 Tryz.pl141 Tryz.is141 Tryz.underlying141 Tryz.sz42 Tryz.zr42 Tryz.by42 Tryz.pl42 Tryz.is42 Tryz.underlying42 Tryz.sz29 Tryz.zr29 Tryz.by29 Tryz.pl29 Tryz.is29 Tryz.underlying29 Tryz.sz83 Tryz.zr83 Tryz.by83 Tryz.pl83 Tryz.is83 Tryz.underlying83 Tryz.it39 Tryz.eg39 Tryz.it137 Tryz.eg137 Tryz.it66 Tryz.eg66 Tryz.it28 Tryz.eg28 Tryz.it60 Tryz.eg60 all_arr loc_ss loc_sb loc_bs loc_bb arr_two arr_one rg1 rg2 rg3 rg4 rg5 rg6 rg7 rg8 ResultVar.tmp.injEq Bool.not_true Bool.not_false undef Rc.Rec.pv Nd.Fl.pv Rc.Dlv.pv Rc.Att.pv Mo.Lt.pv Fn.func.injEq Mo.Net.pv Mo.Lk.pv prow_pv irow_pv Br.pv
set_option maxHeartbeats 2000000 in
theorem idxL_ok (c : FuncId) (caps : List (List PV)) (p : Lk → Bool) (l : List Lk) (hl : l.length ≤ 1000000) (hc : ∀ y ∈ l, FnOK Tryz.prog c (.agg y.pv :: caps.map AV.ept) ⟨bv (p y), none⟩) : FnOK Tryz.prog 22 [.sl 3 (l.map Lk.pv), .fnv c caps] ⟨iv (idxP p l 0), none⟩ := by
  refine fn_ok Tryz.func22 (by kernel_rfl) rfl (by rw [Tryz.ntmps22]; exact of_decide_eq_true rfl) (fun F hF => ?_)
  rw [Tryz.ntmps22] at hF
  rw [Tryz.results22]
  repeat (first
    | ((first | with_reducible refine sops_go ?_ | with_reducible refine headW_end ?_ | with_reducible refine sops_end ?_ | with_reducible refine awp_if ?_ | with_reducible refine awp_skip ?_ | with_reducible refine awp_ret ?_ | with_reducible refine awp_exit ?_); simp only [go_sem, simprocAttr, hF])
    | (with_reducible refine awp_seq_k (fun _ _ => ?_))
    | (with_reducible refine awp_region [] ?_)
    | (with_reducible refine awp_block ?_)
    | go_step)
  refine awp_loop_by (ι := {k : Nat // k ≤ l.length ∧ idxP p l 0 = idxP p (l.drop k) (k : Int)}) (fun k σ => ⟨(8, iv (k.1 : Int)) :: keepS [0, 1, 4, 7] σ.slot, σ.box, [], σ.ext⟩) (fun k => l.length - k.1) ⟨0, by omega, rfl⟩ (sub_mk ?_) (fun R hR k => ?_)
  · simp only [go_sem, simprocAttr, hF]
    repeat' (first | rfl | refine ⟨?_, ?_⟩)
  obtain ⟨k, hk, hT⟩ := k
  dsimp only
  simp only [go_sem, simprocAttr, hF]
  by_cases hlt : k < l.length
  case neg =>
    have hd : decide ((k : Int) < (l.length : Int)) = false := decide_eq_false (by omega)
    repeat (first
      | ((first | with_reducible refine sops_go ?_ | with_reducible refine headW_end ?_ | with_reducible refine sops_end ?_ | with_reducible refine awp_if ?_ | with_reducible refine awp_skip ?_ | with_reducible refine awp_ret ?_ | with_reducible refine awp_exit ?_); simp only [go_sem, simprocAttr, hF, hd])
      | (with_reducible refine awp_seq_k (fun _ _ => ?_))
      | (with_reducible refine awp_region [] ?_)
      | (with_reducible refine awp_block ?_)
      | go_step)
    rw [hT, List.drop_of_length_le (by omega)]
    rfl
  obtain ⟨y, hyk⟩ := get_of_lt hlt
  have hd : decide ((k : Int) < (l.length : Int)) = true := decide_eq_true (by omega)
  have hw : IntKind.i64.wrap ((k : Int) + 1) = ((k + 1 : Nat) : Int) := by rw [IntKind.wrap_i64]; omega
  have hT' : idxP p l 0 = if p y = true then (k : Int) else idxP p (l.drop (k + 1)) ((k + 1 : Nat) : Int) := by rw [hT, drop_of_get hyk, idxP]; rfl
  repeat (first
    | ((first | with_reducible refine sops_go ?_ | with_reducible refine headW_end ?_ | with_reducible refine sops_end ?_ | with_reducible refine awp_if ?_ | with_reducible refine awp_skip ?_ | with_reducible refine awp_ret ?_ | with_reducible refine awp_exit ?_); simp only [go_sem, simprocAttr, hF, hd, hyk])
    | (with_reducible refine awp_seq_k (fun _ _ => ?_))
    | (with_reducible refine awp_region [] ?_)
    | (with_reducible refine awp_block ?_)
    | go_step)
  refine ⟨_, hc y (List.mem_of_getElem? hyk), ?_⟩
  simp only [go_sem, simprocAttr, hF]
  cases he : p y with
  | true =>
    try simp only [go_sem, simprocAttr, hF, he]
    repeat (first
      | ((first | with_reducible refine sops_go ?_ | with_reducible refine headW_end ?_ | with_reducible refine sops_end ?_ | with_reducible refine awp_if ?_ | with_reducible refine awp_skip ?_ | with_reducible refine awp_ret ?_ | with_reducible refine awp_exit ?_); simp only [go_sem, simprocAttr, hF, he])
      | (with_reducible refine awp_seq_k (fun _ _ => ?_))
      | (with_reducible refine awp_region [] ?_)
      | (with_reducible refine awp_block ?_)
      | go_step)
    rw [hT', if_pos he]
  | false =>
    try simp only [go_sem, simprocAttr, hF, he]
    repeat (first
      | ((first | with_reducible refine sops_go ?_ | with_reducible refine headW_end ?_ | with_reducible refine sops_end ?_ | with_reducible refine awp_if ?_ | with_reducible refine awp_skip ?_ | with_reducible refine awp_ret ?_ | with_reducible refine awp_exit ?_); simp only [go_sem, simprocAttr, hF, he])
      | (with_reducible refine awp_seq_k (fun _ _ => ?_))
      | (with_reducible refine awp_region [] ?_)
      | (with_reducible refine awp_block ?_)
      | go_step)
    refine ⟨⟨k + 1, by omega, by rw [hT', if_neg (by rw [he]; decide)]⟩, by dsimp only; omega, hR _ _ (sub_mk ?_)⟩
    simp only [go_sem, simprocAttr, hF, hw]

set_option maxHeartbeats 2000000 in
theorem idxA_ok (c : FuncId) (caps : List (List PV)) (p : Att → Bool) (l : List Att) (hl : l.length ≤ 1000000) (hc : ∀ y ∈ l, FnOK Tryz.prog c (.agg y.pv :: caps.map AV.ept) ⟨bv (p y), none⟩) : FnOK Tryz.prog 51 [.sl 8 (l.map Att.pv), .fnv c caps] ⟨iv (idxP p l 0), none⟩ := by
  refine fn_ok Tryz.func51 (by kernel_rfl) rfl (by rw [Tryz.ntmps51]; exact of_decide_eq_true rfl) (fun F hF => ?_)
  rw [Tryz.ntmps51] at hF
  rw [Tryz.results51]
  repeat (first
    | ((first | with_reducible refine sops_go ?_ | with_reducible refine headW_end ?_ | with_reducible refine sops_end ?_ | with_reducible refine awp_if ?_ | with_reducible refine awp_skip ?_ | with_reducible refine awp_ret ?_ | with_reducible refine awp_exit ?_); simp only [go_sem, simprocAttr, hF])
    | (with_reducible refine awp_seq_k (fun _ _ => ?_))
    | (with_reducible refine awp_region [] ?_)
    | (with_reducible refine awp_block ?_)
    | go_step)
  refine awp_loop_by (ι := {k : Nat // k ≤ l.length ∧ idxP p l 0 = idxP p (l.drop k) (k : Int)}) (fun k σ => ⟨(8, iv (k.1 : Int)) :: keepS [0, 1, 4, 7] σ.slot, σ.box, [], σ.ext⟩) (fun k => l.length - k.1) ⟨0, by omega, rfl⟩ (sub_mk ?_) (fun R hR k => ?_)
  · simp only [go_sem, simprocAttr, hF]
    repeat' (first | rfl | refine ⟨?_, ?_⟩)
  obtain ⟨k, hk, hT⟩ := k
  dsimp only
  simp only [go_sem, simprocAttr, hF]
  by_cases hlt : k < l.length
  case neg =>
    have hd : decide ((k : Int) < (l.length : Int)) = false := decide_eq_false (by omega)
    repeat (first
      | ((first | with_reducible refine sops_go ?_ | with_reducible refine headW_end ?_ | with_reducible refine sops_end ?_ | with_reducible refine awp_if ?_ | with_reducible refine awp_skip ?_ | with_reducible refine awp_ret ?_ | with_reducible refine awp_exit ?_); simp only [go_sem, simprocAttr, hF, hd])
      | (with_reducible refine awp_seq_k (fun _ _ => ?_))
      | (with_reducible refine awp_region [] ?_)
      | (with_reducible refine awp_block ?_)
      | go_step)
    rw [hT, List.drop_of_length_le (by omega)]
    rfl
  obtain ⟨y, hyk⟩ := get_of_lt hlt
  have hd : decide ((k : Int) < (l.length : Int)) = true := decide_eq_true (by omega)
  have hw : IntKind.i64.wrap ((k : Int) + 1) = ((k + 1 : Nat) : Int) := by rw [IntKind.wrap_i64]; omega
  have hT' : idxP p l 0 = if p y = true then (k : Int) else idxP p (l.drop (k + 1)) ((k + 1 : Nat) : Int) := by rw [hT, drop_of_get hyk, idxP]; rfl
  repeat (first
    | ((first | with_reducible refine sops_go ?_ | with_reducible refine headW_end ?_ | with_reducible refine sops_end ?_ | with_reducible refine awp_if ?_ | with_reducible refine awp_skip ?_ | with_reducible refine awp_ret ?_ | with_reducible refine awp_exit ?_); simp only [go_sem, simprocAttr, hF, hd, hyk])
    | (with_reducible refine awp_seq_k (fun _ _ => ?_))
    | (with_reducible refine awp_region [] ?_)
    | (with_reducible refine awp_block ?_)
    | go_step)
  refine ⟨_, hc y (List.mem_of_getElem? hyk), ?_⟩
  simp only [go_sem, simprocAttr, hF]
  cases he : p y with
  | true =>
    try simp only [go_sem, simprocAttr, hF, he]
    repeat (first
      | ((first | with_reducible refine sops_go ?_ | with_reducible refine headW_end ?_ | with_reducible refine sops_end ?_ | with_reducible refine awp_if ?_ | with_reducible refine awp_skip ?_ | with_reducible refine awp_ret ?_ | with_reducible refine awp_exit ?_); simp only [go_sem, simprocAttr, hF, he])
      | (with_reducible refine awp_seq_k (fun _ _ => ?_))
      | (with_reducible refine awp_region [] ?_)
      | (with_reducible refine awp_block ?_)
      | go_step)
    rw [hT', if_pos he]
  | false =>
    try simp only [go_sem, simprocAttr, hF, he]
    repeat (first
      | ((first | with_reducible refine sops_go ?_ | with_reducible refine headW_end ?_ | with_reducible refine sops_end ?_ | with_reducible refine awp_if ?_ | with_reducible refine awp_skip ?_ | with_reducible refine awp_ret ?_ | with_reducible refine awp_exit ?_); simp only [go_sem, simprocAttr, hF, he])
      | (with_reducible refine awp_seq_k (fun _ _ => ?_))
      | (with_reducible refine awp_region [] ?_)
      | (with_reducible refine awp_block ?_)
      | go_step)
    refine ⟨⟨k + 1, by omega, by rw [hT', if_neg (by rw [he]; decide)]⟩, by dsimp only; omega, hR _ _ (sub_mk ?_)⟩
    simp only [go_sem, simprocAttr, hF, hw]

set_option maxHeartbeats 2000000 in
theorem contA_ok (c : FuncId) (caps : List (List PV)) (p : Att → Bool) (l : List Att) (hl : l.length ≤ 1000000) (hc : ∀ y ∈ l, FnOK Tryz.prog c (.agg y.pv :: caps.map AV.ept) ⟨bv (p y), none⟩) : FnOK Tryz.prog 24 [.sl 8 (l.map Att.pv), .fnv c caps] ⟨bv (l.any p), none⟩ := by
  have hx := idx_any p l
  refine fn_ok Tryz.func24 (by kernel_rfl) rfl (by rw [Tryz.ntmps24]; exact of_decide_eq_true rfl) (fun F hF => ?_)
  rw [Tryz.ntmps24] at hF
  rw [Tryz.results24]
  repeat (first
    | ((first | with_reducible refine sops_go ?_ | with_reducible refine headW_end ?_ | with_reducible refine sops_end ?_ | with_reducible refine awp_if ?_ | with_reducible refine awp_skip ?_ | with_reducible refine awp_ret ?_ | with_reducible refine awp_exit ?_); simp only [go_sem, simprocAttr, hF])
    | (with_reducible refine awp_seq_k (fun _ _ => ?_))
    | (with_reducible refine awp_region [] ?_)
    | (with_reducible refine awp_block ?_)
    | go_step)
  refine ⟨_, idxA_ok c caps p l hl hc, ?_⟩
  simp only [go_sem, simprocAttr, hF]
  repeat (first
    | ((first | with_reducible refine sops_go ?_ | with_reducible refine headW_end ?_ | with_reducible refine sops_end ?_ | with_reducible refine awp_if ?_ | with_reducible refine awp_skip ?_ | with_reducible refine awp_ret ?_ | with_reducible refine awp_exit ?_); simp only [go_sem, simprocAttr, hF, hx])
    | (with_reducible refine awp_seq_k (fun _ _ => ?_))
    | (with_reducible refine awp_region [] ?_)
    | (with_reducible refine awp_block ?_)
    | go_step)
  all_goals (try rfl)

set_option maxHeartbeats 2000000 in
theorem idxB_ok (c : FuncId) (caps : List (List PV)) (p : Br → Bool) (l : List Br) (hl : l.length ≤ 1000000) (hc : ∀ y ∈ l, FnOK Tryz.prog c (.agg y.pv :: caps.map AV.ept) ⟨bv (p y), none⟩) : FnOK Tryz.prog 63 [.sl 5 (l.map Br.pv), .fnv c caps] ⟨iv (idxP p l 0), none⟩ := by
  refine fn_ok Tryz.func63 (by kernel_rfl) rfl (by rw [Tryz.ntmps63]; exact of_decide_eq_true rfl) (fun F hF => ?_)
  rw [Tryz.ntmps63] at hF
  rw [Tryz.results63]
  repeat (first
    | ((first | with_reducible refine sops_go ?_ | with_reducible refine headW_end ?_ | with_reducible refine sops_end ?_ | with_reducible refine awp_if ?_ | with_reducible refine awp_skip ?_ | with_reducible refine awp_ret ?_ | with_reducible refine awp_exit ?_); simp only [go_sem, simprocAttr, hF])
    | (with_reducible refine awp_seq_k (fun _ _ => ?_))
    | (with_reducible refine awp_region [] ?_)
    | (with_reducible refine awp_block ?_)
    | go_step)
  refine awp_loop_by (ι := {k : Nat // k ≤ l.length ∧ idxP p l 0 = idxP p (l.drop k) (k : Int)}) (fun k σ => ⟨(8, iv (k.1 : Int)) :: keepS [0, 1, 4, 7] σ.slot, σ.box, [], σ.ext⟩) (fun k => l.length - k.1) ⟨0, by omega, rfl⟩ (sub_mk ?_) (fun R hR k => ?_)
  · simp only [go_sem, simprocAttr, hF]
    repeat' (first | rfl | refine ⟨?_, ?_⟩)
  obtain ⟨k, hk, hT⟩ := k
  dsimp only
  simp only [go_sem, simprocAttr, hF]
  by_cases hlt : k < l.length
  case neg =>
    have hd : decide ((k : Int) < (l.length : Int)) = false := decide_eq_false (by omega)
    repeat (first
      | ((first | with_reducible refine sops_go ?_ | with_reducible refine headW_end ?_ | with_reducible refine sops_end ?_ | with_reducible refine awp_if ?_ | with_reducible refine awp_skip ?_ | with_reducible refine awp_ret ?_ | with_reducible refine awp_exit ?_); simp only [go_sem, simprocAttr, hF, hd])
      | (with_reducible refine awp_seq_k (fun _ _ => ?_))
      | (with_reducible refine awp_region [] ?_)
      | (with_reducible refine awp_block ?_)
      | go_step)
    rw [hT, List.drop_of_length_le (by omega)]
    rfl
  obtain ⟨y, hyk⟩ := get_of_lt hlt
  have hd : decide ((k : Int) < (l.length : Int)) = true := decide_eq_true (by omega)
  have hw : IntKind.i64.wrap ((k : Int) + 1) = ((k + 1 : Nat) : Int) := by rw [IntKind.wrap_i64]; omega
  have hT' : idxP p l 0 = if p y = true then (k : Int) else idxP p (l.drop (k + 1)) ((k + 1 : Nat) : Int) := by rw [hT, drop_of_get hyk, idxP]; rfl
  repeat (first
    | ((first | with_reducible refine sops_go ?_ | with_reducible refine headW_end ?_ | with_reducible refine sops_end ?_ | with_reducible refine awp_if ?_ | with_reducible refine awp_skip ?_ | with_reducible refine awp_ret ?_ | with_reducible refine awp_exit ?_); simp only [go_sem, simprocAttr, hF, hd, hyk])
    | (with_reducible refine awp_seq_k (fun _ _ => ?_))
    | (with_reducible refine awp_region [] ?_)
    | (with_reducible refine awp_block ?_)
    | go_step)
  refine ⟨_, hc y (List.mem_of_getElem? hyk), ?_⟩
  simp only [go_sem, simprocAttr, hF]
  cases he : p y with
  | true =>
    try simp only [go_sem, simprocAttr, hF, he]
    repeat (first
      | ((first | with_reducible refine sops_go ?_ | with_reducible refine headW_end ?_ | with_reducible refine sops_end ?_ | with_reducible refine awp_if ?_ | with_reducible refine awp_skip ?_ | with_reducible refine awp_ret ?_ | with_reducible refine awp_exit ?_); simp only [go_sem, simprocAttr, hF, he])
      | (with_reducible refine awp_seq_k (fun _ _ => ?_))
      | (with_reducible refine awp_region [] ?_)
      | (with_reducible refine awp_block ?_)
      | go_step)
    rw [hT', if_pos he]
  | false =>
    try simp only [go_sem, simprocAttr, hF, he]
    repeat (first
      | ((first | with_reducible refine sops_go ?_ | with_reducible refine headW_end ?_ | with_reducible refine sops_end ?_ | with_reducible refine awp_if ?_ | with_reducible refine awp_skip ?_ | with_reducible refine awp_ret ?_ | with_reducible refine awp_exit ?_); simp only [go_sem, simprocAttr, hF, he])
      | (with_reducible refine awp_seq_k (fun _ _ => ?_))
      | (with_reducible refine awp_region [] ?_)
      | (with_reducible refine awp_block ?_)
      | go_step)
    refine ⟨⟨k + 1, by omega, by rw [hT', if_neg (by rw [he]; decide)]⟩, by dsimp only; omega, hR _ _ (sub_mk ?_)⟩
    simp only [go_sem, simprocAttr, hF, hw]

set_option maxHeartbeats 2000000 in
theorem contB_ok (c : FuncId) (caps : List (List PV)) (p : Br → Bool) (l : List Br) (hl : l.length ≤ 1000000) (hc : ∀ y ∈ l, FnOK Tryz.prog c (.agg y.pv :: caps.map AV.ept) ⟨bv (p y), none⟩) : FnOK Tryz.prog 29 [.sl 5 (l.map Br.pv), .fnv c caps] ⟨bv (l.any p), none⟩ := by
  have hx := idx_any p l
  refine fn_ok Tryz.func29 (by kernel_rfl) rfl (by rw [Tryz.ntmps29]; exact of_decide_eq_true rfl) (fun F hF => ?_)
  rw [Tryz.ntmps29] at hF
  rw [Tryz.results29]
  repeat (first
    | ((first | with_reducible refine sops_go ?_ | with_reducible refine headW_end ?_ | with_reducible refine sops_end ?_ | with_reducible refine awp_if ?_ | with_reducible refine awp_skip ?_ | with_reducible refine awp_ret ?_ | with_reducible refine awp_exit ?_); simp only [go_sem, simprocAttr, hF])
    | (with_reducible refine awp_seq_k (fun _ _ => ?_))
    | (with_reducible refine awp_region [] ?_)
    | (with_reducible refine awp_block ?_)
    | go_step)
  refine ⟨_, idxB_ok c caps p l hl hc, ?_⟩
  simp only [go_sem, simprocAttr, hF]
  repeat (first
    | ((first | with_reducible refine sops_go ?_ | with_reducible refine headW_end ?_ | with_reducible refine sops_end ?_ | with_reducible refine awp_if ?_ | with_reducible refine awp_skip ?_ | with_reducible refine awp_ret ?_ | with_reducible refine awp_exit ?_); simp only [go_sem, simprocAttr, hF, hx])
    | (with_reducible refine awp_seq_k (fun _ _ => ?_))
    | (with_reducible refine awp_region [] ?_)
    | (with_reducible refine awp_block ?_)
    | go_step)
  all_goals (try rfl)

set_option maxHeartbeats 2000000 in
theorem idxR_ok (c : FuncId) (caps : List (List PV)) (p : (List Int) → Bool) (l : List (List Int)) (hl : l.length ≤ 1000000) (hc : ∀ y ∈ l, FnOK Tryz.prog c (.sl 1 (y.map irow_pv) :: caps.map AV.ept) ⟨bv (p y), none⟩) : FnOK Tryz.prog 99 [.sl 1 (l.map prow_pv), .fnv c caps] ⟨iv (idxP p l 0), none⟩ := by
  refine fn_ok Tryz.func99 (by kernel_rfl) rfl (by rw [Tryz.ntmps99]; exact of_decide_eq_true rfl) (fun F hF => ?_)
  rw [Tryz.ntmps99] at hF
  rw [Tryz.results99]
  repeat (first
    | ((first | with_reducible refine sops_go ?_ | with_reducible refine headW_end ?_ | with_reducible refine sops_end ?_ | with_reducible refine awp_if ?_ | with_reducible refine awp_skip ?_ | with_reducible refine awp_ret ?_ | with_reducible refine awp_exit ?_); simp only [go_sem, simprocAttr, hF])
    | (with_reducible refine awp_seq_k (fun _ _ => ?_))
    | (with_reducible refine awp_region [] ?_)
    | (with_reducible refine awp_block ?_)
    | go_step)
  refine awp_loop_by (ι := {k : Nat // k ≤ l.length ∧ idxP p l 0 = idxP p (l.drop k) (k : Int)}) (fun k σ => ⟨(8, iv (k.1 : Int)) :: keepS [0, 1, 4, 7] σ.slot, σ.box, [], σ.ext⟩) (fun k => l.length - k.1) ⟨0, by omega, rfl⟩ (sub_mk ?_) (fun R hR k => ?_)
  · simp only [go_sem, simprocAttr, hF]
    repeat' (first | rfl | refine ⟨?_, ?_⟩)
  obtain ⟨k, hk, hT⟩ := k
  dsimp only
  simp only [go_sem, simprocAttr, hF]
  by_cases hlt : k < l.length
  case neg =>
    have hd : decide ((k : Int) < (l.length : Int)) = false := decide_eq_false (by omega)
    repeat (first
      | ((first | with_reducible refine sops_go ?_ | with_reducible refine headW_end ?_ | with_reducible refine sops_end ?_ | with_reducible refine awp_if ?_ | with_reducible refine awp_skip ?_ | with_reducible refine awp_ret ?_ | with_reducible refine awp_exit ?_); simp only [go_sem, simprocAttr, hF, hd])
      | (with_reducible refine awp_seq_k (fun _ _ => ?_))
      | (with_reducible refine awp_region [] ?_)
      | (with_reducible refine awp_block ?_)
      | go_step)
    rw [hT, List.drop_of_length_le (by omega)]
    rfl
  obtain ⟨y, hyk⟩ := get_of_lt hlt
  have hd : decide ((k : Int) < (l.length : Int)) = true := decide_eq_true (by omega)
  have hw : IntKind.i64.wrap ((k : Int) + 1) = ((k + 1 : Nat) : Int) := by rw [IntKind.wrap_i64]; omega
  have hT' : idxP p l 0 = if p y = true then (k : Int) else idxP p (l.drop (k + 1)) ((k + 1 : Nat) : Int) := by rw [hT, drop_of_get hyk, idxP]; rfl
  repeat (first
    | ((first | with_reducible refine sops_go ?_ | with_reducible refine headW_end ?_ | with_reducible refine sops_end ?_ | with_reducible refine awp_if ?_ | with_reducible refine awp_skip ?_ | with_reducible refine awp_ret ?_ | with_reducible refine awp_exit ?_); simp only [go_sem, simprocAttr, hF, hd, hyk])
    | (with_reducible refine awp_seq_k (fun _ _ => ?_))
    | (with_reducible refine awp_region [] ?_)
    | (with_reducible refine awp_block ?_)
    | go_step)
  refine ⟨_, hc y (List.mem_of_getElem? hyk), ?_⟩
  simp only [go_sem, simprocAttr, hF]
  cases he : p y with
  | true =>
    try simp only [go_sem, simprocAttr, hF, he]
    repeat (first
      | ((first | with_reducible refine sops_go ?_ | with_reducible refine headW_end ?_ | with_reducible refine sops_end ?_ | with_reducible refine awp_if ?_ | with_reducible refine awp_skip ?_ | with_reducible refine awp_ret ?_ | with_reducible refine awp_exit ?_); simp only [go_sem, simprocAttr, hF, he])
      | (with_reducible refine awp_seq_k (fun _ _ => ?_))
      | (with_reducible refine awp_region [] ?_)
      | (with_reducible refine awp_block ?_)
      | go_step)
    rw [hT', if_pos he]
  | false =>
    try simp only [go_sem, simprocAttr, hF, he]
    repeat (first
      | ((first | with_reducible refine sops_go ?_ | with_reducible refine headW_end ?_ | with_reducible refine sops_end ?_ | with_reducible refine awp_if ?_ | with_reducible refine awp_skip ?_ | with_reducible refine awp_ret ?_ | with_reducible refine awp_exit ?_); simp only [go_sem, simprocAttr, hF, he])
      | (with_reducible refine awp_seq_k (fun _ _ => ?_))
      | (with_reducible refine awp_region [] ?_)
      | (with_reducible refine awp_block ?_)
      | go_step)
    refine ⟨⟨k + 1, by omega, by rw [hT', if_neg (by rw [he]; decide)]⟩, by dsimp only; omega, hR _ _ (sub_mk ?_)⟩
    simp only [go_sem, simprocAttr, hF, hw]

set_option maxHeartbeats 2000000 in
theorem contR_ok (c : FuncId) (caps : List (List PV)) (p : (List Int) → Bool) (l : List (List Int)) (hl : l.length ≤ 1000000) (hc : ∀ y ∈ l, FnOK Tryz.prog c (.sl 1 (y.map irow_pv) :: caps.map AV.ept) ⟨bv (p y), none⟩) : FnOK Tryz.prog 64 [.sl 1 (l.map prow_pv), .fnv c caps] ⟨bv (l.any p), none⟩ := by
  have hx := idx_any p l
  refine fn_ok Tryz.func64 (by kernel_rfl) rfl (by rw [Tryz.ntmps64]; exact of_decide_eq_true rfl) (fun F hF => ?_)
  rw [Tryz.ntmps64] at hF
  rw [Tryz.results64]
  repeat (first
    | ((first | with_reducible refine sops_go ?_ | with_reducible refine headW_end ?_ | with_reducible refine sops_end ?_ | with_reducible refine awp_if ?_ | with_reducible refine awp_skip ?_ | with_reducible refine awp_ret ?_ | with_reducible refine awp_exit ?_); simp only [go_sem, simprocAttr, hF])
    | (with_reducible refine awp_seq_k (fun _ _ => ?_))
    | (with_reducible refine awp_region [] ?_)
    | (with_reducible refine awp_block ?_)
    | go_step)
  refine ⟨_, idxR_ok c caps p l hl hc, ?_⟩
  simp only [go_sem, simprocAttr, hF]
  repeat (first
    | ((first | with_reducible refine sops_go ?_ | with_reducible refine headW_end ?_ | with_reducible refine sops_end ?_ | with_reducible refine awp_if ?_ | with_reducible refine awp_skip ?_ | with_reducible refine awp_ret ?_ | with_reducible refine awp_exit ?_); simp only [go_sem, simprocAttr, hF, hx])
    | (with_reducible refine awp_seq_k (fun _ _ => ?_))
    | (with_reducible refine awp_region [] ?_)
    | (with_reducible refine awp_block ?_)
    | go_step)
  all_goals (try rfl)

set_option maxHeartbeats 2000000 in
theorem idxT_ok (c : FuncId) (caps : List (List PV)) (p : Lt → Bool) (l : List Lt) (hl : l.length ≤ 1000000) (hc : ∀ y ∈ l, FnOK Tryz.prog c (.agg y.pv :: caps.map AV.ept) ⟨bv (p y), none⟩) : FnOK Tryz.prog 68 [.sl 3 (l.map Lt.pv), .fnv c caps] ⟨iv (idxP p l 0), none⟩ := by
  refine fn_ok Tryz.func68 (by kernel_rfl) rfl (by rw [Tryz.ntmps68]; exact of_decide_eq_true rfl) (fun F hF => ?_)
  rw [Tryz.ntmps68] at hF
  rw [Tryz.results68]
  repeat (first
    | ((first | with_reducible refine sops_go ?_ | with_reducible refine headW_end ?_ | with_reducible refine sops_end ?_ | with_reducible refine awp_if ?_ | with_reducible refine awp_skip ?_ | with_reducible refine awp_ret ?_ | with_reducible refine awp_exit ?_); simp only [go_sem, simprocAttr, hF])
    | (with_reducible refine awp_seq_k (fun _ _ => ?_))
    | (with_reducible refine awp_region [] ?_)
    | (with_reducible refine awp_block ?_)
    | go_step)
  refine awp_loop_by (ι := {k : Nat // k ≤ l.length ∧ idxP p l 0 = idxP p (l.drop k) (k : Int)}) (fun k σ => ⟨(8, iv (k.1 : Int)) :: keepS [0, 1, 4, 7] σ.slot, σ.box, [], σ.ext⟩) (fun k => l.length - k.1) ⟨0, by omega, rfl⟩ (sub_mk ?_) (fun R hR k => ?_)
  · simp only [go_sem, simprocAttr, hF]
    repeat' (first | rfl | refine ⟨?_, ?_⟩)
  obtain ⟨k, hk, hT⟩ := k
  dsimp only
  simp only [go_sem, simprocAttr, hF]
  by_cases hlt : k < l.length
  case neg =>
    have hd : decide ((k : Int) < (l.length : Int)) = false := decide_eq_false (by omega)
    repeat (first
      | ((first | with_reducible refine sops_go ?_ | with_reducible refine headW_end ?_ | with_reducible refine sops_end ?_ | with_reducible refine awp_if ?_ | with_reducible refine awp_skip ?_ | with_reducible refine awp_ret ?_ | with_reducible refine awp_exit ?_); simp only [go_sem, simprocAttr, hF, hd])
      | (with_reducible refine awp_seq_k (fun _ _ => ?_))
      | (with_reducible refine awp_region [] ?_)
      | (with_reducible refine awp_block ?_)
      | go_step)
    rw [hT, List.drop_of_length_le (by omega)]
    rfl
  obtain ⟨y, hyk⟩ := get_of_lt hlt
  have hd : decide ((k : Int) < (l.length : Int)) = true := decide_eq_true (by omega)
  have hw : IntKind.i64.wrap ((k : Int) + 1) = ((k + 1 : Nat) : Int) := by rw [IntKind.wrap_i64]; omega
  have hT' : idxP p l 0 = if p y = true then (k : Int) else idxP p (l.drop (k + 1)) ((k + 1 : Nat) : Int) := by rw [hT, drop_of_get hyk, idxP]; rfl
  repeat (first
    | ((first | with_reducible refine sops_go ?_ | with_reducible refine headW_end ?_ | with_reducible refine sops_end ?_ | with_reducible refine awp_if ?_ | with_reducible refine awp_skip ?_ | with_reducible refine awp_ret ?_ | with_reducible refine awp_exit ?_); simp only [go_sem, simprocAttr, hF, hd, hyk])
    | (with_reducible refine awp_seq_k (fun _ _ => ?_))
    | (with_reducible refine awp_region [] ?_)
    | (with_reducible refine awp_block ?_)
    | go_step)
  refine ⟨_, hc y (List.mem_of_getElem? hyk), ?_⟩
  simp only [go_sem, simprocAttr, hF]
  cases he : p y with
  | true =>
    try simp only [go_sem, simprocAttr, hF, he]
    repeat (first
      | ((first | with_reducible refine sops_go ?_ | with_reducible refine headW_end ?_ | with_reducible refine sops_end ?_ | with_reducible refine awp_if ?_ | with_reducible refine awp_skip ?_ | with_reducible refine awp_ret ?_ | with_reducible refine awp_exit ?_); simp only [go_sem, simprocAttr, hF, he])
      | (with_reducible refine awp_seq_k (fun _ _ => ?_))
      | (with_reducible refine awp_region [] ?_)
      | (with_reducible refine awp_block ?_)
      | go_step)
    rw [hT', if_pos he]
  | false =>
    try simp only [go_sem, simprocAttr, hF, he]
    repeat (first
      | ((first | with_reducible refine sops_go ?_ | with_reducible refine headW_end ?_ | with_reducible refine sops_end ?_ | with_reducible refine awp_if ?_ | with_reducible refine awp_skip ?_ | with_reducible refine awp_ret ?_ | with_reducible refine awp_exit ?_); simp only [go_sem, simprocAttr, hF, he])
      | (with_reducible refine awp_seq_k (fun _ _ => ?_))
      | (with_reducible refine awp_region [] ?_)
      | (with_reducible refine awp_block ?_)
      | go_step)
    refine ⟨⟨k + 1, by omega, by rw [hT', if_neg (by rw [he]; decide)]⟩, by dsimp only; omega, hR _ _ (sub_mk ?_)⟩
    simp only [go_sem, simprocAttr, hF, hw]

set_option maxHeartbeats 2000000 in
theorem idxI_ok (c : FuncId) (caps : List (List PV)) (p : Int → Bool) (l : List Int) (hl : l.length ≤ 1000000) (hc : ∀ y ∈ l, FnOK Tryz.prog c (iv y :: caps.map AV.ept) ⟨bv (p y), none⟩) : FnOK Tryz.prog 168 [.sl 1 (l.map irow_pv), .fnv c caps] ⟨iv (idxP p l 0), none⟩ := by
  refine fn_ok Tryz.func168 (by kernel_rfl) rfl (by rw [Tryz.ntmps168]; exact of_decide_eq_true rfl) (fun F hF => ?_)
  rw [Tryz.ntmps168] at hF
  rw [Tryz.results168]
  repeat (first
    | ((first | with_reducible refine sops_go ?_ | with_reducible refine headW_end ?_ | with_reducible refine sops_end ?_ | with_reducible refine awp_if ?_ | with_reducible refine awp_skip ?_ | with_reducible refine awp_ret ?_ | with_reducible refine awp_exit ?_); simp only [go_sem, simprocAttr, hF])
    | (with_reducible refine awp_seq_k (fun _ _ => ?_))
    | (with_reducible refine awp_region [] ?_)
    | (with_reducible refine awp_block ?_)
    | go_step)
  refine awp_loop_by (ι := {k : Nat // k ≤ l.length ∧ idxP p l 0 = idxP p (l.drop k) (k : Int)}) (fun k σ => ⟨(8, iv (k.1 : Int)) :: keepS [0, 1, 4, 7] σ.slot, σ.box, [], σ.ext⟩) (fun k => l.length - k.1) ⟨0, by omega, rfl⟩ (sub_mk ?_) (fun R hR k => ?_)
  · simp only [go_sem, simprocAttr, hF]
    repeat' (first | rfl | refine ⟨?_, ?_⟩)
  obtain ⟨k, hk, hT⟩ := k
  dsimp only
  simp only [go_sem, simprocAttr, hF]
  by_cases hlt : k < l.length
  case neg =>
    have hd : decide ((k : Int) < (l.length : Int)) = false := decide_eq_false (by omega)
    repeat (first
      | ((first | with_reducible refine sops_go ?_ | with_reducible refine headW_end ?_ | with_reducible refine sops_end ?_ | with_reducible refine awp_if ?_ | with_reducible refine awp_skip ?_ | with_reducible refine awp_ret ?_ | with_reducible refine awp_exit ?_); simp only [go_sem, simprocAttr, hF, hd])
      | (with_reducible refine awp_seq_k (fun _ _ => ?_))
      | (with_reducible refine awp_region [] ?_)
      | (with_reducible refine awp_block ?_)
      | go_step)
    rw [hT, List.drop_of_length_le (by omega)]
    rfl
  obtain ⟨y, hyk⟩ := get_of_lt hlt
  have hd : decide ((k : Int) < (l.length : Int)) = true := decide_eq_true (by omega)
  have hw : IntKind.i64.wrap ((k : Int) + 1) = ((k + 1 : Nat) : Int) := by rw [IntKind.wrap_i64]; omega
  have hT' : idxP p l 0 = if p y = true then (k : Int) else idxP p (l.drop (k + 1)) ((k + 1 : Nat) : Int) := by rw [hT, drop_of_get hyk, idxP]; rfl
  repeat (first
    | ((first | with_reducible refine sops_go ?_ | with_reducible refine headW_end ?_ | with_reducible refine sops_end ?_ | with_reducible refine awp_if ?_ | with_reducible refine awp_skip ?_ | with_reducible refine awp_ret ?_ | with_reducible refine awp_exit ?_); simp only [go_sem, simprocAttr, hF, hd, hyk])
    | (with_reducible refine awp_seq_k (fun _ _ => ?_))
    | (with_reducible refine awp_region [] ?_)
    | (with_reducible refine awp_block ?_)
    | go_step)
  refine ⟨_, hc y (List.mem_of_getElem? hyk), ?_⟩
  simp only [go_sem, simprocAttr, hF]
  cases he : p y with
  | true =>
    try simp only [go_sem, simprocAttr, hF, he]
    repeat (first
      | ((first | with_reducible refine sops_go ?_ | with_reducible refine headW_end ?_ | with_reducible refine sops_end ?_ | with_reducible refine awp_if ?_ | with_reducible refine awp_skip ?_ | with_reducible refine awp_ret ?_ | with_reducible refine awp_exit ?_); simp only [go_sem, simprocAttr, hF, he])
      | (with_reducible refine awp_seq_k (fun _ _ => ?_))
      | (with_reducible refine awp_region [] ?_)
      | (with_reducible refine awp_block ?_)
      | go_step)
    rw [hT', if_pos he]
  | false =>
    try simp only [go_sem, simprocAttr, hF, he]
    repeat (first
      | ((first | with_reducible refine sops_go ?_ | with_reducible refine headW_end ?_ | with_reducible refine sops_end ?_ | with_reducible refine awp_if ?_ | with_reducible refine awp_skip ?_ | with_reducible refine awp_ret ?_ | with_reducible refine awp_exit ?_); simp only [go_sem, simprocAttr, hF, he])
      | (with_reducible refine awp_seq_k (fun _ _ => ?_))
      | (with_reducible refine awp_region [] ?_)
      | (with_reducible refine awp_block ?_)
      | go_step)
    refine ⟨⟨k + 1, by omega, by rw [hT', if_neg (by rw [he]; decide)]⟩, by dsimp only; omega, hR _ _ (sub_mk ?_)⟩
    simp only [go_sem, simprocAttr, hF, hw]

set_option maxHeartbeats 2000000 in
theorem contI_ok (c : FuncId) (caps : List (List PV)) (p : Int → Bool) (l : List Int) (hl : l.length ≤ 1000000) (hc : ∀ y ∈ l, FnOK Tryz.prog c (iv y :: caps.map AV.ept) ⟨bv (p y), none⟩) : FnOK Tryz.prog 148 [.sl 1 (l.map irow_pv), .fnv c caps] ⟨bv (l.any p), none⟩ := by
  have hx := idx_any p l
  refine fn_ok Tryz.func148 (by kernel_rfl) rfl (by rw [Tryz.ntmps148]; exact of_decide_eq_true rfl) (fun F hF => ?_)
  rw [Tryz.ntmps148] at hF
  rw [Tryz.results148]
  repeat (first
    | ((first | with_reducible refine sops_go ?_ | with_reducible refine headW_end ?_ | with_reducible refine sops_end ?_ | with_reducible refine awp_if ?_ | with_reducible refine awp_skip ?_ | with_reducible refine awp_ret ?_ | with_reducible refine awp_exit ?_); simp only [go_sem, simprocAttr, hF])
    | (with_reducible refine awp_seq_k (fun _ _ => ?_))
    | (with_reducible refine awp_region [] ?_)
    | (with_reducible refine awp_block ?_)
    | go_step)
  refine ⟨_, idxI_ok c caps p l hl hc, ?_⟩
  simp only [go_sem, simprocAttr, hF]
  repeat (first
    | ((first | with_reducible refine sops_go ?_ | with_reducible refine headW_end ?_ | with_reducible refine sops_end ?_ | with_reducible refine awp_if ?_ | with_reducible refine awp_skip ?_ | with_reducible refine awp_ret ?_ | with_reducible refine awp_exit ?_); simp only [go_sem, simprocAttr, hF, hx])
    | (with_reducible refine awp_seq_k (fun _ _ => ?_))
    | (with_reducible refine awp_region [] ?_)
    | (with_reducible refine awp_block ?_)
    | go_step)
  all_goals (try rfl)

set_option maxHeartbeats 2000000 in
theorem idxN_ok (c : FuncId) (caps : List (List PV)) (p : Int → Bool) (l : List Int) (hl : l.length ≤ 1000000) (hc : ∀ y ∈ l, FnOK Tryz.prog c (iv y :: caps.map AV.ept) ⟨bv (p y), none⟩) : FnOK Tryz.prog 122 [.sl 1 (l.map irow_pv), .fnv c caps] ⟨iv (idxP p l 0), none⟩ := by
  refine fn_ok Tryz.func122 (by kernel_rfl) rfl (by rw [Tryz.ntmps122]; exact of_decide_eq_true rfl) (fun F hF => ?_)
  rw [Tryz.ntmps122] at hF
  rw [Tryz.results122]
  repeat (first
    | ((first | with_reducible refine sops_go ?_ | with_reducible refine headW_end ?_ | with_reducible refine sops_end ?_ | with_reducible refine awp_if ?_ | with_reducible refine awp_skip ?_ | with_reducible refine awp_ret ?_ | with_reducible refine awp_exit ?_); simp only [go_sem, simprocAttr, hF])
    | (with_reducible refine awp_seq_k (fun _ _ => ?_))
    | (with_reducible refine awp_region [] ?_)
    | (with_reducible refine awp_block ?_)
    | go_step)
  refine awp_loop_by (ι := {k : Nat // k ≤ l.length ∧ idxP p l 0 = idxP p (l.drop k) (k : Int)}) (fun k σ => ⟨(8, iv (k.1 : Int)) :: keepS [0, 1, 4, 7] σ.slot, σ.box, [], σ.ext⟩) (fun k => l.length - k.1) ⟨0, by omega, rfl⟩ (sub_mk ?_) (fun R hR k => ?_)
  · simp only [go_sem, simprocAttr, hF]
    repeat' (first | rfl | refine ⟨?_, ?_⟩)
  obtain ⟨k, hk, hT⟩ := k
  dsimp only
  simp only [go_sem, simprocAttr, hF]
  by_cases hlt : k < l.length
  case neg =>
    have hd : decide ((k : Int) < (l.length : Int)) = false := decide_eq_false (by omega)
    repeat (first
      | ((first | with_reducible refine sops_go ?_ | with_reducible refine headW_end ?_ | with_reducible refine sops_end ?_ | with_reducible refine awp_if ?_ | with_reducible refine awp_skip ?_ | with_reducible refine awp_ret ?_ | with_reducible refine awp_exit ?_); simp only [go_sem, simprocAttr, hF, hd])
      | (with_reducible refine awp_seq_k (fun _ _ => ?_))
      | (with_reducible refine awp_region [] ?_)
      | (with_reducible refine awp_block ?_)
      | go_step)
    rw [hT, List.drop_of_length_le (by omega)]
    rfl
  obtain ⟨y, hyk⟩ := get_of_lt hlt
  have hd : decide ((k : Int) < (l.length : Int)) = true := decide_eq_true (by omega)
  have hw : IntKind.i64.wrap ((k : Int) + 1) = ((k + 1 : Nat) : Int) := by rw [IntKind.wrap_i64]; omega
  have hT' : idxP p l 0 = if p y = true then (k : Int) else idxP p (l.drop (k + 1)) ((k + 1 : Nat) : Int) := by rw [hT, drop_of_get hyk, idxP]; rfl
  repeat (first
    | ((first | with_reducible refine sops_go ?_ | with_reducible refine headW_end ?_ | with_reducible refine sops_end ?_ | with_reducible refine awp_if ?_ | with_reducible refine awp_skip ?_ | with_reducible refine awp_ret ?_ | with_reducible refine awp_exit ?_); simp only [go_sem, simprocAttr, hF, hd, hyk])
    | (with_reducible refine awp_seq_k (fun _ _ => ?_))
    | (with_reducible refine awp_region [] ?_)
    | (with_reducible refine awp_block ?_)
    | go_step)
  refine ⟨_, hc y (List.mem_of_getElem? hyk), ?_⟩
  simp only [go_sem, simprocAttr, hF]
  cases he : p y with
  | true =>
    try simp only [go_sem, simprocAttr, hF, he]
    repeat (first
      | ((first | with_reducible refine sops_go ?_ | with_reducible refine headW_end ?_ | with_reducible refine sops_end ?_ | with_reducible refine awp_if ?_ | with_reducible refine awp_skip ?_ | with_reducible refine awp_ret ?_ | with_reducible refine awp_exit ?_); simp only [go_sem, simprocAttr, hF, he])
      | (with_reducible refine awp_seq_k (fun _ _ => ?_))
      | (with_reducible refine awp_region [] ?_)
      | (with_reducible refine awp_block ?_)
      | go_step)
    rw [hT', if_pos he]
  | false =>
    try simp only [go_sem, simprocAttr, hF, he]
    repeat (first
      | ((first | with_reducible refine sops_go ?_ | with_reducible refine headW_end ?_ | with_reducible refine sops_end ?_ | with_reducible refine awp_if ?_ | with_reducible refine awp_skip ?_ | with_reducible refine awp_ret ?_ | with_reducible refine awp_exit ?_); simp only [go_sem, simprocAttr, hF, he])
      | (with_reducible refine awp_seq_k (fun _ _ => ?_))
      | (with_reducible refine awp_region [] ?_)
      | (with_reducible refine awp_block ?_)
      | go_step)
    refine ⟨⟨k + 1, by omega, by rw [hT', if_neg (by rw [he]; decide)]⟩, by dsimp only; omega, hR _ _ (sub_mk ?_)⟩
    simp only [go_sem, simprocAttr, hF, hw]

set_option maxHeartbeats 2000000 in
theorem contN_ok (c : FuncId) (caps : List (List PV)) (p : Int → Bool) (l : List Int) (hl : l.length ≤ 1000000) (hc : ∀ y ∈ l, FnOK Tryz.prog c (iv y :: caps.map AV.ept) ⟨bv (p y), none⟩) : FnOK Tryz.prog 86 [.sl 1 (l.map irow_pv), .fnv c caps] ⟨bv (l.any p), none⟩ := by
  have hx := idx_any p l
  refine fn_ok Tryz.func86 (by kernel_rfl) rfl (by rw [Tryz.ntmps86]; exact of_decide_eq_true rfl) (fun F hF => ?_)
  rw [Tryz.ntmps86] at hF
  rw [Tryz.results86]
  repeat (first
    | ((first | with_reducible refine sops_go ?_ | with_reducible refine headW_end ?_ | with_reducible refine sops_end ?_ | with_reducible refine awp_if ?_ | with_reducible refine awp_skip ?_ | with_reducible refine awp_ret ?_ | with_reducible refine awp_exit ?_); simp only [go_sem, simprocAttr, hF])
    | (with_reducible refine awp_seq_k (fun _ _ => ?_))
    | (with_reducible refine awp_region [] ?_)
    | (with_reducible refine awp_block ?_)
    | go_step)
  refine ⟨_, idxN_ok c caps p l hl hc, ?_⟩
  simp only [go_sem, simprocAttr, hF]
  repeat (first
    | ((first | with_reducible refine sops_go ?_ | with_reducible refine headW_end ?_ | with_reducible refine sops_end ?_ | with_reducible refine awp_if ?_ | with_reducible refine awp_skip ?_ | with_reducible refine awp_ret ?_ | with_reducible refine awp_exit ?_); simp only [go_sem, simprocAttr, hF, hx])
    | (with_reducible refine awp_seq_k (fun _ _ => ?_))
    | (with_reducible refine awp_region [] ?_)
    | (with_reducible refine awp_block ?_)
    | go_step)
  all_goals (try rfl)
end Go.Proofs.YticnppnejafhdaaGreatDoor
/- explain.numbers, by abstract states. -/
namespace Go.Proofs.YticnppnejafhdaaGreatDoor
open Go.RowKit
open Nd Rc Mo
open Av
set_option maxRecDepth 100000
set_option linter.unusedSimpArgs false
attribute [local go_sem] Av.guardB Av.sop Av.hopx Av.hop Av.hopCall Av.hopF Av.hopB Av.evo Av.evos Av.avCells Av.loadK Av.bound Av.abin Av.aun Av.partsC Av.lfill Av.placesB Av.setAt Av.stl Av.takes Av.src Av.bxOf Av.ownOf Av.St.res Av.St.put Av.St.addBox Av.St.putOwn Av.delL Av.delS Av.look Av.lookL Av.storeSt Av.stealSt Av.St.setBox Av.keepL Av.hitB Av.snap Av.snaps Av.snapCaps Av.AV.lit Av.AV.refs Av.capRefs Av.PV.av Av.CV.av Av.startSt Av.steals Av.athen Av.ablock Av.appK Av.AllS Av.AllO Av.AllR Av.keepS Av.St.avAt Av.RetOK Av.retAll Av.retOne Av.intsOf Av.ptrB TypeDesc.isRow List.range_zero Option.some.injEq exists_eq_left' exists_eq_left exists_eq' exists_and_left exists_and_right exists_const true_and and_true and_self false_and and_false or_false false_or or_true true_or if_true if_false Bool.false_eq_true List.zipIdx_cons List.zipIdx_nil List.map_cons List.map_nil List.filter_cons List.filter_nil List.contains_cons List.contains_nil List.drop_succ_cons List.drop_zero List.take_succ_cons List.take_zero List.take_nil List.drop_nil List.length_cons List.length_nil List.cons_append List.nil_append List.append_nil List.getElem?_cons_zero List.getElem?_cons_succ List.getElem?_nil Option.bind_some Option.bind_none Option.map_some Option.map_none Option.isNone_none Option.isNone_some Option.isSome_some Option.isSome_none Bool.and_true Bool.true_and Bool.and_false Bool.false_and Bool.or_false Bool.false_or Bool.not_true Bool.not_false beq_true beq_false Bool.true_beq Bool.false_beq Loc.s.injEq Loc.b.injEq decide_true decide_false beq_self_eq_true Nat.zero_add Nat.add_zero List.getElem?_toArray List.toList_toArray List.size_toArray Value.oneCell' List.all_cons List.all_nil Value.int.injEq AV.v.injEq AV.sl.injEq AV.agg.injEq AV.ref.injEq AV.ept.injEq AV.tup.injEq Value.bool.injEq PV.v.injEq PV.sl.injEq List.isEmpty_nil List.isEmpty_cons forall_const not_true_eq_false not_false_eq_true true_implies false_implies Value.string.injEq List.length_map List.getElem?_map Int.toNat_natCast Int.natCast_nonneg List.length_append Value.cells implies_true TypeDesc.struct.injEq TypeDesc.slice.injEq TypeDesc.array.injEq List.getElem?_toArray Prod.mk.injEq and_assoc exists_false List.cons.injEq Operand.tmp.injEq ite_self AV.fnv.injEq AV.clo.injEq ne_eq eq_self Tryz.sz3 Tryz.zr3 Tryz.by3 Tryz.pl3 Tryz.is3 Tryz.underlying3 Tryz.sz4 Tryz.zr4 Tryz.by4 Tryz.pl4 Tryz.is4 Tryz.underlying4 Tryz.sz43 Tryz.zr43 Tryz.by43 Tryz.pl43 Tryz.is43 Tryz.underlying43 Tryz.sz35 Tryz.zr35 Tryz.by35 Tryz.pl35 Tryz.is35 Tryz.underlying35 Tryz.sz33 Tryz.zr33 Tryz.by33 Tryz.pl33 Tryz.is33 Tryz.underlying33 Tryz.sz28 Tryz.zr28 Tryz.by28 Tryz.pl28 Tryz.is28 Tryz.underlying28 Tryz.sz39 Tryz.zr39 Tryz.by39 Tryz.pl39 Tryz.is39 Tryz.underlying39 Tryz.sz57 Tryz.zr57 Tryz.by57 Tryz.pl57 Tryz.is57 Tryz.underlying57 Tryz.sz137 Tryz.zr137 Tryz.by137 Tryz.pl137 Tryz.is137 Tryz.underlying137 Tryz.sz66 Tryz.zr66 Tryz.by66 Tryz.pl66 Tryz.is66 Tryz.underlying66 Tryz.sz64 Tryz.zr64 Tryz.by64 Tryz.pl64 Tryz.is64 Tryz.underlying64 Tryz.sz60 Tryz.zr60 Tryz.by60 Tryz.pl60 Tryz.is60 Tryz.underlying60 Tryz.sz100 Tryz.zr100 Tryz.by100 Tryz.pl100 Tryz.is100 Tryz.underlying100 Tryz.sz103 Tryz.zr103 Tryz.by103 Tryz.pl103 Tryz.is103 Tryz.underlying103 Tryz.sz26 Tryz.zr26 Tryz.by26 Tryz.pl26 Tryz.is26 Tryz.underlying26 Tryz.sz120 Tryz.zr120 Tryz.by120 Tryz.pl120 Tryz.is120 Tryz.underlying120 Tryz.sz117 Tryz.zr117 Tryz.by117 Tryz.pl117 Tryz.is117 Tryz.underlying117 Tryz.sz30 Tryz.zr30 Tryz.by30 Tryz.pl30 Tryz.is30 Tryz.underlying30 Tryz.sz31 Tryz.zr31 Tryz.by31 Tryz.pl31 Tryz.is31 Tryz.underlying31 Tryz.sz40 Tryz.zr40 Tryz.by40 Tryz.pl40 Tryz.is40 Tryz.underlying40 Tryz.sz23 Tryz.zr23 Tryz.by23 Tryz.pl23 Tryz.is23 Tryz.underlying23 Tryz.sz24 Tryz.zr24 Tryz.by24 Tryz.pl24 Tryz.is24 Tryz.underlying24 Tryz.sz22 Tryz.zr22 Tryz.by22 Tryz.pl22 Tryz.is22 Tryz.underlying22 Tryz.sz141 Tryz.zr141 Tryz.by141 Tryz.pl141 Tryz.is141 Tryz.underlying141 Tryz.sz42 Tryz.zr42 Tryz.by42 Tryz.pl42 Tryz.is42 Tryz.underlying42 Tryz.sz29 Tryz.zr29 Tryz.by29 Tryz.pl29 Tryz.is29 Tryz.underlying29 Tryz.sz83 Tryz.zr83 Tryz.by83 Tryz.pl83 Tryz.is83 Tryz.underlying83 Tryz.sz67 Tryz.zr67 Tryz.by67 Tryz.pl67 Tryz.is67 Tryz.underlying67 Tryz.sz20 Tryz.zr20 Tryz.by20 Tryz.pl20 Tryz.is20 Tryz.underlying20 Tryz.sz89 Tryz.zr89 Tryz.by89 Tryz.pl89 Tryz.is89 Tryz.underlying89 Tryz.sz132 Tryz.zr132 Tryz.by132 Tryz.pl132 Tryz.is132 Tryz.underlying132 Tryz.sz9 Tryz.zr9 Tryz.by9 Tryz.pl9 Tryz.is9 Tryz.underlying9 Tryz.it39 Tryz.eg39 Tryz.it137 Tryz.eg137 Tryz.it66 Tryz.eg66 Tryz.it28 Tryz.eg28 Tryz.it60 Tryz.eg60 all_arr loc_ss loc_sb loc_bs loc_bb arr_two arr_one rg1 rg2 rg3 rg4 rg5 rg6 rg7 rg8 ResultVar.tmp.injEq Bool.not_true Bool.not_false undef Rc.Rec.pv Nd.Fl.pv Rc.Dlv.pv Rc.Att.pv Mo.Lt.pv Fn.func.injEq Mo.Net.pv Mo.Lk.pv prow_pv irow_pv Br.pv
def wrongB (x : Int) : Bool := decide (x < 0) || decide (1073741824 < x)

set_option maxHeartbeats 2000000 in
theorem num1_ok (x : Int) : FnOK Tryz.prog 87 [iv x] ⟨bv (wrongB x), none⟩ := by
  refine fn_ok Tryz.func87 (by kernel_rfl) rfl (by rw [Tryz.ntmps87]; exact of_decide_eq_true rfl) (fun F hF => ?_)
  rw [Tryz.ntmps87] at hF
  rw [Tryz.results87]
  unfold wrongB
  cases h1 : decide (x < 0) <;> cases h2 : decide ((1073741824 : Int) < x)
  · repeat (first
      | ((first | with_reducible refine sops_go ?_ | with_reducible refine headW_end ?_ | with_reducible refine sops_end ?_ | with_reducible refine awp_if ?_ | with_reducible refine awp_skip ?_ | with_reducible refine awp_ret ?_ | with_reducible refine awp_exit ?_); simp only [go_sem, simprocAttr, hF, h1, h2])
      | (with_reducible refine awp_seq_k (fun _ _ => ?_))
      | (with_reducible refine awp_region [] ?_)
      | (with_reducible refine awp_block ?_)
      | go_step)
    all_goals (try rfl)
  · repeat (first
      | ((first | with_reducible refine sops_go ?_ | with_reducible refine headW_end ?_ | with_reducible refine sops_end ?_ | with_reducible refine awp_if ?_ | with_reducible refine awp_skip ?_ | with_reducible refine awp_ret ?_ | with_reducible refine awp_exit ?_); simp only [go_sem, simprocAttr, hF, h1, h2])
      | (with_reducible refine awp_seq_k (fun _ _ => ?_))
      | (with_reducible refine awp_region [] ?_)
      | (with_reducible refine awp_block ?_)
      | go_step)
    all_goals (try rfl)
  · repeat (first
      | ((first | with_reducible refine sops_go ?_ | with_reducible refine headW_end ?_ | with_reducible refine sops_end ?_ | with_reducible refine awp_if ?_ | with_reducible refine awp_skip ?_ | with_reducible refine awp_ret ?_ | with_reducible refine awp_exit ?_); simp only [go_sem, simprocAttr, hF, h1, h2])
      | (with_reducible refine awp_seq_k (fun _ _ => ?_))
      | (with_reducible refine awp_region [] ?_)
      | (with_reducible refine awp_block ?_)
      | go_step)
    all_goals (try rfl)
  · repeat (first
      | ((first | with_reducible refine sops_go ?_ | with_reducible refine headW_end ?_ | with_reducible refine sops_end ?_ | with_reducible refine awp_if ?_ | with_reducible refine awp_skip ?_ | with_reducible refine awp_ret ?_ | with_reducible refine awp_exit ?_); simp only [go_sem, simprocAttr, hF, h1, h2])
      | (with_reducible refine awp_seq_k (fun _ _ => ?_))
      | (with_reducible refine awp_region [] ?_)
      | (with_reducible refine awp_block ?_)
      | go_step)
    all_goals (try rfl)

set_option maxHeartbeats 2000000 in
theorem numbers_ok (l : List Int) (hl : l.length ≤ 1000000) : FnOK Tryz.prog 44 [.sl 1 (l.map irow_pv)] ⟨bv (!(l.any wrongB)), none⟩ := by
  refine fn_ok Tryz.func44 (by kernel_rfl) rfl (by rw [Tryz.ntmps44]; exact of_decide_eq_true rfl) (fun F hF => ?_)
  rw [Tryz.ntmps44] at hF
  rw [Tryz.results44]
  repeat (first
    | ((first | with_reducible refine sops_go ?_ | with_reducible refine headW_end ?_ | with_reducible refine sops_end ?_ | with_reducible refine awp_if ?_ | with_reducible refine awp_skip ?_ | with_reducible refine awp_ret ?_ | with_reducible refine awp_exit ?_); simp only [go_sem, simprocAttr, hF])
    | (with_reducible refine awp_seq_k (fun _ _ => ?_))
    | (with_reducible refine awp_region [] ?_)
    | (with_reducible refine awp_block ?_)
    | go_step)
  refine ⟨_, contN_ok 87 [] wrongB l hl (fun y _ => num1_ok y), ?_⟩
  simp only [go_sem, simprocAttr, hF]
  repeat (first
    | ((first | with_reducible refine sops_go ?_ | with_reducible refine headW_end ?_ | with_reducible refine sops_end ?_ | with_reducible refine awp_if ?_ | with_reducible refine awp_skip ?_ | with_reducible refine awp_ret ?_ | with_reducible refine awp_exit ?_); simp only [go_sem, simprocAttr, hF])
    | (with_reducible refine awp_seq_k (fun _ _ => ?_))
    | (with_reducible refine awp_region [] ?_)
    | (with_reducible refine awp_block ?_)
    | go_step)
  all_goals (try rfl)
end Go.Proofs.YticnppnejafhdaaGreatDoor
/- The text of an explanation: plain. -/
namespace Go.Proofs.YticnppnejafhdaaGreatDoor
open Go.RowKit
open Nd Rc Mo
open Av
set_option maxRecDepth 100000
set_option linter.unusedSimpArgs false

def m0 (x : Int) : Int := if x < 0 then 0 else x
def headN (x : Lt) : List Pt := [.s ⟨#[102, 108, 111, 119]⟩, .n x.fl, .s ⟨#[102, 114, 97, 109, 101]⟩, .n x.fr, .s ⟨#[110, 111, 116, 32, 100, 101, 108, 105, 118, 101, 114, 101, 100]⟩]
def headD (x : Lt) : List Pt := [.s ⟨#[102, 108, 111, 119]⟩, .n x.fl, .s ⟨#[102, 114, 97, 109, 101]⟩, .n x.fr, .s ⟨#[108, 97, 116, 101, 32, 98, 121, 32, 116, 104, 101, 32, 100, 101, 108, 105, 118, 101, 114, 121, 32, 105, 110, 32, 115, 108, 111, 116]⟩, .n x.sl]
def headL (x : Lt) : List Pt := if 0 ≤ x.sl then headD x else headN x
def causeP (c : Br) : List Pt := [.s ⟨#[108, 105, 110, 107]⟩, .n c.fm, .s ⟨#[116, 111]⟩, .n c.tt, .s ⟨#[108, 111, 115, 116, 32, 105, 110, 32, 115, 108, 111, 116, 115]⟩]
def causeL (c : Br) : List Pt := causeP c ++ c.sl.map Pt.n
def badC (c : Br) : Bool := [c.fl, c.fr, c.fm, c.tt].any wrongB || (c.sl.any wrongB || (decide ((c.sl.length : Int) < 1) || decide ((8 : Int) < (c.sl.length : Int))))
def outT (h : ByteArray) (l : List Br) : ByteArray := l.foldl (fun o c => o ++ lineT (causeL c)) h
/-- The text of an explanation. -/
def fmtX (x : Ex) : ByteArray × Int :=
  if ([x.lt.fl, x.lt.fr, m0 x.lt.sl].any wrongB || decide ((1024 : Int) < (x.ca.length : Int))) = true then (⟨#[]⟩, 1)
  else if x.ca.any badC = true then (⟨#[]⟩, 1) else (outT (lineT (headL x.lt)) x.ca, 0)
theorem wrongB_f {x : Int} (h : wrongB x = false) : 0 ≤ x ∧ x ≤ 1073741824 := by
  unfold wrongB at h
  rw [Bool.or_eq_false_iff, decide_eq_false_iff_not, decide_eq_false_iff_not] at h
  omega
theorem txtI_size {x : Int} (h : 0 ≤ x ∧ x ≤ 1073741824) : (txtI x).size ≤ 21 := by
  show (Lib.itoa x).toArray.size ≤ 21
  rw [List.size_toArray]
  exact Lib.itoa_length_le x (by omega) (by omega)
theorem lensT_cons (p : Pt) (l : List Pt) : lensT (p :: l) = p.txt.size + 1 + lensT l := rfl
theorem lensT_append (l m : List Pt) : lensT (l ++ m) = lensT l + lensT m := by
  induction l with
  | nil => simp [lensT]
  | cons p l ih => rw [List.cons_append, lensT_cons, lensT_cons, ih]; omega
theorem lensT_nums {l : List Int} (h : l.any wrongB = false) : lensT (l.map Pt.n) ≤ 22 * l.length := by
  induction l with
  | nil => exact Nat.zero_le _
  | cons x l ih =>
    rw [List.any_cons, Bool.or_eq_false_iff] at h
    have h1 := txtI_size (wrongB_f h.1)
    have h2 := ih h.2
    rw [List.map_cons, lensT_cons, List.length_cons]
    show (txtI x).size + 1 + _ ≤ _
    omega
theorem badC_f {c : Br} (h : badC c = false) : ([c.fl, c.fr, c.fm, c.tt].any wrongB = false ∧ c.sl.any wrongB = false ∧ 1 ≤ c.sl.length ∧ c.sl.length ≤ 8) ∧ (0 ≤ c.fm ∧ c.fm ≤ 1073741824) ∧ (0 ≤ c.tt ∧ c.tt ≤ 1073741824) := by
  unfold badC at h
  simp only [Bool.or_eq_false_iff, decide_eq_false_iff_not] at h
  obtain ⟨h1, h2, h3, h4⟩ := h
  refine ⟨⟨h1, h2, by omega, by omega⟩, ?_, ?_⟩
  · simp only [List.any_cons, Bool.or_eq_false_iff] at h1
    exact wrongB_f h1.2.2.1
  · simp only [List.any_cons, Bool.or_eq_false_iff] at h1
    exact wrongB_f h1.2.2.2.1
theorem causeP_len {c : Br} (h1 : 0 ≤ c.fm ∧ c.fm ≤ 1073741824) (h2 : 0 ≤ c.tt ∧ c.tt ≤ 1073741824) : lensT (causeP c) ≤ 100 := by
  have a := txtI_size h1
  have b := txtI_size h2
  show 4 + 1 + ((txtI c.fm).size + 1 + (2 + 1 + ((txtI c.tt).size + 1 + (13 + 1 + 0)))) ≤ 100
  omega
theorem causeL_len {c : Br} (h : badC c = false) : lensT (causeL c) ≤ 300 := by
  obtain ⟨⟨_, h1, _, h2⟩, h3, h4⟩ := badC_f h
  have a := causeP_len h3 h4
  have b := lensT_nums h1
  unfold causeL
  rw [lensT_append]
  omega
theorem headN_len {x : Lt} (h1 : 0 ≤ x.fl ∧ x.fl ≤ 1073741824) (h2 : 0 ≤ x.fr ∧ x.fr ≤ 1073741824) : lensT (headN x) ≤ 200 := by
  have a := txtI_size h1
  have b := txtI_size h2
  show 4 + 1 + ((txtI x.fl).size + 1 + (5 + 1 + ((txtI x.fr).size + 1 + (13 + 1 + 0)))) ≤ 200
  omega
theorem headD_len {x : Lt} (h1 : 0 ≤ x.fl ∧ x.fl ≤ 1073741824) (h2 : 0 ≤ x.fr ∧ x.fr ≤ 1073741824) (h3 : 0 ≤ x.sl ∧ x.sl ≤ 1073741824) : lensT (headD x) ≤ 200 := by
  have a := txtI_size h1
  have b := txtI_size h2
  have c := txtI_size h3
  show 4 + 1 + ((txtI x.fl).size + 1 + (5 + 1 + ((txtI x.fr).size + 1 + (28 + 1 + ((txtI x.sl).size + 1 + 0))))) ≤ 200
  omega
theorem outT_size {h : ByteArray} : ∀ {l : List Br}, l.any badC = false → (outT h l).size ≤ h.size + 400 * l.length := by
  intro l
  induction l generalizing h with
  | nil => intro _; exact Nat.le_refl _
  | cons c l ih =>
    intro hb
    rw [List.any_cons, Bool.or_eq_false_iff] at hb
    have h1 := ih (h := h ++ lineT (causeL c)) hb.2
    have h2 := lineT_size (causeL c)
    have h3 := causeL_len hb.1
    rw [ByteArray.size_append] at h1
    show (outT (h ++ lineT (causeL c)) l).size ≤ _
    rw [List.length_cons]
    omega
theorem outT_snoc (h : ByteArray) (l : List Br) (c : Br) : outT h (l ++ [c]) = outT h l ++ lineT (causeL c) := by
  unfold outT
  rw [List.foldl_append]
  rfl
end Go.Proofs.YticnppnejafhdaaGreatDoor
/- The example of the laws: plain. -/
namespace Go.Proofs.YticnppnejafhdaaGreatDoor
open Go.RowKit
open Nd Rc Mo
open Av
set_option maxRecDepth 100000
set_option linter.unusedSimpArgs false

def nL : Net := ⟨3, 1, 1000, [[0, 9, 0], [9, 0, 9], [0, 9, 0]], [⟨0, 1, 1⟩, ⟨1, 0, 1⟩, ⟨1, 2, 1⟩, ⟨2, 1, 1⟩], [5, 5, 5, 5]⟩
def fL : Fl := ⟨6, 2, 0, 8, 0, 8⟩
def psL : List (List Int) := [[2, 1, 0]]
def atL (j : Nat) : Att := ⟨25 + (j : Int), 3, 1 + (j : Int), 0, 2, 1, 6, 3⟩
def rL : Rec := ⟨32, [atL 0, atL 1], []⟩
def bL : Br := ⟨6, 3, 2, 1, [25, 26]⟩
def xL : Ex := ⟨⟨6, 3, -1⟩, [bL]⟩
def yL : Ex := ⟨⟨6, 3, -1⟩, []⟩
def sL : ByteArray := ⟨#[102, 108, 111, 119, 32, 54, 32, 102, 114, 97, 109, 101, 32, 51, 32, 110, 111, 116, 32, 100, 101, 108, 105, 118, 101, 114, 101, 100, 10, 108, 105, 110, 107, 32, 50, 32, 116, 111, 32, 49, 32, 108, 111, 115, 116, 32, 105, 110, 32, 115, 108, 111, 116, 115, 32, 50, 53, 32, 50, 54, 10]⟩
theorem aw_find3 : findX nL fL psL rL 3 = (xL, 0) := of_decide_eq_true (by kernel_rfl)
theorem aw_find2 : findX nL fL psL rL 2 = (ex0, 7) := of_decide_eq_true (by kernel_rfl)
theorem aw_causes : causesR nL fL rL 3 2 1 = ([bL], 0) := of_decide_eq_true (by kernel_rfl)
theorem aw_ck : checkX nL fL psL rL xL = 0 := of_decide_eq_true (by kernel_rfl)
theorem aw_ck2 : checkX nL fL psL rL yL = 20 := of_decide_eq_true (by kernel_rfl)
theorem txt1 {n : Nat} (h : n < 10) : txtI (n : Int) = ⟨#[UInt8.ofNat (48 + n)]⟩ := by
  unfold txtI
  rw [Lib.itoa_nonneg, Lib.decDigits, dif_pos h]
theorem txt2 {n : Nat} (h0 : 10 ≤ n) (h : n < 100) : txtI (n : Int) = ⟨#[UInt8.ofNat (48 + n / 10), UInt8.ofNat (48 + n % 10)]⟩ := by
  unfold txtI
  rw [Lib.itoa_nonneg, Lib.decDigits, dif_neg (by omega), Lib.decDigits, dif_pos (by omega)]
  rfl
theorem aw_fmt : fmtX xL = (sL, 0) := by
  have t1 : txtI 1 = ⟨#[49]⟩ := txt1 (n := 1) (by decide)
  have t2 : txtI 2 = ⟨#[50]⟩ := txt1 (n := 2) (by decide)
  have t3 : txtI 3 = ⟨#[51]⟩ := txt1 (n := 3) (by decide)
  have t6 : txtI 6 = ⟨#[54]⟩ := txt1 (n := 6) (by decide)
  have t25 : txtI 25 = ⟨#[50, 53]⟩ := txt2 (n := 25) (by decide) (by decide)
  have t26 : txtI 26 = ⟨#[50, 54]⟩ := txt2 (n := 26) (by decide) (by decide)
  have h1 : lineT (headL xL.lt) = ⟨#[102, 108, 111, 119, 32, 54, 32, 102, 114, 97, 109, 101, 32, 51, 32, 110, 111, 116, 32, 100, 101, 108, 105, 118, 101, 114, 101, 100, 10]⟩ := by
    show joinT [⟨#[102, 108, 111, 119]⟩, txtI 6, ⟨#[102, 114, 97, 109, 101]⟩, txtI 3, ⟨#[110, 111, 116, 32, 100, 101, 108, 105, 118, 101, 114, 101, 100]⟩] ⟨#[32]⟩ ++ ⟨#[10]⟩ = _
    rw [t6, t3]
    rfl
  have h2 : lineT (causeL bL) = ⟨#[108, 105, 110, 107, 32, 50, 32, 116, 111, 32, 49, 32, 108, 111, 115, 116, 32, 105, 110, 32, 115, 108, 111, 116, 115, 32, 50, 53, 32, 50, 54, 10]⟩ := by
    show joinT [⟨#[108, 105, 110, 107]⟩, txtI 2, ⟨#[116, 111]⟩, txtI 1, ⟨#[108, 111, 115, 116, 32, 105, 110, 32, 115, 108, 111, 116, 115]⟩, txtI 25, txtI 26] ⟨#[32]⟩ ++ ⟨#[10]⟩ = _
    rw [t1, t2, t25, t26]
    rfl
  have h3 : fmtX xL = (lineT (headL xL.lt) ++ lineT (causeL bL), 0) := rfl
  rw [h3, h1, h2]
  rfl
end Go.Proofs.YticnppnejafhdaaGreatDoor
/- The example of the laws, by abstract states. -/
namespace Go.Proofs.YticnppnejafhdaaGreatDoor
open Go.RowKit
open Nd Rc Mo
open Av
set_option maxRecDepth 100000
set_option linter.unusedSimpArgs false
attribute [local go_sem] Av.guardB Av.sop Av.hopx Av.hop Av.hopCall Av.hopF Av.hopB Av.evo Av.evos Av.avCells Av.loadK Av.bound Av.abin Av.aun Av.partsC Av.lfill Av.placesB Av.setAt Av.stl Av.takes Av.src Av.bxOf Av.ownOf Av.St.res Av.St.put Av.St.addBox Av.St.putOwn Av.delL Av.delS Av.look Av.lookL Av.storeSt Av.stealSt Av.St.setBox Av.keepL Av.hitB Av.snap Av.snaps Av.snapCaps Av.AV.lit Av.AV.refs Av.capRefs Av.PV.av Av.CV.av Av.startSt Av.steals Av.athen Av.ablock Av.appK Av.AllS Av.AllO Av.AllR Av.keepS Av.St.avAt Av.RetOK Av.retAll Av.retOne Av.intsOf Av.ptrB TypeDesc.isRow List.range_zero Option.some.injEq exists_eq_left' exists_eq_left exists_eq' exists_and_left exists_and_right exists_const true_and and_true and_self false_and and_false or_false false_or or_true true_or if_true if_false Bool.false_eq_true List.zipIdx_cons List.zipIdx_nil List.map_cons List.map_nil List.filter_cons List.filter_nil List.contains_cons List.contains_nil List.drop_succ_cons List.drop_zero List.take_succ_cons List.take_zero List.take_nil List.drop_nil List.length_cons List.length_nil List.cons_append List.nil_append List.append_nil List.getElem?_cons_zero List.getElem?_cons_succ List.getElem?_nil Option.bind_some Option.bind_none Option.map_some Option.map_none Option.isNone_none Option.isNone_some Option.isSome_some Option.isSome_none Bool.and_true Bool.true_and Bool.and_false Bool.false_and Bool.or_false Bool.false_or Bool.not_true Bool.not_false beq_true beq_false Bool.true_beq Bool.false_beq Loc.s.injEq Loc.b.injEq decide_true decide_false beq_self_eq_true Nat.zero_add Nat.add_zero List.getElem?_toArray List.toList_toArray List.size_toArray Value.oneCell' List.all_cons List.all_nil Value.int.injEq AV.v.injEq AV.sl.injEq AV.agg.injEq AV.ref.injEq AV.ept.injEq AV.tup.injEq Value.bool.injEq PV.v.injEq PV.sl.injEq List.isEmpty_nil List.isEmpty_cons forall_const not_true_eq_false not_false_eq_true true_implies false_implies Value.string.injEq List.length_map List.getElem?_map Int.toNat_natCast Int.natCast_nonneg List.length_append Value.cells implies_true TypeDesc.struct.injEq TypeDesc.slice.injEq TypeDesc.array.injEq List.getElem?_toArray Prod.mk.injEq and_assoc exists_false List.cons.injEq Operand.tmp.injEq ite_self AV.fnv.injEq AV.clo.injEq ne_eq eq_self Tryz.sz3 Tryz.zr3 Tryz.by3 Tryz.pl3 Tryz.is3 Tryz.underlying3 Tryz.sz4 Tryz.zr4 Tryz.by4 Tryz.pl4 Tryz.is4 Tryz.underlying4 Tryz.sz43 Tryz.zr43 Tryz.by43 Tryz.pl43 Tryz.is43 Tryz.underlying43 Tryz.sz35 Tryz.zr35 Tryz.by35 Tryz.pl35 Tryz.is35 Tryz.underlying35 Tryz.sz33 Tryz.zr33 Tryz.by33 Tryz.pl33 Tryz.is33 Tryz.underlying33 Tryz.sz28 Tryz.zr28 Tryz.by28 Tryz.pl28 Tryz.is28 Tryz.underlying28 Tryz.sz39 Tryz.zr39 Tryz.by39 Tryz.pl39 Tryz.is39 Tryz.underlying39 Tryz.sz57 Tryz.zr57 Tryz.by57 Tryz.pl57 Tryz.is57 Tryz.underlying57 Tryz.sz137 Tryz.zr137 Tryz.by137 Tryz.pl137 Tryz.is137 Tryz.underlying137 Tryz.sz66 Tryz.zr66 Tryz.by66 Tryz.pl66 Tryz.is66 Tryz.underlying66 Tryz.sz64 Tryz.zr64 Tryz.by64 Tryz.pl64 Tryz.is64 Tryz.underlying64 Tryz.sz60 Tryz.zr60 Tryz.by60 Tryz.pl60 Tryz.is60 Tryz.underlying60 Tryz.sz100 Tryz.zr100 Tryz.by100 Tryz.pl100 Tryz.is100 Tryz.underlying100 Tryz.sz103 Tryz.zr103 Tryz.by103 Tryz.pl103 Tryz.is103 Tryz.underlying103 Tryz.sz26 Tryz.zr26 Tryz.by26 Tryz.pl26 Tryz.is26 Tryz.underlying26 Tryz.sz120 Tryz.zr120 Tryz.by120 Tryz.pl120 Tryz.is120 Tryz.underlying120 Tryz.sz117 Tryz.zr117 Tryz.by117 Tryz.pl117 Tryz.is117 Tryz.underlying117 Tryz.sz30 Tryz.zr30 Tryz.by30 Tryz.pl30 Tryz.is30 Tryz.underlying30 Tryz.sz31 Tryz.zr31 Tryz.by31 Tryz.pl31 Tryz.is31 Tryz.underlying31 Tryz.sz40 Tryz.zr40 Tryz.by40 Tryz.pl40 Tryz.is40 Tryz.underlying40 Tryz.sz23 Tryz.zr23 Tryz.by23 Tryz.pl23 Tryz.is23 Tryz.underlying23 Tryz.sz24 Tryz.zr24 Tryz.by24 Tryz.pl24 Tryz.is24 Tryz.underlying24 Tryz.sz22 Tryz.zr22 Tryz.by22 Tryz.pl22 Tryz.is22 Tryz.underlying22 Tryz.sz141 Tryz.zr141 Tryz.by141 Tryz.pl141 Tryz.is141 Tryz.underlying141 Tryz.sz42 Tryz.zr42 Tryz.by42 Tryz.pl42 Tryz.is42 Tryz.underlying42 Tryz.sz29 Tryz.zr29 Tryz.by29 Tryz.pl29 Tryz.is29 Tryz.underlying29 Tryz.sz83 Tryz.zr83 Tryz.by83 Tryz.pl83 Tryz.is83 Tryz.underlying83 Tryz.sz67 Tryz.zr67 Tryz.by67 Tryz.pl67 Tryz.is67 Tryz.underlying67 Tryz.sz20 Tryz.zr20 Tryz.by20 Tryz.pl20 Tryz.is20 Tryz.underlying20 Tryz.sz89 Tryz.zr89 Tryz.by89 Tryz.pl89 Tryz.is89 Tryz.underlying89 Tryz.sz132 Tryz.zr132 Tryz.by132 Tryz.pl132 Tryz.is132 Tryz.underlying132 Tryz.sz113 Tryz.zr113 Tryz.by113 Tryz.pl113 Tryz.is113 Tryz.underlying113 Tryz.sz9 Tryz.zr9 Tryz.by9 Tryz.pl9 Tryz.is9 Tryz.underlying9 Tryz.it39 Tryz.eg39 Tryz.it137 Tryz.eg137 Tryz.it66 Tryz.eg66 Tryz.it28 Tryz.eg28 Tryz.it60 Tryz.eg60 all_arr loc_ss loc_sb loc_bs loc_bb arr_two arr_one rg1 rg2 rg3 rg4 rg5 rg6 rg7 rg8 ResultVar.tmp.injEq Bool.not_true Bool.not_false undef Rc.Rec.pv Nd.Fl.pv Rc.Dlv.pv Rc.Att.pv Mo.Lt.pv Fn.func.injEq Mo.Net.pv Mo.Lk.pv prow_pv irow_pv Br.pv
theorem cz0 : ((0 : Nat) : Int) = 0 := rfl
theorem cz1 : ((1 : Nat) : Int) = 1 := rfl
theorem cz2 : ((2 : Nat) : Int) = 2 := rfl
theorem cz3 : ((3 : Nat) : Int) = 3 := rfl
theorem cz4 : ((4 : Nat) : Int) = 4 := rfl
theorem tz0 : Int.toNat 0 = 0 := rfl
theorem tz1 : Int.toNat 1 = 1 := rfl
theorem tz2 : Int.toNat 2 = 2 := rfl
theorem tz3 : Int.toNat 3 = 3 := rfl

set_option maxHeartbeats 20000000 in
theorem lineL_ok : FnOK Tryz.prog 31 [] ⟨.tup [.g nL.pv, .g fL.pv, .c (.sl 1 (psL.map prow_pv))], none⟩ := by
  refine fn_ok Tryz.func31 (by kernel_rfl) rfl (by rw [Tryz.ntmps31]; exact of_decide_eq_true rfl) (fun F hF => ?_)
  rw [Tryz.ntmps31] at hF
  rw [Tryz.results31]
  repeat (first
    | ((first | with_reducible refine sops_go ?_ | with_reducible refine headW_end ?_ | with_reducible refine sops_end ?_ | with_reducible refine awp_if ?_ | with_reducible refine awp_skip ?_ | with_reducible refine awp_ret ?_ | with_reducible refine awp_exit ?_); simp only [go_sem, simprocAttr, hF, cz0, cz1, cz2, cz3, cz4, tz0, tz1, tz2, tz3])
    | (with_reducible refine awp_seq_k (fun _ _ => ?_))
    | (with_reducible refine awp_region [23] ?_)
    | (with_reducible refine awp_block ?_)
    | go_step)
  refine awp_nilB 3 4 3 60 (cs := _) rfl rfl ?_
  simp only [go_sem, simprocAttr, hF, cz0, cz1, cz2, cz3, cz4, tz0, tz1, tz2, tz3]
  repeat (first
    | ((first | with_reducible refine sops_go ?_ | with_reducible refine headW_end ?_ | with_reducible refine sops_end ?_ | with_reducible refine awp_if ?_ | with_reducible refine awp_skip ?_ | with_reducible refine awp_ret ?_ | with_reducible refine awp_exit ?_); simp only [go_sem, simprocAttr, hF, cz0, cz1, cz2, cz3, cz4, tz0, tz1, tz2, tz3])
    | (with_reducible refine awp_seq_k (fun _ _ => ?_))
    | (with_reducible refine awp_region [23] ?_)
    | (with_reducible refine awp_block ?_)
    | go_step)
  refine awp_loop_by (ι := {k : Nat // k ≤ 4}) (fun k σ => ⟨(18, iv (k.1 : Int)) :: keepS [0, 1, 3, 16, 17] σ.slot, (3, [ip 3, .sl 1 (nL.pow.map prow_pv), ip 1, ip 1000, .sl 3 ((nL.lk.take k.1).map Lk.pv), .sl 1 (nL.mg.map irow_pv)]) :: keepS [0, 1] σ.box, [(.b 3 4, (60, 3))], σ.ext⟩) (fun k => 4 - k.1) ⟨0, by omega⟩ (sub_mk ?_) (fun R hR k => ?_)
  · simp only [go_sem, simprocAttr, hF]
    repeat' (first | rfl | refine ⟨?_, ?_⟩)
  obtain ⟨k, hk⟩ := k
  dsimp only
  simp only [go_sem, simprocAttr, hF]
  have hks : k = 0 ∨ k = 1 ∨ k = 2 ∨ k = 3 ∨ k = 4 := by omega
  rcases hks with rfl | rfl | rfl | rfl | rfl
  · have hd : decide (((0 : Nat) : Int) < 4) = true := rfl
    have hw : IntKind.i64.wrap (((0 : Nat) : Int) + 1) = ((1 : Nat) : Int) := rfl
    have hTk : (nL.lk.take 0).length ≤ 99999999 := by decide
    repeat (first
      | ((first | with_reducible refine sops_go ?_ | with_reducible refine headW_end ?_ | with_reducible refine sops_end ?_ | with_reducible refine awp_if ?_ | with_reducible refine awp_skip ?_ | with_reducible refine awp_ret ?_ | with_reducible refine awp_exit ?_); simp only [go_sem, simprocAttr, hF, hd, hTk, Int.toNat_natCast, tz0, tz1, tz2, tz3])
      | (with_reducible refine awp_seq_k (fun _ _ => ?_))
      | (with_reducible refine awp_region [23] ?_)
      | (with_reducible refine awp_block ?_)
      | go_step)
    refine ⟨⟨1, by omega⟩, by dsimp only; omega, hR _ _ (sub_mk ?_)⟩
    simp only [go_sem, simprocAttr, hF, hw]
    repeat' (first | rfl | exact True.intro | refine ⟨?_, ?_⟩)
  · have hd : decide (((1 : Nat) : Int) < 4) = true := rfl
    have hw : IntKind.i64.wrap (((1 : Nat) : Int) + 1) = ((2 : Nat) : Int) := rfl
    have hTk : (nL.lk.take 1).length ≤ 99999999 := by decide
    repeat (first
      | ((first | with_reducible refine sops_go ?_ | with_reducible refine headW_end ?_ | with_reducible refine sops_end ?_ | with_reducible refine awp_if ?_ | with_reducible refine awp_skip ?_ | with_reducible refine awp_ret ?_ | with_reducible refine awp_exit ?_); simp only [go_sem, simprocAttr, hF, hd, hTk, Int.toNat_natCast, tz0, tz1, tz2, tz3])
      | (with_reducible refine awp_seq_k (fun _ _ => ?_))
      | (with_reducible refine awp_region [23] ?_)
      | (with_reducible refine awp_block ?_)
      | go_step)
    refine ⟨⟨2, by omega⟩, by dsimp only; omega, hR _ _ (sub_mk ?_)⟩
    simp only [go_sem, simprocAttr, hF, hw]
    repeat' (first | rfl | exact True.intro | refine ⟨?_, ?_⟩)
  · have hd : decide (((2 : Nat) : Int) < 4) = true := rfl
    have hw : IntKind.i64.wrap (((2 : Nat) : Int) + 1) = ((3 : Nat) : Int) := rfl
    have hTk : (nL.lk.take 2).length ≤ 99999999 := by decide
    repeat (first
      | ((first | with_reducible refine sops_go ?_ | with_reducible refine headW_end ?_ | with_reducible refine sops_end ?_ | with_reducible refine awp_if ?_ | with_reducible refine awp_skip ?_ | with_reducible refine awp_ret ?_ | with_reducible refine awp_exit ?_); simp only [go_sem, simprocAttr, hF, hd, hTk, Int.toNat_natCast, tz0, tz1, tz2, tz3])
      | (with_reducible refine awp_seq_k (fun _ _ => ?_))
      | (with_reducible refine awp_region [23] ?_)
      | (with_reducible refine awp_block ?_)
      | go_step)
    refine ⟨⟨3, by omega⟩, by dsimp only; omega, hR _ _ (sub_mk ?_)⟩
    simp only [go_sem, simprocAttr, hF, hw]
    repeat' (first | rfl | exact True.intro | refine ⟨?_, ?_⟩)
  · have hd : decide (((3 : Nat) : Int) < 4) = true := rfl
    have hw : IntKind.i64.wrap (((3 : Nat) : Int) + 1) = ((4 : Nat) : Int) := rfl
    have hTk : (nL.lk.take 3).length ≤ 99999999 := by decide
    repeat (first
      | ((first | with_reducible refine sops_go ?_ | with_reducible refine headW_end ?_ | with_reducible refine sops_end ?_ | with_reducible refine awp_if ?_ | with_reducible refine awp_skip ?_ | with_reducible refine awp_ret ?_ | with_reducible refine awp_exit ?_); simp only [go_sem, simprocAttr, hF, hd, hTk, Int.toNat_natCast, tz0, tz1, tz2, tz3])
      | (with_reducible refine awp_seq_k (fun _ _ => ?_))
      | (with_reducible refine awp_region [23] ?_)
      | (with_reducible refine awp_block ?_)
      | go_step)
    refine ⟨⟨4, by omega⟩, by dsimp only; omega, hR _ _ (sub_mk ?_)⟩
    simp only [go_sem, simprocAttr, hF, hw]
    repeat' (first | rfl | exact True.intro | refine ⟨?_, ?_⟩)
  · have hd : decide (((4 : Nat) : Int) < 4) = false := rfl
    repeat (first
      | ((first | with_reducible refine sops_go ?_ | with_reducible refine headW_end ?_ | with_reducible refine sops_end ?_ | with_reducible refine awp_if ?_ | with_reducible refine awp_skip ?_ | with_reducible refine awp_ret ?_ | with_reducible refine awp_exit ?_); simp only [go_sem, simprocAttr, hF, hd])
      | (with_reducible refine awp_seq_k (fun _ _ => ?_))
      | (with_reducible refine awp_region [23] ?_)
      | (with_reducible refine awp_block ?_)
      | go_step)
    all_goals (first | rfl | exact .inr rfl)
end Go.Proofs.YticnppnejafhdaaGreatDoor
/- What stands for a list may be nil where the list is empty. -/
namespace Go.Proofs.YticnppnejafhdaaGreatDoor
open Go.RowKit
open Nd Rc Mo
open Av
set_option maxRecDepth 100000
set_option linter.unusedSimpArgs false
namespace Av

/-- What stands for a list may be nil where the list is empty. -/
inductive PVLe : PV → PV → Prop
  | refl (p : PV) : PVLe p p
  | nil (sz : Nat) : PVLe (.v (.slice none 0 0)) (.sl sz [])
inductive PVsLe : List PV → List PV → Prop
  | nil : PVsLe [] []
  | cons {x y : PV} {xs ys : List PV} (h : PVLe x y) (t : PVsLe xs ys) : PVsLe (x :: xs) (y :: ys)
inductive AVLe : AV → AV → Prop
  | refl (x : AV) : AVLe x x
  | nil (sz : Nat) : AVLe (.v (.slice none 0 0)) (.sl sz [])
  | agg {xs ys : List PV} (h : PVsLe xs ys) : AVLe (.agg xs) (.agg ys)
inductive AVsLe : List AV → List AV → Prop
  | nil : AVsLe [] []
  | cons {x y : AV} {xs ys : List AV} (h : AVLe x y) (t : AVsLe xs ys) : AVsLe (x :: xs) (y :: ys)
theorem rep_nilS {R : Reader} {sz : Nat} : RepP R (.sl sz []) (.slice none 0 0) := .sl sz [] none 0 (fun _ _ => undef) (fun k row hk => by cases hk) (.inl rfl) (fun k row j p hk => by cases hk) (Nat.le_refl _)
theorem PVLe.rep {R : Reader} {x y : PV} {u : Value} (h : PVLe x y) (hr : RepP R x u) : RepP R y u := by
  cases h with
  | refl => exact hr
  | nil sz => cases hr; exact rep_nilS
theorem PVsLe.rep {R : Reader} {xs ys : List PV} (h : PVsLe xs ys) : ∀ {us : List Value}, RepL R xs us → RepL R ys us := by
  induction h with
  | nil => exact fun h => h
  | cons h t ih =>
    intro us hr
    cases hr with | cons g0 g1 => exact .cons (h.rep g0) (ih g1)
theorem AVLe.rep {R : Reader} {bx : Nat → Nat} {x y : AV} {u : Value} (h : AVLe x y) (hr : RepA R bx x u) : RepA R bx y u := by
  cases h with
  | refl => exact hr
  | nil sz => cases hr; exact rep_nilS
  | agg h =>
    obtain ⟨vs, e, hv⟩ := hr
    exact ⟨vs, e, h.rep hv⟩
theorem AVLe.refs {x y : AV} (h : AVLe x y) (hr : x.refs = []) : y.refs = [] := by
  cases h with
  | refl => exact hr
  | nil sz => rfl
  | agg h => rfl
theorem fnOK_le {P : Program} {f : FuncId} {args args' : List AV} {res : FRes} (h : FnOK P f args' res) (hl : AVsLe args args') : FnOK P f args res :=
  ⟨h.1, fun w R hR us hus => h.2 w R hR us (by
    clear h hR
    induction hl generalizing us with
    | nil => exact hus
    | cons h t ih =>
      cases hus with
      | cons g0 g1 g2 => exact .cons (h.rep g0) (h.refs g1) (ih _ g2))⟩
end Av
end Go.Proofs.YticnppnejafhdaaGreatDoor

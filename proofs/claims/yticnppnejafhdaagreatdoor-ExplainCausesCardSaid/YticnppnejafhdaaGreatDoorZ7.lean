import Derived.Test.YticnppnejafhdaaGreatDoorZ6
set_option linter.unusedVariables false
set_option linter.unusedSimpArgs false
/- How links are compared, by abstract states. -/
namespace Go.Proofs.YticnppnejafhdaaGreatDoor
open Go.RowKit
open Nd Rc Mo
open Av
set_option maxRecDepth 100000
set_option linter.unusedSimpArgs false
attribute [local go_sem] Av.guardB Av.sop Av.hopx Av.hop Av.hopCall Av.hopF Av.hopB Av.evo Av.evos Av.avCells Av.loadK Av.bound Av.abin Av.aun Av.partsC Av.lfill Av.placesB Av.setAt Av.stl Av.takes Av.src Av.bxOf Av.ownOf Av.St.res Av.St.put Av.St.addBox Av.St.putOwn Av.delL Av.delS Av.look Av.lookL Av.storeSt Av.stealSt Av.St.setBox Av.keepL Av.hitB Av.snap Av.snaps Av.snapCaps Av.AV.lit Av.AV.refs Av.capRefs Av.PV.av Av.CV.av Av.startSt Av.steals Av.athen Av.ablock Av.appK Av.AllS Av.AllO Av.AllR Av.keepS Av.St.avAt Av.RetOK Av.retAll Av.retOne Av.intsOf Av.ptrB Av.appB Av.appSt TypeDesc.isRow List.range_zero Option.some.injEq exists_eq_left' exists_eq_left exists_eq' exists_and_left exists_and_right exists_const true_and and_true and_self false_and and_false or_false false_or or_true true_or if_true if_false Bool.false_eq_true List.zipIdx_cons List.zipIdx_nil List.map_cons List.map_nil List.filter_cons List.filter_nil List.contains_cons List.contains_nil List.drop_succ_cons List.drop_zero List.take_succ_cons List.take_zero List.take_nil List.drop_nil List.length_cons List.length_nil List.cons_append List.nil_append List.append_nil List.getElem?_cons_zero List.getElem?_cons_succ List.getElem?_nil Option.bind_some Option.bind_none Option.map_some Option.map_none Option.isNone_none Option.isNone_some Option.isSome_some Option.isSome_none Bool.and_true Bool.true_and Bool.and_false Bool.false_and Bool.or_false Bool.false_or Bool.not_true Bool.not_false beq_true beq_false Bool.true_beq Bool.false_beq Loc.s.injEq Loc.b.injEq decide_true decide_false beq_self_eq_true Nat.zero_add Nat.add_zero List.getElem?_toArray List.toList_toArray List.size_toArray Value.oneCell' List.all_cons List.all_nil Value.int.injEq AV.v.injEq AV.sl.injEq AV.agg.injEq AV.ref.injEq AV.ept.injEq AV.tup.injEq Value.bool.injEq PV.v.injEq PV.sl.injEq List.isEmpty_nil List.isEmpty_cons forall_const not_true_eq_false not_false_eq_true true_implies false_implies Value.string.injEq List.length_map List.getElem?_map Int.toNat_natCast Int.natCast_nonneg List.length_append Value.cells implies_true TypeDesc.struct.injEq TypeDesc.slice.injEq TypeDesc.array.injEq List.getElem?_toArray Prod.mk.injEq and_assoc exists_false List.cons.injEq Operand.tmp.injEq ite_self AV.fnv.injEq AV.clo.injEq ne_eq eq_self Tryz.sz3 Tryz.zr3 Tryz.by3 Tryz.pl3 Tryz.is3 Tryz.underlying3 Tryz.sz4 Tryz.zr4 Tryz.by4 Tryz.pl4 Tryz.is4 Tryz.underlying4 Tryz.sz43 Tryz.zr43 Tryz.by43 Tryz.pl43 Tryz.is43 Tryz.underlying43 Tryz.sz35 Tryz.zr35 Tryz.by35 Tryz.pl35 Tryz.is35 Tryz.underlying35 Tryz.sz33 Tryz.zr33 Tryz.by33 Tryz.pl33 Tryz.is33 Tryz.underlying33 Tryz.sz28 Tryz.zr28 Tryz.by28 Tryz.pl28 Tryz.is28 Tryz.underlying28 Tryz.sz39 Tryz.zr39 Tryz.by39 Tryz.pl39 Tryz.is39 Tryz.underlying39 Tryz.sz57 Tryz.zr57 Tryz.by57 Tryz.pl57 Tryz.is57 Tryz.underlying57 Tryz.sz137 Tryz.zr137 Tryz.by137 Tryz.pl137 Tryz.is137 Tryz.underlying137 Tryz.sz66 Tryz.zr66 Tryz.by66 Tryz.pl66 Tryz.is66 Tryz.underlying66 Tryz.sz64 Tryz.zr64 Tryz.by64 Tryz.pl64 Tryz.is64 Tryz.underlying64 Tryz.sz60 Tryz.zr60 Tryz.by60 Tryz.pl60 Tryz.is60 Tryz.underlying60 Tryz.sz100 Tryz.zr100 Tryz.by100 Tryz.pl100 Tryz.is100 Tryz.underlying100 Tryz.sz103 Tryz.zr103 Tryz.by103 Tryz.pl103 Tryz.is103 Tryz.underlying103 Tryz.sz26 Tryz.zr26 Tryz.by26 Tryz.pl26 Tryz.is26 Tryz.underlying26 Tryz.sz120 Tryz.zr120 Tryz.by120 Tryz.pl120 Tryz.is120 Tryz.underlying120 Tryz.sz117 Tryz.zr117 Tryz.by117 Tryz.pl117 Tryz.is117 Tryz.underlying117 Tryz.sz30 Tryz.zr30 Tryz.by30 Tryz.pl30 Tryz.is30 Tryz.underlying30 Tryz.sz31 Tryz.zr31 Tryz.by31 Tryz.pl31 Tryz.is31 Tryz.underlying31 Tryz.sz40 Tryz.zr40 Tryz.by40 Tryz.pl40 Tryz.is40 Tryz.underlying40 Tryz.sz23 Tryz.zr23 Tryz.by23 Tryz.pl23 Tryz.is23 Tryz.underlying23 Tryz.sz24 Tryz.zr24 Tryz.by24 Tryz.pl24 Tryz.is24 Tryz.underlying24 Tryz.sz22 Tryz.zr22 Tryz.by22 Tryz.pl22 Tryz.is22 Tryz.underlying22 Tryz.sz141 Tryz.zr141 Tryz.by141 Tryz.pl141 Tryz.is141 Tryz.underlying141 Tryz.sz42 Tryz.zr42 Tryz.by42 Tryz.pl42 Tryz.is42 Tryz.underlying42 Tryz.sz29 Tryz.zr29 Tryz.by29 Tryz.pl29 Tryz.is29 Tryz.underlying29 Tryz.sz83 Tryz.zr83 Tryz.by83 Tryz.pl83 Tryz.is83 Tryz.underlying83 Tryz.it39 Tryz.eg39 Tryz.it137 Tryz.eg137 Tryz.it66 Tryz.eg66 Tryz.it28 Tryz.eg28 Tryz.it60 Tryz.eg60 all_arr loc_ss loc_sb loc_bs loc_bb arr_two arr_one rg1 rg2 rg3 rg4 rg5 rg6 rg7 rg8 ResultVar.tmp.injEq Bool.not_true Bool.not_false undef Rc.Rec.pv Nd.Fl.pv Rc.Dlv.pv Rc.Att.pv Mo.Lt.pv Fn.func.injEq Br.pv Mo.Net.pv Mo.Lk.pv prow_pv irow_pv
set_option maxHeartbeats 2000000 in
theorem isNaN_ok (x : Int) : FnOK Tryz.prog 98 [iv x] ⟨bv false, none⟩ := by
 have hx : (x != x) = false := by simp
 refine fn_ok Tryz.func98 (by kernel_rfl) rfl (by rw [Tryz.ntmps98]; exact of_decide_eq_true rfl) (fun F hF => ?_)
 rw [Tryz.ntmps98] at hF
 rw [Tryz.results98]
 repeat (first
  | (with_reducible (first | refine sops_go ?_ | refine headW_end ?_ | refine sops_end ?_ | refine awp_if ?_ | refine awp_skip ?_ | refine awp_ret ?_ | refine awp_exit ?_); simp only [go_sem, simprocAttr, hF, hx])
  | with_reducible (first | refine awp_seq_k fun _ _ => ?_ | refine awp_region [] ?_ | refine awp_block ?_)
  | go_step)

set_option maxHeartbeats 2000000 in
theorem compare_ok (x y : Int) : FnOK Tryz.prog 62 [iv x, iv y] ⟨iv (cmpI x y), none⟩ := by
 refine fn_ok Tryz.func62 (by kernel_rfl) rfl (by rw [Tryz.ntmps62]; exact of_decide_eq_true rfl) (fun F hF => ?_)
 rw [Tryz.ntmps62] at hF
 rw [Tryz.results62]
 repeat (first
  | (with_reducible (first | refine sops_go ?_ | refine headW_end ?_ | refine sops_end ?_ | refine awp_if ?_ | refine awp_skip ?_ | refine awp_ret ?_ | refine awp_exit ?_); simp only [go_sem, simprocAttr, hF])
  | with_reducible (first | refine awp_seq_k fun _ _ => ?_ | refine awp_region [] ?_ | refine awp_block ?_)
  | go_step)
 refine ⟨_, isNaN_ok x, ?_⟩
 simp only [go_sem, simprocAttr, hF]
 repeat (first
  | (with_reducible (first | refine sops_go ?_ | refine headW_end ?_ | refine sops_end ?_ | refine awp_if ?_ | refine awp_skip ?_ | refine awp_ret ?_ | refine awp_exit ?_); simp only [go_sem, simprocAttr, hF])
  | with_reducible (first | refine awp_seq_k fun _ _ => ?_ | refine awp_region [] ?_ | refine awp_block ?_)
  | go_step)
 refine ⟨_, isNaN_ok y, ?_⟩
 simp only [go_sem, simprocAttr, hF]
 by_cases h1 : x < y
 · have e1 : decide (x < y) = true := decide_eq_true h1
   repeat (first
    | (with_reducible (first | refine sops_go ?_ | refine headW_end ?_ | refine sops_end ?_ | refine awp_if ?_ | refine awp_skip ?_ | refine awp_ret ?_ | refine awp_exit ?_); simp only [go_sem, simprocAttr, hF, e1])
    | with_reducible (first | refine awp_seq_k fun _ _ => ?_ | refine awp_region [] ?_ | refine awp_block ?_)
    | go_step)
   unfold cmpI
   rw [if_pos h1]
 by_cases h2 : y < x
 · have e1 : decide (x < y) = false := decide_eq_false h1
   have e2 : decide (y < x) = true := decide_eq_true h2
   repeat (first
    | (with_reducible (first | refine sops_go ?_ | refine headW_end ?_ | refine sops_end ?_ | refine awp_if ?_ | refine awp_skip ?_ | refine awp_ret ?_ | refine awp_exit ?_); simp only [go_sem, simprocAttr, hF, e1, e2])
    | with_reducible (first | refine awp_seq_k fun _ _ => ?_ | refine awp_region [] ?_ | refine awp_block ?_)
    | go_step)
   unfold cmpI
   rw [if_neg h1, if_pos h2]
 have e1 : decide (x < y) = false := decide_eq_false h1
 have e2 : decide (y < x) = false := decide_eq_false h2
 repeat (first
  | (with_reducible (first | refine sops_go ?_ | refine headW_end ?_ | refine sops_end ?_ | refine awp_if ?_ | refine awp_skip ?_ | refine awp_ret ?_ | refine awp_exit ?_); simp only [go_sem, simprocAttr, hF, e1, e2])
  | with_reducible (first | refine awp_seq_k fun _ _ => ?_ | refine awp_region [] ?_ | refine awp_block ?_)
  | go_step)
 unfold cmpI
 rw [if_neg h1, if_neg h2]

set_option maxHeartbeats 2000000 in
theorem or_ok (l : List Int) (hl : l.length ≤ 1000000) : FnOK Tryz.prog 61 [.sl 1 (l.map fun x => [ip x])] ⟨iv (orI l), none⟩ := by
 refine fn_ok Tryz.func61 (by kernel_rfl) rfl (by rw [Tryz.ntmps61]; exact of_decide_eq_true rfl) (fun F hF => ?_)
 rw [Tryz.ntmps61] at hF
 rw [Tryz.results61]
 repeat (first
  | (with_reducible (first | refine sops_go ?_ | refine headW_end ?_ | refine sops_end ?_ | refine awp_if ?_ | refine awp_skip ?_ | refine awp_ret ?_ | refine awp_exit ?_); simp only [go_sem, simprocAttr, hF])
  | with_reducible (first | refine awp_seq_k fun _ _ => ?_ | refine awp_region [] ?_ | refine awp_block ?_)
  | go_step)
 refine awp_loop_by (ι := {k : Nat // k ≤ l.length ∧ orI l = orI (l.drop k)}) (fun k σ => ⟨(8, iv (k.1 : Int)) :: keepS [2, 3, 6, 7] σ.slot, σ.box, [], σ.ext⟩) (fun k => l.length - k.1) ⟨0, by omega, rfl⟩ (sub_mk ?_) (fun R hR k => ?_)
 · simp only [go_sem, simprocAttr, hF]
   repeat' (first | rfl | refine ⟨?_, ?_⟩)
 obtain ⟨k, hk, hT⟩ := k
 dsimp only
 simp only [go_sem, simprocAttr, hF]
 by_cases hlt : k < l.length
 case neg =>
  have hd : decide ((k : Int) < (l.length : Int)) = false := decide_eq_false (by omega)
  repeat (first
   | (with_reducible (first | refine sops_go ?_ | refine headW_end ?_ | refine sops_end ?_ | refine awp_if ?_ | refine awp_skip ?_ | refine awp_ret ?_ | refine awp_exit ?_); simp only [go_sem, simprocAttr, hF, hd])
   | with_reducible (first | refine awp_seq_k fun _ _ => ?_ | refine awp_region [] ?_ | refine awp_block ?_)
   | go_step)
  rw [hT, List.drop_of_length_le (by omega)]
  rfl
 obtain ⟨y, hyk⟩ := get_of_lt hlt
 have hd : decide ((k : Int) < (l.length : Int)) = true := decide_eq_true (by omega)
 have hw : IntKind.i64.wrap ((k : Int) + 1) = ((k + 1 : Nat) : Int) := by rw [IntKind.wrap_i64]; omega
 have hT' : orI l = if y = 0 then orI (l.drop (k + 1)) else y := by rw [hT, drop_of_get hyk, orI]
 by_cases h0 : y = 0
 case neg =>
  have he : (y != 0) = true := by simpa using h0
  repeat (first
   | (with_reducible (first | refine sops_go ?_ | refine headW_end ?_ | refine sops_end ?_ | refine awp_if ?_ | refine awp_skip ?_ | refine awp_ret ?_ | refine awp_exit ?_); simp only [go_sem, simprocAttr, hF, hd, hyk, he])
   | with_reducible (first | refine awp_seq_k fun _ _ => ?_ | refine awp_region [] ?_ | refine awp_block ?_)
   | go_step)
  rw [hT', if_neg h0]
 have he : (y != 0) = false := by simpa using h0
 repeat (first
  | (with_reducible (first | refine sops_go ?_ | refine headW_end ?_ | refine sops_end ?_ | refine awp_if ?_ | refine awp_skip ?_ | refine awp_ret ?_ | refine awp_exit ?_); simp only [go_sem, simprocAttr, hF, hd, hyk, he])
  | with_reducible (first | refine awp_seq_k fun _ _ => ?_ | refine awp_region [] ?_ | refine awp_block ?_)
  | go_step)
 refine ⟨⟨k + 1, by omega, by rw [hT', if_pos h0]⟩, by dsimp only; omega, hR _ _ (sub_mk ?_)⟩
 simp only [go_sem, simprocAttr, hF, hw]

set_option maxHeartbeats 2000000 in
theorem compareL_ok (x y : Lk) : FnOK Tryz.prog 113 [.agg x.pv, .agg y.pv] ⟨iv (orI [cmpI x.fr y.fr, cmpI x.tt y.tt]), none⟩ := by
 refine fn_ok Tryz.func113 (by kernel_rfl) rfl (by rw [Tryz.ntmps113]; exact of_decide_eq_true rfl) (fun F hF => ?_)
 rw [Tryz.ntmps113] at hF
 rw [Tryz.results113]
 repeat (first
  | (with_reducible (first | refine sops_go ?_ | refine headW_end ?_ | refine sops_end ?_ | refine awp_if ?_ | refine awp_skip ?_ | refine awp_ret ?_ | refine awp_exit ?_); simp only [go_sem, simprocAttr, hF])
  | ((with_reducible refine headW_go ?_); simp only [go_sem, simprocAttr, hF, hbx])
  | with_reducible refine awp_seq_k fun _ _ => ?_
  | (refine awp_draw' (id := 1) [] 12 (by kernel_rfl) (by kernel_rfl) rfl rfl (fun bx0 hbx => ?_); try dsimp only [List.take, List.drop])
  | with_reducible (first | refine awp_region [] ?_ | refine awp_block ?_)
  | go_step)
 refine ⟨_, compare_ok x.fr y.fr, ?_⟩
 simp only [go_sem, simprocAttr, hF]
 repeat (first
  | (with_reducible (first | refine sops_go ?_ | refine headW_end ?_ | refine sops_end ?_ | refine awp_if ?_ | refine awp_skip ?_ | refine awp_ret ?_ | refine awp_exit ?_); simp only [go_sem, simprocAttr, hF])
  | ((with_reducible refine headW_go ?_); simp only [go_sem, simprocAttr, hF, hbx])
  | with_reducible refine awp_seq_k fun _ _ => ?_
  | (refine awp_draw' (id := 1) [] 12 (by kernel_rfl) (by kernel_rfl) rfl rfl (fun bx0 hbx => ?_); try dsimp only [List.take, List.drop])
  | with_reducible (first | refine awp_region [] ?_ | refine awp_block ?_)
  | go_step)
 refine ⟨_, compare_ok x.tt y.tt, ?_⟩
 simp only [go_sem, simprocAttr, hF]
 repeat (first
  | (with_reducible (first | refine sops_go ?_ | refine headW_end ?_ | refine sops_end ?_ | refine awp_if ?_ | refine awp_skip ?_ | refine awp_ret ?_ | refine awp_exit ?_); simp only [go_sem, simprocAttr, hF])
  | ((with_reducible refine headW_go ?_); simp only [go_sem, simprocAttr, hF, hbx])
  | with_reducible refine awp_seq_k fun _ _ => ?_
  | (refine awp_draw' (id := 1) [] 12 (by kernel_rfl) (by kernel_rfl) rfl rfl (fun bx0 hbx => ?_); try dsimp only [List.take, List.drop])
  | with_reducible (first | refine awp_region [] ?_ | refine awp_block ?_)
  | go_step)
 refine ⟨_, or_ok [cmpI x.fr y.fr, cmpI x.tt y.tt] (by simp), ?_⟩
 simp only [go_sem, simprocAttr, hF]
 repeat (first
  | (with_reducible (first | refine sops_go ?_ | refine headW_end ?_ | refine sops_end ?_ | refine awp_if ?_ | refine awp_skip ?_ | refine awp_ret ?_ | refine awp_exit ?_); simp only [go_sem, simprocAttr, hF])
  | ((with_reducible refine headW_go ?_); simp only [go_sem, simprocAttr, hF, hbx])
  | with_reducible refine awp_seq_k fun _ _ => ?_
  | (refine awp_draw' (id := 1) [] 12 (by kernel_rfl) (by kernel_rfl) rfl rfl (fun bx0 hbx => ?_); try dsimp only [List.take, List.drop])
  | with_reducible (first | refine awp_region [] ?_ | refine awp_block ?_)
  | go_step)
 all_goals (try rfl)
/- Searching a link, by abstract states. -/
def ltL (a b : Int) (l : Lk) : Bool := decide (l.fr < a) || (l.fr == a && decide (l.tt < b))
theorem ltL_iff {a b : Int} {l : Lk} : ltL a b l = true ↔ l.fr < a ∨ (l.fr = a ∧ l.tt < b) := by
 unfold ltL
 rw [Bool.or_eq_true, Bool.and_eq_true, decide_eq_true_eq, decide_eq_true_eq, beq_iff_eq]
theorem lkP_iff {a b : Int} {l : Lk} : lkP a b l = true ↔ l.fr = a ∧ l.tt = b := by
 unfold lkP
 rw [Bool.and_eq_true, beq_iff_eq, beq_iff_eq]
theorem cmpI_lt {x y : Int} (h : x < y) : cmpI x y = -1 := if_pos h
theorem cmpI_gt {x y : Int} (h : y < x) : cmpI x y = 1 := by unfold cmpI; rw [if_neg (by omega), if_pos h]
theorem cmpI_eq (x : Int) : cmpI x x = 0 := by unfold cmpI; rw [if_neg (by omega), if_neg (by omega)]
theorem orI_lt (a b : Int) (l : Lk) : decide (orI [cmpI l.fr a, cmpI l.tt b] < 0) = ltL a b l ∧ (orI [cmpI l.fr a, cmpI l.tt b] == 0) = lkP a b l := by
 simp only [orI]
 unfold ltL lkP
 rcases Int.lt_trichotomy l.fr a with h | h | h
 · rw [cmpI_lt h]
   have : l.fr ≠ a := by omega
   simp [h, this]
 · subst h
   rw [cmpI_eq]
   rcases Int.lt_trichotomy l.tt b with h2 | h2 | h2
   · rw [cmpI_lt h2]
     have : l.tt ≠ b := by omega
     simp [h2, this]
   · subst h2
     rw [cmpI_eq]
     simp
   · rw [cmpI_gt h2]
     have h3 : l.tt ≠ b := by omega
     have h4 : ¬ l.tt < b := by omega
     simp [h3, h4]
 · rw [cmpI_gt h]
   have h3 : l.fr ≠ a := by omega
   have h4 : ¬ l.fr < a := by omega
   simp [h3, h4]
def LkSorted (l : List Lk) : Prop := l.Pairwise fun x y => ltL y.fr y.tt x = true
theorem lkE_zero {nodes : Int} {pow : List (List Int)} {p : Option Lk} {l : Lk} {m : Int} (h : lkE nodes pow p l m = 0) : lkB nodes l = true ∧ prevBadL p l = false ∧ 0 ≤ m ∧ m ≤ powAt pow l.fr l.tt := by
 unfold lkE at h
 split at h
 · cases h
 · rename_i h1
   split at h
   · cases h
   · rename_i h2
     split at h
     · cases h
     · rename_i h3
       exact ⟨by simpa using h1, by simpa using h2, by omega, by omega⟩
theorem lkGo_inv {nodes : Int} {pow : List (List Int)} : ∀ {l : List Lk} {ms : List Int} {p : Option Lk}, lkGo nodes pow p l ms = 0 → LkSorted l ∧ (∀ q, p = some q → ∀ x ∈ l, ltL x.fr x.tt q = true) ∧ (∀ x ∈ l, lkB nodes x = true) ∧ (∀ (i : Nat) (m : Int), i < l.length → ms[i]? = some m → 0 ≤ m ∧ ∃ a b, m ≤ powAt pow a b)
 | [], ms, p, _ => ⟨.nil, fun _ _ _ h => (by cases h), fun _ h => (by cases h), fun i m h => absurd h (Nat.not_lt_zero _)⟩
 | x :: l, ms, p, h => by
  unfold lkGo at h
  split at h
  · rename_i h0
    obtain ⟨h1, h2, h3, h4⟩ := lkE_zero h0
    obtain ⟨i1, i2, i3, i4⟩ := lkGo_inv h
    refine ⟨.cons (fun y hy => i2 x rfl y hy) i1, ?_, fun y hy => ?_, ?_⟩
    · rintro q rfl y hy
      unfold prevBadL at h2
      simp only [Bool.or_eq_false_iff, decide_eq_false_iff_not, Bool.and_eq_false_iff, beq_eq_false_iff_ne, ne_eq] at h2
      have hx : ltL x.fr x.tt q = true := by rw [ltL_iff]; omega
      rcases List.mem_cons.1 hy with rfl | hy
      · exact hx
      · have := i2 x rfl y hy
        rw [ltL_iff] at this hx ⊢
        omega
    · rcases List.mem_cons.1 hy with rfl | hy
      · exact h1
      · exact i3 y hy
    · intro i m hi hm
      cases i with
      | zero =>
       cases ms with
       | nil => cases hm
       | cons m0 ms =>
        simp only [List.getElem?_cons_zero, Option.some.injEq] at hm
        subst hm
        exact ⟨h3, _, _, h4⟩
      | succ i =>
       refine i4 i m (by simpa using hi) ?_
       cases ms with
       | nil => cases hm
       | cons m0 ms => simpa using hm
  · rename_i h0; exact absurd h h0
theorem powAt_le {nodes : Int} {pow : List (List Int)} (h : powE nodes pow = 0) (a b : Int) : powAt pow a b ≤ 68719476736 := by
 unfold powE at h
 split at h
 · cases h
 · split at h
   · cases h
   · rename_i h1
     unfold powAt
     rw [List.getD_eq_getElem?_getD, List.getD_eq_getElem?_getD]
     cases hr : pow[a.toNat]? with
     | none => simp
     | some r =>
      rw [Option.getD_some]
      cases hv : r[b.toNat]? with
      | none => simp
      | some v =>
       rw [Option.getD_some]
       by_cases hb : v ≤ 68719476736
       · exact hb
       · exfalso
         refine h1 (List.any_eq_true.2 ⟨r, List.mem_of_getElem? hr, List.any_eq_true.2 ⟨v, List.mem_of_getElem? hv, ?_⟩⟩)
         unfold outP
         simp only [Bool.or_eq_true, decide_eq_true_eq]
         omega
structure NetOK (n : Net) : Prop where
 nodes : 2 ≤ n.nodes ∧ n.nodes ≤ 32
 mg : n.mg.length = n.lk.length
 lk : n.lk.length ≤ 128
 noise : 0 ≤ n.noise ∧ n.noise ≤ 68719476736
 thr : 1000 ≤ n.thr ∧ n.thr ≤ 100000
 sorted : LkSorted n.lk
 lkb : ∀ x ∈ n.lk, lkB n.nodes x = true
 mgb : ∀ (i : Nat) (m : Int), n.mg[i]? = some m → 0 ≤ m ∧ m ≤ 68719476736
theorem netOK {n : Net} (h : chkN n = 0) : NetOK n := by
 unfold chkN at h
 split at h
 · cases h
 rename_i h1
 split at h
 · rename_i h2; exact absurd h h2
 rename_i h2
 split at h
 · cases h
 rename_i h3
 split at h
 · cases h
 rename_i h4
 split at h
 · cases h
 rename_i h5
 have hp : powE n.nodes n.pow = 0 := Classical.byContradiction h2
 obtain ⟨i1, _, i3, i4⟩ := lkGo_inv h
 have h3a : Nd.inB n.noise 0 68719476736 = true := by
  cases hq : Nd.inB n.noise 0 68719476736 with
  | true => rfl
  | false => exact absurd (.inl hq) h3
 have h3b : Nd.inB n.thr 1000 100000 = true := by
  cases hq : Nd.inB n.thr 1000 100000 with
  | true => rfl
  | false => exact absurd (.inr hq) h3
 simp only [Nd.inB, Bool.and_eq_true, decide_eq_true_eq] at h3a h3b
 refine ⟨by omega, Classical.byContradiction h5, by omega, h3a, h3b, i1, i3, fun i m hm => ?_⟩
 have hml : n.mg.length = n.lk.length := Classical.byContradiction h5
 obtain ⟨g1, a, b, g2⟩ := i4 i m (by rw [← hml]; exact (List.getElem?_eq_some_iff.1 hm).1) hm
 exact ⟨g1, Int.le_trans g2 (powAt_le hp a b)⟩
def bsN (l : List Lk) (a b : Int) : Nat := (l.takeWhile (ltL a b)).length
def bsB (l : List Lk) (a b : Int) : Bool := match l[bsN l a b]? with
 | some x => lkP a b x
 | none => false
theorem tw_len {p : Lk → Bool} : ∀ {l : List Lk} {i : Nat}, i ≤ l.length → (∀ k, k < i → ∀ x, l[k]? = some x → p x = true) → (∀ x, l[i]? = some x → p x = false) → (l.takeWhile p).length = i
 | [], i, hi, _, _ => by
  have : i = 0 := by simpa using hi
  subst this; rfl
 | y :: l, 0, _, _, h2 => by rw [List.takeWhile_cons_of_neg (by rw [h2 y rfl]; decide)]; rfl
 | y :: l, i + 1, hi, h1, h2 => by
  rw [List.takeWhile_cons_of_pos (h1 0 (by omega) y rfl), List.length_cons, tw_len (l := l) (i := i) (by simpa using hi) (fun k hk x hx => h1 (k + 1) (by omega) x (by simpa using hx)) (fun x hx => h2 x (by simpa using hx))]
theorem idx_bs {a b : Int} : ∀ {l : List Lk} (k : Int), LkSorted l → idxP (lkP a b) l k = if bsB l a b = true then k + (bsN l a b : Int) else -1
 | [], k, _ => by simp [idxP, bsB]
 | x :: l, k, hs => by
  unfold idxP
  obtain ⟨hx, hl⟩ := List.pairwise_cons.1 hs
  by_cases h1 : ltL a b x = true
  · have hp : ¬ lkP a b x = true := by rw [lkP_iff]; rw [ltL_iff] at h1; omega
    rw [if_neg hp, idx_bs (k + 1) hl]
    have hN : bsN (x :: l) a b = bsN l a b + 1 := by unfold bsN; rw [List.takeWhile_cons_of_pos h1]; rfl
    have hB : bsB (x :: l) a b = bsB l a b := by unfold bsB; rw [hN]; rfl
    rw [hN, hB]
    split
    · push_cast; omega
    · rfl
  · have hN : bsN (x :: l) a b = 0 := by unfold bsN; rw [List.takeWhile_cons_of_neg h1]; rfl
    have hB : bsB (x :: l) a b = lkP a b x := by unfold bsB; rw [hN]; rfl
    rw [hN, hB]
    by_cases h2 : lkP a b x = true
    · rw [if_pos h2, if_pos h2]; simp
    · rw [if_neg h2, if_neg h2]
      have : ∀ (m : List Lk) (j : Int), (∀ y ∈ m, lkP a b y = false) → idxP (lkP a b) m j = -1 := by
       intro m
       induction m with
       | nil => intro j _; rfl
       | cons y m ih =>
        intro j hm
        unfold idxP
        rw [if_neg (by rw [hm y List.mem_cons_self]; decide)]
        exact ih _ fun z hz => hm z (List.mem_cons_of_mem _ hz)
      refine this l _ fun y hy => ?_
      have h3 := hx y hy
      rw [Bool.eq_false_iff]
      intro h4
      rw [lkP_iff] at h4 h2
      rw [ltL_iff] at h1 h3
      omega

set_option maxHeartbeats 20000000 in
theorem bs_ok (l : List Lk) (a b : Int) (hs : LkSorted l) (hl : l.length ≤ 1000000) : FnOK Tryz.prog 112 [.sl 3 (l.map Lk.pv), .agg [ip a, ip b, ip 0], .fnv 113 []] ⟨.tup [.c (ip (bsN l a b : Int)), .c (.v (.bool (bsB l a b)))], none⟩ := by
 refine fn_ok Tryz.func112 (by kernel_rfl) rfl (by rw [Tryz.ntmps112]; exact of_decide_eq_true rfl) (fun F hF => ?_)
 rw [Tryz.ntmps112] at hF
 rw [Tryz.results112]
 repeat (first
  | (with_reducible (first | refine sops_go ?_ | refine headW_end ?_ | refine sops_end ?_ | refine awp_if ?_ | refine awp_skip ?_ | refine awp_ret ?_ | refine awp_exit ?_); simp only [go_sem, simprocAttr, hF])
  | ((with_reducible refine headW_go ?_); simp only [go_sem, simprocAttr, hF, hbx])
  | with_reducible refine awp_seq_k fun _ _ => ?_
  | (refine awp_draw' (id := 5) [] 8 (by kernel_rfl) (by kernel_rfl) rfl rfl (fun bx0 hbx => ?_); try dsimp only [List.take, List.drop])
  | (refine awp_draw' (id := 8) [] 16 (by kernel_rfl) (by kernel_rfl) rfl rfl (fun bx0 hbx => ?_); try dsimp only [List.take, List.drop])
  | with_reducible (first | refine awp_region [] ?_ | refine awp_block ?_)
  | go_step)
 refine awp_loop_by (ι := {p : Nat × Nat // p.1 ≤ p.2 ∧ p.2 ≤ l.length ∧ (∀ k, k < p.1 → ∀ x, l[k]? = some x → ltL a b x = true) ∧ (∀ k, p.2 ≤ k → ∀ x, l[k]? = some x → ltL a b x = false)}) (fun p σ => ⟨(9, iv (p.1.1 : Int)) :: (10, iv (p.1.2 : Int)) :: keepS [0, 2, 4, 8] σ.slot, σ.box, [], σ.ext⟩) (fun p => p.1.2 - p.1.1) ⟨(0, l.length), by simp, Nat.le_refl _, fun k hk => absurd hk (Nat.not_lt_zero _), fun k hk x hx => absurd (List.getElem?_eq_some_iff.1 hx).1 (by simp only at hk; omega)⟩ (sub_mk ?_) (fun R hR p => ?_)
 · simp only [go_sem, simprocAttr, hF]
   repeat' (first | rfl | refine ⟨?_, ?_⟩)
 obtain ⟨⟨i, j⟩, hij, hjn, hI, hJ⟩ := p
 dsimp only at hij hjn hI hJ ⊢
 simp only [go_sem, simprocAttr, hF]
 by_cases hlt : i < j
 case neg =>
  obtain rfl : i = j := by omega
  have hd : decide ((i : Int) < (i : Int)) = false := decide_eq_false (by omega)
  have hN : bsN l a b = i := tw_len hjn hI (fun x hx => hJ i (Nat.le_refl _) x hx)
  by_cases hin : i < l.length
  case neg =>
   have hd2 : decide ((i : Int) < (l.length : Int)) = false := decide_eq_false (by omega)
   have hB : bsB l a b = false := by unfold bsB; rw [hN, List.getElem?_eq_none (by omega)]
   repeat (first
    | (with_reducible (first | refine sops_go ?_ | refine headW_end ?_ | refine sops_end ?_ | refine awp_if ?_ | refine awp_skip ?_ | refine awp_ret ?_ | refine awp_exit ?_); simp only [go_sem, simprocAttr, hF, hd, hd2])
    | ((with_reducible refine headW_go ?_); simp only [go_sem, simprocAttr, hF, hd, hd2, hbx])
    | with_reducible refine awp_seq_k fun _ _ => ?_
    | (refine awp_draw' (id := 5) [] 8 (by kernel_rfl) (by kernel_rfl) rfl rfl (fun bx0 hbx => ?_); try dsimp only [List.take, List.drop])
    | (refine awp_draw' (id := 8) [] 16 (by kernel_rfl) (by kernel_rfl) rfl rfl (fun bx0 hbx => ?_); try dsimp only [List.take, List.drop])
    | with_reducible (first | refine awp_region [] ?_ | refine awp_block ?_)
    | go_step)
   rw [hN, hB]
   try rfl
  obtain ⟨x, hx⟩ := get_of_lt hin
  have hd2 : decide ((i : Int) < (l.length : Int)) = true := decide_eq_true (by omega)
  have hB : bsB l a b = lkP a b x := by unfold bsB; rw [hN, hx]
  have hq := (orI_lt a b x).2
  repeat (first
   | (with_reducible (first | refine sops_go ?_ | refine headW_end ?_ | refine sops_end ?_ | refine awp_if ?_ | refine awp_skip ?_ | refine awp_ret ?_ | refine awp_exit ?_); simp only [go_sem, simprocAttr, hF, hd, hd2, hx])
   | ((with_reducible refine headW_go ?_); simp only [go_sem, simprocAttr, hF, hd, hd2, hx, hbx])
   | with_reducible refine awp_seq_k fun _ _ => ?_
   | (refine awp_draw' (id := 5) [] 8 (by kernel_rfl) (by kernel_rfl) rfl rfl (fun bx0 hbx => ?_); try dsimp only [List.take, List.drop])
   | (refine awp_draw' (id := 8) [] 16 (by kernel_rfl) (by kernel_rfl) rfl rfl (fun bx0 hbx => ?_); try dsimp only [List.take, List.drop])
   | with_reducible (first | refine awp_region [] ?_ | refine awp_block ?_)
   | go_step)
  refine ⟨_, compareL_ok x ⟨a, b, 0⟩, ?_⟩
  simp only [go_sem, simprocAttr, hF, hq]
  repeat (first
   | (with_reducible (first | refine sops_go ?_ | refine headW_end ?_ | refine sops_end ?_ | refine awp_if ?_ | refine awp_skip ?_ | refine awp_ret ?_ | refine awp_exit ?_); simp only [go_sem, simprocAttr, hF, hq, hd, hd2])
   | ((with_reducible refine headW_go ?_); simp only [go_sem, simprocAttr, hF, hq, hd, hd2, hbx])
   | with_reducible refine awp_seq_k fun _ _ => ?_
   | (refine awp_draw' (id := 5) [] 8 (by kernel_rfl) (by kernel_rfl) rfl rfl (fun bx0 hbx => ?_); try dsimp only [List.take, List.drop])
   | (refine awp_draw' (id := 8) [] 16 (by kernel_rfl) (by kernel_rfl) rfl rfl (fun bx0 hbx => ?_); try dsimp only [List.take, List.drop])
   | with_reducible (first | refine awp_region [] ?_ | refine awp_block ?_)
   | go_step)
  rw [hN, hB]
  try rfl
 have hd : decide ((i : Int) < (j : Int)) = true := decide_eq_true (by omega)
 have w1 : IntKind.i64.wrap ((i : Int) + (j : Int)) = (i : Int) + (j : Int) := by rw [IntKind.wrap_i64]; omega
 have w2 : IntKind.u64.wrap ((i : Int) + (j : Int)) = (i : Int) + (j : Int) := by rw [IntKind.wrap_u64]; omega
 have w3 : IntKind.i64.wrap (((i : Int) + (j : Int)) / 2) = (((i + j) / 2 : Nat) : Int) := by rw [IntKind.wrap_i64]; omega
 obtain ⟨h, hh⟩ : ∃ h, h = (i + j) / 2 := ⟨_, rfl⟩
 rw [← hh] at w3
 obtain ⟨x, hx⟩ := get_of_lt (l := l) (k := h) (by omega)
 have hq := (orI_lt a b x).1
 have w4 : IntKind.i64.wrap ((h : Int) + 1) = ((h + 1 : Nat) : Int) := by rw [IntKind.wrap_i64]; omega
 have mono : ∀ k y, l[k]? = some y → (k < h → ltL y.fr y.tt x = true ∨ True) := fun _ _ _ _ => .inr trivial
 repeat (first
  | (with_reducible (first | refine sops_go ?_ | refine headW_end ?_ | refine sops_end ?_ | refine awp_if ?_ | refine awp_skip ?_ | refine awp_ret ?_ | refine awp_exit ?_); simp only [go_sem, simprocAttr, hF, hd, w1, w2, w3, hx])
  | ((with_reducible refine headW_go ?_); simp only [go_sem, simprocAttr, hF, hd, w1, w2, w3, hx, hbx])
  | with_reducible refine awp_seq_k fun _ _ => ?_
  | (refine awp_draw' (id := 5) [] 8 (by kernel_rfl) (by kernel_rfl) rfl rfl (fun bx0 hbx => ?_); try dsimp only [List.take, List.drop])
  | (refine awp_draw' (id := 8) [] 16 (by kernel_rfl) (by kernel_rfl) rfl rfl (fun bx0 hbx => ?_); try dsimp only [List.take, List.drop])
  | with_reducible (first | refine awp_region [] ?_ | refine awp_block ?_)
  | go_step)
 refine ⟨_, compareL_ok x ⟨a, b, 0⟩, ?_⟩
 simp only [go_sem, simprocAttr, hF, hq]
 have hsrt := List.pairwise_iff_getElem.1 hs
 have hxh := (List.getElem?_eq_some_iff.1 hx)
 cases he : ltL a b x with
 | true =>
  try simp only [go_sem, simprocAttr, hF, hq, he]
  repeat (first
   | (with_reducible (first | refine sops_go ?_ | refine headW_end ?_ | refine sops_end ?_ | refine awp_if ?_ | refine awp_skip ?_ | refine awp_ret ?_ | refine awp_exit ?_); simp only [go_sem, simprocAttr, hF, hq, he])
   | ((with_reducible refine headW_go ?_); simp only [go_sem, simprocAttr, hF, hq, he, hbx])
   | with_reducible refine awp_seq_k fun _ _ => ?_
   | (refine awp_draw' (id := 5) [] 8 (by kernel_rfl) (by kernel_rfl) rfl rfl (fun bx0 hbx => ?_); try dsimp only [List.take, List.drop])
   | (refine awp_draw' (id := 8) [] 16 (by kernel_rfl) (by kernel_rfl) rfl rfl (fun bx0 hbx => ?_); try dsimp only [List.take, List.drop])
   | with_reducible (first | refine awp_region [] ?_ | refine awp_block ?_)
   | go_step)
  refine ⟨⟨(h + 1, j), by dsimp only; omega, hjn, fun k hk y hy => by
   by_cases hkh : k = h
   · subst hkh; rw [hx] at hy; cases hy; exact he
   · obtain ⟨g1, g2⟩ := List.getElem?_eq_some_iff.1 hy
     have := hsrt k h g1 hxh.1 (by dsimp only at hk; omega)
     rw [g2, hxh.2] at this
     rw [ltL_iff] at this he ⊢
     omega, hJ⟩, by dsimp only; omega, hR _ _ (sub_mk ?_)⟩
  simp only [go_sem, simprocAttr, hF, w4]
 | false =>
  try simp only [go_sem, simprocAttr, hF, hq, he]
  repeat (first
   | (with_reducible (first | refine sops_go ?_ | refine headW_end ?_ | refine sops_end ?_ | refine awp_if ?_ | refine awp_skip ?_ | refine awp_ret ?_ | refine awp_exit ?_); simp only [go_sem, simprocAttr, hF, hq, he])
   | ((with_reducible refine headW_go ?_); simp only [go_sem, simprocAttr, hF, hq, he, hbx])
   | with_reducible refine awp_seq_k fun _ _ => ?_
   | (refine awp_draw' (id := 5) [] 8 (by kernel_rfl) (by kernel_rfl) rfl rfl (fun bx0 hbx => ?_); try dsimp only [List.take, List.drop])
   | (refine awp_draw' (id := 8) [] 16 (by kernel_rfl) (by kernel_rfl) rfl rfl (fun bx0 hbx => ?_); try dsimp only [List.take, List.drop])
   | with_reducible (first | refine awp_region [] ?_ | refine awp_block ?_)
   | go_step)
  refine ⟨⟨(i, h), by dsimp only; omega, by dsimp only; omega, hI, fun k hk y hy => by
   by_cases hkh : k = h
   · subst hkh; rw [hx] at hy; cases hy; exact he
   · obtain ⟨g1, g2⟩ := List.getElem?_eq_some_iff.1 hy
     have := hsrt h k hxh.1 g1 (by dsimp only at hk; omega)
     rw [g2, hxh.2, ltL_iff] at this
     rw [Bool.eq_false_iff] at he ⊢
     rw [ne_eq, ltL_iff] at he ⊢
     omega⟩, by dsimp only; omega, hR _ _ (sub_mk ?_)⟩
  simp only [go_sem, simprocAttr, hF, w4]
/- Usable links, by abstract states. -/
structure SmallN (n : Net) : Prop where
 pow : n.pow.length ≤ 1000000
 rows : ∀ l ∈ n.pow, l.length ≤ 1000000
 lk : n.lk.length ≤ 1000000
 mg : n.mg.length ≤ 1000000
theorem idxL_cases (n : Net) (a b : Int) : idxL n a b = -1 ∨ ∃ (i : Nat) (x : Lk), n.lk[i]? = some x ∧ x.fr = a ∧ x.tt = b ∧ idxL n a b = (i : Int) := by
 rcases idxP_spec (lkP a b) n.lk 0 with ⟨h, _⟩ | ⟨i, x, h1, h2, h3, _⟩
 · exact .inl h
 · rw [lkP_iff] at h2
   exact .inr ⟨i, x, h1, h2.1, h2.2, by unfold idxL; rw [h3]; omega⟩
theorem heard_nums {n : Net} (hN : NetOK n) {s : Int} (h0 : 0 ≤ s) (h1 : s ≤ 68719476736) : IntKind.i64.wrap (s * 1000) = s * 1000 ∧ IntKind.i64.wrap (n.noise + 0) = n.noise + 0 ∧ IntKind.i64.wrap (n.thr * (n.noise + 0)) = n.thr * (n.noise + 0) := by
 obtain ⟨a0, a1⟩ := hN.noise
 obtain ⟨b0, b1⟩ := hN.thr
 have m1 : n.thr * (n.noise + 0) ≤ 100000 * 68719476736 := Int.mul_le_mul b1 (by omega) (by omega) (by omega)
 have m2 : 0 ≤ n.thr * (n.noise + 0) := Int.mul_nonneg (by omega) (by omega)
 refine ⟨?_, ?_, ?_⟩ <;> rw [IntKind.wrap_i64] <;> omega

set_option maxHeartbeats 2000000 in
theorem nfindP_ok (n : Net) (a b : Int) (hN : NetOK n) : FnOK Tryz.prog 82 [.agg n.pv, iv a, iv b] ⟨iv (idxL n a b), none⟩ := by
 have hx : idxL n a b = if bsB n.lk a b = true then 0 + (bsN n.lk a b : Int) else -1 := idx_bs (a := a) (b := b) (l := n.lk) 0 hN.sorted
 have hlen := hN.lk
 refine fn_ok Tryz.func82 (by kernel_rfl) rfl (by rw [Tryz.ntmps82]; exact of_decide_eq_true rfl) (fun F hF => ?_)
 rw [Tryz.ntmps82] at hF
 rw [Tryz.results82]
 repeat (first
  | (with_reducible (first | refine sops_go ?_ | refine headW_end ?_ | refine sops_end ?_ | refine awp_if ?_ | refine awp_skip ?_ | refine awp_ret ?_ | refine awp_exit ?_); simp only [go_sem, simprocAttr, hF])
  | with_reducible (first | refine awp_seq_k fun _ _ => ?_ | refine awp_region [] ?_ | refine awp_block ?_)
  | go_step)
 refine ⟨_, bs_ok n.lk a b hN.sorted (by omega), ?_⟩
 simp only [go_sem, simprocAttr, hF]
 cases hB : bsB n.lk a b with
 | false =>
  try simp only [go_sem, simprocAttr, hF, hB]
  repeat (first
   | (with_reducible (first | refine sops_go ?_ | refine headW_end ?_ | refine sops_end ?_ | refine awp_if ?_ | refine awp_skip ?_ | refine awp_ret ?_ | refine awp_exit ?_); simp only [go_sem, simprocAttr, hF, hB])
   | with_reducible (first | refine awp_seq_k fun _ _ => ?_ | refine awp_region [] ?_ | refine awp_block ?_)
   | go_step)
  rw [hx, hB, if_neg (by decide)]
 | true =>
  try simp only [go_sem, simprocAttr, hF, hB]
  repeat (first
   | (with_reducible (first | refine sops_go ?_ | refine headW_end ?_ | refine sops_end ?_ | refine awp_if ?_ | refine awp_skip ?_ | refine awp_ret ?_ | refine awp_exit ?_); simp only [go_sem, simprocAttr, hF, hB])
   | with_reducible (first | refine awp_seq_k fun _ _ => ?_ | refine awp_region [] ?_ | refine awp_block ?_)
   | go_step)
  rw [hx, hB, if_pos rfl, Int.zero_add]

set_option maxHeartbeats 2000000 in
theorem nindex_ok (n : Net) (a b : Int) (hS : SmallN n) (hc : chkN n = 0) : FnOK Tryz.prog 41 [.agg n.pv, iv a, iv b] ⟨iv (idxL n a b), none⟩ := by
 have hN := netOK hc
 have he : (chkN n != 0) = false := by rw [hc]; rfl
 refine fn_ok Tryz.func41 (by kernel_rfl) rfl (by rw [Tryz.ntmps41]; exact of_decide_eq_true rfl) (fun F hF => ?_)
 rw [Tryz.ntmps41] at hF
 rw [Tryz.results41]
 repeat (first
  | (with_reducible (first | refine sops_go ?_ | refine headW_end ?_ | refine sops_end ?_ | refine awp_if ?_ | refine awp_skip ?_ | refine awp_ret ?_ | refine awp_exit ?_); simp only [go_sem, simprocAttr, hF])
  | with_reducible (first | refine awp_seq_k fun _ _ => ?_ | refine awp_region [] ?_ | refine awp_block ?_)
  | go_step)
 refine ⟨_, ncheck_ok n hS.pow hS.rows hS.lk hS.mg, ?_⟩
 simp only [go_sem, simprocAttr, hF, he]
 repeat (first
  | (with_reducible (first | refine sops_go ?_ | refine headW_end ?_ | refine sops_end ?_ | refine awp_if ?_ | refine awp_skip ?_ | refine awp_ret ?_ | refine awp_exit ?_); simp only [go_sem, simprocAttr, hF, he])
  | with_reducible (first | refine awp_seq_k fun _ _ => ?_ | refine awp_region [] ?_ | refine awp_block ?_)
  | go_step)
 refine ⟨_, nfindP_ok n a b hN, ?_⟩
 simp only [go_sem, simprocAttr, hF]
 repeat (first
  | (with_reducible (first | refine sops_go ?_ | refine headW_end ?_ | refine sops_end ?_ | refine awp_if ?_ | refine awp_skip ?_ | refine awp_ret ?_ | refine awp_exit ?_); simp only [go_sem, simprocAttr, hF])
  | with_reducible (first | refine awp_seq_k fun _ _ => ?_ | refine awp_region [] ?_ | refine awp_block ?_)
  | go_step)
 all_goals (try rfl)

set_option maxHeartbeats 2000000 in
theorem hears_ok (n : Net) (s : Int) (hN : NetOK n) (h0 : 0 ≤ s) (h1 : s ≤ 68719476736) : FnOK Tryz.prog 178 [.agg n.pv, iv s, iv 0] ⟨bv (heardB n s), none⟩ := by
 obtain ⟨w1, w2, w3⟩ := heard_nums hN h0 h1
 unfold heardB
 refine fn_ok Tryz.func178 (by kernel_rfl) rfl (by rw [Tryz.ntmps178]; exact of_decide_eq_true rfl) (fun F hF => ?_)
 rw [Tryz.ntmps178] at hF
 rw [Tryz.results178]
 repeat (first
  | (with_reducible (first | refine sops_go ?_ | refine headW_end ?_ | refine sops_end ?_ | refine awp_if ?_ | refine awp_skip ?_ | refine awp_ret ?_ | refine awp_exit ?_); simp only [go_sem, simprocAttr, hF, w1, w2, w3])
  | with_reducible (first | refine awp_seq_k fun _ _ => ?_ | refine awp_region [] ?_ | refine awp_block ?_)
  | go_step)
 all_goals (try rfl)

set_option maxHeartbeats 20000000 in
theorem usable_ok (n : Net) (i : Nat) (x : Lk) (m : Int) (hN : NetOK n) (hx : n.lk[i]? = some x) (hm : n.mg[i]? = some m) : FnOK Tryz.prog 169 [.agg n.pv, iv (i : Int)] ⟨bv (decide (0 ≤ idxL n x.tt x.fr) && (heardB n m && heardB n (n.mg.getD (idxL n x.tt x.fr).toNat 0))), none⟩ := by
 obtain ⟨hm0, hm1⟩ := hN.mgb i m hm
 have hgd : n.mg.getD i 0 = m := by rw [List.getD_eq_getElem?_getD, hm]; rfl
 refine fn_ok Tryz.func169 (by kernel_rfl) rfl (by rw [Tryz.ntmps169]; exact of_decide_eq_true rfl) (fun F hF => ?_)
 rw [Tryz.ntmps169] at hF
 rw [Tryz.results169]
 repeat (first
  | (with_reducible (first | refine sops_go ?_ | refine headW_end ?_ | refine sops_end ?_ | refine awp_if ?_ | refine awp_skip ?_ | refine awp_ret ?_ | refine awp_exit ?_); simp only [go_sem, simprocAttr, hF, hx])
  | ((with_reducible refine headW_go ?_); simp only [go_sem, simprocAttr, hF, hx, hbx])
  | with_reducible refine awp_seq_k fun _ _ => ?_
  | (refine awp_draw' (id := 1) [] 14 (by kernel_rfl) (by kernel_rfl) rfl rfl (fun bx0 hbx => ?_); try dsimp only [List.take, List.drop])
  | (refine awp_draw' (id := 2) [] 20 (by kernel_rfl) (by kernel_rfl) rfl rfl (fun bx0 hbx => ?_); try dsimp only [List.take, List.drop])
  | with_reducible (first | refine awp_region [] ?_ | refine awp_block ?_)
  | go_step)
 refine ⟨_, nfindP_ok n x.tt x.fr hN, ?_⟩
 simp only [go_sem, simprocAttr, hF]
 rcases idxL_cases n x.tt x.fr with hk | ⟨k, y, hy, _, _, hk⟩
 · have e0 : decide ((0 : Int) ≤ -1) = false := rfl
   rw [hk]
   try simp only [go_sem, simprocAttr, hF, hk, e0]
   repeat (first
    | (with_reducible (first | refine sops_go ?_ | refine headW_end ?_ | refine sops_end ?_ | refine awp_if ?_ | refine awp_skip ?_ | refine awp_ret ?_ | refine awp_exit ?_); simp only [go_sem, simprocAttr, hF, hk, e0])
    | ((with_reducible refine headW_go ?_); simp only [go_sem, simprocAttr, hF, hk, e0, hbx])
    | with_reducible refine awp_seq_k fun _ _ => ?_
    | (refine awp_draw' (id := 1) [] 14 (by kernel_rfl) (by kernel_rfl) rfl rfl (fun bx0 hbx => ?_); try dsimp only [List.take, List.drop])
    | (refine awp_draw' (id := 2) [] 20 (by kernel_rfl) (by kernel_rfl) rfl rfl (fun bx0 hbx => ?_); try dsimp only [List.take, List.drop])
    | with_reducible (first | refine awp_region [] ?_ | refine awp_block ?_)
    | go_step)
   try rfl
 have e0 : decide ((0 : Int) ≤ (k : Int)) = true := decide_eq_true (by omega)
 have hkl := (List.getElem?_eq_some_iff.1 hy).1
 obtain ⟨m2, hm2⟩ := get_of_lt (l := n.mg) (k := k) (by rw [hN.mg]; exact hkl)
 obtain ⟨hp0, hp1⟩ := hN.mgb k m2 hm2
 have hgd2 : n.mg.getD (k : Int).toNat 0 = m2 := by rw [Int.toNat_natCast, List.getD_eq_getElem?_getD, hm2]; rfl
 rw [hk, hgd2]
 try simp only [go_sem, simprocAttr, hF, hk, e0, hm]
 repeat (first
  | (with_reducible (first | refine sops_go ?_ | refine headW_end ?_ | refine sops_end ?_ | refine awp_if ?_ | refine awp_skip ?_ | refine awp_ret ?_ | refine awp_exit ?_); simp only [go_sem, simprocAttr, hF, hk, e0, hm])
  | ((with_reducible refine headW_go ?_); simp only [go_sem, simprocAttr, hF, hk, e0, hm, hbx])
  | with_reducible refine awp_seq_k fun _ _ => ?_
  | (refine awp_draw' (id := 1) [] 14 (by kernel_rfl) (by kernel_rfl) rfl rfl (fun bx0 hbx => ?_); try dsimp only [List.take, List.drop])
  | (refine awp_draw' (id := 2) [] 20 (by kernel_rfl) (by kernel_rfl) rfl rfl (fun bx0 hbx => ?_); try dsimp only [List.take, List.drop])
  | with_reducible (first | refine awp_region [] ?_ | refine awp_block ?_)
  | go_step)
 refine ⟨_, hears_ok n m hN hm0 hm1, ?_⟩
 simp only [go_sem, simprocAttr, hF]
 cases e1 : heardB n m with
 | false =>
  try simp only [go_sem, simprocAttr, hF, e1]
  repeat (first
   | (with_reducible (first | refine sops_go ?_ | refine headW_end ?_ | refine sops_end ?_ | refine awp_if ?_ | refine awp_skip ?_ | refine awp_ret ?_ | refine awp_exit ?_); simp only [go_sem, simprocAttr, hF, e1])
   | ((with_reducible refine headW_go ?_); simp only [go_sem, simprocAttr, hF, e1, hbx])
   | with_reducible refine awp_seq_k fun _ _ => ?_
   | (refine awp_draw' (id := 1) [] 14 (by kernel_rfl) (by kernel_rfl) rfl rfl (fun bx0 hbx => ?_); try dsimp only [List.take, List.drop])
   | (refine awp_draw' (id := 2) [] 20 (by kernel_rfl) (by kernel_rfl) rfl rfl (fun bx0 hbx => ?_); try dsimp only [List.take, List.drop])
   | with_reducible (first | refine awp_region [] ?_ | refine awp_block ?_)
   | go_step)
  try (rw [hk, e0])
  try rfl
 | true =>
  try simp only [go_sem, simprocAttr, hF, e1, hm2]
  repeat (first
   | (with_reducible (first | refine sops_go ?_ | refine headW_end ?_ | refine sops_end ?_ | refine awp_if ?_ | refine awp_skip ?_ | refine awp_ret ?_ | refine awp_exit ?_); simp only [go_sem, simprocAttr, hF, e1, hm2])
   | ((with_reducible refine headW_go ?_); simp only [go_sem, simprocAttr, hF, e1, hm2, hbx])
   | with_reducible refine awp_seq_k fun _ _ => ?_
   | (refine awp_draw' (id := 1) [] 14 (by kernel_rfl) (by kernel_rfl) rfl rfl (fun bx0 hbx => ?_); try dsimp only [List.take, List.drop])
   | (refine awp_draw' (id := 2) [] 20 (by kernel_rfl) (by kernel_rfl) rfl rfl (fun bx0 hbx => ?_); try dsimp only [List.take, List.drop])
   | with_reducible (first | refine awp_region [] ?_ | refine awp_block ?_)
   | go_step)
  refine ⟨_, hears_ok n m2 hN hp0 hp1, ?_⟩
  simp only [go_sem, simprocAttr, hF]
  repeat (first
   | (with_reducible (first | refine sops_go ?_ | refine headW_end ?_ | refine sops_end ?_ | refine awp_if ?_ | refine awp_skip ?_ | refine awp_ret ?_ | refine awp_exit ?_); simp only [go_sem, simprocAttr, hF, e0])
   | ((with_reducible refine headW_go ?_); simp only [go_sem, simprocAttr, hF, e0, hbx])
   | with_reducible refine awp_seq_k fun _ _ => ?_
   | (refine awp_draw' (id := 1) [] 14 (by kernel_rfl) (by kernel_rfl) rfl rfl (fun bx0 hbx => ?_); try dsimp only [List.take, List.drop])
   | (refine awp_draw' (id := 2) [] 20 (by kernel_rfl) (by kernel_rfl) rfl rfl (fun bx0 hbx => ?_); try dsimp only [List.take, List.drop])
   | with_reducible (first | refine awp_region [] ?_ | refine awp_block ?_)
   | go_step)
  rw [hk, hgd2, e1, e0]
  try rfl

set_option maxHeartbeats 20000000 in
theorem Usable_ok (n : Net) (a b : Int) (hS : SmallN n) (hc : chkN n = 0) : FnOK Tryz.prog 151 [.agg n.pv, iv (idxL n a b)] ⟨bv (goodL n a b), none⟩ := by
 have hN := netOK hc
 have he : (chkN n == 0) = true := by rw [hc]; rfl
 unfold goodL
 rcases idxL_cases n a b with hk | ⟨k, y, hy, rfl, rfl, hk⟩
 case inl =>
  have e0 : decide ((0 : Int) ≤ -1) = false := rfl
  rw [hk]
  refine fn_ok Tryz.func151 (by kernel_rfl) rfl (by rw [Tryz.ntmps151]; exact of_decide_eq_true rfl) (fun F hF => ?_)
  rw [Tryz.ntmps151] at hF
  rw [Tryz.results151]
  repeat (first
   | (with_reducible (first | refine sops_go ?_ | refine headW_end ?_ | refine sops_end ?_ | refine awp_if ?_ | refine awp_skip ?_ | refine awp_ret ?_ | refine awp_exit ?_); simp only [go_sem, simprocAttr, hF])
   | with_reducible (first | refine awp_seq_k fun _ _ => ?_ | refine awp_region [] ?_ | refine awp_block ?_)
   | go_step)
  refine ⟨_, ncheck_ok n hS.pow hS.rows hS.lk hS.mg, ?_⟩
  simp only [go_sem, simprocAttr, hF, he]
  repeat (first
   | (with_reducible (first | refine sops_go ?_ | refine headW_end ?_ | refine sops_end ?_ | refine awp_if ?_ | refine awp_skip ?_ | refine awp_ret ?_ | refine awp_exit ?_); simp only [go_sem, simprocAttr, hF, he, e0])
   | with_reducible (first | refine awp_seq_k fun _ _ => ?_ | refine awp_region [] ?_ | refine awp_block ?_)
   | go_step)
  try rfl
 have e0 : decide ((0 : Int) ≤ (k : Int)) = true := decide_eq_true (by omega)
 have hkl := (List.getElem?_eq_some_iff.1 hy).1
 have e1 : decide ((k : Int) < (n.lk.length : Int)) = true := decide_eq_true (by omega)
 obtain ⟨m, hm⟩ := get_of_lt (l := n.mg) (k := k) (by rw [hN.mg]; exact hkl)
 have hgd : n.mg.getD (k : Int).toNat 0 = m := by rw [Int.toNat_natCast, List.getD_eq_getElem?_getD, hm]; rfl
 rw [hk, hgd]
 generalize hG : (decide (0 ≤ idxL n y.tt y.fr) && (heardB n m && heardB n (n.mg.getD (idxL n y.tt y.fr).toNat 0))) = G
 have hus := usable_ok n k y m hN hy hm
 rw [hG] at hus
 refine fn_ok Tryz.func151 (by kernel_rfl) rfl (by rw [Tryz.ntmps151]; exact of_decide_eq_true rfl) (fun F hF => ?_)
 rw [Tryz.ntmps151] at hF
 rw [Tryz.results151]
 repeat (first
  | (with_reducible (first | refine sops_go ?_ | refine headW_end ?_ | refine sops_end ?_ | refine awp_if ?_ | refine awp_skip ?_ | refine awp_ret ?_ | refine awp_exit ?_); simp only [go_sem, simprocAttr, hF])
  | with_reducible (first | refine awp_seq_k fun _ _ => ?_ | refine awp_region [] ?_ | refine awp_block ?_)
  | go_step)
 refine ⟨_, ncheck_ok n hS.pow hS.rows hS.lk hS.mg, ?_⟩
 simp only [go_sem, simprocAttr, hF, he]
 repeat (first
  | (with_reducible (first | refine sops_go ?_ | refine headW_end ?_ | refine sops_end ?_ | refine awp_if ?_ | refine awp_skip ?_ | refine awp_ret ?_ | refine awp_exit ?_); simp only [go_sem, simprocAttr, hF, he, e0, e1])
  | with_reducible (first | refine awp_seq_k fun _ _ => ?_ | refine awp_region [] ?_ | refine awp_block ?_)
  | go_step)
 refine ⟨_, hus, ?_⟩
 simp only [go_sem, simprocAttr, hF]
 repeat (first
  | (with_reducible (first | refine sops_go ?_ | refine headW_end ?_ | refine sops_end ?_ | refine awp_if ?_ | refine awp_skip ?_ | refine awp_ret ?_ | refine awp_exit ?_); simp only [go_sem, simprocAttr, hF])
  | with_reducible (first | refine awp_seq_k fun _ _ => ?_ | refine awp_region [] ?_ | refine awp_block ?_)
  | go_step)
end Go.Proofs.YticnppnejafhdaaGreatDoor
/- What an explanation names: plain. -/
namespace Go.Proofs.YticnppnejafhdaaGreatDoor
open Go.RowKit
open Nd Rc Mo
open Av
set_option maxRecDepth 100000
set_option linter.unusedSimpArgs false

theorem mem_onLk {al : List Att} {fl fr a b : Int} {x : Att} (h : x ∈ onLk al fl fr a b) : x ∈ al ∧ x.cl = fl ∧ x.f = fr ∧ x.cf = a ∧ x.ct = b := by
  unfold onLk ofFrame at h
  rw [List.mem_filter, List.mem_filter] at h
  simp only [Bool.and_eq_true, beq_iff_eq] at h
  exact ⟨h.1.1, h.1.2.1, h.1.2.2, h.2.1, h.2.2⟩
end Go.Proofs.YticnppnejafhdaaGreatDoor
/- The causes on a link ascend, and begin behind a breach of the monitor: plain. -/
namespace Go.Proofs.YticnppnejafhdaaGreatDoor
open Go.RowKit
open Nd Rc Mo
open Av
set_option maxRecDepth 100000
theorem onLk_k (al : List Att) (fl fr a b : Int) : onLk al fl fr a b = al.filter (inK ⟨fl, fr, a, b⟩) := ownL_k al ⟨fl, fr, a, b⟩ []
theorem run_cover : ∀ (n : Nat) (l : List Att), l.length ≤ n → ∀ (i m : Nat), 0 < m → (∀ j, j < m → ∃ a, l[i + j]? = some a ∧ a.o ≠ 1) → ∃ x ∈ runsOf l, m ≤ x.length ∧ ∃ (j : Nat) (a : Att), j ≤ i ∧ l[j]? = some a ∧ x.headD 0 = a.s
  | _, [], _, i, m, hm, h => by
    obtain ⟨a, ha, _⟩ := h 0 hm
    simp at ha
  | 0, _ :: _, hl, _, _, _, _ => by cases hl
  | n + 1, a :: l, hl, i, m, hm, h => by
    have hl : l.length ≤ n := Nat.le_of_succ_le_succ hl
    by_cases ho : a.o = 1
    · obtain ⟨i, rfl⟩ : ∃ k, i = k + 1 := by
        cases i with
        | zero =>
          obtain ⟨c, hc, hco⟩ := h 0 hm
          simp at hc
          subst hc
          exact absurd ho hco
        | succ k => exact ⟨k, rfl⟩
      rw [runsOf_acked ho]
      obtain ⟨x, hx, h1, j, c, h2, h3, h4⟩ := run_cover n l hl i m hm (fun j hj => by
        obtain ⟨c, hc, hco⟩ := h j hj
        exact ⟨c, by rw [show i + 1 + j = (i + j) + 1 by omega, List.getElem?_cons_succ] at hc; exact hc, hco⟩)
      exact ⟨x, hx, h1, j + 1, c, by omega, by rw [List.getElem?_cons_succ]; exact h3, h4⟩
    · rw [runsOf_lost ho]
      obtain ⟨p, hp⟩ : ∃ p, p = (l.takeWhile nonA).length := ⟨_, rfl⟩
      have hdr : ∀ k, l[p + k]? = (l.dropWhile nonA)[k]? := fun k => by
        have : (l.takeWhile nonA ++ l.dropWhile nonA)[p + k]? = (l.dropWhile nonA)[k]? := by
          rw [List.getElem?_append_right (by omega)]
          congr 1
          omega
        rw [List.takeWhile_append_dropWhile] at this
        exact this
      by_cases hip : i ≤ p
      · refine ⟨_, List.mem_cons_self, ?_, 0, a, Nat.zero_le _, rfl, rfl⟩
        rw [List.length_cons, List.length_map, ← hp]
        refine Classical.byContradiction fun hc => ?_
        obtain ⟨c, hc1, hc2⟩ := h (p + 1 - i) (by omega)
        rw [show i + (p + 1 - i) = p + 1 by omega, List.getElem?_cons_succ] at hc1
        have h0 := hdr 0
        rw [Nat.add_zero, hc1] at h0
        cases hq : l.dropWhile nonA with
        | nil => rw [hq] at h0; simp at h0
        | cons d m' =>
          rw [hq] at h0
          simp at h0
          subst h0
          have := List.head?_dropWhile_not nonA l
          rw [hq] at this
          simp [nonA] at this
          exact hc2 this
      · obtain ⟨x, hx, h1, j, c, h2, h3, h4⟩ := run_cover n (l.dropWhile nonA) (Nat.le_trans (List.dropWhile_sublist nonA).length_le hl) (i - 1 - p) m hm (fun j hj => by
          obtain ⟨c, hc, hco⟩ := h j hj
          refine ⟨c, ?_, hco⟩
          rw [← hdr, show p + (i - 1 - p + j) = i + j - 1 by omega]
          rw [show i + j = (i + j - 1) + 1 by omega, List.getElem?_cons_succ] at hc
          exact hc)
        exact ⟨x, List.mem_cons_of_mem _ hx, h1, p + j + 1, c, by omega, by rw [List.getElem?_cons_succ, hdr]; exact h3, h4⟩
theorem lossOf_idx {n : Net} (hn : chkN n = 0) {a b : Int} (h : 0 ≤ idxL n a b) : lossOf n.lk a b = lossL n a b ∧ 0 ≤ lossL n a b := by
  unfold idxL at h
  unfold lossL
  rcases idxP_spec (lkP a b) n.lk 0 with ⟨h1, _⟩ | ⟨i, y, h1, h2, h3, _⟩
  · omega
  · have hi : idxL n a b = (i : Int) := by unfold idxL; rw [h3]; omega
    rw [hi, Int.toNat_natCast, List.getD_eq_getElem?_getD, h1]
    have hyb := (chkN_links hn).2 y (List.mem_of_getElem? h1)
    simp only [lkP, Bool.and_eq_true, beq_iff_eq] at h2
    refine ⟨?_, hyb.2.2.2.2.1⟩
    unfold lossOf
    cases hq : lossAt n.lk a b with
    | none =>
      unfold lossAt at hq
      rw [Option.map_eq_none_iff, List.find?_eq_none] at hq
      have := hq y (List.mem_reverse.2 (List.mem_of_getElem? h1))
      simp [h2.1, h2.2] at this
    | some x =>
      obtain ⟨z, hz, e1, e2, e3⟩ := lossAt_at hq
      have : z = y := lk_uniq (chkN_pw hn) hz (List.mem_of_getElem? h1) (e2.trans h2.1.symm) (e3.trans h2.2.symm)
      subst this
      exact e1.symm
theorem causes_mem {n : Net} {f : Fl} {r : Rec} {fr a b : Int} {c : Br} (h : c ∈ causesX n f r fr a b) : ∃ i : Nat, i + ((lossL n a b).toNat + 1) ≤ (onLk r.al f.id fr a b).length ∧ c = ⟨f.id, fr, a, b, (((onLk r.al f.id fr a b).drop i).take ((lossL n a b).toNat + 1)).map Att.s⟩ ∧ ∀ j, j < (lossL n a b).toNat + 1 → ∃ x, (onLk r.al f.id fr a b)[i + j]? = some x ∧ x.o ≠ 1 := by
  unfold causesX causesK at h
  obtain ⟨i, hi, h⟩ := List.mem_flatMap.1 h
  have hi' := List.mem_range.1 hi
  unfold causeAt at h
  split at h
  · rename_i hall
    refine ⟨i, by omega, List.mem_singleton.1 h, fun j hj => ?_⟩
    have hlt : i + j < (onLk r.al f.id fr a b).length := by omega
    refine ⟨_, List.getElem?_eq_getElem hlt, ?_⟩
    have hm : (onLk r.al f.id fr a b)[i + j] ∈ ((onLk r.al f.id fr a b).drop i).take ((lossL n a b).toNat + 1) := by
      refine List.mem_of_getElem? (i := j) ?_
      rw [List.getElem?_take, if_pos hj, List.getElem?_drop, List.getElem?_eq_getElem hlt]
    have h1 := List.all_eq_true.1 hall _ hm
    unfold failB at h1
    simp only [Bool.and_eq_true, Bool.not_eq_true', beq_eq_false_iff_ne] at h1
    exact h1.1
  · cases h
theorem on_asc {r : Rec} (hg : good r = true) (fl fr a b : Int) : (onLk r.al fl fr a b).Pairwise fun x y => x.s < y.s := by
  rw [onLk_k]; exact use_asc (good_apart hg) _
theorem slots_get {l : List Att} {i m j : Nat} {s : Int} (h : (((l.drop i).take m).map Att.s)[j]? = some s) : ∃ a, l[i + j]? = some a ∧ a.s = s ∧ j < m := by
  rw [List.getElem?_map, List.getElem?_take] at h
  split at h
  · rename_i hj
    rw [List.getElem?_drop] at h
    obtain ⟨a, h1, h2⟩ := Option.map_eq_some_iff.1 h
    exact ⟨a, h1, h2, hj⟩
  · cases h
theorem slots_head {l : List Att} {i m : Nat} (hm : 0 < m) (hi : i + m ≤ l.length) : ∃ a, l[i]? = some a ∧ (((l.drop i).take m).map Att.s).headD 0 = a.s := by
  have hlt : i < l.length := by omega
  refine ⟨l[i], List.getElem?_eq_getElem hlt, ?_⟩
  rw [List.drop_eq_getElem_cons hlt]
  cases m with
  | zero => omega
  | succ m => rfl
structure CauseOK (f : Fl) (fr a b : Int) (c : Br) : Prop where
  fl : c.fl = f.id
  fr : c.fr = fr
  fm : c.fm = a
  tt : c.tt = b
  ne : c.sl ≠ []
  asc : ∀ (j : Nat) (x y : Int), c.sl[j]? = some x → c.sl[j + 1]? = some y → x < y
  short : c.sl.length ≤ 1000000
theorem cause_ok {n : Net} {f : Fl} {r : Rec} {fr a b : Int} {c : Br} (hg : good r = true) (hl : r.al.length ≤ 1000000) (h : c ∈ causesX n f r fr a b) : CauseOK f fr a b c := by
  obtain ⟨i, h1, rfl, _⟩ := causes_mem h
  have hle : (onLk r.al f.id fr a b).length ≤ r.al.length := by unfold onLk ofFrame; exact Nat.le_trans (List.length_filter_le _ _) (List.length_filter_le _ _)
  refine ⟨rfl, rfl, rfl, rfl, fun e => ?_, fun j x y hx hy => ?_, ?_⟩
  · have := congrArg List.length e
    simp only [List.length_map, List.length_take, List.length_drop, List.length_nil] at this
    omega
  · obtain ⟨p, hp, rfl, _⟩ := slots_get hx
    obtain ⟨q, hq, rfl, _⟩ := slots_get hy
    exact asc_get (on_asc hg _ _ _ _) (show i + j < i + (j + 1) by omega) hp hq
  · simp only [List.length_map, List.length_take, List.length_drop]
    omega
theorem causes_pw {n : Net} {f : Fl} {r : Rec} {fr a b : Int} (hg : good r = true) : (causesX n f r fr a b).Pairwise fun x y => x.sl.headD 0 < y.sl.headD 0 := by
  unfold causesX causesK
  rw [List.pairwise_flatMap]
  refine ⟨fun i _ => by unfold causeAt; split <;> simp, ?_⟩
  refine List.Pairwise.imp_of_mem ?_ List.pairwise_lt_range
  intro i j hi hj hij x hx y hy
  have hi' := List.mem_range.1 hi
  have hj' := List.mem_range.1 hj
  unfold causeAt at hx hy
  split at hx
  · split at hy
    · rw [List.mem_singleton.1 hx, List.mem_singleton.1 hy]
      obtain ⟨p, hp, e1⟩ := slots_head (l := onLk r.al f.id fr a b) (i := i) (m := (lossL n a b).toNat + 1) (by omega) (by omega)
      obtain ⟨q, hq, e2⟩ := slots_head (l := onLk r.al f.id fr a b) (i := j) (m := (lossL n a b).toNat + 1) (by omega) (by omega)
      dsimp only
      rw [e1, e2]
      exact asc_get (on_asc hg _ _ _ _) hij hp hq
    · cases hy
  · cases hx
theorem pw_next {α : Type} {R : α → α → Prop} {l : List α} (h : l.Pairwise R) {i : Nat} {x y : α} (hx : l[i]? = some x) (hy : l[i + 1]? = some y) : R x y := by
  obtain ⟨h1, e1⟩ := List.getElem?_eq_some_iff.1 hx
  obtain ⟨h2, e2⟩ := List.getElem?_eq_some_iff.1 hy
  rw [← e1, ← e2]
  exact List.pairwise_iff_getElem.1 h i (i + 1) h1 h2 (by omega)
def behB (f : Fl) (fr a b s : Int) (x : Br) : Bool := x.fl == f.id && (x.fr == fr && (x.fm == a && (x.tt == b && decide (x.sl.headD 0 ≤ s))))
theorem cause_breach {n : Net} {f : Fl} {r : Rec} {fr a b : Int} (hn : chkN n = 0) (hg : good r = true) (hi : 0 ≤ idxL n a b) {c : Br} (h : c ∈ causesX n f r fr a b) : (sortB (brAll n.lk r.al)).any (behB f fr a b (c.sl.headD 0)) = true := by
  obtain ⟨i, h1, rfl, h3⟩ := causes_mem h
  obtain ⟨hlo, hl0⟩ := lossOf_idx hn hi
  obtain ⟨p, hp, e1⟩ := slots_head (l := onLk r.al f.id fr a b) (i := i) (m := (lossL n a b).toNat + 1) (by omega) h1
  obtain ⟨x, hx, hlen, j, q, hj, hq, hh⟩ := run_cover _ _ (Nat.le_refl _) i _ (Nat.succ_pos _) h3
  have hK : (⟨f.id, fr, a, b⟩ : UK) ∈ firstK r.al := by
    rw [mem_firstK]
    have hm := mem_onLk (List.mem_of_getElem? hp)
    exact ⟨p, hm.1, by simp [attK, hm.2.1, hm.2.2.1, hm.2.2.2.1, hm.2.2.2.2]⟩
  have hB : (⟨f.id, fr, a, b, x.take (lossOf n.lk a b + 1).toNat⟩ : Br) ∈ brAll n.lk r.al := by
    unfold brAll brs
    refine List.mem_flatMap.2 ⟨_, hK, ?_⟩
    unfold brK overs
    refine List.mem_map.2 ⟨x, List.mem_filter.2 ⟨?_, decide_eq_true ?_⟩, rfl⟩
    · rw [lossP_k, ← onLk_k]; exact hx
    · show lossOf n.lk a b < _
      rw [hlo]; omega
  refine List.any_eq_true.2 ⟨_, (sortB_perm _).mem_iff.2 hB, ?_⟩
  have hle : q.s ≤ p.s := by
    rcases Nat.lt_or_ge j i with h4 | h4
    · have := asc_get (on_asc hg _ _ _ _) h4 hq hp; omega
    · have : j = i := by omega
      subst this
      rw [hp] at hq; cases hq; exact Int.le_refl _
  unfold behB
  dsimp only
  rw [e1, head_take (by rw [hlo]; exact hl0), hh]
  simp [hle]
end Go.Proofs.YticnppnejafhdaaGreatDoor
/- IndexFunc and ContainsFunc by abstract states, at whatever closure. -/
namespace Go.Proofs.YticnppnejafhdaaGreatDoor
open Go.RowKit
open Nd Rc Mo
open Av
set_option maxRecDepth 100000
set_option linter.unusedSimpArgs false
attribute [local go_sem] Av.guardB Av.sop Av.hopx Av.hop Av.hopCall Av.hopF Av.hopB Av.evo Av.evos Av.avCells Av.loadK Av.bound Av.abin Av.aun Av.partsC Av.lfill Av.placesB Av.setAt Av.stl Av.takes Av.src Av.bxOf Av.ownOf Av.St.res Av.St.put Av.St.addBox Av.St.putOwn Av.delL Av.delS Av.look Av.lookL Av.storeSt Av.stealSt Av.St.setBox Av.keepL Av.hitB Av.snap Av.snaps Av.snapCaps Av.AV.lit Av.AV.refs Av.capRefs Av.PV.av Av.CV.av Av.startSt Av.steals Av.athen Av.ablock Av.appK Av.AllS Av.AllO Av.AllR Av.keepS Av.St.avAt Av.RetOK Av.retAll Av.retOne Av.intsOf Av.ptrB Av.appB Av.appSt TypeDesc.isRow List.range_zero Option.some.injEq exists_eq_left' exists_eq_left exists_eq' exists_and_left exists_and_right exists_const true_and and_true and_self false_and and_false or_false false_or or_true true_or if_true if_false Bool.false_eq_true List.zipIdx_cons List.zipIdx_nil List.map_cons List.map_nil List.filter_cons List.filter_nil List.contains_cons List.contains_nil List.drop_succ_cons List.drop_zero List.take_succ_cons List.take_zero List.take_nil List.drop_nil List.length_cons List.length_nil List.cons_append List.nil_append List.append_nil List.getElem?_cons_zero List.getElem?_cons_succ List.getElem?_nil Option.bind_some Option.bind_none Option.map_some Option.map_none Option.isNone_none Option.isNone_some Option.isSome_some Option.isSome_none Bool.and_true Bool.true_and Bool.and_false Bool.false_and Bool.or_false Bool.false_or Bool.not_true Bool.not_false beq_true beq_false Bool.true_beq Bool.false_beq Loc.s.injEq Loc.b.injEq decide_true decide_false beq_self_eq_true Nat.zero_add Nat.add_zero List.getElem?_toArray List.toList_toArray List.size_toArray Value.oneCell' List.all_cons List.all_nil Value.int.injEq AV.v.injEq AV.sl.injEq AV.agg.injEq AV.ref.injEq AV.ept.injEq AV.tup.injEq Value.bool.injEq PV.v.injEq PV.sl.injEq List.isEmpty_nil List.isEmpty_cons forall_const not_true_eq_false not_false_eq_true true_implies false_implies Value.string.injEq List.length_map List.getElem?_map Int.toNat_natCast Int.natCast_nonneg List.length_append Value.cells implies_true TypeDesc.struct.injEq TypeDesc.slice.injEq TypeDesc.array.injEq List.getElem?_toArray Prod.mk.injEq and_assoc exists_false List.cons.injEq Operand.tmp.injEq ite_self AV.fnv.injEq AV.clo.injEq ne_eq eq_self Tryz.sz3 Tryz.zr3 Tryz.by3 Tryz.pl3 Tryz.is3 Tryz.underlying3 Tryz.sz4 Tryz.zr4 Tryz.by4 Tryz.pl4 Tryz.is4 Tryz.underlying4 Tryz.sz43 Tryz.zr43 Tryz.by43 Tryz.pl43 Tryz.is43 Tryz.underlying43 Tryz.sz35 Tryz.zr35 Tryz.by35 Tryz.pl35 Tryz.is35 Tryz.underlying35 Tryz.sz33 Tryz.zr33 Tryz.by33 Tryz.pl33 Tryz.is33 Tryz.underlying33 Tryz.sz28 Tryz.zr28 Tryz.by28 Tryz.pl28 Tryz.is28 Tryz.underlying28 Tryz.sz39 Tryz.zr39 Tryz.by39 Tryz.pl39 Tryz.is39 Tryz.underlying39 Tryz.sz57 Tryz.zr57 Tryz.by57 Tryz.pl57 Tryz.is57 Tryz.underlying57 Tryz.sz137 Tryz.zr137 Tryz.by137 Tryz.pl137 Tryz.is137 Tryz.underlying137 Tryz.sz66 Tryz.zr66 Tryz.by66 Tryz.pl66 Tryz.is66 Tryz.underlying66 Tryz.sz64 Tryz.zr64 Tryz.by64 Tryz.pl64 Tryz.is64 Tryz.underlying64 Tryz.sz60 Tryz.zr60 Tryz.by60 Tryz.pl60 Tryz.is60 Tryz.underlying60 Tryz.sz100 Tryz.zr100 Tryz.by100 Tryz.pl100 Tryz.is100 Tryz.underlying100 Tryz.sz103 Tryz.zr103 Tryz.by103 Tryz.pl103 Tryz.is103 Tryz.underlying103 Tryz.sz26 Tryz.zr26 Tryz.by26 Tryz.pl26 Tryz.is26 Tryz.underlying26 Tryz.sz120 Tryz.zr120 Tryz.by120 Tryz.pl120 Tryz.is120 Tryz.underlying120 Tryz.sz117 Tryz.zr117 Tryz.by117 Tryz.pl117 Tryz.is117 Tryz.underlying117 Tryz.sz30 Tryz.zr30 Tryz.by30 Tryz.pl30 Tryz.is30 Tryz.underlying30 Tryz.sz31 Tryz.zr31 Tryz.by31 Tryz.pl31 Tryz.is31 Tryz.underlying31 Tryz.sz40 Tryz.zr40 Tryz.by40 Tryz.pl40 Tryz.is40 Tryz.underlying40 Tryz.sz23 Tryz.zr23 Tryz.by23 Tryz.pl23 Tryz.is23 Tryz.underlying23 Tryz.sz24 Tryz.zr24 Tryz.by24 Tryz.pl24 Tryz.is24 Tryz.underlying24 Tryz.sz22 Tryz.zr22 Tryz.by22 Tryz.pl22 Tryz.is22 Tryz.underlying22 Tryz.sz141 Tryz.zr141 Tryz.by141 Tryz.pl141 Tryz.is141 Tryz.underlying141 Tryz.sz42 Tryz.zr42 Tryz.by42 Tryz.pl42 Tryz.is42 Tryz.underlying42 Tryz.sz29 Tryz.zr29 Tryz.by29 Tryz.pl29 Tryz.is29 Tryz.underlying29 Tryz.sz83 Tryz.zr83 Tryz.by83 Tryz.pl83 Tryz.is83 Tryz.underlying83 Tryz.it39 Tryz.eg39 Tryz.it137 Tryz.eg137 Tryz.it66 Tryz.eg66 Tryz.it28 Tryz.eg28 Tryz.it60 Tryz.eg60 all_arr loc_ss loc_sb loc_bs loc_bb arr_two arr_one rg1 rg2 rg3 rg4 rg5 rg6 rg7 rg8 ResultVar.tmp.injEq Bool.not_true Bool.not_false undef Rc.Rec.pv Nd.Fl.pv Rc.Dlv.pv Rc.Att.pv Mo.Lt.pv Fn.func.injEq Mo.Net.pv Mo.Lk.pv prow_pv irow_pv Br.pv
set_option maxHeartbeats 2000000 in
theorem idxB_ok (c : FuncId) (caps : List (List PV)) (p : Br → Bool) (l : List Br) (hl : l.length ≤ 1000000) (hc : ∀ y ∈ l, FnOK Tryz.prog c (.agg y.pv :: caps.map AV.ept) ⟨bv (p y), none⟩) : FnOK Tryz.prog 63 [.sl 5 (l.map Br.pv), .fnv c caps] ⟨iv (idxP p l 0), none⟩ := by
 refine fn_ok Tryz.func63 (by kernel_rfl) rfl (by rw [Tryz.ntmps63]; exact of_decide_eq_true rfl) (fun F hF => ?_)
 rw [Tryz.ntmps63] at hF
 rw [Tryz.results63]
 repeat (first
  | (with_reducible (first | refine sops_go ?_ | refine headW_end ?_ | refine sops_end ?_ | refine awp_if ?_ | refine awp_skip ?_ | refine awp_ret ?_ | refine awp_exit ?_); simp only [go_sem, simprocAttr, hF])
  | with_reducible (first | refine awp_seq_k fun _ _ => ?_ | refine awp_region [] ?_ | refine awp_block ?_)
  | go_step)
 refine awp_loop_by (ι := {k : Nat // k ≤ l.length ∧ idxP p l 0 = idxP p (l.drop k) (k : Int)}) (fun k σ => ⟨(8, iv (k.1 : Int)) :: keepS [0, 1, 4, 7] σ.slot, σ.box, [], σ.ext⟩) (fun k => l.length - k.1) ⟨0, by omega, rfl⟩ (sub_mk ?_) (fun R hR k => ?_)
 · simp only [go_sem, simprocAttr, hF]
   repeat' (first | rfl | refine ⟨?_, ?_⟩)
 obtain ⟨k, hk, hT⟩ := k
 dsimp only
 simp only [go_sem, simprocAttr, hF]
 by_cases hlt : k < l.length
 case neg =>
  have hd : decide ((k : Int) < (l.length : Int)) = false := decide_eq_false (by omega)
  repeat (first
   | (with_reducible (first | refine sops_go ?_ | refine headW_end ?_ | refine sops_end ?_ | refine awp_if ?_ | refine awp_skip ?_ | refine awp_ret ?_ | refine awp_exit ?_); simp only [go_sem, simprocAttr, hF, hd])
   | with_reducible (first | refine awp_seq_k fun _ _ => ?_ | refine awp_region [] ?_ | refine awp_block ?_)
   | go_step)
  rw [hT, List.drop_of_length_le (by omega)]
  rfl
 obtain ⟨y, hyk⟩ := get_of_lt hlt
 have hd : decide ((k : Int) < (l.length : Int)) = true := decide_eq_true (by omega)
 have hw : IntKind.i64.wrap ((k : Int) + 1) = ((k + 1 : Nat) : Int) := by rw [IntKind.wrap_i64]; omega
 have hT' : idxP p l 0 = if p y = true then (k : Int) else idxP p (l.drop (k + 1)) ((k + 1 : Nat) : Int) := by rw [hT, drop_of_get hyk, idxP]; rfl
 repeat (first
  | (with_reducible (first | refine sops_go ?_ | refine headW_end ?_ | refine sops_end ?_ | refine awp_if ?_ | refine awp_skip ?_ | refine awp_ret ?_ | refine awp_exit ?_); simp only [go_sem, simprocAttr, hF, hd, hyk])
  | with_reducible (first | refine awp_seq_k fun _ _ => ?_ | refine awp_region [] ?_ | refine awp_block ?_)
  | go_step)
 refine ⟨_, hc y (List.mem_of_getElem? hyk), ?_⟩
 simp only [go_sem, simprocAttr, hF]
 cases he : p y with
 | true =>
  try simp only [go_sem, simprocAttr, hF, he]
  repeat (first
   | (with_reducible (first | refine sops_go ?_ | refine headW_end ?_ | refine sops_end ?_ | refine awp_if ?_ | refine awp_skip ?_ | refine awp_ret ?_ | refine awp_exit ?_); simp only [go_sem, simprocAttr, hF, he])
   | with_reducible (first | refine awp_seq_k fun _ _ => ?_ | refine awp_region [] ?_ | refine awp_block ?_)
   | go_step)
  rw [hT', if_pos he]
 | false =>
  try simp only [go_sem, simprocAttr, hF, he]
  repeat (first
   | (with_reducible (first | refine sops_go ?_ | refine headW_end ?_ | refine sops_end ?_ | refine awp_if ?_ | refine awp_skip ?_ | refine awp_ret ?_ | refine awp_exit ?_); simp only [go_sem, simprocAttr, hF, he])
   | with_reducible (first | refine awp_seq_k fun _ _ => ?_ | refine awp_region [] ?_ | refine awp_block ?_)
   | go_step)
  refine ⟨⟨k + 1, by omega, by rw [hT', if_neg (by rw [he]; decide)]⟩, by dsimp only; omega, hR _ _ (sub_mk ?_)⟩
  simp only [go_sem, simprocAttr, hF, hw]

set_option maxHeartbeats 2000000 in
theorem contB_ok (c : FuncId) (caps : List (List PV)) (p : Br → Bool) (l : List Br) (hl : l.length ≤ 1000000) (hc : ∀ y ∈ l, FnOK Tryz.prog c (.agg y.pv :: caps.map AV.ept) ⟨bv (p y), none⟩) : FnOK Tryz.prog 29 [.sl 5 (l.map Br.pv), .fnv c caps] ⟨bv (l.any p), none⟩ := by
 have hx := idx_any p l
 refine fn_ok Tryz.func29 (by kernel_rfl) rfl (by rw [Tryz.ntmps29]; exact of_decide_eq_true rfl) (fun F hF => ?_)
 rw [Tryz.ntmps29] at hF
 rw [Tryz.results29]
 repeat (first
  | (with_reducible (first | refine sops_go ?_ | refine headW_end ?_ | refine sops_end ?_ | refine awp_if ?_ | refine awp_skip ?_ | refine awp_ret ?_ | refine awp_exit ?_); simp only [go_sem, simprocAttr, hF])
  | with_reducible (first | refine awp_seq_k fun _ _ => ?_ | refine awp_region [] ?_ | refine awp_block ?_)
  | go_step)
 refine ⟨_, idxB_ok c caps p l hl hc, ?_⟩
 simp only [go_sem, simprocAttr, hF]
 repeat (first
  | (with_reducible (first | refine sops_go ?_ | refine headW_end ?_ | refine sops_end ?_ | refine awp_if ?_ | refine awp_skip ?_ | refine awp_ret ?_ | refine awp_exit ?_); simp only [go_sem, simprocAttr, hF, hx])
  | with_reducible (first | refine awp_seq_k fun _ _ => ?_ | refine awp_region [] ?_ | refine awp_block ?_)
  | go_step)
 all_goals (try rfl)

set_option maxHeartbeats 2000000 in
theorem idxR_ok (c : FuncId) (caps : List (List PV)) (p : (List Int) → Bool) (l : List (List Int)) (hl : l.length ≤ 1000000) (hc : ∀ y ∈ l, FnOK Tryz.prog c (.sl 1 (y.map irow_pv) :: caps.map AV.ept) ⟨bv (p y), none⟩) : FnOK Tryz.prog 99 [.sl 1 (l.map prow_pv), .fnv c caps] ⟨iv (idxP p l 0), none⟩ := by
 refine fn_ok Tryz.func99 (by kernel_rfl) rfl (by rw [Tryz.ntmps99]; exact of_decide_eq_true rfl) (fun F hF => ?_)
 rw [Tryz.ntmps99] at hF
 rw [Tryz.results99]
 repeat (first
  | (with_reducible (first | refine sops_go ?_ | refine headW_end ?_ | refine sops_end ?_ | refine awp_if ?_ | refine awp_skip ?_ | refine awp_ret ?_ | refine awp_exit ?_); simp only [go_sem, simprocAttr, hF])
  | with_reducible (first | refine awp_seq_k fun _ _ => ?_ | refine awp_region [] ?_ | refine awp_block ?_)
  | go_step)
 refine awp_loop_by (ι := {k : Nat // k ≤ l.length ∧ idxP p l 0 = idxP p (l.drop k) (k : Int)}) (fun k σ => ⟨(8, iv (k.1 : Int)) :: keepS [0, 1, 4, 7] σ.slot, σ.box, [], σ.ext⟩) (fun k => l.length - k.1) ⟨0, by omega, rfl⟩ (sub_mk ?_) (fun R hR k => ?_)
 · simp only [go_sem, simprocAttr, hF]
   repeat' (first | rfl | refine ⟨?_, ?_⟩)
 obtain ⟨k, hk, hT⟩ := k
 dsimp only
 simp only [go_sem, simprocAttr, hF]
 by_cases hlt : k < l.length
 case neg =>
  have hd : decide ((k : Int) < (l.length : Int)) = false := decide_eq_false (by omega)
  repeat (first
   | (with_reducible (first | refine sops_go ?_ | refine headW_end ?_ | refine sops_end ?_ | refine awp_if ?_ | refine awp_skip ?_ | refine awp_ret ?_ | refine awp_exit ?_); simp only [go_sem, simprocAttr, hF, hd])
   | with_reducible (first | refine awp_seq_k fun _ _ => ?_ | refine awp_region [] ?_ | refine awp_block ?_)
   | go_step)
  rw [hT, List.drop_of_length_le (by omega)]
  rfl
 obtain ⟨y, hyk⟩ := get_of_lt hlt
 have hd : decide ((k : Int) < (l.length : Int)) = true := decide_eq_true (by omega)
 have hw : IntKind.i64.wrap ((k : Int) + 1) = ((k + 1 : Nat) : Int) := by rw [IntKind.wrap_i64]; omega
 have hT' : idxP p l 0 = if p y = true then (k : Int) else idxP p (l.drop (k + 1)) ((k + 1 : Nat) : Int) := by rw [hT, drop_of_get hyk, idxP]; rfl
 repeat (first
  | (with_reducible (first | refine sops_go ?_ | refine headW_end ?_ | refine sops_end ?_ | refine awp_if ?_ | refine awp_skip ?_ | refine awp_ret ?_ | refine awp_exit ?_); simp only [go_sem, simprocAttr, hF, hd, hyk])
  | with_reducible (first | refine awp_seq_k fun _ _ => ?_ | refine awp_region [] ?_ | refine awp_block ?_)
  | go_step)
 refine ⟨_, hc y (List.mem_of_getElem? hyk), ?_⟩
 simp only [go_sem, simprocAttr, hF]
 cases he : p y with
 | true =>
  try simp only [go_sem, simprocAttr, hF, he]
  repeat (first
   | (with_reducible (first | refine sops_go ?_ | refine headW_end ?_ | refine sops_end ?_ | refine awp_if ?_ | refine awp_skip ?_ | refine awp_ret ?_ | refine awp_exit ?_); simp only [go_sem, simprocAttr, hF, he])
   | with_reducible (first | refine awp_seq_k fun _ _ => ?_ | refine awp_region [] ?_ | refine awp_block ?_)
   | go_step)
  rw [hT', if_pos he]
 | false =>
  try simp only [go_sem, simprocAttr, hF, he]
  repeat (first
   | (with_reducible (first | refine sops_go ?_ | refine headW_end ?_ | refine sops_end ?_ | refine awp_if ?_ | refine awp_skip ?_ | refine awp_ret ?_ | refine awp_exit ?_); simp only [go_sem, simprocAttr, hF, he])
   | with_reducible (first | refine awp_seq_k fun _ _ => ?_ | refine awp_region [] ?_ | refine awp_block ?_)
   | go_step)
  refine ⟨⟨k + 1, by omega, by rw [hT', if_neg (by rw [he]; decide)]⟩, by dsimp only; omega, hR _ _ (sub_mk ?_)⟩
  simp only [go_sem, simprocAttr, hF, hw]

set_option maxHeartbeats 2000000 in
theorem contR_ok (c : FuncId) (caps : List (List PV)) (p : (List Int) → Bool) (l : List (List Int)) (hl : l.length ≤ 1000000) (hc : ∀ y ∈ l, FnOK Tryz.prog c (.sl 1 (y.map irow_pv) :: caps.map AV.ept) ⟨bv (p y), none⟩) : FnOK Tryz.prog 64 [.sl 1 (l.map prow_pv), .fnv c caps] ⟨bv (l.any p), none⟩ := by
 have hx := idx_any p l
 refine fn_ok Tryz.func64 (by kernel_rfl) rfl (by rw [Tryz.ntmps64]; exact of_decide_eq_true rfl) (fun F hF => ?_)
 rw [Tryz.ntmps64] at hF
 rw [Tryz.results64]
 repeat (first
  | (with_reducible (first | refine sops_go ?_ | refine headW_end ?_ | refine sops_end ?_ | refine awp_if ?_ | refine awp_skip ?_ | refine awp_ret ?_ | refine awp_exit ?_); simp only [go_sem, simprocAttr, hF])
  | with_reducible (first | refine awp_seq_k fun _ _ => ?_ | refine awp_region [] ?_ | refine awp_block ?_)
  | go_step)
 refine ⟨_, idxR_ok c caps p l hl hc, ?_⟩
 simp only [go_sem, simprocAttr, hF]
 repeat (first
  | (with_reducible (first | refine sops_go ?_ | refine headW_end ?_ | refine sops_end ?_ | refine awp_if ?_ | refine awp_skip ?_ | refine awp_ret ?_ | refine awp_exit ?_); simp only [go_sem, simprocAttr, hF, hx])
  | with_reducible (first | refine awp_seq_k fun _ _ => ?_ | refine awp_region [] ?_ | refine awp_block ?_)
  | go_step)
 all_goals (try rfl)

set_option maxHeartbeats 2000000 in
theorem idxT_ok (c : FuncId) (caps : List (List PV)) (p : Lt → Bool) (l : List Lt) (hl : l.length ≤ 1000000) (hc : ∀ y ∈ l, FnOK Tryz.prog c (.agg y.pv :: caps.map AV.ept) ⟨bv (p y), none⟩) : FnOK Tryz.prog 68 [.sl 3 (l.map Lt.pv), .fnv c caps] ⟨iv (idxP p l 0), none⟩ := by
 refine fn_ok Tryz.func68 (by kernel_rfl) rfl (by rw [Tryz.ntmps68]; exact of_decide_eq_true rfl) (fun F hF => ?_)
 rw [Tryz.ntmps68] at hF
 rw [Tryz.results68]
 repeat (first
  | (with_reducible (first | refine sops_go ?_ | refine headW_end ?_ | refine sops_end ?_ | refine awp_if ?_ | refine awp_skip ?_ | refine awp_ret ?_ | refine awp_exit ?_); simp only [go_sem, simprocAttr, hF])
  | with_reducible (first | refine awp_seq_k fun _ _ => ?_ | refine awp_region [] ?_ | refine awp_block ?_)
  | go_step)
 refine awp_loop_by (ι := {k : Nat // k ≤ l.length ∧ idxP p l 0 = idxP p (l.drop k) (k : Int)}) (fun k σ => ⟨(8, iv (k.1 : Int)) :: keepS [0, 1, 4, 7] σ.slot, σ.box, [], σ.ext⟩) (fun k => l.length - k.1) ⟨0, by omega, rfl⟩ (sub_mk ?_) (fun R hR k => ?_)
 · simp only [go_sem, simprocAttr, hF]
   repeat' (first | rfl | refine ⟨?_, ?_⟩)
 obtain ⟨k, hk, hT⟩ := k
 dsimp only
 simp only [go_sem, simprocAttr, hF]
 by_cases hlt : k < l.length
 case neg =>
  have hd : decide ((k : Int) < (l.length : Int)) = false := decide_eq_false (by omega)
  repeat (first
   | (with_reducible (first | refine sops_go ?_ | refine headW_end ?_ | refine sops_end ?_ | refine awp_if ?_ | refine awp_skip ?_ | refine awp_ret ?_ | refine awp_exit ?_); simp only [go_sem, simprocAttr, hF, hd])
   | with_reducible (first | refine awp_seq_k fun _ _ => ?_ | refine awp_region [] ?_ | refine awp_block ?_)
   | go_step)
  rw [hT, List.drop_of_length_le (by omega)]
  rfl
 obtain ⟨y, hyk⟩ := get_of_lt hlt
 have hd : decide ((k : Int) < (l.length : Int)) = true := decide_eq_true (by omega)
 have hw : IntKind.i64.wrap ((k : Int) + 1) = ((k + 1 : Nat) : Int) := by rw [IntKind.wrap_i64]; omega
 have hT' : idxP p l 0 = if p y = true then (k : Int) else idxP p (l.drop (k + 1)) ((k + 1 : Nat) : Int) := by rw [hT, drop_of_get hyk, idxP]; rfl
 repeat (first
  | (with_reducible (first | refine sops_go ?_ | refine headW_end ?_ | refine sops_end ?_ | refine awp_if ?_ | refine awp_skip ?_ | refine awp_ret ?_ | refine awp_exit ?_); simp only [go_sem, simprocAttr, hF, hd, hyk])
  | with_reducible (first | refine awp_seq_k fun _ _ => ?_ | refine awp_region [] ?_ | refine awp_block ?_)
  | go_step)
 refine ⟨_, hc y (List.mem_of_getElem? hyk), ?_⟩
 simp only [go_sem, simprocAttr, hF]
 cases he : p y with
 | true =>
  try simp only [go_sem, simprocAttr, hF, he]
  repeat (first
   | (with_reducible (first | refine sops_go ?_ | refine headW_end ?_ | refine sops_end ?_ | refine awp_if ?_ | refine awp_skip ?_ | refine awp_ret ?_ | refine awp_exit ?_); simp only [go_sem, simprocAttr, hF, he])
   | with_reducible (first | refine awp_seq_k fun _ _ => ?_ | refine awp_region [] ?_ | refine awp_block ?_)
   | go_step)
  rw [hT', if_pos he]
 | false =>
  try simp only [go_sem, simprocAttr, hF, he]
  repeat (first
   | (with_reducible (first | refine sops_go ?_ | refine headW_end ?_ | refine sops_end ?_ | refine awp_if ?_ | refine awp_skip ?_ | refine awp_ret ?_ | refine awp_exit ?_); simp only [go_sem, simprocAttr, hF, he])
   | with_reducible (first | refine awp_seq_k fun _ _ => ?_ | refine awp_region [] ?_ | refine awp_block ?_)
   | go_step)
  refine ⟨⟨k + 1, by omega, by rw [hT', if_neg (by rw [he]; decide)]⟩, by dsimp only; omega, hR _ _ (sub_mk ?_)⟩
  simp only [go_sem, simprocAttr, hF, hw]

set_option maxHeartbeats 2000000 in
theorem idxI_ok (c : FuncId) (caps : List (List PV)) (p : Int → Bool) (l : List Int) (hl : l.length ≤ 1000000) (hc : ∀ y ∈ l, FnOK Tryz.prog c (iv y :: caps.map AV.ept) ⟨bv (p y), none⟩) : FnOK Tryz.prog 168 [.sl 1 (l.map irow_pv), .fnv c caps] ⟨iv (idxP p l 0), none⟩ := by
 refine fn_ok Tryz.func168 (by kernel_rfl) rfl (by rw [Tryz.ntmps168]; exact of_decide_eq_true rfl) (fun F hF => ?_)
 rw [Tryz.ntmps168] at hF
 rw [Tryz.results168]
 repeat (first
  | (with_reducible (first | refine sops_go ?_ | refine headW_end ?_ | refine sops_end ?_ | refine awp_if ?_ | refine awp_skip ?_ | refine awp_ret ?_ | refine awp_exit ?_); simp only [go_sem, simprocAttr, hF])
  | with_reducible (first | refine awp_seq_k fun _ _ => ?_ | refine awp_region [] ?_ | refine awp_block ?_)
  | go_step)
 refine awp_loop_by (ι := {k : Nat // k ≤ l.length ∧ idxP p l 0 = idxP p (l.drop k) (k : Int)}) (fun k σ => ⟨(8, iv (k.1 : Int)) :: keepS [0, 1, 4, 7] σ.slot, σ.box, [], σ.ext⟩) (fun k => l.length - k.1) ⟨0, by omega, rfl⟩ (sub_mk ?_) (fun R hR k => ?_)
 · simp only [go_sem, simprocAttr, hF]
   repeat' (first | rfl | refine ⟨?_, ?_⟩)
 obtain ⟨k, hk, hT⟩ := k
 dsimp only
 simp only [go_sem, simprocAttr, hF]
 by_cases hlt : k < l.length
 case neg =>
  have hd : decide ((k : Int) < (l.length : Int)) = false := decide_eq_false (by omega)
  repeat (first
   | (with_reducible (first | refine sops_go ?_ | refine headW_end ?_ | refine sops_end ?_ | refine awp_if ?_ | refine awp_skip ?_ | refine awp_ret ?_ | refine awp_exit ?_); simp only [go_sem, simprocAttr, hF, hd])
   | with_reducible (first | refine awp_seq_k fun _ _ => ?_ | refine awp_region [] ?_ | refine awp_block ?_)
   | go_step)
  rw [hT, List.drop_of_length_le (by omega)]
  rfl
 obtain ⟨y, hyk⟩ := get_of_lt hlt
 have hd : decide ((k : Int) < (l.length : Int)) = true := decide_eq_true (by omega)
 have hw : IntKind.i64.wrap ((k : Int) + 1) = ((k + 1 : Nat) : Int) := by rw [IntKind.wrap_i64]; omega
 have hT' : idxP p l 0 = if p y = true then (k : Int) else idxP p (l.drop (k + 1)) ((k + 1 : Nat) : Int) := by rw [hT, drop_of_get hyk, idxP]; rfl
 repeat (first
  | (with_reducible (first | refine sops_go ?_ | refine headW_end ?_ | refine sops_end ?_ | refine awp_if ?_ | refine awp_skip ?_ | refine awp_ret ?_ | refine awp_exit ?_); simp only [go_sem, simprocAttr, hF, hd, hyk])
  | with_reducible (first | refine awp_seq_k fun _ _ => ?_ | refine awp_region [] ?_ | refine awp_block ?_)
  | go_step)
 refine ⟨_, hc y (List.mem_of_getElem? hyk), ?_⟩
 simp only [go_sem, simprocAttr, hF]
 cases he : p y with
 | true =>
  try simp only [go_sem, simprocAttr, hF, he]
  repeat (first
   | (with_reducible (first | refine sops_go ?_ | refine headW_end ?_ | refine sops_end ?_ | refine awp_if ?_ | refine awp_skip ?_ | refine awp_ret ?_ | refine awp_exit ?_); simp only [go_sem, simprocAttr, hF, he])
   | with_reducible (first | refine awp_seq_k fun _ _ => ?_ | refine awp_region [] ?_ | refine awp_block ?_)
   | go_step)
  rw [hT', if_pos he]
 | false =>
  try simp only [go_sem, simprocAttr, hF, he]
  repeat (first
   | (with_reducible (first | refine sops_go ?_ | refine headW_end ?_ | refine sops_end ?_ | refine awp_if ?_ | refine awp_skip ?_ | refine awp_ret ?_ | refine awp_exit ?_); simp only [go_sem, simprocAttr, hF, he])
   | with_reducible (first | refine awp_seq_k fun _ _ => ?_ | refine awp_region [] ?_ | refine awp_block ?_)
   | go_step)
  refine ⟨⟨k + 1, by omega, by rw [hT', if_neg (by rw [he]; decide)]⟩, by dsimp only; omega, hR _ _ (sub_mk ?_)⟩
  simp only [go_sem, simprocAttr, hF, hw]

set_option maxHeartbeats 2000000 in
theorem contI_ok (c : FuncId) (caps : List (List PV)) (p : Int → Bool) (l : List Int) (hl : l.length ≤ 1000000) (hc : ∀ y ∈ l, FnOK Tryz.prog c (iv y :: caps.map AV.ept) ⟨bv (p y), none⟩) : FnOK Tryz.prog 148 [.sl 1 (l.map irow_pv), .fnv c caps] ⟨bv (l.any p), none⟩ := by
 have hx := idx_any p l
 refine fn_ok Tryz.func148 (by kernel_rfl) rfl (by rw [Tryz.ntmps148]; exact of_decide_eq_true rfl) (fun F hF => ?_)
 rw [Tryz.ntmps148] at hF
 rw [Tryz.results148]
 repeat (first
  | (with_reducible (first | refine sops_go ?_ | refine headW_end ?_ | refine sops_end ?_ | refine awp_if ?_ | refine awp_skip ?_ | refine awp_ret ?_ | refine awp_exit ?_); simp only [go_sem, simprocAttr, hF])
  | with_reducible (first | refine awp_seq_k fun _ _ => ?_ | refine awp_region [] ?_ | refine awp_block ?_)
  | go_step)
 refine ⟨_, idxI_ok c caps p l hl hc, ?_⟩
 simp only [go_sem, simprocAttr, hF]
 repeat (first
  | (with_reducible (first | refine sops_go ?_ | refine headW_end ?_ | refine sops_end ?_ | refine awp_if ?_ | refine awp_skip ?_ | refine awp_ret ?_ | refine awp_exit ?_); simp only [go_sem, simprocAttr, hF, hx])
  | with_reducible (first | refine awp_seq_k fun _ _ => ?_ | refine awp_region [] ?_ | refine awp_block ?_)
  | go_step)
 all_goals (try rfl)

set_option maxHeartbeats 2000000 in
theorem idxN_ok (c : FuncId) (caps : List (List PV)) (p : Int → Bool) (l : List Int) (hl : l.length ≤ 1000000) (hc : ∀ y ∈ l, FnOK Tryz.prog c (iv y :: caps.map AV.ept) ⟨bv (p y), none⟩) : FnOK Tryz.prog 122 [.sl 1 (l.map irow_pv), .fnv c caps] ⟨iv (idxP p l 0), none⟩ := by
 refine fn_ok Tryz.func122 (by kernel_rfl) rfl (by rw [Tryz.ntmps122]; exact of_decide_eq_true rfl) (fun F hF => ?_)
 rw [Tryz.ntmps122] at hF
 rw [Tryz.results122]
 repeat (first
  | (with_reducible (first | refine sops_go ?_ | refine headW_end ?_ | refine sops_end ?_ | refine awp_if ?_ | refine awp_skip ?_ | refine awp_ret ?_ | refine awp_exit ?_); simp only [go_sem, simprocAttr, hF])
  | with_reducible (first | refine awp_seq_k fun _ _ => ?_ | refine awp_region [] ?_ | refine awp_block ?_)
  | go_step)
 refine awp_loop_by (ι := {k : Nat // k ≤ l.length ∧ idxP p l 0 = idxP p (l.drop k) (k : Int)}) (fun k σ => ⟨(8, iv (k.1 : Int)) :: keepS [0, 1, 4, 7] σ.slot, σ.box, [], σ.ext⟩) (fun k => l.length - k.1) ⟨0, by omega, rfl⟩ (sub_mk ?_) (fun R hR k => ?_)
 · simp only [go_sem, simprocAttr, hF]
   repeat' (first | rfl | refine ⟨?_, ?_⟩)
 obtain ⟨k, hk, hT⟩ := k
 dsimp only
 simp only [go_sem, simprocAttr, hF]
 by_cases hlt : k < l.length
 case neg =>
  have hd : decide ((k : Int) < (l.length : Int)) = false := decide_eq_false (by omega)
  repeat (first
   | (with_reducible (first | refine sops_go ?_ | refine headW_end ?_ | refine sops_end ?_ | refine awp_if ?_ | refine awp_skip ?_ | refine awp_ret ?_ | refine awp_exit ?_); simp only [go_sem, simprocAttr, hF, hd])
   | with_reducible (first | refine awp_seq_k fun _ _ => ?_ | refine awp_region [] ?_ | refine awp_block ?_)
   | go_step)
  rw [hT, List.drop_of_length_le (by omega)]
  rfl
 obtain ⟨y, hyk⟩ := get_of_lt hlt
 have hd : decide ((k : Int) < (l.length : Int)) = true := decide_eq_true (by omega)
 have hw : IntKind.i64.wrap ((k : Int) + 1) = ((k + 1 : Nat) : Int) := by rw [IntKind.wrap_i64]; omega
 have hT' : idxP p l 0 = if p y = true then (k : Int) else idxP p (l.drop (k + 1)) ((k + 1 : Nat) : Int) := by rw [hT, drop_of_get hyk, idxP]; rfl
 repeat (first
  | (with_reducible (first | refine sops_go ?_ | refine headW_end ?_ | refine sops_end ?_ | refine awp_if ?_ | refine awp_skip ?_ | refine awp_ret ?_ | refine awp_exit ?_); simp only [go_sem, simprocAttr, hF, hd, hyk])
  | with_reducible (first | refine awp_seq_k fun _ _ => ?_ | refine awp_region [] ?_ | refine awp_block ?_)
  | go_step)
 refine ⟨_, hc y (List.mem_of_getElem? hyk), ?_⟩
 simp only [go_sem, simprocAttr, hF]
 cases he : p y with
 | true =>
  try simp only [go_sem, simprocAttr, hF, he]
  repeat (first
   | (with_reducible (first | refine sops_go ?_ | refine headW_end ?_ | refine sops_end ?_ | refine awp_if ?_ | refine awp_skip ?_ | refine awp_ret ?_ | refine awp_exit ?_); simp only [go_sem, simprocAttr, hF, he])
   | with_reducible (first | refine awp_seq_k fun _ _ => ?_ | refine awp_region [] ?_ | refine awp_block ?_)
   | go_step)
  rw [hT', if_pos he]
 | false =>
  try simp only [go_sem, simprocAttr, hF, he]
  repeat (first
   | (with_reducible (first | refine sops_go ?_ | refine headW_end ?_ | refine sops_end ?_ | refine awp_if ?_ | refine awp_skip ?_ | refine awp_ret ?_ | refine awp_exit ?_); simp only [go_sem, simprocAttr, hF, he])
   | with_reducible (first | refine awp_seq_k fun _ _ => ?_ | refine awp_region [] ?_ | refine awp_block ?_)
   | go_step)
  refine ⟨⟨k + 1, by omega, by rw [hT', if_neg (by rw [he]; decide)]⟩, by dsimp only; omega, hR _ _ (sub_mk ?_)⟩
  simp only [go_sem, simprocAttr, hF, hw]

set_option maxHeartbeats 2000000 in
theorem contN_ok (c : FuncId) (caps : List (List PV)) (p : Int → Bool) (l : List Int) (hl : l.length ≤ 1000000) (hc : ∀ y ∈ l, FnOK Tryz.prog c (iv y :: caps.map AV.ept) ⟨bv (p y), none⟩) : FnOK Tryz.prog 86 [.sl 1 (l.map irow_pv), .fnv c caps] ⟨bv (l.any p), none⟩ := by
 have hx := idx_any p l
 refine fn_ok Tryz.func86 (by kernel_rfl) rfl (by rw [Tryz.ntmps86]; exact of_decide_eq_true rfl) (fun F hF => ?_)
 rw [Tryz.ntmps86] at hF
 rw [Tryz.results86]
 repeat (first
  | (with_reducible (first | refine sops_go ?_ | refine headW_end ?_ | refine sops_end ?_ | refine awp_if ?_ | refine awp_skip ?_ | refine awp_ret ?_ | refine awp_exit ?_); simp only [go_sem, simprocAttr, hF])
  | with_reducible (first | refine awp_seq_k fun _ _ => ?_ | refine awp_region [] ?_ | refine awp_block ?_)
  | go_step)
 refine ⟨_, idxN_ok c caps p l hl hc, ?_⟩
 simp only [go_sem, simprocAttr, hF]
 repeat (first
  | (with_reducible (first | refine sops_go ?_ | refine headW_end ?_ | refine sops_end ?_ | refine awp_if ?_ | refine awp_skip ?_ | refine awp_ret ?_ | refine awp_exit ?_); simp only [go_sem, simprocAttr, hF, hx])
  | with_reducible (first | refine awp_seq_k fun _ _ => ?_ | refine awp_region [] ?_ | refine awp_block ?_)
  | go_step)
 all_goals (try rfl)
/- explain.numbers, by abstract states. -/
attribute [local go_sem] Tryz.sz67 Tryz.zr67 Tryz.by67 Tryz.pl67 Tryz.is67 Tryz.underlying67 Tryz.sz20 Tryz.zr20 Tryz.by20 Tryz.pl20 Tryz.is20 Tryz.underlying20 Tryz.sz89 Tryz.zr89 Tryz.by89 Tryz.pl89 Tryz.is89 Tryz.underlying89 Tryz.sz132 Tryz.zr132 Tryz.by132 Tryz.pl132 Tryz.is132 Tryz.underlying132 Tryz.sz9 Tryz.zr9 Tryz.by9 Tryz.pl9 Tryz.is9 Tryz.underlying9
def wrongB (x : Int) : Bool := decide (x < 0) || decide (1073741824 < x)

set_option maxHeartbeats 2000000 in
theorem num1_ok (x : Int) : FnOK Tryz.prog 87 [iv x] ⟨bv (wrongB x), none⟩ := by
 refine fn_ok Tryz.func87 (by kernel_rfl) rfl (by rw [Tryz.ntmps87]; exact of_decide_eq_true rfl) (fun F hF => ?_)
 rw [Tryz.ntmps87] at hF
 rw [Tryz.results87]
 unfold wrongB
 cases h1 : decide (x < 0) <;> cases h2 : decide ((1073741824 : Int) < x)
 · repeat (first
  | (with_reducible (first | refine sops_go ?_ | refine headW_end ?_ | refine sops_end ?_ | refine awp_if ?_ | refine awp_skip ?_ | refine awp_ret ?_ | refine awp_exit ?_); simp only [go_sem, simprocAttr, hF, h1, h2])
  | with_reducible (first | refine awp_seq_k fun _ _ => ?_ | refine awp_region [] ?_ | refine awp_block ?_)
  | go_step)
   all_goals (try rfl)
 · repeat (first
  | (with_reducible (first | refine sops_go ?_ | refine headW_end ?_ | refine sops_end ?_ | refine awp_if ?_ | refine awp_skip ?_ | refine awp_ret ?_ | refine awp_exit ?_); simp only [go_sem, simprocAttr, hF, h1, h2])
  | with_reducible (first | refine awp_seq_k fun _ _ => ?_ | refine awp_region [] ?_ | refine awp_block ?_)
  | go_step)
   all_goals (try rfl)
 · repeat (first
  | (with_reducible (first | refine sops_go ?_ | refine headW_end ?_ | refine sops_end ?_ | refine awp_if ?_ | refine awp_skip ?_ | refine awp_ret ?_ | refine awp_exit ?_); simp only [go_sem, simprocAttr, hF, h1, h2])
  | with_reducible (first | refine awp_seq_k fun _ _ => ?_ | refine awp_region [] ?_ | refine awp_block ?_)
  | go_step)
   all_goals (try rfl)
 · repeat (first
  | (with_reducible (first | refine sops_go ?_ | refine headW_end ?_ | refine sops_end ?_ | refine awp_if ?_ | refine awp_skip ?_ | refine awp_ret ?_ | refine awp_exit ?_); simp only [go_sem, simprocAttr, hF, h1, h2])
  | with_reducible (first | refine awp_seq_k fun _ _ => ?_ | refine awp_region [] ?_ | refine awp_block ?_)
  | go_step)
   all_goals (try rfl)

set_option maxHeartbeats 2000000 in
theorem numbers_ok (l : List Int) (hl : l.length ≤ 1000000) : FnOK Tryz.prog 44 [.sl 1 (l.map irow_pv)] ⟨bv (!(l.any wrongB)), none⟩ := by
 refine fn_ok Tryz.func44 (by kernel_rfl) rfl (by rw [Tryz.ntmps44]; exact of_decide_eq_true rfl) (fun F hF => ?_)
 rw [Tryz.ntmps44] at hF
 rw [Tryz.results44]
 repeat (first
  | (with_reducible (first | refine sops_go ?_ | refine headW_end ?_ | refine sops_end ?_ | refine awp_if ?_ | refine awp_skip ?_ | refine awp_ret ?_ | refine awp_exit ?_); simp only [go_sem, simprocAttr, hF])
  | with_reducible (first | refine awp_seq_k fun _ _ => ?_ | refine awp_region [] ?_ | refine awp_block ?_)
  | go_step)
 refine ⟨_, contN_ok 87 [] wrongB l hl (fun y _ => num1_ok y), ?_⟩
 simp only [go_sem, simprocAttr, hF]
 repeat (first
  | (with_reducible (first | refine sops_go ?_ | refine headW_end ?_ | refine sops_end ?_ | refine awp_if ?_ | refine awp_skip ?_ | refine awp_ret ?_ | refine awp_exit ?_); simp only [go_sem, simprocAttr, hF])
  | with_reducible (first | refine awp_seq_k fun _ _ => ?_ | refine awp_region [] ?_ | refine awp_block ?_)
  | go_step)
 all_goals (try rfl)
end Go.Proofs.YticnppnejafhdaaGreatDoor
/- The text of an explanation: plain. -/
namespace Go.Proofs.YticnppnejafhdaaGreatDoor
open Go.RowKit
open Nd Rc Mo
open Av
set_option maxRecDepth 100000
set_option linter.unusedSimpArgs false

def m0 (x : Int) : Int := if x < 0 then 0 else x
def headN (x : Lt) : List Pt := [.s ⟨#[102, 108, 111, 119]⟩, .n x.fl, .s ⟨#[102, 114, 97, 109, 101]⟩, .n x.fr, .s ⟨#[110, 111, 116, 32, 100, 101, 108, 105, 118, 101, 114, 101, 100]⟩]
def headD (x : Lt) : List Pt := [.s ⟨#[102, 108, 111, 119]⟩, .n x.fl, .s ⟨#[102, 114, 97, 109, 101]⟩, .n x.fr, .s ⟨#[108, 97, 116, 101, 32, 98, 121, 32, 116, 104, 101, 32, 100, 101, 108, 105, 118, 101, 114, 121, 32, 105, 110, 32, 115, 108, 111, 116]⟩, .n x.sl]
def headL (x : Lt) : List Pt := if 0 ≤ x.sl then headD x else headN x
def causeP (c : Br) : List Pt := [.s ⟨#[108, 105, 110, 107]⟩, .n c.fm, .s ⟨#[116, 111]⟩, .n c.tt, .s ⟨#[108, 111, 115, 116, 32, 105, 110, 32, 115, 108, 111, 116, 115]⟩]
def causeL (c : Br) : List Pt := causeP c ++ c.sl.map Pt.n
def badC (c : Br) : Bool := [c.fl, c.fr, c.fm, c.tt].any wrongB || (c.sl.any wrongB || (decide ((c.sl.length : Int) < 1) || decide ((8 : Int) < (c.sl.length : Int))))
def outT (h : ByteArray) (l : List Br) : ByteArray := l.foldl (fun o c => o ++ lineT (causeL c)) h
/-- The text of an explanation. -/
def fmtX (x : Ex) : ByteArray × Int :=
  if ([x.lt.fl, x.lt.fr, m0 x.lt.sl].any wrongB || decide ((1024 : Int) < (x.ca.length : Int))) = true then (⟨#[]⟩, 1)
  else if x.ca.any badC = true then (⟨#[]⟩, 1) else (outT (lineT (headL x.lt)) x.ca, 0)
theorem wrongB_f {x : Int} (h : wrongB x = false) : 0 ≤ x ∧ x ≤ 1073741824 := by
  unfold wrongB at h
  rw [Bool.or_eq_false_iff, decide_eq_false_iff_not, decide_eq_false_iff_not] at h
  omega
theorem txtI_size {x : Int} (h : 0 ≤ x ∧ x ≤ 1073741824) : (txtI x).size ≤ 21 := by
  show (Lib.itoa x).toArray.size ≤ 21
  rw [List.size_toArray]
  exact Lib.itoa_length_le x (by omega) (by omega)
theorem lensT_cons (p : Pt) (l : List Pt) : lensT (p :: l) = p.txt.size + 1 + lensT l := rfl
theorem lensT_append (l m : List Pt) : lensT (l ++ m) = lensT l + lensT m := by
  induction l with
  | nil => simp [lensT]
  | cons p l ih => rw [List.cons_append, lensT_cons, lensT_cons, ih]; omega
theorem lensT_nums {l : List Int} (h : l.any wrongB = false) : lensT (l.map Pt.n) ≤ 22 * l.length := by
  induction l with
  | nil => exact Nat.zero_le _
  | cons x l ih =>
    rw [List.any_cons, Bool.or_eq_false_iff] at h
    have h1 := txtI_size (wrongB_f h.1)
    have h2 := ih h.2
    rw [List.map_cons, lensT_cons, List.length_cons]
    show (txtI x).size + 1 + _ ≤ _
    omega
theorem badC_f {c : Br} (h : badC c = false) : ([c.fl, c.fr, c.fm, c.tt].any wrongB = false ∧ c.sl.any wrongB = false ∧ 1 ≤ c.sl.length ∧ c.sl.length ≤ 8) ∧ (0 ≤ c.fm ∧ c.fm ≤ 1073741824) ∧ (0 ≤ c.tt ∧ c.tt ≤ 1073741824) := by
  unfold badC at h
  simp only [Bool.or_eq_false_iff, decide_eq_false_iff_not] at h
  obtain ⟨h1, h2, h3, h4⟩ := h
  refine ⟨⟨h1, h2, by omega, by omega⟩, ?_, ?_⟩
  · simp only [List.any_cons, Bool.or_eq_false_iff] at h1
    exact wrongB_f h1.2.2.1
  · simp only [List.any_cons, Bool.or_eq_false_iff] at h1
    exact wrongB_f h1.2.2.2.1
theorem causeP_len {c : Br} (h1 : 0 ≤ c.fm ∧ c.fm ≤ 1073741824) (h2 : 0 ≤ c.tt ∧ c.tt ≤ 1073741824) : lensT (causeP c) ≤ 100 := by
  have a := txtI_size h1
  have b := txtI_size h2
  show 4 + 1 + ((txtI c.fm).size + 1 + (2 + 1 + ((txtI c.tt).size + 1 + (13 + 1 + 0)))) ≤ 100
  omega
theorem causeL_len {c : Br} (h : badC c = false) : lensT (causeL c) ≤ 300 := by
  obtain ⟨⟨_, h1, _, h2⟩, h3, h4⟩ := badC_f h
  have a := causeP_len h3 h4
  have b := lensT_nums h1
  unfold causeL
  rw [lensT_append]
  omega
theorem headN_len {x : Lt} (h1 : 0 ≤ x.fl ∧ x.fl ≤ 1073741824) (h2 : 0 ≤ x.fr ∧ x.fr ≤ 1073741824) : lensT (headN x) ≤ 200 := by
  have a := txtI_size h1
  have b := txtI_size h2
  show 4 + 1 + ((txtI x.fl).size + 1 + (5 + 1 + ((txtI x.fr).size + 1 + (13 + 1 + 0)))) ≤ 200
  omega
theorem headD_len {x : Lt} (h1 : 0 ≤ x.fl ∧ x.fl ≤ 1073741824) (h2 : 0 ≤ x.fr ∧ x.fr ≤ 1073741824) (h3 : 0 ≤ x.sl ∧ x.sl ≤ 1073741824) : lensT (headD x) ≤ 200 := by
  have a := txtI_size h1
  have b := txtI_size h2
  have c := txtI_size h3
  show 4 + 1 + ((txtI x.fl).size + 1 + (5 + 1 + ((txtI x.fr).size + 1 + (28 + 1 + ((txtI x.sl).size + 1 + 0))))) ≤ 200
  omega
theorem outT_size {h : ByteArray} : ∀ {l : List Br}, l.any badC = false → (outT h l).size ≤ h.size + 400 * l.length := by
  intro l
  induction l generalizing h with
  | nil => intro _; exact Nat.le_refl _
  | cons c l ih =>
    intro hb
    rw [List.any_cons, Bool.or_eq_false_iff] at hb
    have h1 := ih (h := h ++ lineT (causeL c)) hb.2
    have h2 := lineT_size (causeL c)
    have h3 := causeL_len hb.1
    rw [ByteArray.size_append] at h1
    show (outT (h ++ lineT (causeL c)) l).size ≤ _
    rw [List.length_cons]
    omega
theorem outT_snoc (h : ByteArray) (l : List Br) (c : Br) : outT h (l ++ [c]) = outT h l ++ lineT (causeL c) := by
  unfold outT
  rw [List.foldl_append]
  rfl
end Go.Proofs.YticnppnejafhdaaGreatDoor
/- The example of the laws: plain. -/
namespace Go.Proofs.YticnppnejafhdaaGreatDoor
open Go.RowKit
open Nd Rc Mo
open Av
set_option maxRecDepth 100000
set_option linter.unusedSimpArgs false

def nL : Net := ⟨3, 1, 1000, [[0, 9, 0], [9, 0, 9], [0, 9, 0]], [⟨0, 1, 1⟩, ⟨1, 0, 1⟩, ⟨1, 2, 1⟩, ⟨2, 1, 1⟩], [5, 5, 5, 5]⟩
def fL : Fl := ⟨6, 2, 0, 8, 0, 8⟩
def psL : List (List Int) := [[2, 1, 0]]
def atL (j : Nat) : Att := ⟨25 + (j : Int), 3, 1 + (j : Int), 0, 2, 1, 6, 3⟩
def rL : Rec := ⟨32, [atL 0, atL 1], []⟩
def bL : Br := ⟨6, 3, 2, 1, [25, 26]⟩
def xL : Ex := ⟨⟨6, 3, -1⟩, [bL]⟩
def yL : Ex := ⟨⟨6, 3, -1⟩, []⟩
def sL : ByteArray := ⟨#[102, 108, 111, 119, 32, 54, 32, 102, 114, 97, 109, 101, 32, 51, 32, 110, 111, 116, 32, 100, 101, 108, 105, 118, 101, 114, 101, 100, 10, 108, 105, 110, 107, 32, 50, 32, 116, 111, 32, 49, 32, 108, 111, 115, 116, 32, 105, 110, 32, 115, 108, 111, 116, 115, 32, 50, 53, 32, 50, 54, 10]⟩
theorem aw_find3 : findX nL fL psL rL 3 = (xL, 0) := of_decide_eq_true (by kernel_rfl)
theorem aw_find2 : findX nL fL psL rL 2 = (ex0, 7) := of_decide_eq_true (by kernel_rfl)
theorem aw_causes : causesR nL fL rL 3 2 1 = ([bL], 0) := of_decide_eq_true (by kernel_rfl)
theorem aw_ck : checkX nL fL psL rL xL = 0 := of_decide_eq_true (by kernel_rfl)
theorem aw_ck2 : checkX nL fL psL rL yL = 20 := of_decide_eq_true (by kernel_rfl)
theorem txt1 {n : Nat} (h : n < 10) : txtI (n : Int) = ⟨#[UInt8.ofNat (48 + n)]⟩ := by
  unfold txtI
  rw [Lib.itoa_nonneg, Lib.decDigits, dif_pos h]
theorem txt2 {n : Nat} (h0 : 10 ≤ n) (h : n < 100) : txtI (n : Int) = ⟨#[UInt8.ofNat (48 + n / 10), UInt8.ofNat (48 + n % 10)]⟩ := by
  unfold txtI
  rw [Lib.itoa_nonneg, Lib.decDigits, dif_neg (by omega), Lib.decDigits, dif_pos (by omega)]
  rfl
theorem aw_fmt : fmtX xL = (sL, 0) := by
  have t1 : txtI 1 = ⟨#[49]⟩ := txt1 (n := 1) (by decide)
  have t2 : txtI 2 = ⟨#[50]⟩ := txt1 (n := 2) (by decide)
  have t3 : txtI 3 = ⟨#[51]⟩ := txt1 (n := 3) (by decide)
  have t6 : txtI 6 = ⟨#[54]⟩ := txt1 (n := 6) (by decide)
  have t25 : txtI 25 = ⟨#[50, 53]⟩ := txt2 (n := 25) (by decide) (by decide)
  have t26 : txtI 26 = ⟨#[50, 54]⟩ := txt2 (n := 26) (by decide) (by decide)
  have h1 : lineT (headL xL.lt) = ⟨#[102, 108, 111, 119, 32, 54, 32, 102, 114, 97, 109, 101, 32, 51, 32, 110, 111, 116, 32, 100, 101, 108, 105, 118, 101, 114, 101, 100, 10]⟩ := by
    show joinT [⟨#[102, 108, 111, 119]⟩, txtI 6, ⟨#[102, 114, 97, 109, 101]⟩, txtI 3, ⟨#[110, 111, 116, 32, 100, 101, 108, 105, 118, 101, 114, 101, 100]⟩] ⟨#[32]⟩ ++ ⟨#[10]⟩ = _
    rw [t6, t3]
    rfl
  have h2 : lineT (causeL bL) = ⟨#[108, 105, 110, 107, 32, 50, 32, 116, 111, 32, 49, 32, 108, 111, 115, 116, 32, 105, 110, 32, 115, 108, 111, 116, 115, 32, 50, 53, 32, 50, 54, 10]⟩ := by
    show joinT [⟨#[108, 105, 110, 107]⟩, txtI 2, ⟨#[116, 111]⟩, txtI 1, ⟨#[108, 111, 115, 116, 32, 105, 110, 32, 115, 108, 111, 116, 115]⟩, txtI 25, txtI 26] ⟨#[32]⟩ ++ ⟨#[10]⟩ = _
    rw [t1, t2, t25, t26]
    rfl
  have h3 : fmtX xL = (lineT (headL xL.lt) ++ lineT (causeL bL), 0) := rfl
  rw [h3, h1, h2]
  rfl
end Go.Proofs.YticnppnejafhdaaGreatDoor

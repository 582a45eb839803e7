import Derived.Test.YticnppnejafhdaaGreatDoorZ5
set_option linter.unusedVariables false
set_option linter.unusedSimpArgs false
/- What is small, by abstract states. -/
namespace Go.Proofs.YticnppnejafhdaaGreatDoor
open Go.RowKit
open Nd Rc Mo
open Av
set_option maxRecDepth 100000
set_option linter.unusedSimpArgs false
attribute [local go_sem] Av.guardB Av.sop Av.hopx Av.hop Av.hopCall Av.hopF Av.hopB Av.evo Av.evos Av.avCells Av.loadK Av.bound Av.abin Av.aun Av.partsC Av.lfill Av.placesB Av.setAt Av.stl Av.takes Av.src Av.bxOf Av.ownOf Av.St.res Av.St.put Av.St.addBox Av.St.putOwn Av.delL Av.delS Av.look Av.lookL Av.storeSt Av.stealSt Av.St.setBox Av.keepL Av.hitB Av.snap Av.snaps Av.snapCaps Av.AV.lit Av.AV.refs Av.capRefs Av.PV.av Av.CV.av Av.startSt Av.steals Av.athen Av.ablock Av.appK Av.AllS Av.AllO Av.AllR Av.keepS Av.St.avAt Av.RetOK Av.retAll Av.retOne Av.intsOf Av.ptrB TypeDesc.isRow List.range_zero Option.some.injEq exists_eq_left' exists_eq_left exists_eq' exists_and_left exists_and_right exists_const true_and and_true and_self false_and and_false or_false false_or or_true true_or if_true if_false Bool.false_eq_true List.zipIdx_cons List.zipIdx_nil List.map_cons List.map_nil List.filter_cons List.filter_nil List.contains_cons List.contains_nil List.drop_succ_cons List.drop_zero List.take_succ_cons List.take_zero List.take_nil List.drop_nil List.length_cons List.length_nil List.cons_append List.nil_append List.append_nil List.getElem?_cons_zero List.getElem?_cons_succ List.getElem?_nil Option.bind_some Option.bind_none Option.map_some Option.map_none Option.isNone_none Option.isNone_some Option.isSome_some Option.isSome_none Bool.and_true Bool.true_and Bool.and_false Bool.false_and Bool.or_false Bool.false_or Bool.not_true Bool.not_false beq_true beq_false Bool.true_beq Bool.false_beq Loc.s.injEq Loc.b.injEq decide_true decide_false beq_self_eq_true Nat.zero_add Nat.add_zero List.getElem?_toArray List.toList_toArray List.size_toArray Value.oneCell' List.all_cons List.all_nil Value.int.injEq AV.v.injEq AV.sl.injEq AV.agg.injEq AV.ref.injEq AV.ept.injEq AV.tup.injEq Value.bool.injEq PV.v.injEq PV.sl.injEq List.isEmpty_nil List.isEmpty_cons forall_const not_true_eq_false not_false_eq_true true_implies false_implies Value.string.injEq List.length_map List.getElem?_map Int.toNat_natCast Int.natCast_nonneg List.length_append Value.cells implies_true TypeDesc.struct.injEq TypeDesc.slice.injEq TypeDesc.array.injEq List.getElem?_toArray Prod.mk.injEq and_assoc exists_false List.cons.injEq Operand.tmp.injEq ite_self AV.fnv.injEq AV.clo.injEq ne_eq eq_self Tryz.sz3 Tryz.zr3 Tryz.by3 Tryz.pl3 Tryz.is3 Tryz.underlying3 Tryz.sz4 Tryz.zr4 Tryz.by4 Tryz.pl4 Tryz.is4 Tryz.underlying4 Tryz.sz43 Tryz.zr43 Tryz.by43 Tryz.pl43 Tryz.is43 Tryz.underlying43 Tryz.sz35 Tryz.zr35 Tryz.by35 Tryz.pl35 Tryz.is35 Tryz.underlying35 Tryz.sz33 Tryz.zr33 Tryz.by33 Tryz.pl33 Tryz.is33 Tryz.underlying33 Tryz.sz28 Tryz.zr28 Tryz.by28 Tryz.pl28 Tryz.is28 Tryz.underlying28 Tryz.sz39 Tryz.zr39 Tryz.by39 Tryz.pl39 Tryz.is39 Tryz.underlying39 Tryz.sz57 Tryz.zr57 Tryz.by57 Tryz.pl57 Tryz.is57 Tryz.underlying57 Tryz.sz137 Tryz.zr137 Tryz.by137 Tryz.pl137 Tryz.is137 Tryz.underlying137 Tryz.sz66 Tryz.zr66 Tryz.by66 Tryz.pl66 Tryz.is66 Tryz.underlying66 Tryz.sz64 Tryz.zr64 Tryz.by64 Tryz.pl64 Tryz.is64 Tryz.underlying64 Tryz.sz60 Tryz.zr60 Tryz.by60 Tryz.pl60 Tryz.is60 Tryz.underlying60 Tryz.sz100 Tryz.zr100 Tryz.by100 Tryz.pl100 Tryz.is100 Tryz.underlying100 Tryz.sz103 Tryz.zr103 Tryz.by103 Tryz.pl103 Tryz.is103 Tryz.underlying103 Tryz.sz26 Tryz.zr26 Tryz.by26 Tryz.pl26 Tryz.is26 Tryz.underlying26 Tryz.sz120 Tryz.zr120 Tryz.by120 Tryz.pl120 Tryz.is120 Tryz.underlying120 Tryz.sz117 Tryz.zr117 Tryz.by117 Tryz.pl117 Tryz.is117 Tryz.underlying117 Tryz.sz30 Tryz.zr30 Tryz.by30 Tryz.pl30 Tryz.is30 Tryz.underlying30 Tryz.sz31 Tryz.zr31 Tryz.by31 Tryz.pl31 Tryz.is31 Tryz.underlying31 Tryz.sz40 Tryz.zr40 Tryz.by40 Tryz.pl40 Tryz.is40 Tryz.underlying40 Tryz.sz23 Tryz.zr23 Tryz.by23 Tryz.pl23 Tryz.is23 Tryz.underlying23 Tryz.sz24 Tryz.zr24 Tryz.by24 Tryz.pl24 Tryz.is24 Tryz.underlying24 Tryz.sz22 Tryz.zr22 Tryz.by22 Tryz.pl22 Tryz.is22 Tryz.underlying22 Tryz.sz141 Tryz.zr141 Tryz.by141 Tryz.pl141 Tryz.is141 Tryz.underlying141 Tryz.sz42 Tryz.zr42 Tryz.by42 Tryz.pl42 Tryz.is42 Tryz.underlying42 Tryz.sz29 Tryz.zr29 Tryz.by29 Tryz.pl29 Tryz.is29 Tryz.underlying29 Tryz.sz83 Tryz.zr83 Tryz.by83 Tryz.pl83 Tryz.is83 Tryz.underlying83 Tryz.sz67 Tryz.zr67 Tryz.by67 Tryz.pl67 Tryz.is67 Tryz.underlying67 Tryz.sz20 Tryz.zr20 Tryz.by20 Tryz.pl20 Tryz.is20 Tryz.underlying20 Tryz.sz89 Tryz.zr89 Tryz.by89 Tryz.pl89 Tryz.is89 Tryz.underlying89 Tryz.sz132 Tryz.zr132 Tryz.by132 Tryz.pl132 Tryz.is132 Tryz.underlying132 Tryz.sz113 Tryz.zr113 Tryz.by113 Tryz.pl113 Tryz.is113 Tryz.underlying113 Tryz.sz9 Tryz.zr9 Tryz.by9 Tryz.pl9 Tryz.is9 Tryz.underlying9 Tryz.it39 Tryz.eg39 Tryz.it137 Tryz.eg137 Tryz.it66 Tryz.eg66 Tryz.it28 Tryz.eg28 Tryz.it60 Tryz.eg60 all_arr loc_ss loc_sb loc_bs loc_bb arr_two arr_one rg1 rg2 rg3 rg4 rg5 rg6 rg7 rg8 ResultVar.tmp.injEq Bool.not_true Bool.not_false undef Rc.Rec.pv Nd.Fl.pv Rc.Dlv.pv Rc.Att.pv Mo.Lt.pv Fn.func.injEq Mo.Net.pv Mo.Lk.pv prow_pv irow_pv Br.pv Ex.pv
def nfewB (n : Net) : Bool := n.pow.all (fun l => decide (l.length ≤ 40)) && (decide ((n.pow.length : Int) ≤ 8) && (decide ((n.lk.length : Int) ≤ 60) && decide ((n.mg.length : Int) ≤ 60)))

def rfewB (r : Rec) : Bool := decide ((r.al.length : Int) ≤ 150) && decide ((r.dl.length : Int) ≤ 100)

def fewRB (ps : List (List Int)) : Bool := ps.all (fun p => decide (p.length ≤ 20)) && decide ((ps.length : Int) ≤ 4)
def few57B (n : Net) (ps : List (List Int)) (r : Rec) : Bool := nfewB n && (fewRB ps && rfewB r)
def fewXB (x : Ex) : Bool := x.ca.all (fun c => decide (c.sl.length ≤ 12)) && (decide ((x.ca.length : Int) ≤ 6) || ((x.ca.length : Int) == 1025))
theorem few57_inv {n : Net} {ps : List (List Int)} {r : Rec} (h : few57B n ps r = true) : SmallN n ∧ ps.length ≤ 4 ∧ (∀ p ∈ ps, p.length ≤ 20) ∧ r.al.length ≤ 150 ∧ r.dl.length ≤ 100 := by
 unfold few57B nfewB fewRB rfewB at h
 simp only [Bool.and_eq_true, decide_eq_true_eq, List.all_eq_true] at h
 obtain ⟨⟨h1, h2, h3, h4⟩, ⟨h5, h6⟩, h7, h8⟩ := h
 exact ⟨⟨by omega, fun l hl => Nat.le_trans (h1 l hl) (by decide), by omega, by omega⟩, by omega, h5, by omega, by omega⟩
theorem fewX_inv {x : Ex} (h : fewXB x = true) : (∀ c ∈ x.ca, c.sl.length ≤ 12) ∧ x.ca.length ≤ 1025 := by
 unfold fewXB at h
 simp only [Bool.and_eq_true, Bool.or_eq_true, decide_eq_true_eq, List.all_eq_true, beq_iff_eq] at h
 exact ⟨h.1, by omega⟩

set_option maxHeartbeats 2000000 in
theorem nfew_ok (n : Net) (hp : n.pow.length ≤ 9223372036854775807) : FnOK Tryz.prog 33 [.agg n.pv] ⟨bv (nfewB n), none⟩ := by
 refine fn_ok Tryz.func33 (by kernel_rfl) rfl (by rw [Tryz.ntmps33]; exact of_decide_eq_true rfl) (fun F hF => ?_)
 rw [Tryz.ntmps33] at hF
 rw [Tryz.results33]
 repeat (first
  | (with_reducible (first | refine sg0 ?_ | refine hw0 ?_ | refine se0 ?_ | refine ai0 ?_ | refine as0 ?_ | refine at0 ?_ | refine ax0 ?_); simp only [go_sem, simprocAttr, hF])
  | with_reducible (first | refine aq0 fun _ _ => ?_ | refine ar0 [] ?_ | refine ab0 ?_)
  | go_step)
 refine awp_loop_by (ι := {k : Nat // k ≤ n.pow.length ∧ ∀ l ∈ n.pow.take k, l.length ≤ 40}) (fun k σ => ⟨(3, iv (k.1 : Int)) :: keepS [1, 2] σ.slot, σ.box, [], σ.ext⟩) (fun k => n.pow.length - k.1) ⟨0, by omega, by simp⟩ (sub_mk ?_) (fun R hR k => ?_)
 · simp only [go_sem, simprocAttr, hF]
   repeat' (first | rfl | refine ⟨?_, ?_⟩)
 obtain ⟨k, hk, hT⟩ := k
 dsimp only
 simp only [go_sem, simprocAttr, hF]
 by_cases hlt : k < n.pow.length
 case neg =>
  have hd : decide ((k : Int) < (n.pow.length : Int)) = false := decide_eq_false (by omega)
  rw [List.take_of_length_le (by omega)] at hT
  have hall : n.pow.all (fun l => decide (l.length ≤ 40)) = true := List.all_eq_true.2 fun l hl => decide_eq_true (hT l hl)
  cases h1 : decide ((n.pow.length : Int) ≤ 8) <;> cases h2 : decide ((n.lk.length : Int) ≤ 60) <;> cases h3 : decide ((n.mg.length : Int) ≤ 60)
  · repeat (first
   | (with_reducible (first | refine sg0 ?_ | refine hw0 ?_ | refine se0 ?_ | refine ai0 ?_ | refine as0 ?_ | refine at0 ?_ | refine ax0 ?_); simp only [go_sem, simprocAttr, hF, hd, h1, h2, h3])
   | with_reducible (first | refine aq0 fun _ _ => ?_ | refine ar0 [] ?_ | refine ab0 ?_)
   | go_step)
    rw [nfewB, hall, h1, h2, h3]
    try rfl
  · repeat (first
   | (with_reducible (first | refine sg0 ?_ | refine hw0 ?_ | refine se0 ?_ | refine ai0 ?_ | refine as0 ?_ | refine at0 ?_ | refine ax0 ?_); simp only [go_sem, simprocAttr, hF, hd, h1, h2, h3])
   | with_reducible (first | refine aq0 fun _ _ => ?_ | refine ar0 [] ?_ | refine ab0 ?_)
   | go_step)
    rw [nfewB, hall, h1, h2, h3]
    try rfl
  · repeat (first
   | (with_reducible (first | refine sg0 ?_ | refine hw0 ?_ | refine se0 ?_ | refine ai0 ?_ | refine as0 ?_ | refine at0 ?_ | refine ax0 ?_); simp only [go_sem, simprocAttr, hF, hd, h1, h2, h3])
   | with_reducible (first | refine aq0 fun _ _ => ?_ | refine ar0 [] ?_ | refine ab0 ?_)
   | go_step)
    rw [nfewB, hall, h1, h2, h3]
    try rfl
  · repeat (first
   | (with_reducible (first | refine sg0 ?_ | refine hw0 ?_ | refine se0 ?_ | refine ai0 ?_ | refine as0 ?_ | refine at0 ?_ | refine ax0 ?_); simp only [go_sem, simprocAttr, hF, hd, h1, h2, h3])
   | with_reducible (first | refine aq0 fun _ _ => ?_ | refine ar0 [] ?_ | refine ab0 ?_)
   | go_step)
    rw [nfewB, hall, h1, h2, h3]
    try rfl
  · repeat (first
   | (with_reducible (first | refine sg0 ?_ | refine hw0 ?_ | refine se0 ?_ | refine ai0 ?_ | refine as0 ?_ | refine at0 ?_ | refine ax0 ?_); simp only [go_sem, simprocAttr, hF, hd, h1, h2, h3])
   | with_reducible (first | refine aq0 fun _ _ => ?_ | refine ar0 [] ?_ | refine ab0 ?_)
   | go_step)
    rw [nfewB, hall, h1, h2, h3]
    try rfl
  · repeat (first
   | (with_reducible (first | refine sg0 ?_ | refine hw0 ?_ | refine se0 ?_ | refine ai0 ?_ | refine as0 ?_ | refine at0 ?_ | refine ax0 ?_); simp only [go_sem, simprocAttr, hF, hd, h1, h2, h3])
   | with_reducible (first | refine aq0 fun _ _ => ?_ | refine ar0 [] ?_ | refine ab0 ?_)
   | go_step)
    rw [nfewB, hall, h1, h2, h3]
    try rfl
  · repeat (first
   | (with_reducible (first | refine sg0 ?_ | refine hw0 ?_ | refine se0 ?_ | refine ai0 ?_ | refine as0 ?_ | refine at0 ?_ | refine ax0 ?_); simp only [go_sem, simprocAttr, hF, hd, h1, h2, h3])
   | with_reducible (first | refine aq0 fun _ _ => ?_ | refine ar0 [] ?_ | refine ab0 ?_)
   | go_step)
    rw [nfewB, hall, h1, h2, h3]
    try rfl
  · repeat (first
   | (with_reducible (first | refine sg0 ?_ | refine hw0 ?_ | refine se0 ?_ | refine ai0 ?_ | refine as0 ?_ | refine at0 ?_ | refine ax0 ?_); simp only [go_sem, simprocAttr, hF, hd, h1, h2, h3])
   | with_reducible (first | refine aq0 fun _ _ => ?_ | refine ar0 [] ?_ | refine ab0 ?_)
   | go_step)
    rw [nfewB, hall, h1, h2, h3]
    try rfl
 obtain ⟨d, hdk⟩ := get_of_lt hlt
 have hd : decide ((k : Int) < (n.pow.length : Int)) = true := decide_eq_true (by omega)
 have hw : IntKind.i64.wrap ((k : Int) + 1) = ((k + 1 : Nat) : Int) := by rw [IntKind.wrap_i64]; omega
 by_cases h40 : d.length ≤ 40
 case neg =>
  have he : decide ((40 : Int) < (d.length : Int)) = true := decide_eq_true (by omega)
  have hall : n.pow.all (fun l => decide (l.length ≤ 40)) = false := by
   refine Bool.eq_false_iff.2 fun h => h40 ?_
   exact of_decide_eq_true (List.all_eq_true.1 h d (List.mem_of_getElem? hdk))
  repeat (first
   | (with_reducible (first | refine sg0 ?_ | refine hw0 ?_ | refine se0 ?_ | refine ai0 ?_ | refine as0 ?_ | refine at0 ?_ | refine ax0 ?_); simp only [go_sem, simprocAttr, hF, hd, hdk, he])
   | with_reducible (first | refine aq0 fun _ _ => ?_ | refine ar0 [] ?_ | refine ab0 ?_)
   | go_step)
  rw [nfewB, hall]
  rfl
 have he : decide ((40 : Int) < (d.length : Int)) = false := decide_eq_false (by omega)
 repeat (first
  | (with_reducible (first | refine sg0 ?_ | refine hw0 ?_ | refine se0 ?_ | refine ai0 ?_ | refine as0 ?_ | refine at0 ?_ | refine ax0 ?_); simp only [go_sem, simprocAttr, hF, hd, hdk, he])
  | with_reducible (first | refine aq0 fun _ _ => ?_ | refine ar0 [] ?_ | refine ab0 ?_)
  | go_step)
 refine ⟨⟨k + 1, by omega, fun l hl => by
  rw [List.take_add_one, hdk] at hl
  rcases List.mem_append.1 hl with hl | hl
  · exact hT l hl
  · simp at hl; subst hl; exact h40⟩, by dsimp only; omega, hR _ _ (sub_mk ?_)⟩
 simp only [go_sem, simprocAttr, hF, hw]

set_option maxHeartbeats 2000000 in
theorem rfew_ok (r : Rec) : FnOK Tryz.prog 35 [.agg r.pv] ⟨bv (rfewB r), none⟩ := by
 refine fn_ok Tryz.func35 (by kernel_rfl) rfl (by rw [Tryz.ntmps35]; exact of_decide_eq_true rfl) (fun F hF => ?_)
 rw [Tryz.ntmps35] at hF
 rw [Tryz.results35]
 unfold rfewB
 cases h1 : decide ((r.al.length : Int) ≤ 150) <;> cases h2 : decide ((r.dl.length : Int) ≤ 100)
 · repeat (first
  | (with_reducible (first | refine sg0 ?_ | refine hw0 ?_ | refine se0 ?_ | refine ai0 ?_ | refine as0 ?_ | refine at0 ?_ | refine ax0 ?_); simp only [go_sem, simprocAttr, hF, h1, h2])
  | with_reducible (first | refine aq0 fun _ _ => ?_ | refine ar0 [] ?_ | refine ab0 ?_)
  | go_step)
   all_goals (try rfl)
 · repeat (first
  | (with_reducible (first | refine sg0 ?_ | refine hw0 ?_ | refine se0 ?_ | refine ai0 ?_ | refine as0 ?_ | refine at0 ?_ | refine ax0 ?_); simp only [go_sem, simprocAttr, hF, h1, h2])
  | with_reducible (first | refine aq0 fun _ _ => ?_ | refine ar0 [] ?_ | refine ab0 ?_)
  | go_step)
   all_goals (try rfl)
 · repeat (first
  | (with_reducible (first | refine sg0 ?_ | refine hw0 ?_ | refine se0 ?_ | refine ai0 ?_ | refine as0 ?_ | refine at0 ?_ | refine ax0 ?_); simp only [go_sem, simprocAttr, hF, h1, h2])
  | with_reducible (first | refine aq0 fun _ _ => ?_ | refine ar0 [] ?_ | refine ab0 ?_)
  | go_step)
   all_goals (try rfl)
 · repeat (first
  | (with_reducible (first | refine sg0 ?_ | refine hw0 ?_ | refine se0 ?_ | refine ai0 ?_ | refine as0 ?_ | refine at0 ?_ | refine ax0 ?_); simp only [go_sem, simprocAttr, hF, h1, h2])
  | with_reducible (first | refine aq0 fun _ _ => ?_ | refine ar0 [] ?_ | refine ab0 ?_)
  | go_step)
   all_goals (try rfl)

set_option maxHeartbeats 2000000 in
theorem fewR_ok (ps : List (List Int)) (hps : ps.length ≤ 9223372036854775807) : FnOK Tryz.prog 34 [.sl 1 (ps.map prow_pv)] ⟨bv (fewRB ps), none⟩ := by
 refine fn_ok Tryz.func34 (by kernel_rfl) rfl (by rw [Tryz.ntmps34]; exact of_decide_eq_true rfl) (fun F hF => ?_)
 rw [Tryz.ntmps34] at hF
 rw [Tryz.results34]
 repeat (first
  | (with_reducible (first | refine sg0 ?_ | refine hw0 ?_ | refine se0 ?_ | refine ai0 ?_ | refine as0 ?_ | refine at0 ?_ | refine ax0 ?_); simp only [go_sem, simprocAttr, hF])
  | with_reducible (first | refine aq0 fun _ _ => ?_ | refine ar0 [] ?_ | refine ab0 ?_)
  | go_step)
 refine awp_loop_by (ι := {k : Nat // k ≤ ps.length ∧ ∀ y ∈ ps.take k, y.length ≤ 20}) (fun k σ => ⟨(3, iv (k.1 : Int)) :: keepS [0] σ.slot, σ.box, [], σ.ext⟩) (fun k => ps.length - k.1) ⟨0, by omega, by simp⟩ (sub_mk ?_) (fun R hR k => ?_)
 · simp only [go_sem, simprocAttr, hF]
   repeat' (first | rfl | refine ⟨?_, ?_⟩)
 obtain ⟨k, hk, hT⟩ := k
 dsimp only
 simp only [go_sem, simprocAttr, hF]
 by_cases hlt : k < ps.length
 case neg =>
  have hd : decide ((k : Int) < (ps.length : Int)) = false := decide_eq_false (by omega)
  rw [List.take_of_length_le (by omega)] at hT
  have hall : ps.all (fun y => decide (y.length ≤ 20)) = true := List.all_eq_true.2 fun l hl => decide_eq_true (hT l hl)
  cases h1 : decide ((ps.length : Int) ≤ 4)
  · repeat (first
   | (with_reducible (first | refine sg0 ?_ | refine hw0 ?_ | refine se0 ?_ | refine ai0 ?_ | refine as0 ?_ | refine at0 ?_ | refine ax0 ?_); simp only [go_sem, simprocAttr, hF, hd, h1])
   | with_reducible (first | refine aq0 fun _ _ => ?_ | refine ar0 [] ?_ | refine ab0 ?_)
   | go_step)
    rw [fewRB, hall, h1]
    try rfl
  · repeat (first
   | (with_reducible (first | refine sg0 ?_ | refine hw0 ?_ | refine se0 ?_ | refine ai0 ?_ | refine as0 ?_ | refine at0 ?_ | refine ax0 ?_); simp only [go_sem, simprocAttr, hF, hd, h1])
   | with_reducible (first | refine aq0 fun _ _ => ?_ | refine ar0 [] ?_ | refine ab0 ?_)
   | go_step)
    rw [fewRB, hall, h1]
    try rfl
 obtain ⟨d, hdk⟩ := get_of_lt hlt
 have hd : decide ((k : Int) < (ps.length : Int)) = true := decide_eq_true (by omega)
 have hw : IntKind.i64.wrap ((k : Int) + 1) = ((k + 1 : Nat) : Int) := by rw [IntKind.wrap_i64]; omega
 by_cases h40 : d.length ≤ 20
 case neg =>
  have he : decide ((20 : Int) < (d.length : Int)) = true := decide_eq_true (by omega)
  have hall : ps.all (fun y => decide (y.length ≤ 20)) = false := by
   refine Bool.eq_false_iff.2 fun h => h40 ?_
   exact of_decide_eq_true (List.all_eq_true.1 h d (List.mem_of_getElem? hdk))
  repeat (first
   | (with_reducible (first | refine sg0 ?_ | refine hw0 ?_ | refine se0 ?_ | refine ai0 ?_ | refine as0 ?_ | refine at0 ?_ | refine ax0 ?_); simp only [go_sem, simprocAttr, hF, hd, hdk, he])
   | with_reducible (first | refine aq0 fun _ _ => ?_ | refine ar0 [] ?_ | refine ab0 ?_)
   | go_step)
  rw [fewRB, hall]
  rfl
 have he : decide ((20 : Int) < (d.length : Int)) = false := decide_eq_false (by omega)
 repeat (first
  | (with_reducible (first | refine sg0 ?_ | refine hw0 ?_ | refine se0 ?_ | refine ai0 ?_ | refine as0 ?_ | refine at0 ?_ | refine ax0 ?_); simp only [go_sem, simprocAttr, hF, hd, hdk, he])
  | with_reducible (first | refine aq0 fun _ _ => ?_ | refine ar0 [] ?_ | refine ab0 ?_)
  | go_step)
 refine ⟨⟨k + 1, by omega, fun l hl => by
  rw [List.take_add_one, hdk] at hl
  rcases List.mem_append.1 hl with hl | hl
  · exact hT l hl
  · simp at hl; subst hl; exact h40⟩, by dsimp only; omega, hR _ _ (sub_mk ?_)⟩
 simp only [go_sem, simprocAttr, hF, hw]

set_option maxHeartbeats 2000000 in
theorem fewX_ok (x : Ex) (hca : x.ca.length ≤ 9223372036854775807) : FnOK Tryz.prog 17 [.agg x.pv] ⟨bv (fewXB x), none⟩ := by
 refine fn_ok Tryz.func17 (by kernel_rfl) rfl (by rw [Tryz.ntmps17]; exact of_decide_eq_true rfl) (fun F hF => ?_)
 rw [Tryz.ntmps17] at hF
 rw [Tryz.results17]
 repeat (first
  | (with_reducible (first | refine sg0 ?_ | refine hw0 ?_ | refine se0 ?_ | refine ai0 ?_ | refine as0 ?_ | refine at0 ?_ | refine ax0 ?_); simp only [go_sem, simprocAttr, hF])
  | with_reducible (first | refine aq0 fun _ _ => ?_ | refine ar0 [] ?_ | refine ab0 ?_)
  | go_step)
 refine awp_loop_by (ι := {k : Nat // k ≤ x.ca.length ∧ ∀ y ∈ x.ca.take k, y.sl.length ≤ 12}) (fun k σ => ⟨(3, iv (k.1 : Int)) :: keepS [1] σ.slot, keepS [1] σ.box, [], σ.ext⟩) (fun k => x.ca.length - k.1) ⟨0, by omega, by simp⟩ (sub_mk ?_) (fun R hR k => ?_)
 · simp only [go_sem, simprocAttr, hF]
   repeat' (first | rfl | refine ⟨?_, ?_⟩)
 obtain ⟨k, hk, hT⟩ := k
 dsimp only
 simp only [go_sem, simprocAttr, hF]
 by_cases hlt : k < x.ca.length
 case neg =>
  have hd : decide ((k : Int) < (x.ca.length : Int)) = false := decide_eq_false (by omega)
  rw [List.take_of_length_le (by omega)] at hT
  have hall : x.ca.all (fun y => decide (y.sl.length ≤ 12)) = true := List.all_eq_true.2 fun l hl => decide_eq_true (hT l hl)
  cases h1 : decide ((x.ca.length : Int) ≤ 6) <;> cases h2 : ((x.ca.length : Int) == 1025)
  · repeat (first
   | (with_reducible (first | refine sg0 ?_ | refine hw0 ?_ | refine se0 ?_ | refine ai0 ?_ | refine as0 ?_ | refine at0 ?_ | refine ax0 ?_); simp only [go_sem, simprocAttr, hF, hd, h1, h2])
   | with_reducible (first | refine aq0 fun _ _ => ?_ | refine ar0 [] ?_ | refine ab0 ?_)
   | go_step)
    rw [fewXB, hall, h1, h2]
    try rfl
  · repeat (first
   | (with_reducible (first | refine sg0 ?_ | refine hw0 ?_ | refine se0 ?_ | refine ai0 ?_ | refine as0 ?_ | refine at0 ?_ | refine ax0 ?_); simp only [go_sem, simprocAttr, hF, hd, h1, h2])
   | with_reducible (first | refine aq0 fun _ _ => ?_ | refine ar0 [] ?_ | refine ab0 ?_)
   | go_step)
    rw [fewXB, hall, h1, h2]
    try rfl
  · repeat (first
   | (with_reducible (first | refine sg0 ?_ | refine hw0 ?_ | refine se0 ?_ | refine ai0 ?_ | refine as0 ?_ | refine at0 ?_ | refine ax0 ?_); simp only [go_sem, simprocAttr, hF, hd, h1, h2])
   | with_reducible (first | refine aq0 fun _ _ => ?_ | refine ar0 [] ?_ | refine ab0 ?_)
   | go_step)
    rw [fewXB, hall, h1, h2]
    try rfl
  · repeat (first
   | (with_reducible (first | refine sg0 ?_ | refine hw0 ?_ | refine se0 ?_ | refine ai0 ?_ | refine as0 ?_ | refine at0 ?_ | refine ax0 ?_); simp only [go_sem, simprocAttr, hF, hd, h1, h2])
   | with_reducible (first | refine aq0 fun _ _ => ?_ | refine ar0 [] ?_ | refine ab0 ?_)
   | go_step)
    rw [fewXB, hall, h1, h2]
    try rfl
 obtain ⟨d, hdk⟩ := get_of_lt hlt
 have hd : decide ((k : Int) < (x.ca.length : Int)) = true := decide_eq_true (by omega)
 have hw : IntKind.i64.wrap ((k : Int) + 1) = ((k + 1 : Nat) : Int) := by rw [IntKind.wrap_i64]; omega
 by_cases h40 : d.sl.length ≤ 12
 case neg =>
  have he : decide ((12 : Int) < (d.sl.length : Int)) = true := decide_eq_true (by omega)
  have hall : x.ca.all (fun y => decide (y.sl.length ≤ 12)) = false := by
   refine Bool.eq_false_iff.2 fun h => h40 ?_
   exact of_decide_eq_true (List.all_eq_true.1 h d (List.mem_of_getElem? hdk))
  repeat (first
   | (with_reducible (first | refine sg0 ?_ | refine hw0 ?_ | refine se0 ?_ | refine ai0 ?_ | refine as0 ?_ | refine at0 ?_ | refine ax0 ?_); simp only [go_sem, simprocAttr, hF, hd, hdk, he])
   | with_reducible (first | refine aq0 fun _ _ => ?_ | refine ar0 [] ?_ | refine ab0 ?_)
   | go_step)
  rw [fewXB, hall]
  rfl
 have he : decide ((12 : Int) < (d.sl.length : Int)) = false := decide_eq_false (by omega)
 repeat (first
  | (with_reducible (first | refine sg0 ?_ | refine hw0 ?_ | refine se0 ?_ | refine ai0 ?_ | refine as0 ?_ | refine at0 ?_ | refine ax0 ?_); simp only [go_sem, simprocAttr, hF, hd, hdk, he])
  | with_reducible (first | refine aq0 fun _ _ => ?_ | refine ar0 [] ?_ | refine ab0 ?_)
  | go_step)
 refine ⟨⟨k + 1, by omega, fun l hl => by
  rw [List.take_add_one, hdk] at hl
  rcases List.mem_append.1 hl with hl | hl
  · exact hT l hl
  · simp at hl; subst hl; exact h40⟩, by dsimp only; omega, hR _ _ (sub_mk ?_)⟩
 simp only [go_sem, simprocAttr, hF, hw]

set_option maxHeartbeats 2000000 in
theorem few57_ok (n : Net) (ps : List (List Int)) (r : Rec) (hp : n.pow.length ≤ 9223372036854775807) (hps : ps.length ≤ 9223372036854775807) : FnOK Tryz.prog 10 [.agg n.pv, .sl 1 (ps.map prow_pv), .agg r.pv] ⟨bv (few57B n ps r), none⟩ := by
 refine fn_ok Tryz.func10 (by kernel_rfl) rfl (by rw [Tryz.ntmps10]; exact of_decide_eq_true rfl) (fun F hF => ?_)
 rw [Tryz.ntmps10] at hF
 rw [Tryz.results10]
 unfold few57B
 cases h1 : nfewB n <;> cases h2 : fewRB ps <;> cases h3 : rfewB r
 · repeat (first
  | (with_reducible (first | refine sg0 ?_ | refine hw0 ?_ | refine se0 ?_ | refine ai0 ?_ | refine as0 ?_ | refine at0 ?_ | refine ax0 ?_); simp only [go_sem, simprocAttr, hF, h1, h2, h3])
  | with_reducible (first | refine aq0 fun _ _ => ?_ | refine ar0 [] ?_ | refine ab0 ?_)
  | go_step)
   refine ⟨_, nfew_ok n hp, ?_⟩
   simp only [go_sem, simprocAttr, hF, h1, h2, h3]
   repeat (first
    | (with_reducible (first | refine sg0 ?_ | refine hw0 ?_ | refine se0 ?_ | refine ai0 ?_ | refine as0 ?_ | refine at0 ?_ | refine ax0 ?_); simp only [go_sem, simprocAttr, hF, h1, h2, h3])
    | with_reducible (first | refine aq0 fun _ _ => ?_ | refine ar0 [] ?_ | refine ab0 ?_)
    | go_step)
   all_goals (try rfl)
 · repeat (first
  | (with_reducible (first | refine sg0 ?_ | refine hw0 ?_ | refine se0 ?_ | refine ai0 ?_ | refine as0 ?_ | refine at0 ?_ | refine ax0 ?_); simp only [go_sem, simprocAttr, hF, h1, h2, h3])
  | with_reducible (first | refine aq0 fun _ _ => ?_ | refine ar0 [] ?_ | refine ab0 ?_)
  | go_step)
   refine ⟨_, nfew_ok n hp, ?_⟩
   simp only [go_sem, simprocAttr, hF, h1, h2, h3]
   repeat (first
    | (with_reducible (first | refine sg0 ?_ | refine hw0 ?_ | refine se0 ?_ | refine ai0 ?_ | refine as0 ?_ | refine at0 ?_ | refine ax0 ?_); simp only [go_sem, simprocAttr, hF, h1, h2, h3])
    | with_reducible (first | refine aq0 fun _ _ => ?_ | refine ar0 [] ?_ | refine ab0 ?_)
    | go_step)
   all_goals (try rfl)
 · repeat (first
  | (with_reducible (first | refine sg0 ?_ | refine hw0 ?_ | refine se0 ?_ | refine ai0 ?_ | refine as0 ?_ | refine at0 ?_ | refine ax0 ?_); simp only [go_sem, simprocAttr, hF, h1, h2, h3])
  | with_reducible (first | refine aq0 fun _ _ => ?_ | refine ar0 [] ?_ | refine ab0 ?_)
  | go_step)
   refine ⟨_, nfew_ok n hp, ?_⟩
   simp only [go_sem, simprocAttr, hF, h1, h2, h3]
   repeat (first
    | (with_reducible (first | refine sg0 ?_ | refine hw0 ?_ | refine se0 ?_ | refine ai0 ?_ | refine as0 ?_ | refine at0 ?_ | refine ax0 ?_); simp only [go_sem, simprocAttr, hF, h1, h2, h3])
    | with_reducible (first | refine aq0 fun _ _ => ?_ | refine ar0 [] ?_ | refine ab0 ?_)
    | go_step)
   all_goals (try rfl)
 · repeat (first
  | (with_reducible (first | refine sg0 ?_ | refine hw0 ?_ | refine se0 ?_ | refine ai0 ?_ | refine as0 ?_ | refine at0 ?_ | refine ax0 ?_); simp only [go_sem, simprocAttr, hF, h1, h2, h3])
  | with_reducible (first | refine aq0 fun _ _ => ?_ | refine ar0 [] ?_ | refine ab0 ?_)
  | go_step)
   refine ⟨_, nfew_ok n hp, ?_⟩
   simp only [go_sem, simprocAttr, hF, h1, h2, h3]
   repeat (first
    | (with_reducible (first | refine sg0 ?_ | refine hw0 ?_ | refine se0 ?_ | refine ai0 ?_ | refine as0 ?_ | refine at0 ?_ | refine ax0 ?_); simp only [go_sem, simprocAttr, hF, h1, h2, h3])
    | with_reducible (first | refine aq0 fun _ _ => ?_ | refine ar0 [] ?_ | refine ab0 ?_)
    | go_step)
   all_goals (try rfl)
 · repeat (first
  | (with_reducible (first | refine sg0 ?_ | refine hw0 ?_ | refine se0 ?_ | refine ai0 ?_ | refine as0 ?_ | refine at0 ?_ | refine ax0 ?_); simp only [go_sem, simprocAttr, hF, h1, h2, h3])
  | with_reducible (first | refine aq0 fun _ _ => ?_ | refine ar0 [] ?_ | refine ab0 ?_)
  | go_step)
   refine ⟨_, nfew_ok n hp, ?_⟩
   simp only [go_sem, simprocAttr, hF, h1, h2, h3]
   repeat (first
    | (with_reducible (first | refine sg0 ?_ | refine hw0 ?_ | refine se0 ?_ | refine ai0 ?_ | refine as0 ?_ | refine at0 ?_ | refine ax0 ?_); simp only [go_sem, simprocAttr, hF, h1, h2, h3])
    | with_reducible (first | refine aq0 fun _ _ => ?_ | refine ar0 [] ?_ | refine ab0 ?_)
    | go_step)
   refine ⟨_, fewR_ok ps hps, ?_⟩
   simp only [go_sem, simprocAttr, hF, h1, h2, h3]
   repeat (first
    | (with_reducible (first | refine sg0 ?_ | refine hw0 ?_ | refine se0 ?_ | refine ai0 ?_ | refine as0 ?_ | refine at0 ?_ | refine ax0 ?_); simp only [go_sem, simprocAttr, hF, h1, h2, h3])
    | with_reducible (first | refine aq0 fun _ _ => ?_ | refine ar0 [] ?_ | refine ab0 ?_)
    | go_step)
   all_goals (try rfl)
 · repeat (first
  | (with_reducible (first | refine sg0 ?_ | refine hw0 ?_ | refine se0 ?_ | refine ai0 ?_ | refine as0 ?_ | refine at0 ?_ | refine ax0 ?_); simp only [go_sem, simprocAttr, hF, h1, h2, h3])
  | with_reducible (first | refine aq0 fun _ _ => ?_ | refine ar0 [] ?_ | refine ab0 ?_)
  | go_step)
   refine ⟨_, nfew_ok n hp, ?_⟩
   simp only [go_sem, simprocAttr, hF, h1, h2, h3]
   repeat (first
    | (with_reducible (first | refine sg0 ?_ | refine hw0 ?_ | refine se0 ?_ | refine ai0 ?_ | refine as0 ?_ | refine at0 ?_ | refine ax0 ?_); simp only [go_sem, simprocAttr, hF, h1, h2, h3])
    | with_reducible (first | refine aq0 fun _ _ => ?_ | refine ar0 [] ?_ | refine ab0 ?_)
    | go_step)
   refine ⟨_, fewR_ok ps hps, ?_⟩
   simp only [go_sem, simprocAttr, hF, h1, h2, h3]
   repeat (first
    | (with_reducible (first | refine sg0 ?_ | refine hw0 ?_ | refine se0 ?_ | refine ai0 ?_ | refine as0 ?_ | refine at0 ?_ | refine ax0 ?_); simp only [go_sem, simprocAttr, hF, h1, h2, h3])
    | with_reducible (first | refine aq0 fun _ _ => ?_ | refine ar0 [] ?_ | refine ab0 ?_)
    | go_step)
   all_goals (try rfl)
 · repeat (first
  | (with_reducible (first | refine sg0 ?_ | refine hw0 ?_ | refine se0 ?_ | refine ai0 ?_ | refine as0 ?_ | refine at0 ?_ | refine ax0 ?_); simp only [go_sem, simprocAttr, hF, h1, h2, h3])
  | with_reducible (first | refine aq0 fun _ _ => ?_ | refine ar0 [] ?_ | refine ab0 ?_)
  | go_step)
   refine ⟨_, nfew_ok n hp, ?_⟩
   simp only [go_sem, simprocAttr, hF, h1, h2, h3]
   repeat (first
    | (with_reducible (first | refine sg0 ?_ | refine hw0 ?_ | refine se0 ?_ | refine ai0 ?_ | refine as0 ?_ | refine at0 ?_ | refine ax0 ?_); simp only [go_sem, simprocAttr, hF, h1, h2, h3])
    | with_reducible (first | refine aq0 fun _ _ => ?_ | refine ar0 [] ?_ | refine ab0 ?_)
    | go_step)
   refine ⟨_, fewR_ok ps hps, ?_⟩
   simp only [go_sem, simprocAttr, hF, h1, h2, h3]
   repeat (first
    | (with_reducible (first | refine sg0 ?_ | refine hw0 ?_ | refine se0 ?_ | refine ai0 ?_ | refine as0 ?_ | refine at0 ?_ | refine ax0 ?_); simp only [go_sem, simprocAttr, hF, h1, h2, h3])
    | with_reducible (first | refine aq0 fun _ _ => ?_ | refine ar0 [] ?_ | refine ab0 ?_)
    | go_step)
   refine ⟨_, rfew_ok r, ?_⟩
   simp only [go_sem, simprocAttr, hF, h1, h2, h3]
   repeat (first
    | (with_reducible (first | refine sg0 ?_ | refine hw0 ?_ | refine se0 ?_ | refine ai0 ?_ | refine as0 ?_ | refine at0 ?_ | refine ax0 ?_); simp only [go_sem, simprocAttr, hF, h1, h2, h3])
    | with_reducible (first | refine aq0 fun _ _ => ?_ | refine ar0 [] ?_ | refine ab0 ?_)
    | go_step)
   all_goals (try rfl)
 · repeat (first
  | (with_reducible (first | refine sg0 ?_ | refine hw0 ?_ | refine se0 ?_ | refine ai0 ?_ | refine as0 ?_ | refine at0 ?_ | refine ax0 ?_); simp only [go_sem, simprocAttr, hF, h1, h2, h3])
  | with_reducible (first | refine aq0 fun _ _ => ?_ | refine ar0 [] ?_ | refine ab0 ?_)
  | go_step)
   refine ⟨_, nfew_ok n hp, ?_⟩
   simp only [go_sem, simprocAttr, hF, h1, h2, h3]
   repeat (first
    | (with_reducible (first | refine sg0 ?_ | refine hw0 ?_ | refine se0 ?_ | refine ai0 ?_ | refine as0 ?_ | refine at0 ?_ | refine ax0 ?_); simp only [go_sem, simprocAttr, hF, h1, h2, h3])
    | with_reducible (first | refine aq0 fun _ _ => ?_ | refine ar0 [] ?_ | refine ab0 ?_)
    | go_step)
   refine ⟨_, fewR_ok ps hps, ?_⟩
   simp only [go_sem, simprocAttr, hF, h1, h2, h3]
   repeat (first
    | (with_reducible (first | refine sg0 ?_ | refine hw0 ?_ | refine se0 ?_ | refine ai0 ?_ | refine as0 ?_ | refine at0 ?_ | refine ax0 ?_); simp only [go_sem, simprocAttr, hF, h1, h2, h3])
    | with_reducible (first | refine aq0 fun _ _ => ?_ | refine ar0 [] ?_ | refine ab0 ?_)
    | go_step)
   refine ⟨_, rfew_ok r, ?_⟩
   simp only [go_sem, simprocAttr, hF, h1, h2, h3]
   repeat (first
    | (with_reducible (first | refine sg0 ?_ | refine hw0 ?_ | refine se0 ?_ | refine ai0 ?_ | refine as0 ?_ | refine at0 ?_ | refine ax0 ?_); simp only [go_sem, simprocAttr, hF, h1, h2, h3])
    | with_reducible (first | refine aq0 fun _ _ => ?_ | refine ar0 [] ?_ | refine ab0 ?_)
    | go_step)
   all_goals (try rfl)
/- The decimal numerals of the reference, by abstract states. -/
attribute [local go_sem] Tryz.sz5 Tryz.zr5 Tryz.by5 Tryz.pl5 Tryz.is5 Tryz.underlying5 Tryz.sz134 Tryz.zr134 Tryz.by134 Tryz.pl134 Tryz.is134 Tryz.underlying134
theorem dec_small {n : Nat} (h : n < 10) : txtI (n : Int) = strOfNums [((48 + n : Nat) : Int)] := by
 rw [txt1 h]
 unfold strOfNums
 simp only [List.map_cons, List.map_nil, Int.toNat_natCast]
theorem dec_big {n : Nat} (h : 10 ≤ n) : txtI (n : Int) = txtI ((n / 10 : Nat) : Int) ++ txtI ((n % 10 : Nat) : Int) := by
 have h1 := txt1 (n := n % 10) (by omega)
 rw [h1]
 unfold txtI
 rw [Lib.itoa_nonneg, Lib.itoa_nonneg, Lib.decDigits, dif_neg (by omega)]
 apply ByteArray.ext
 simp

set_option maxHeartbeats 20000000 in
theorem decN_ok (n : Nat) (hn : n ≤ 1073741824) : FnOK Tryz.prog 47 [iv (n : Int)] ⟨.v (.string (txtI (n : Int))), none⟩ := by
 induction n using Nat.strongRecOn with
 | _ n ih =>
  by_cases h10 : n < 10
  case pos =>
   have e1 : decide ((n : Int) < 10) = true := decide_eq_true (by omega)
   have w1 : IntKind.i64.wrap (48 + (n : Int)) = ((48 + n : Nat) : Int) := by rw [IntKind.wrap_i64]; omega
   have w2 : IntKind.u8.wrap ((48 + n : Nat) : Int) = ((48 + n : Nat) : Int) := by rw [IntKind.wrap_u8]; omega
   rw [dec_small h10]
   refine fn_ok Tryz.func47 (by kernel_rfl) rfl (by rw [Tryz.ntmps47]; exact of_decide_eq_true rfl) (fun F hF => ?_)
   rw [Tryz.ntmps47] at hF
   rw [Tryz.results47]
   repeat (first
    | (with_reducible (first | refine sg0 ?_ | refine hw0 ?_ | refine se0 ?_ | refine ai0 ?_ | refine as0 ?_ | refine at0 ?_ | refine ax0 ?_); simp only [go_sem, simprocAttr, hF, e1, w1, w2])
    | with_reducible (first | refine aq0 fun _ _ => ?_ | refine ar0 [1000009] ?_ | refine ab0 ?_)
    | go_step)
   refine hand_bytes (d := 9) (e := 5) (zs := [((48 + n : Nat) : Int)]) rfl rfl (by decide) ?_ (by simp) Tryz.underlying134 Tryz.underlying5 Tryz.underlying9 ?_
   · simp only [go_sem, simprocAttr, hF]
   simp only [go_sem, simprocAttr, hF]
   repeat (first
    | (with_reducible (first | refine sg0 ?_ | refine hw0 ?_ | refine se0 ?_ | refine ai0 ?_ | refine as0 ?_ | refine at0 ?_ | refine ax0 ?_); simp only [go_sem, simprocAttr, hF])
    | with_reducible (first | refine aq0 fun _ _ => ?_ | refine ar0 [1000009] ?_ | refine ab0 ?_)
    | go_step)
   all_goals (try rfl)
  have e1 : decide ((n : Int) < 10) = false := decide_eq_false (by omega)
  have i1 := ih (n / 10) (by omega) (by omega)
  have i2 := ih (n % 10) (by omega) (by omega)
  have q1 : (n : Int).tdiv 10 = ((n / 10 : Nat) : Int) := by rw [Int.tdiv_eq_ediv_of_nonneg (by omega)]; omega
  have q2 : (n : Int).tmod 10 = ((n % 10 : Nat) : Int) := by rw [Int.tmod_eq_emod_of_nonneg (by omega)]; omega
  have w1 : IntKind.i64.wrap ((n / 10 : Nat) : Int) = ((n / 10 : Nat) : Int) := by rw [IntKind.wrap_i64]; omega
  have s1 := txtI_size (x := ((n / 10 : Nat) : Int)) (by omega)
  have s2 := txtI_size (x := ((n % 10 : Nat) : Int)) (by omega)
  have hs : (txtI ((n / 10 : Nat) : Int)).size + (txtI ((n % 10 : Nat) : Int)).size ≤ 9223372036854775807 := by omega
  rw [dec_big (by omega)]
  refine fn_ok Tryz.func47 (by kernel_rfl) rfl (by rw [Tryz.ntmps47]; exact of_decide_eq_true rfl) (fun F hF => ?_)
  rw [Tryz.ntmps47] at hF
  rw [Tryz.results47]
  repeat (first
   | (with_reducible (first | refine sg0 ?_ | refine hw0 ?_ | refine se0 ?_ | refine ai0 ?_ | refine as0 ?_ | refine at0 ?_ | refine ax0 ?_); simp only [go_sem, simprocAttr, hF, e1, q1, q2, w1])
   | with_reducible (first | refine aq0 fun _ _ => ?_ | refine ar0 [1000009] ?_ | refine ab0 ?_)
   | go_step)
  refine ⟨_, i1, ?_⟩
  simp only [go_sem, simprocAttr, hF, e1, q1, q2, w1]
  repeat (first
   | (with_reducible (first | refine sg0 ?_ | refine hw0 ?_ | refine se0 ?_ | refine ai0 ?_ | refine as0 ?_ | refine at0 ?_ | refine ax0 ?_); simp only [go_sem, simprocAttr, hF, q1, q2, w1])
   | with_reducible (first | refine aq0 fun _ _ => ?_ | refine ar0 [1000009] ?_ | refine ab0 ?_)
   | go_step)
  refine ⟨_, i2, ?_⟩
  simp only [go_sem, simprocAttr, hF, hs]
  repeat (first
   | (with_reducible (first | refine sg0 ?_ | refine hw0 ?_ | refine se0 ?_ | refine ai0 ?_ | refine as0 ?_ | refine at0 ?_ | refine ax0 ?_); simp only [go_sem, simprocAttr, hF, hs])
   | with_reducible (first | refine aq0 fun _ _ => ?_ | refine ar0 [1000009] ?_ | refine ab0 ?_)
   | go_step)
  all_goals (try rfl)

theorem dec_ok (x : Int) (h : 0 ≤ x ∧ x ≤ 1073741824) : FnOK Tryz.prog 47 [iv x] ⟨.v (.string (txtI x)), none⟩ := by
 have := decN_ok x.toNat (by omega)
 rwa [Int.toNat_of_nonneg h.1] at this

set_option maxHeartbeats 2000000 in
theorem rwrong_ok (x : Int) : FnOK Tryz.prog 46 [iv x] ⟨bv (wrongB x), none⟩ := by
 refine fn_ok Tryz.func46 (by kernel_rfl) rfl (by rw [Tryz.ntmps46]; exact of_decide_eq_true rfl) (fun F hF => ?_)
 rw [Tryz.ntmps46] at hF
 rw [Tryz.results46]
 unfold wrongB
 cases h1 : decide (x < 0) <;> cases h2 : decide ((1073741824 : Int) < x)
 · repeat (first
  | (with_reducible (first | refine sg0 ?_ | refine hw0 ?_ | refine se0 ?_ | refine ai0 ?_ | refine as0 ?_ | refine at0 ?_ | refine ax0 ?_); simp only [go_sem, simprocAttr, hF, h1, h2])
  | with_reducible (first | refine aq0 fun _ _ => ?_ | refine ar0 [] ?_ | refine ab0 ?_)
  | go_step)
   all_goals (try rfl)
 · repeat (first
  | (with_reducible (first | refine sg0 ?_ | refine hw0 ?_ | refine se0 ?_ | refine ai0 ?_ | refine as0 ?_ | refine at0 ?_ | refine ax0 ?_); simp only [go_sem, simprocAttr, hF, h1, h2])
  | with_reducible (first | refine aq0 fun _ _ => ?_ | refine ar0 [] ?_ | refine ab0 ?_)
  | go_step)
   all_goals (try rfl)
 · repeat (first
  | (with_reducible (first | refine sg0 ?_ | refine hw0 ?_ | refine se0 ?_ | refine ai0 ?_ | refine as0 ?_ | refine at0 ?_ | refine ax0 ?_); simp only [go_sem, simprocAttr, hF, h1, h2])
  | with_reducible (first | refine aq0 fun _ _ => ?_ | refine ar0 [] ?_ | refine ab0 ?_)
  | go_step)
   all_goals (try rfl)
 · repeat (first
  | (with_reducible (first | refine sg0 ?_ | refine hw0 ?_ | refine se0 ?_ | refine ai0 ?_ | refine as0 ?_ | refine at0 ?_ | refine ax0 ?_); simp only [go_sem, simprocAttr, hF, h1, h2])
  | with_reducible (first | refine aq0 fun _ _ => ?_ | refine ar0 [] ?_ | refine ab0 ?_)
  | go_step)
   all_goals (try rfl)
/- The reference of Format, by abstract states. -/
set_option maxHeartbeats 40000000 in
theorem rformat_ok (x : Ex) (hca : x.ca.length ≤ 1000000) (hsl : ∀ c ∈ x.ca, c.sl.length ≤ 1000000) : FnOK Tryz.prog 19 [.agg x.pv] ⟨.tup [.c (.v (.string (fmtX x).1)), .c (ip (fmtX x).2)], none⟩ := by
 have hAe : [x.lt.fl, x.lt.fr, m0 x.lt.sl].any wrongB = (wrongB x.lt.fl || (wrongB x.lt.fr || decide ((1073741824 : Int) < x.lt.sl))) := by
  have hm : wrongB (m0 x.lt.sl) = decide ((1073741824 : Int) < x.lt.sl) := by
   unfold wrongB m0
   rw [Bool.eq_iff_iff, Bool.or_eq_true, decide_eq_true_eq, decide_eq_true_eq, decide_eq_true_eq]
   split <;> omega
  simp only [List.any_cons, List.any_nil, Bool.or_false, hm]
 refine fn_ok Tryz.func19 (by kernel_rfl) rfl (by rw [Tryz.ntmps19]; exact of_decide_eq_true rfl) (fun F hF => ?_)
 rw [Tryz.ntmps19] at hF
 rw [Tryz.results19]
 repeat (first
  | (with_reducible (first | refine sg0 ?_ | refine hw0 ?_ | refine se0 ?_ | refine ai0 ?_ | refine as0 ?_ | refine at0 ?_ | refine ax0 ?_); simp only [go_sem, simprocAttr, hF])
  | ((with_reducible refine hg0 ?_); simp only [go_sem, simprocAttr, hF, hbx])
  | with_reducible refine aq0 fun _ _ => ?_
  | (refine awp_draw' (id := 3) [] 11 (by kernel_rfl) (by kernel_rfl) rfl rfl (fun bx0 hbx => ?_); try dsimp only [List.take, List.drop])
  | (refine awp_draw' (id := 13) [] 12 (by kernel_rfl) (by kernel_rfl) rfl rfl (fun bx0 hbx => ?_); try dsimp only [List.take, List.drop])
  | with_reducible (first | refine ar0 [] ?_ | refine ab0 ?_)
  | go_step)
 refine ⟨_, rwrong_ok x.lt.fl, ?_⟩
 simp only [go_sem, simprocAttr, hF]
 cases a1 : wrongB x.lt.fl with
 | true =>
  have hX : fmtX x = (⟨#[]⟩, 1) := by unfold fmtX; rw [hAe, a1]; rfl
  try simp only [go_sem, simprocAttr, hF, a1]
  repeat (first
   | (with_reducible (first | refine sg0 ?_ | refine hw0 ?_ | refine se0 ?_ | refine ai0 ?_ | refine as0 ?_ | refine at0 ?_ | refine ax0 ?_); simp only [go_sem, simprocAttr, hF, a1])
   | ((with_reducible refine hg0 ?_); simp only [go_sem, simprocAttr, hF, a1, hbx])
   | with_reducible refine aq0 fun _ _ => ?_
   | (refine awp_draw' (id := 3) [] 11 (by kernel_rfl) (by kernel_rfl) rfl rfl (fun bx0 hbx => ?_); try dsimp only [List.take, List.drop])
   | (refine awp_draw' (id := 13) [] 12 (by kernel_rfl) (by kernel_rfl) rfl rfl (fun bx0 hbx => ?_); try dsimp only [List.take, List.drop])
   | with_reducible (first | refine ar0 [] ?_ | refine ab0 ?_)
   | go_step)
  all_goals (try rw [hX])
  all_goals (try rfl)
 | false =>
  try simp only [go_sem, simprocAttr, hF, a1]
  repeat (first
   | (with_reducible (first | refine sg0 ?_ | refine hw0 ?_ | refine se0 ?_ | refine ai0 ?_ | refine as0 ?_ | refine at0 ?_ | refine ax0 ?_); simp only [go_sem, simprocAttr, hF, a1])
   | ((with_reducible refine hg0 ?_); simp only [go_sem, simprocAttr, hF, a1, hbx])
   | with_reducible refine aq0 fun _ _ => ?_
   | (refine awp_draw' (id := 3) [] 11 (by kernel_rfl) (by kernel_rfl) rfl rfl (fun bx0 hbx => ?_); try dsimp only [List.take, List.drop])
   | (refine awp_draw' (id := 13) [] 12 (by kernel_rfl) (by kernel_rfl) rfl rfl (fun bx0 hbx => ?_); try dsimp only [List.take, List.drop])
   | with_reducible (first | refine ar0 [] ?_ | refine ab0 ?_)
   | go_step)
  refine ⟨_, rwrong_ok x.lt.fr, ?_⟩
  simp only [go_sem, simprocAttr, hF, a1]
  cases a2 : wrongB x.lt.fr with
  | true =>
   have hX : fmtX x = (⟨#[]⟩, 1) := by unfold fmtX; rw [hAe, a1, a2]; rfl
   try simp only [go_sem, simprocAttr, hF, a1, a2]
   repeat (first
    | (with_reducible (first | refine sg0 ?_ | refine hw0 ?_ | refine se0 ?_ | refine ai0 ?_ | refine as0 ?_ | refine at0 ?_ | refine ax0 ?_); simp only [go_sem, simprocAttr, hF, a1, a2])
    | ((with_reducible refine hg0 ?_); simp only [go_sem, simprocAttr, hF, a1, a2, hbx])
    | with_reducible refine aq0 fun _ _ => ?_
    | (refine awp_draw' (id := 3) [] 11 (by kernel_rfl) (by kernel_rfl) rfl rfl (fun bx0 hbx => ?_); try dsimp only [List.take, List.drop])
    | (refine awp_draw' (id := 13) [] 12 (by kernel_rfl) (by kernel_rfl) rfl rfl (fun bx0 hbx => ?_); try dsimp only [List.take, List.drop])
    | with_reducible (first | refine ar0 [] ?_ | refine ab0 ?_)
    | go_step)
   all_goals (try rw [hX])
   all_goals (try rfl)
  | false =>
   cases a3 : decide ((1073741824 : Int) < x.lt.sl) with
   | true =>
    have hX : fmtX x = (⟨#[]⟩, 1) := by unfold fmtX; rw [hAe, a1, a2, a3]; rfl
    try simp only [go_sem, simprocAttr, hF, a1, a2, a3]
    repeat (first
     | (with_reducible (first | refine sg0 ?_ | refine hw0 ?_ | refine se0 ?_ | refine ai0 ?_ | refine as0 ?_ | refine at0 ?_ | refine ax0 ?_); simp only [go_sem, simprocAttr, hF, a1, a2, a3])
     | ((with_reducible refine hg0 ?_); simp only [go_sem, simprocAttr, hF, a1, a2, a3, hbx])
     | with_reducible refine aq0 fun _ _ => ?_
     | (refine awp_draw' (id := 3) [] 11 (by kernel_rfl) (by kernel_rfl) rfl rfl (fun bx0 hbx => ?_); try dsimp only [List.take, List.drop])
     | (refine awp_draw' (id := 13) [] 12 (by kernel_rfl) (by kernel_rfl) rfl rfl (fun bx0 hbx => ?_); try dsimp only [List.take, List.drop])
     | with_reducible (first | refine ar0 [] ?_ | refine ab0 ?_)
     | go_step)
    all_goals (try rw [hX])
    all_goals (try rfl)
   | false =>
    cases a4 : decide ((1024 : Int) < (x.ca.length : Int)) with
    | true =>
     have hX : fmtX x = (⟨#[]⟩, 1) := by unfold fmtX; rw [hAe, a1, a2, a3, a4]; rfl
     try simp only [go_sem, simprocAttr, hF, a1, a2, a3, a4]
     repeat (first
      | (with_reducible (first | refine sg0 ?_ | refine hw0 ?_ | refine se0 ?_ | refine ai0 ?_ | refine as0 ?_ | refine at0 ?_ | refine ax0 ?_); simp only [go_sem, simprocAttr, hF, a1, a2, a3, a4])
      | ((with_reducible refine hg0 ?_); simp only [go_sem, simprocAttr, hF, a1, a2, a3, a4, hbx])
      | with_reducible refine aq0 fun _ _ => ?_
      | (refine awp_draw' (id := 3) [] 11 (by kernel_rfl) (by kernel_rfl) rfl rfl (fun bx0 hbx => ?_); try dsimp only [List.take, List.drop])
      | (refine awp_draw' (id := 13) [] 12 (by kernel_rfl) (by kernel_rfl) rfl rfl (fun bx0 hbx => ?_); try dsimp only [List.take, List.drop])
      | with_reducible (first | refine ar0 [] ?_ | refine ab0 ?_)
      | go_step)
     all_goals (try rw [hX])
     all_goals (try rfl)
    | false =>
     have hX0 : fmtX x = if x.ca.any badC = true then (⟨#[]⟩, 1) else (outT (lineT (headL x.lt)) x.ca, 0) := by unfold fmtX; rw [hAe, a1, a2, a3, a4]; rfl
     have r1 := wrongB_f a1
     have r2 := wrongB_f a2
     have r3 : x.lt.sl ≤ 1073741824 := by simpa using a3
     have r4 : x.ca.length ≤ 1024 := by have := of_decide_eq_false a4; omega
     have t1 := txtI_size r1
     have t2 := txtI_size r2
     obtain ⟨T1, hT1⟩ : ∃ T, T = txtI x.lt.fl := ⟨_, rfl⟩
     obtain ⟨T2, hT2⟩ : ∃ T, T = txtI x.lt.fr := ⟨_, rfl⟩
     rw [← hT1] at t1
     rw [← hT2] at t2
     have u1 : 5 + T1.size ≤ 9223372036854775807 := by omega
     have u1' : T1.size ≤ 9223372036854775802 := by omega
     have u2 : 5 + T1.size ≤ 9223372036854775800 := by omega
     have u3 : 5 + T1.size + 7 + T2.size ≤ 9223372036854775807 := by omega
     try simp only [go_sem, simprocAttr, hF, a1, a2, a3, a4]
     repeat (first
      | (with_reducible (first | refine sg0 ?_ | refine hw0 ?_ | refine se0 ?_ | refine ai0 ?_ | refine as0 ?_ | refine at0 ?_ | refine ax0 ?_); simp only [go_sem, simprocAttr, hF, a1, a2, a3, a4])
      | ((with_reducible refine hg0 ?_); simp only [go_sem, simprocAttr, hF, a1, a2, a3, a4, hbx])
      | with_reducible refine aq0 fun _ _ => ?_
      | (refine awp_draw' (id := 3) [] 11 (by kernel_rfl) (by kernel_rfl) rfl rfl (fun bx0 hbx => ?_); try dsimp only [List.take, List.drop])
      | (refine awp_draw' (id := 13) [] 12 (by kernel_rfl) (by kernel_rfl) rfl rfl (fun bx0 hbx => ?_); try dsimp only [List.take, List.drop])
      | with_reducible (first | refine ar0 [] ?_ | refine ab0 ?_)
      | go_step)
     refine ⟨_, dec_ok x.lt.fl r1, ?_⟩
     simp only [go_sem, simprocAttr, hF, a1, a2, a3, a4]
     rw [← hT1]
     repeat (first
      | (with_reducible (first | refine sg0 ?_ | refine hw0 ?_ | refine se0 ?_ | refine ai0 ?_ | refine as0 ?_ | refine at0 ?_ | refine ax0 ?_); simp only [go_sem, simprocAttr, hF, u1, u1', u2, u3])
      | ((with_reducible refine hg0 ?_); simp only [go_sem, simprocAttr, hF, u1, u1', u2, u3, hbx])
      | with_reducible refine aq0 fun _ _ => ?_
      | (refine awp_draw' (id := 3) [] 11 (by kernel_rfl) (by kernel_rfl) rfl rfl (fun bx0 hbx => ?_); try dsimp only [List.take, List.drop])
      | (refine awp_draw' (id := 13) [] 12 (by kernel_rfl) (by kernel_rfl) rfl rfl (fun bx0 hbx => ?_); try dsimp only [List.take, List.drop])
      | with_reducible (first | refine ar0 [] ?_ | refine ab0 ?_)
      | go_step)
     refine ⟨_, dec_ok x.lt.fr r2, ?_⟩
     simp only [go_sem, simprocAttr, hF, u1, u1', u2, u3]
     rw [← hT2]
     repeat (first
      | (with_reducible (first | refine sg0 ?_ | refine hw0 ?_ | refine se0 ?_ | refine ai0 ?_ | refine as0 ?_ | refine at0 ?_ | refine ax0 ?_); simp only [go_sem, simprocAttr, hF, u1, u1', u2, u3])
      | ((with_reducible refine hg0 ?_); simp only [go_sem, simprocAttr, hF, u1, u1', u2, u3, hbx])
      | with_reducible refine aq0 fun _ _ => ?_
      | (refine awp_draw' (id := 3) [] 11 (by kernel_rfl) (by kernel_rfl) rfl rfl (fun bx0 hbx => ?_); try dsimp only [List.take, List.drop])
      | (refine awp_draw' (id := 13) [] 12 (by kernel_rfl) (by kernel_rfl) rfl rfl (fun bx0 hbx => ?_); try dsimp only [List.take, List.drop])
      | with_reducible (first | refine ar0 [] ?_ | refine ab0 ?_)
      | go_step)
     obtain ⟨H, hH⟩ : ∃ H, H = lineT (headL x.lt) := ⟨_, rfl⟩
     by_cases c3 : x.lt.sl < 0
     case pos =>
      have e3 : decide (x.lt.sl < 0) = true := decide_eq_true c3
      have hHe : (((⟨#[102, 108, 111, 119, 32]⟩ ++ T1) ++ ⟨#[32, 102, 114, 97, 109, 101, 32]⟩) ++ T2) ++ ⟨#[32, 110, 111, 116, 32, 100, 101, 108, 105, 118, 101, 114, 101, 100, 10]⟩ = H := by rw [hH]; unfold headL; rw [if_neg (by omega), headN_text, hT1, hT2]
      have hHs : H.size ≤ 300 := by
       rw [← hHe]
       simp only [ByteArray.size_append]
       show 5 + _ + 7 + _ + 15 ≤ _
       omega
      have u4 : 5 + T1.size + 7 + T2.size ≤ 9223372036854775792 := by omega
      try simp only [go_sem, simprocAttr, hF, e3, u4]
      repeat (first
       | (with_reducible (first | refine sg0 ?_ | refine hw0 ?_ | refine se0 ?_ | refine ai0 ?_ | refine as0 ?_ | refine at0 ?_ | refine ax0 ?_); simp only [go_sem, simprocAttr, hF, e3, u4])
       | ((with_reducible refine hg0 ?_); simp only [go_sem, simprocAttr, hF, e3, u4, hbx])
       | with_reducible refine aq0 fun _ _ => ?_
       | (refine awp_draw' (id := 3) [] 11 (by kernel_rfl) (by kernel_rfl) rfl rfl (fun bx0 hbx => ?_); try dsimp only [List.take, List.drop])
       | (refine awp_draw' (id := 13) [] 12 (by kernel_rfl) (by kernel_rfl) rfl rfl (fun bx0 hbx => ?_); try dsimp only [List.take, List.drop])
       | with_reducible (first | refine ar0 [] ?_ | refine ab0 ?_)
       | go_step)
      refine awp_loop_by (ι := {k : Nat // k ≤ x.ca.length ∧ (x.ca.take k).any badC = false}) (fun k σ => ⟨(5, iv (k.1 : Int)) :: (4, .v (.string (outT H (x.ca.take k.1)))) :: keepS [1] σ.slot, keepS [1] σ.box, [], σ.ext⟩) (fun k => x.ca.length - k.1) ⟨0, by omega, rfl⟩ (sub_mk ?_) (fun R hR k => ?_)
      · simp only [go_sem, simprocAttr, hF]
        try simp only [hHe]
        repeat' (first | rfl | exact True.intro | refine ⟨?_, ?_⟩)
      obtain ⟨k, hk, hT⟩ := k
      dsimp only
      simp only [go_sem, simprocAttr, hF]
      by_cases hlt : k < x.ca.length
      case neg =>
       have hd : decide ((k : Int) < (x.ca.length : Int)) = false := decide_eq_false (by omega)
       have hall : List.take k x.ca = x.ca := List.take_of_length_le (by omega)
       rw [hall] at hT
       have hX : fmtX x = (outT H x.ca, 0) := by rw [hX0, if_neg (by rw [hT]; decide), hH]
       repeat (first
        | (with_reducible (first | refine sg0 ?_ | refine hw0 ?_ | refine se0 ?_ | refine ai0 ?_ | refine as0 ?_ | refine at0 ?_ | refine ax0 ?_); simp only [go_sem, simprocAttr, hF, hd, hall])
        | ((with_reducible refine hg0 ?_); simp only [go_sem, simprocAttr, hF, hd, hall, hbx])
        | with_reducible refine aq0 fun _ _ => ?_
        | (refine awp_draw' (id := 3) [] 11 (by kernel_rfl) (by kernel_rfl) rfl rfl (fun bx0 hbx => ?_); try dsimp only [List.take, List.drop])
        | (refine awp_draw' (id := 13) [] 12 (by kernel_rfl) (by kernel_rfl) rfl rfl (fun bx0 hbx => ?_); try dsimp only [List.take, List.drop])
        | with_reducible (first | refine ar0 [] ?_ | refine ab0 ?_)
        | go_step)
       all_goals (try rw [hX])
       all_goals (try rfl)
      obtain ⟨c, hdk⟩ := get_of_lt hlt
      have hd : decide ((k : Int) < (x.ca.length : Int)) = true := decide_eq_true (by omega)
      have hw : IntKind.i64.wrap ((k : Int) + 1) = ((k + 1 : Nat) : Int) := by rw [IntKind.wrap_i64]; omega
      have hTk : List.take (k + 1) x.ca = List.take k x.ca ++ [c] := by rw [List.take_add_one, hdk]; rfl
      have hbad : badC c = true → fmtX x = (⟨#[]⟩, 1) := fun h => by rw [hX0, if_pos (List.any_eq_true.2 ⟨c, List.mem_of_getElem? hdk, h⟩)]
      have hcl := hsl c (List.mem_of_getElem? hdk)
      have hbe : badC c = ((wrongB c.fl || (wrongB c.fr || (wrongB c.fm || wrongB c.tt))) || (c.sl.any wrongB || (decide ((c.sl.length : Int) < 1) || decide ((8 : Int) < (c.sl.length : Int))))) := by
       unfold badC
       simp only [List.any_cons, List.any_nil, Bool.or_false]
      repeat (first
       | (with_reducible (first | refine sg0 ?_ | refine hw0 ?_ | refine se0 ?_ | refine ai0 ?_ | refine as0 ?_ | refine at0 ?_ | refine ax0 ?_); simp only [go_sem, simprocAttr, hF, hd, hdk])
       | ((with_reducible refine hg0 ?_); simp only [go_sem, simprocAttr, hF, hd, hdk, hbx])
       | with_reducible refine aq0 fun _ _ => ?_
       | (refine awp_draw' (id := 3) [] 11 (by kernel_rfl) (by kernel_rfl) rfl rfl (fun bx0 hbx => ?_); try dsimp only [List.take, List.drop])
       | (refine awp_draw' (id := 13) [] 12 (by kernel_rfl) (by kernel_rfl) rfl rfl (fun bx0 hbx => ?_); try dsimp only [List.take, List.drop])
       | with_reducible (first | refine ar0 [] ?_ | refine ab0 ?_)
       | go_step)
      refine ⟨_, rwrong_ok c.fl, ?_⟩
      simp only [go_sem, simprocAttr, hF]
      cases b0 : wrongB c.fl with
      | true =>
       have hX := hbad (by rw [hbe, b0]; simp)
       try simp only [go_sem, simprocAttr, hF, b0]
       repeat (first
        | (with_reducible (first | refine sg0 ?_ | refine hw0 ?_ | refine se0 ?_ | refine ai0 ?_ | refine as0 ?_ | refine at0 ?_ | refine ax0 ?_); simp only [go_sem, simprocAttr, hF, b0])
        | ((with_reducible refine hg0 ?_); simp only [go_sem, simprocAttr, hF, b0, hbx])
        | with_reducible refine aq0 fun _ _ => ?_
        | (refine awp_draw' (id := 3) [] 11 (by kernel_rfl) (by kernel_rfl) rfl rfl (fun bx0 hbx => ?_); try dsimp only [List.take, List.drop])
        | (refine awp_draw' (id := 13) [] 12 (by kernel_rfl) (by kernel_rfl) rfl rfl (fun bx0 hbx => ?_); try dsimp only [List.take, List.drop])
        | with_reducible (first | refine ar0 [] ?_ | refine ab0 ?_)
        | go_step)
       all_goals (try rw [hX])
       all_goals (try rfl)
      | false =>
       try simp only [go_sem, simprocAttr, hF, b0]
       repeat (first
        | (with_reducible (first | refine sg0 ?_ | refine hw0 ?_ | refine se0 ?_ | refine ai0 ?_ | refine as0 ?_ | refine at0 ?_ | refine ax0 ?_); simp only [go_sem, simprocAttr, hF, b0])
        | ((with_reducible refine hg0 ?_); simp only [go_sem, simprocAttr, hF, b0, hbx])
        | with_reducible refine aq0 fun _ _ => ?_
        | (refine awp_draw' (id := 3) [] 11 (by kernel_rfl) (by kernel_rfl) rfl rfl (fun bx0 hbx => ?_); try dsimp only [List.take, List.drop])
        | (refine awp_draw' (id := 13) [] 12 (by kernel_rfl) (by kernel_rfl) rfl rfl (fun bx0 hbx => ?_); try dsimp only [List.take, List.drop])
        | with_reducible (first | refine ar0 [] ?_ | refine ab0 ?_)
        | go_step)
       refine ⟨_, rwrong_ok c.fr, ?_⟩
       simp only [go_sem, simprocAttr, hF, b0]
       cases b1 : wrongB c.fr with
       | true =>
        have hX := hbad (by rw [hbe, b0, b1]; simp)
        try simp only [go_sem, simprocAttr, hF, b0, b1]
        repeat (first
         | (with_reducible (first | refine sg0 ?_ | refine hw0 ?_ | refine se0 ?_ | refine ai0 ?_ | refine as0 ?_ | refine at0 ?_ | refine ax0 ?_); simp only [go_sem, simprocAttr, hF, b0, b1])
         | ((with_reducible refine hg0 ?_); simp only [go_sem, simprocAttr, hF, b0, b1, hbx])
         | with_reducible refine aq0 fun _ _ => ?_
         | (refine awp_draw' (id := 3) [] 11 (by kernel_rfl) (by kernel_rfl) rfl rfl (fun bx0 hbx => ?_); try dsimp only [List.take, List.drop])
         | (refine awp_draw' (id := 13) [] 12 (by kernel_rfl) (by kernel_rfl) rfl rfl (fun bx0 hbx => ?_); try dsimp only [List.take, List.drop])
         | with_reducible (first | refine ar0 [] ?_ | refine ab0 ?_)
         | go_step)
        all_goals (try rw [hX])
        all_goals (try rfl)
       | false =>
        try simp only [go_sem, simprocAttr, hF, b0, b1]
        repeat (first
         | (with_reducible (first | refine sg0 ?_ | refine hw0 ?_ | refine se0 ?_ | refine ai0 ?_ | refine as0 ?_ | refine at0 ?_ | refine ax0 ?_); simp only [go_sem, simprocAttr, hF, b0, b1])
         | ((with_reducible refine hg0 ?_); simp only [go_sem, simprocAttr, hF, b0, b1, hbx])
         | with_reducible refine aq0 fun _ _ => ?_
         | (refine awp_draw' (id := 3) [] 11 (by kernel_rfl) (by kernel_rfl) rfl rfl (fun bx0 hbx => ?_); try dsimp only [List.take, List.drop])
         | (refine awp_draw' (id := 13) [] 12 (by kernel_rfl) (by kernel_rfl) rfl rfl (fun bx0 hbx => ?_); try dsimp only [List.take, List.drop])
         | with_reducible (first | refine ar0 [] ?_ | refine ab0 ?_)
         | go_step)
        refine ⟨_, rwrong_ok c.fm, ?_⟩
        simp only [go_sem, simprocAttr, hF, b0, b1]
        cases b2 : wrongB c.fm with
        | true =>
         have hX := hbad (by rw [hbe, b0, b1, b2]; simp)
         try simp only [go_sem, simprocAttr, hF, b0, b1, b2]
         repeat (first
          | (with_reducible (first | refine sg0 ?_ | refine hw0 ?_ | refine se0 ?_ | refine ai0 ?_ | refine as0 ?_ | refine at0 ?_ | refine ax0 ?_); simp only [go_sem, simprocAttr, hF, b0, b1, b2])
          | ((with_reducible refine hg0 ?_); simp only [go_sem, simprocAttr, hF, b0, b1, b2, hbx])
          | with_reducible refine aq0 fun _ _ => ?_
          | (refine awp_draw' (id := 3) [] 11 (by kernel_rfl) (by kernel_rfl) rfl rfl (fun bx0 hbx => ?_); try dsimp only [List.take, List.drop])
          | (refine awp_draw' (id := 13) [] 12 (by kernel_rfl) (by kernel_rfl) rfl rfl (fun bx0 hbx => ?_); try dsimp only [List.take, List.drop])
          | with_reducible (first | refine ar0 [] ?_ | refine ab0 ?_)
          | go_step)
         all_goals (try rw [hX])
         all_goals (try rfl)
        | false =>
         try simp only [go_sem, simprocAttr, hF, b0, b1, b2]
         repeat (first
          | (with_reducible (first | refine sg0 ?_ | refine hw0 ?_ | refine se0 ?_ | refine ai0 ?_ | refine as0 ?_ | refine at0 ?_ | refine ax0 ?_); simp only [go_sem, simprocAttr, hF, b0, b1, b2])
          | ((with_reducible refine hg0 ?_); simp only [go_sem, simprocAttr, hF, b0, b1, b2, hbx])
          | with_reducible refine aq0 fun _ _ => ?_
          | (refine awp_draw' (id := 3) [] 11 (by kernel_rfl) (by kernel_rfl) rfl rfl (fun bx0 hbx => ?_); try dsimp only [List.take, List.drop])
          | (refine awp_draw' (id := 13) [] 12 (by kernel_rfl) (by kernel_rfl) rfl rfl (fun bx0 hbx => ?_); try dsimp only [List.take, List.drop])
          | with_reducible (first | refine ar0 [] ?_ | refine ab0 ?_)
          | go_step)
         refine ⟨_, rwrong_ok c.tt, ?_⟩
         simp only [go_sem, simprocAttr, hF, b0, b1, b2]
         cases b3 : wrongB c.tt with
         | true =>
          have hX := hbad (by rw [hbe, b0, b1, b2, b3]; simp)
          try simp only [go_sem, simprocAttr, hF, b0, b1, b2, b3]
          repeat (first
           | (with_reducible (first | refine sg0 ?_ | refine hw0 ?_ | refine se0 ?_ | refine ai0 ?_ | refine as0 ?_ | refine at0 ?_ | refine ax0 ?_); simp only [go_sem, simprocAttr, hF, b0, b1, b2, b3])
           | ((with_reducible refine hg0 ?_); simp only [go_sem, simprocAttr, hF, b0, b1, b2, b3, hbx])
           | with_reducible refine aq0 fun _ _ => ?_
           | (refine awp_draw' (id := 3) [] 11 (by kernel_rfl) (by kernel_rfl) rfl rfl (fun bx0 hbx => ?_); try dsimp only [List.take, List.drop])
           | (refine awp_draw' (id := 13) [] 12 (by kernel_rfl) (by kernel_rfl) rfl rfl (fun bx0 hbx => ?_); try dsimp only [List.take, List.drop])
           | with_reducible (first | refine ar0 [] ?_ | refine ab0 ?_)
           | go_step)
          all_goals (try rw [hX])
          all_goals (try rfl)
         | false =>
          cases b4 : decide ((c.sl.length : Int) < 1) with
          | true =>
           have hX := hbad (by rw [hbe, b4]; simp)
           try simp only [go_sem, simprocAttr, hF, b0, b1, b2, b3, b4]
           repeat (first
            | (with_reducible (first | refine sg0 ?_ | refine hw0 ?_ | refine se0 ?_ | refine ai0 ?_ | refine as0 ?_ | refine at0 ?_ | refine ax0 ?_); simp only [go_sem, simprocAttr, hF, b0, b1, b2, b3, b4])
            | ((with_reducible refine hg0 ?_); simp only [go_sem, simprocAttr, hF, b0, b1, b2, b3, b4, hbx])
            | with_reducible refine aq0 fun _ _ => ?_
            | (refine awp_draw' (id := 3) [] 11 (by kernel_rfl) (by kernel_rfl) rfl rfl (fun bx0 hbx => ?_); try dsimp only [List.take, List.drop])
            | (refine awp_draw' (id := 13) [] 12 (by kernel_rfl) (by kernel_rfl) rfl rfl (fun bx0 hbx => ?_); try dsimp only [List.take, List.drop])
            | with_reducible (first | refine ar0 [] ?_ | refine ab0 ?_)
            | go_step)
           all_goals (try rw [hX])
           all_goals (try rfl)
          | false =>
           cases b5 : decide ((8 : Int) < (c.sl.length : Int)) with
           | true =>
            have hX := hbad (by rw [hbe, b5]; simp)
            try simp only [go_sem, simprocAttr, hF, b0, b1, b2, b3, b4, b5]
            repeat (first
             | (with_reducible (first | refine sg0 ?_ | refine hw0 ?_ | refine se0 ?_ | refine ai0 ?_ | refine as0 ?_ | refine at0 ?_ | refine ax0 ?_); simp only [go_sem, simprocAttr, hF, b0, b1, b2, b3, b4, b5])
             | ((with_reducible refine hg0 ?_); simp only [go_sem, simprocAttr, hF, b0, b1, b2, b3, b4, b5, hbx])
             | with_reducible refine aq0 fun _ _ => ?_
             | (refine awp_draw' (id := 3) [] 11 (by kernel_rfl) (by kernel_rfl) rfl rfl (fun bx0 hbx => ?_); try dsimp only [List.take, List.drop])
             | (refine awp_draw' (id := 13) [] 12 (by kernel_rfl) (by kernel_rfl) rfl rfl (fun bx0 hbx => ?_); try dsimp only [List.take, List.drop])
             | with_reducible (first | refine ar0 [] ?_ | refine ab0 ?_)
             | go_step)
            all_goals (try rw [hX])
            all_goals (try rfl)
           | false =>
            have q3 := wrongB_f b2
            have q4 := wrongB_f b3
            have t3 := txtI_size q3
            have t4 := txtI_size q4
            have hlk := linkT_size q3 q4
            have hos := outT_size (h := H) hT
            have hkz : (List.take k x.ca).length ≤ 1024 := by rw [List.length_take]; omega
            have hl8 : c.sl.length ≤ 8 := by have := of_decide_eq_false b5; omega
            obtain ⟨O, hO⟩ : ∃ O, O = outT H (List.take k x.ca) := ⟨_, rfl⟩
            rw [← hO] at hos
            rw [← hO]
            obtain ⟨T3, hT3⟩ : ∃ T, T = txtI c.fm := ⟨_, rfl⟩
            obtain ⟨T4, hT4⟩ : ∃ T, T = txtI c.tt := ⟨_, rfl⟩
            rw [← hT3] at t3
            rw [← hT4] at t4
            have hLT : linkT c = (((⟨#[108, 105, 110, 107, 32]⟩ ++ T3) ++ ⟨#[32, 116, 111, 32]⟩) ++ T4) ++ ⟨#[32, 108, 111, 115, 116, 32, 105, 110, 32, 115, 108, 111, 116, 115]⟩ := by unfold linkT; rw [hT3, hT4]
            have v1 : 5 + T3.size ≤ 9223372036854775807 := by omega
            have v2 : 5 + T3.size ≤ 9223372036854775803 := by omega
            have v3 : 5 + T3.size + 4 + T4.size ≤ 9223372036854775807 := by omega
            have v4 : 5 + T3.size + 4 + T4.size ≤ 9223372036854775793 := by omega
            have v5 : O.size + (5 + T3.size + 4 + T4.size + 14) ≤ 9223372036854775807 := by omega
            try simp only [go_sem, simprocAttr, hF, b0, b1, b2, b3, b4, b5]
            repeat (first
             | (with_reducible (first | refine sg0 ?_ | refine hw0 ?_ | refine se0 ?_ | refine ai0 ?_ | refine as0 ?_ | refine at0 ?_ | refine ax0 ?_); simp only [go_sem, simprocAttr, hF, b0, b1, b2, b3, b4, b5])
             | ((with_reducible refine hg0 ?_); simp only [go_sem, simprocAttr, hF, b0, b1, b2, b3, b4, b5, hbx])
             | with_reducible refine aq0 fun _ _ => ?_
             | (refine awp_draw' (id := 3) [] 11 (by kernel_rfl) (by kernel_rfl) rfl rfl (fun bx0 hbx => ?_); try dsimp only [List.take, List.drop])
             | (refine awp_draw' (id := 13) [] 12 (by kernel_rfl) (by kernel_rfl) rfl rfl (fun bx0 hbx => ?_); try dsimp only [List.take, List.drop])
             | with_reducible (first | refine ar0 [] ?_ | refine ab0 ?_)
             | go_step)
            refine ⟨_, dec_ok c.fm q3, ?_⟩
            simp only [go_sem, simprocAttr, hF, v1, v2, v3, v4, v5]
            rw [← hT3]
            repeat (first
             | (with_reducible (first | refine sg0 ?_ | refine hw0 ?_ | refine se0 ?_ | refine ai0 ?_ | refine as0 ?_ | refine at0 ?_ | refine ax0 ?_); simp only [go_sem, simprocAttr, hF, v1, v2, v3, v4, v5])
             | ((with_reducible refine hg0 ?_); simp only [go_sem, simprocAttr, hF, v1, v2, v3, v4, v5, hbx])
             | with_reducible refine aq0 fun _ _ => ?_
             | (refine awp_draw' (id := 3) [] 11 (by kernel_rfl) (by kernel_rfl) rfl rfl (fun bx0 hbx => ?_); try dsimp only [List.take, List.drop])
             | (refine awp_draw' (id := 13) [] 12 (by kernel_rfl) (by kernel_rfl) rfl rfl (fun bx0 hbx => ?_); try dsimp only [List.take, List.drop])
             | with_reducible (first | refine ar0 [] ?_ | refine ab0 ?_)
             | go_step)
            refine ⟨_, dec_ok c.tt q4, ?_⟩
            simp only [go_sem, simprocAttr, hF, v1, v2, v3, v4, v5]
            rw [← hT4]
            repeat (first
             | (with_reducible (first | refine sg0 ?_ | refine hw0 ?_ | refine se0 ?_ | refine ai0 ?_ | refine as0 ?_ | refine at0 ?_ | refine ax0 ?_); simp only [go_sem, simprocAttr, hF, v1, v2, v3, v4, v5])
             | ((with_reducible refine hg0 ?_); simp only [go_sem, simprocAttr, hF, v1, v2, v3, v4, v5, hbx])
             | with_reducible refine aq0 fun _ _ => ?_
             | (refine awp_draw' (id := 3) [] 11 (by kernel_rfl) (by kernel_rfl) rfl rfl (fun bx0 hbx => ?_); try dsimp only [List.take, List.drop])
             | (refine awp_draw' (id := 13) [] 12 (by kernel_rfl) (by kernel_rfl) rfl rfl (fun bx0 hbx => ?_); try dsimp only [List.take, List.drop])
             | with_reducible (first | refine ar0 [] ?_ | refine ab0 ?_)
             | go_step)
            try rw [← hLT]
            refine awp_loop_by (ι := {j : Nat // j ≤ c.sl.length ∧ (c.sl.take j).any wrongB = false}) (fun j σ => ⟨(7, iv (j.1 : Int)) :: (4, .v (.string ((O ++ linkT c) ++ slotsT (c.sl.take j.1)))) :: keepS [1, 5, 6] σ.slot, (6, [ip c.fl, ip c.fr, ip c.fm, ip c.tt, .sl 1 (c.sl.map fun x => [ip x])]) :: keepS [1] σ.box, [], σ.ext⟩) (fun j => c.sl.length - j.1) ⟨0, by omega, rfl⟩ (sub_mk ?_) (fun R2 hR2 j => ?_)
            · simp only [go_sem, simprocAttr, hF]
              repeat' (first | rfl | exact True.intro | refine And.intro ?_ ?_)
              all_goals (first | rw [hLT]; apply ba_ext; simp [ba_app, slotsT] | skip)
            obtain ⟨j, hj, hJ⟩ := j
            dsimp only
            simp only [go_sem, simprocAttr, hF]
            have hsz := slotsT_size hJ
            have hjl : (c.sl.take j).length ≤ 8 := by rw [List.length_take]; omega
            by_cases hjt : j < c.sl.length
            case neg =>
             have hdj : decide ((j : Int) < (c.sl.length : Int)) = false := decide_eq_false (by omega)
             have hpt : List.take j c.sl = c.sl := List.take_of_length_le (by omega)
             rw [hpt] at hJ hsz
             have hgood : badC c = false := by rw [hbe, b0, b1, b2, b3, b4, b5, hJ]; rfl
             have hany : (List.take (k + 1) x.ca).any badC = false := by rw [hTk, List.any_append, hT, List.any_cons, hgood]; rfl
             have hsn : outT H (List.take (k + 1) x.ca) = ((O ++ linkT c) ++ slotsT c.sl) ++ ⟨#[10]⟩ := by rw [hTk, outT_snoc, ← hO, cause_text, ← ba_assoc, ← ba_assoc]
             have hadd : O.size + (linkT c).size + (slotsT c.sl).size ≤ 9223372036854775806 := by omega
             repeat (first
              | (with_reducible (first | refine sg0 ?_ | refine hw0 ?_ | refine se0 ?_ | refine ai0 ?_ | refine as0 ?_ | refine at0 ?_ | refine ax0 ?_); simp only [go_sem, simprocAttr, hF, hdj, hpt, hadd])
              | ((with_reducible refine hg0 ?_); simp only [go_sem, simprocAttr, hF, hdj, hpt, hadd, hbx])
              | with_reducible refine aq0 fun _ _ => ?_
              | (refine awp_draw' (id := 3) [] 11 (by kernel_rfl) (by kernel_rfl) rfl rfl (fun bx0 hbx => ?_); try dsimp only [List.take, List.drop])
              | (refine awp_draw' (id := 13) [] 12 (by kernel_rfl) (by kernel_rfl) rfl rfl (fun bx0 hbx => ?_); try dsimp only [List.take, List.drop])
              | with_reducible (first | refine ar0 [] ?_ | refine ab0 ?_)
              | go_step)
             refine ⟨⟨k + 1, by omega, hany⟩, by dsimp only; omega, hR _ _ (sub_mk ?_)⟩
             simp only [go_sem, simprocAttr, hF, hw, hsn]
            obtain ⟨s, hsj⟩ := get_of_lt hjt
            have hdj : decide ((j : Int) < (c.sl.length : Int)) = true := decide_eq_true (by omega)
            have hwj : IntKind.i64.wrap ((j : Int) + 1) = ((j + 1 : Nat) : Int) := by rw [IntKind.wrap_i64]; omega
            have hTj : List.take (j + 1) c.sl = List.take j c.sl ++ [s] := by rw [List.take_add_one, hsj]; rfl
            repeat (first
             | (with_reducible (first | refine sg0 ?_ | refine hw0 ?_ | refine se0 ?_ | refine ai0 ?_ | refine as0 ?_ | refine at0 ?_ | refine ax0 ?_); simp only [go_sem, simprocAttr, hF, hdj, hsj])
             | ((with_reducible refine hg0 ?_); simp only [go_sem, simprocAttr, hF, hdj, hsj, hbx])
             | with_reducible refine aq0 fun _ _ => ?_
             | (refine awp_draw' (id := 3) [] 11 (by kernel_rfl) (by kernel_rfl) rfl rfl (fun bx0 hbx => ?_); try dsimp only [List.take, List.drop])
             | (refine awp_draw' (id := 13) [] 12 (by kernel_rfl) (by kernel_rfl) rfl rfl (fun bx0 hbx => ?_); try dsimp only [List.take, List.drop])
             | with_reducible (first | refine ar0 [] ?_ | refine ab0 ?_)
             | go_step)
            refine ⟨_, rwrong_ok s, ?_⟩
            simp only [go_sem, simprocAttr, hF]
            cases bs : wrongB s with
            | true =>
             have hX := hbad (by rw [hbe, List.any_eq_true.2 ⟨s, List.mem_of_getElem? hsj, bs⟩]; simp)
             try simp only [go_sem, simprocAttr, hF, bs]
             repeat (first
              | (with_reducible (first | refine sg0 ?_ | refine hw0 ?_ | refine se0 ?_ | refine ai0 ?_ | refine as0 ?_ | refine at0 ?_ | refine ax0 ?_); simp only [go_sem, simprocAttr, hF, bs])
              | ((with_reducible refine hg0 ?_); simp only [go_sem, simprocAttr, hF, bs, hbx])
              | with_reducible refine aq0 fun _ _ => ?_
              | (refine awp_draw' (id := 3) [] 11 (by kernel_rfl) (by kernel_rfl) rfl rfl (fun bx0 hbx => ?_); try dsimp only [List.take, List.drop])
              | (refine awp_draw' (id := 13) [] 12 (by kernel_rfl) (by kernel_rfl) rfl rfl (fun bx0 hbx => ?_); try dsimp only [List.take, List.drop])
              | with_reducible (first | refine ar0 [] ?_ | refine ab0 ?_)
              | go_step)
             all_goals (try rw [hX])
             all_goals (try rfl)
            | false =>
             have q5 := wrongB_f bs
             have t5 := txtI_size q5
             have z1 : 1 + (txtI s).size ≤ 9223372036854775807 := by omega
             have z2 : O.size + (linkT c).size + (slotsT (List.take j c.sl)).size + (1 + (txtI s).size) ≤ 9223372036854775807 := by omega
             have hTs : (O ++ linkT c) ++ slotsT (List.take (j + 1) c.sl) = ((O ++ linkT c) ++ slotsT (List.take j c.sl)) ++ (⟨#[32]⟩ ++ txtI s) := by rw [hTj, slotsT_snoc, ← ba_assoc]
             try simp only [go_sem, simprocAttr, hF, bs, hsj]
             repeat (first
              | (with_reducible (first | refine sg0 ?_ | refine hw0 ?_ | refine se0 ?_ | refine ai0 ?_ | refine as0 ?_ | refine at0 ?_ | refine ax0 ?_); simp only [go_sem, simprocAttr, hF, bs, hsj])
              | ((with_reducible refine hg0 ?_); simp only [go_sem, simprocAttr, hF, bs, hsj, hbx])
              | with_reducible refine aq0 fun _ _ => ?_
              | (refine awp_draw' (id := 3) [] 11 (by kernel_rfl) (by kernel_rfl) rfl rfl (fun bx0 hbx => ?_); try dsimp only [List.take, List.drop])
              | (refine awp_draw' (id := 13) [] 12 (by kernel_rfl) (by kernel_rfl) rfl rfl (fun bx0 hbx => ?_); try dsimp only [List.take, List.drop])
              | with_reducible (first | refine ar0 [] ?_ | refine ab0 ?_)
              | go_step)
             repeat (first
              | (with_reducible (first | refine sg0 ?_ | refine hw0 ?_ | refine se0 ?_ | refine ai0 ?_ | refine as0 ?_ | refine at0 ?_ | refine ax0 ?_); simp only [go_sem, simprocAttr, hF, hsj])
              | ((with_reducible refine hg0 ?_); simp only [go_sem, simprocAttr, hF, hsj, hbx])
              | with_reducible refine aq0 fun _ _ => ?_
              | (refine awp_draw' (id := 3) [] 11 (by kernel_rfl) (by kernel_rfl) rfl rfl (fun bx0 hbx => ?_); try dsimp only [List.take, List.drop])
              | (refine awp_draw' (id := 13) [] 12 (by kernel_rfl) (by kernel_rfl) rfl rfl (fun bx0 hbx => ?_); try dsimp only [List.take, List.drop])
              | with_reducible (first | refine ar0 [] ?_ | refine ab0 ?_)
              | go_step)
             refine ⟨_, dec_ok s q5, ?_⟩
             simp only [go_sem, simprocAttr, hF, z1, z2, hsj]
             repeat (first
              | (with_reducible (first | refine sg0 ?_ | refine hw0 ?_ | refine se0 ?_ | refine ai0 ?_ | refine as0 ?_ | refine at0 ?_ | refine ax0 ?_); simp only [go_sem, simprocAttr, hF, z1, z2])
              | ((with_reducible refine hg0 ?_); simp only [go_sem, simprocAttr, hF, z1, z2, hbx])
              | with_reducible refine aq0 fun _ _ => ?_
              | (refine awp_draw' (id := 3) [] 11 (by kernel_rfl) (by kernel_rfl) rfl rfl (fun bx0 hbx => ?_); try dsimp only [List.take, List.drop])
              | (refine awp_draw' (id := 13) [] 12 (by kernel_rfl) (by kernel_rfl) rfl rfl (fun bx0 hbx => ?_); try dsimp only [List.take, List.drop])
              | with_reducible (first | refine ar0 [] ?_ | refine ab0 ?_)
              | go_step)
             refine ⟨⟨j + 1, by omega, by rw [hTj, List.any_append, hJ, List.any_cons, bs]; rfl⟩, by dsimp only; omega, hR2 _ _ (sub_mk ?_)⟩
             simp only [go_sem, simprocAttr, hF, hwj, hTs]
     have e3 : decide (x.lt.sl < 0) = false := decide_eq_false c3
     have r3' : 0 ≤ x.lt.sl ∧ x.lt.sl ≤ 1073741824 := ⟨by omega, r3⟩
     have t6 := txtI_size r3'
     obtain ⟨T6, hT6⟩ : ∃ T, T = txtI x.lt.sl := ⟨_, rfl⟩
     rw [← hT6] at t6
     have hHe : (((⟨#[102, 108, 111, 119, 32]⟩ ++ T1) ++ ⟨#[32, 102, 114, 97, 109, 101, 32]⟩) ++ T2) ++ ((⟨#[32, 108, 97, 116, 101, 32, 98, 121, 32, 116, 104, 101, 32, 100, 101, 108, 105, 118, 101, 114, 121, 32, 105, 110, 32, 115, 108, 111, 116, 32]⟩ ++ T6) ++ ⟨#[10]⟩) = H := by rw [hH]; unfold headL; rw [if_pos (by omega), headD_text, hT1, hT2, hT6]
     have hHs : H.size ≤ 300 := by
      rw [← hHe]
      simp only [ByteArray.size_append]
      show 5 + _ + 7 + _ + (30 + _ + 1) ≤ _
      omega
     have u4 : 30 + T6.size ≤ 9223372036854775807 := by omega
     have u5 : 30 + T6.size ≤ 9223372036854775806 := by omega
     have u6 : 5 + T1.size + 7 + T2.size + (30 + T6.size + 1) ≤ 9223372036854775807 := by omega
     try simp only [go_sem, simprocAttr, hF, e3]
     repeat (first
      | (with_reducible (first | refine sg0 ?_ | refine hw0 ?_ | refine se0 ?_ | refine ai0 ?_ | refine as0 ?_ | refine at0 ?_ | refine ax0 ?_); simp only [go_sem, simprocAttr, hF, e3])
      | ((with_reducible refine hg0 ?_); simp only [go_sem, simprocAttr, hF, e3, hbx])
      | with_reducible refine aq0 fun _ _ => ?_
      | (refine awp_draw' (id := 3) [] 11 (by kernel_rfl) (by kernel_rfl) rfl rfl (fun bx0 hbx => ?_); try dsimp only [List.take, List.drop])
      | (refine awp_draw' (id := 13) [] 12 (by kernel_rfl) (by kernel_rfl) rfl rfl (fun bx0 hbx => ?_); try dsimp only [List.take, List.drop])
      | with_reducible (first | refine ar0 [] ?_ | refine ab0 ?_)
      | go_step)
     refine ⟨_, dec_ok x.lt.sl r3', ?_⟩
     simp only [go_sem, simprocAttr, hF, u4, u5, u6]
     rw [← hT6]
     repeat (first
      | (with_reducible (first | refine sg0 ?_ | refine hw0 ?_ | refine se0 ?_ | refine ai0 ?_ | refine as0 ?_ | refine at0 ?_ | refine ax0 ?_); simp only [go_sem, simprocAttr, hF, u4, u5, u6])
      | ((with_reducible refine hg0 ?_); simp only [go_sem, simprocAttr, hF, u4, u5, u6, hbx])
      | with_reducible refine aq0 fun _ _ => ?_
      | (refine awp_draw' (id := 3) [] 11 (by kernel_rfl) (by kernel_rfl) rfl rfl (fun bx0 hbx => ?_); try dsimp only [List.take, List.drop])
      | (refine awp_draw' (id := 13) [] 12 (by kernel_rfl) (by kernel_rfl) rfl rfl (fun bx0 hbx => ?_); try dsimp only [List.take, List.drop])
      | with_reducible (first | refine ar0 [] ?_ | refine ab0 ?_)
      | go_step)
     refine awp_loop_by (ι := {k : Nat // k ≤ x.ca.length ∧ (x.ca.take k).any badC = false}) (fun k σ => ⟨(5, iv (k.1 : Int)) :: (4, .v (.string (outT H (x.ca.take k.1)))) :: keepS [1] σ.slot, keepS [1] σ.box, [], σ.ext⟩) (fun k => x.ca.length - k.1) ⟨0, by omega, rfl⟩ (sub_mk ?_) (fun R hR k => ?_)
     · simp only [go_sem, simprocAttr, hF]
       try simp only [hHe]
       repeat' (first | rfl | exact True.intro | refine ⟨?_, ?_⟩)
     obtain ⟨k, hk, hT⟩ := k
     dsimp only
     simp only [go_sem, simprocAttr, hF]
     by_cases hlt : k < x.ca.length
     case neg =>
      have hd : decide ((k : Int) < (x.ca.length : Int)) = false := decide_eq_false (by omega)
      have hall : List.take k x.ca = x.ca := List.take_of_length_le (by omega)
      rw [hall] at hT
      have hX : fmtX x = (outT H x.ca, 0) := by rw [hX0, if_neg (by rw [hT]; decide), hH]
      repeat (first
       | (with_reducible (first | refine sg0 ?_ | refine hw0 ?_ | refine se0 ?_ | refine ai0 ?_ | refine as0 ?_ | refine at0 ?_ | refine ax0 ?_); simp only [go_sem, simprocAttr, hF, hd, hall])
       | ((with_reducible refine hg0 ?_); simp only [go_sem, simprocAttr, hF, hd, hall, hbx])
       | with_reducible refine aq0 fun _ _ => ?_
       | (refine awp_draw' (id := 3) [] 11 (by kernel_rfl) (by kernel_rfl) rfl rfl (fun bx0 hbx => ?_); try dsimp only [List.take, List.drop])
       | (refine awp_draw' (id := 13) [] 12 (by kernel_rfl) (by kernel_rfl) rfl rfl (fun bx0 hbx => ?_); try dsimp only [List.take, List.drop])
       | with_reducible (first | refine ar0 [] ?_ | refine ab0 ?_)
       | go_step)
      all_goals (try rw [hX])
      all_goals (try rfl)
     obtain ⟨c, hdk⟩ := get_of_lt hlt
     have hd : decide ((k : Int) < (x.ca.length : Int)) = true := decide_eq_true (by omega)
     have hw : IntKind.i64.wrap ((k : Int) + 1) = ((k + 1 : Nat) : Int) := by rw [IntKind.wrap_i64]; omega
     have hTk : List.take (k + 1) x.ca = List.take k x.ca ++ [c] := by rw [List.take_add_one, hdk]; rfl
     have hbad : badC c = true → fmtX x = (⟨#[]⟩, 1) := fun h => by rw [hX0, if_pos (List.any_eq_true.2 ⟨c, List.mem_of_getElem? hdk, h⟩)]
     have hcl := hsl c (List.mem_of_getElem? hdk)
     have hbe : badC c = ((wrongB c.fl || (wrongB c.fr || (wrongB c.fm || wrongB c.tt))) || (c.sl.any wrongB || (decide ((c.sl.length : Int) < 1) || decide ((8 : Int) < (c.sl.length : Int))))) := by
      unfold badC
      simp only [List.any_cons, List.any_nil, Bool.or_false]
     repeat (first
      | (with_reducible (first | refine sg0 ?_ | refine hw0 ?_ | refine se0 ?_ | refine ai0 ?_ | refine as0 ?_ | refine at0 ?_ | refine ax0 ?_); simp only [go_sem, simprocAttr, hF, hd, hdk])
      | ((with_reducible refine hg0 ?_); simp only [go_sem, simprocAttr, hF, hd, hdk, hbx])
      | with_reducible refine aq0 fun _ _ => ?_
      | (refine awp_draw' (id := 3) [] 11 (by kernel_rfl) (by kernel_rfl) rfl rfl (fun bx0 hbx => ?_); try dsimp only [List.take, List.drop])
      | (refine awp_draw' (id := 13) [] 12 (by kernel_rfl) (by kernel_rfl) rfl rfl (fun bx0 hbx => ?_); try dsimp only [List.take, List.drop])
      | with_reducible (first | refine ar0 [] ?_ | refine ab0 ?_)
      | go_step)
     refine ⟨_, rwrong_ok c.fl, ?_⟩
     simp only [go_sem, simprocAttr, hF]
     cases b0 : wrongB c.fl with
     | true =>
      have hX := hbad (by rw [hbe, b0]; simp)
      try simp only [go_sem, simprocAttr, hF, b0]
      repeat (first
       | (with_reducible (first | refine sg0 ?_ | refine hw0 ?_ | refine se0 ?_ | refine ai0 ?_ | refine as0 ?_ | refine at0 ?_ | refine ax0 ?_); simp only [go_sem, simprocAttr, hF, b0])
       | ((with_reducible refine hg0 ?_); simp only [go_sem, simprocAttr, hF, b0, hbx])
       | with_reducible refine aq0 fun _ _ => ?_
       | (refine awp_draw' (id := 3) [] 11 (by kernel_rfl) (by kernel_rfl) rfl rfl (fun bx0 hbx => ?_); try dsimp only [List.take, List.drop])
       | (refine awp_draw' (id := 13) [] 12 (by kernel_rfl) (by kernel_rfl) rfl rfl (fun bx0 hbx => ?_); try dsimp only [List.take, List.drop])
       | with_reducible (first | refine ar0 [] ?_ | refine ab0 ?_)
       | go_step)
      all_goals (try rw [hX])
      all_goals (try rfl)
     | false =>
      try simp only [go_sem, simprocAttr, hF, b0]
      repeat (first
       | (with_reducible (first | refine sg0 ?_ | refine hw0 ?_ | refine se0 ?_ | refine ai0 ?_ | refine as0 ?_ | refine at0 ?_ | refine ax0 ?_); simp only [go_sem, simprocAttr, hF, b0])
       | ((with_reducible refine hg0 ?_); simp only [go_sem, simprocAttr, hF, b0, hbx])
       | with_reducible refine aq0 fun _ _ => ?_
       | (refine awp_draw' (id := 3) [] 11 (by kernel_rfl) (by kernel_rfl) rfl rfl (fun bx0 hbx => ?_); try dsimp only [List.take, List.drop])
       | (refine awp_draw' (id := 13) [] 12 (by kernel_rfl) (by kernel_rfl) rfl rfl (fun bx0 hbx => ?_); try dsimp only [List.take, List.drop])
       | with_reducible (first | refine ar0 [] ?_ | refine ab0 ?_)
       | go_step)
      refine ⟨_, rwrong_ok c.fr, ?_⟩
      simp only [go_sem, simprocAttr, hF, b0]
      cases b1 : wrongB c.fr with
      | true =>
       have hX := hbad (by rw [hbe, b0, b1]; simp)
       try simp only [go_sem, simprocAttr, hF, b0, b1]
       repeat (first
        | (with_reducible (first | refine sg0 ?_ | refine hw0 ?_ | refine se0 ?_ | refine ai0 ?_ | refine as0 ?_ | refine at0 ?_ | refine ax0 ?_); simp only [go_sem, simprocAttr, hF, b0, b1])
        | ((with_reducible refine hg0 ?_); simp only [go_sem, simprocAttr, hF, b0, b1, hbx])
        | with_reducible refine aq0 fun _ _ => ?_
        | (refine awp_draw' (id := 3) [] 11 (by kernel_rfl) (by kernel_rfl) rfl rfl (fun bx0 hbx => ?_); try dsimp only [List.take, List.drop])
        | (refine awp_draw' (id := 13) [] 12 (by kernel_rfl) (by kernel_rfl) rfl rfl (fun bx0 hbx => ?_); try dsimp only [List.take, List.drop])
        | with_reducible (first | refine ar0 [] ?_ | refine ab0 ?_)
        | go_step)
       all_goals (try rw [hX])
       all_goals (try rfl)
      | false =>
       try simp only [go_sem, simprocAttr, hF, b0, b1]
       repeat (first
        | (with_reducible (first | refine sg0 ?_ | refine hw0 ?_ | refine se0 ?_ | refine ai0 ?_ | refine as0 ?_ | refine at0 ?_ | refine ax0 ?_); simp only [go_sem, simprocAttr, hF, b0, b1])
        | ((with_reducible refine hg0 ?_); simp only [go_sem, simprocAttr, hF, b0, b1, hbx])
        | with_reducible refine aq0 fun _ _ => ?_
        | (refine awp_draw' (id := 3) [] 11 (by kernel_rfl) (by kernel_rfl) rfl rfl (fun bx0 hbx => ?_); try dsimp only [List.take, List.drop])
        | (refine awp_draw' (id := 13) [] 12 (by kernel_rfl) (by kernel_rfl) rfl rfl (fun bx0 hbx => ?_); try dsimp only [List.take, List.drop])
        | with_reducible (first | refine ar0 [] ?_ | refine ab0 ?_)
        | go_step)
       refine ⟨_, rwrong_ok c.fm, ?_⟩
       simp only [go_sem, simprocAttr, hF, b0, b1]
       cases b2 : wrongB c.fm with
       | true =>
        have hX := hbad (by rw [hbe, b0, b1, b2]; simp)
        try simp only [go_sem, simprocAttr, hF, b0, b1, b2]
        repeat (first
         | (with_reducible (first | refine sg0 ?_ | refine hw0 ?_ | refine se0 ?_ | refine ai0 ?_ | refine as0 ?_ | refine at0 ?_ | refine ax0 ?_); simp only [go_sem, simprocAttr, hF, b0, b1, b2])
         | ((with_reducible refine hg0 ?_); simp only [go_sem, simprocAttr, hF, b0, b1, b2, hbx])
         | with_reducible refine aq0 fun _ _ => ?_
         | (refine awp_draw' (id := 3) [] 11 (by kernel_rfl) (by kernel_rfl) rfl rfl (fun bx0 hbx => ?_); try dsimp only [List.take, List.drop])
         | (refine awp_draw' (id := 13) [] 12 (by kernel_rfl) (by kernel_rfl) rfl rfl (fun bx0 hbx => ?_); try dsimp only [List.take, List.drop])
         | with_reducible (first | refine ar0 [] ?_ | refine ab0 ?_)
         | go_step)
        all_goals (try rw [hX])
        all_goals (try rfl)
       | false =>
        try simp only [go_sem, simprocAttr, hF, b0, b1, b2]
        repeat (first
         | (with_reducible (first | refine sg0 ?_ | refine hw0 ?_ | refine se0 ?_ | refine ai0 ?_ | refine as0 ?_ | refine at0 ?_ | refine ax0 ?_); simp only [go_sem, simprocAttr, hF, b0, b1, b2])
         | ((with_reducible refine hg0 ?_); simp only [go_sem, simprocAttr, hF, b0, b1, b2, hbx])
         | with_reducible refine aq0 fun _ _ => ?_
         | (refine awp_draw' (id := 3) [] 11 (by kernel_rfl) (by kernel_rfl) rfl rfl (fun bx0 hbx => ?_); try dsimp only [List.take, List.drop])
         | (refine awp_draw' (id := 13) [] 12 (by kernel_rfl) (by kernel_rfl) rfl rfl (fun bx0 hbx => ?_); try dsimp only [List.take, List.drop])
         | with_reducible (first | refine ar0 [] ?_ | refine ab0 ?_)
         | go_step)
        refine ⟨_, rwrong_ok c.tt, ?_⟩
        simp only [go_sem, simprocAttr, hF, b0, b1, b2]
        cases b3 : wrongB c.tt with
        | true =>
         have hX := hbad (by rw [hbe, b0, b1, b2, b3]; simp)
         try simp only [go_sem, simprocAttr, hF, b0, b1, b2, b3]
         repeat (first
          | (with_reducible (first | refine sg0 ?_ | refine hw0 ?_ | refine se0 ?_ | refine ai0 ?_ | refine as0 ?_ | refine at0 ?_ | refine ax0 ?_); simp only [go_sem, simprocAttr, hF, b0, b1, b2, b3])
          | ((with_reducible refine hg0 ?_); simp only [go_sem, simprocAttr, hF, b0, b1, b2, b3, hbx])
          | with_reducible refine aq0 fun _ _ => ?_
          | (refine awp_draw' (id := 3) [] 11 (by kernel_rfl) (by kernel_rfl) rfl rfl (fun bx0 hbx => ?_); try dsimp only [List.take, List.drop])
          | (refine awp_draw' (id := 13) [] 12 (by kernel_rfl) (by kernel_rfl) rfl rfl (fun bx0 hbx => ?_); try dsimp only [List.take, List.drop])
          | with_reducible (first | refine ar0 [] ?_ | refine ab0 ?_)
          | go_step)
         all_goals (try rw [hX])
         all_goals (try rfl)
        | false =>
         cases b4 : decide ((c.sl.length : Int) < 1) with
         | true =>
          have hX := hbad (by rw [hbe, b4]; simp)
          try simp only [go_sem, simprocAttr, hF, b0, b1, b2, b3, b4]
          repeat (first
           | (with_reducible (first | refine sg0 ?_ | refine hw0 ?_ | refine se0 ?_ | refine ai0 ?_ | refine as0 ?_ | refine at0 ?_ | refine ax0 ?_); simp only [go_sem, simprocAttr, hF, b0, b1, b2, b3, b4])
           | ((with_reducible refine hg0 ?_); simp only [go_sem, simprocAttr, hF, b0, b1, b2, b3, b4, hbx])
           | with_reducible refine aq0 fun _ _ => ?_
           | (refine awp_draw' (id := 3) [] 11 (by kernel_rfl) (by kernel_rfl) rfl rfl (fun bx0 hbx => ?_); try dsimp only [List.take, List.drop])
           | (refine awp_draw' (id := 13) [] 12 (by kernel_rfl) (by kernel_rfl) rfl rfl (fun bx0 hbx => ?_); try dsimp only [List.take, List.drop])
           | with_reducible (first | refine ar0 [] ?_ | refine ab0 ?_)
           | go_step)
          all_goals (try rw [hX])
          all_goals (try rfl)
         | false =>
          cases b5 : decide ((8 : Int) < (c.sl.length : Int)) with
          | true =>
           have hX := hbad (by rw [hbe, b5]; simp)
           try simp only [go_sem, simprocAttr, hF, b0, b1, b2, b3, b4, b5]
           repeat (first
            | (with_reducible (first | refine sg0 ?_ | refine hw0 ?_ | refine se0 ?_ | refine ai0 ?_ | refine as0 ?_ | refine at0 ?_ | refine ax0 ?_); simp only [go_sem, simprocAttr, hF, b0, b1, b2, b3, b4, b5])
            | ((with_reducible refine hg0 ?_); simp only [go_sem, simprocAttr, hF, b0, b1, b2, b3, b4, b5, hbx])
            | with_reducible refine aq0 fun _ _ => ?_
            | (refine awp_draw' (id := 3) [] 11 (by kernel_rfl) (by kernel_rfl) rfl rfl (fun bx0 hbx => ?_); try dsimp only [List.take, List.drop])
            | (refine awp_draw' (id := 13) [] 12 (by kernel_rfl) (by kernel_rfl) rfl rfl (fun bx0 hbx => ?_); try dsimp only [List.take, List.drop])
            | with_reducible (first | refine ar0 [] ?_ | refine ab0 ?_)
            | go_step)
           all_goals (try rw [hX])
           all_goals (try rfl)
          | false =>
           have q3 := wrongB_f b2
           have q4 := wrongB_f b3
           have t3 := txtI_size q3
           have t4 := txtI_size q4
           have hlk := linkT_size q3 q4
           have hos := outT_size (h := H) hT
           have hkz : (List.take k x.ca).length ≤ 1024 := by rw [List.length_take]; omega
           have hl8 : c.sl.length ≤ 8 := by have := of_decide_eq_false b5; omega
           obtain ⟨O, hO⟩ : ∃ O, O = outT H (List.take k x.ca) := ⟨_, rfl⟩
           rw [← hO] at hos
           rw [← hO]
           obtain ⟨T3, hT3⟩ : ∃ T, T = txtI c.fm := ⟨_, rfl⟩
           obtain ⟨T4, hT4⟩ : ∃ T, T = txtI c.tt := ⟨_, rfl⟩
           rw [← hT3] at t3
           rw [← hT4] at t4
           have hLT : linkT c = (((⟨#[108, 105, 110, 107, 32]⟩ ++ T3) ++ ⟨#[32, 116, 111, 32]⟩) ++ T4) ++ ⟨#[32, 108, 111, 115, 116, 32, 105, 110, 32, 115, 108, 111, 116, 115]⟩ := by unfold linkT; rw [hT3, hT4]
           have v1 : 5 + T3.size ≤ 9223372036854775807 := by omega
           have v2 : 5 + T3.size ≤ 9223372036854775803 := by omega
           have v3 : 5 + T3.size + 4 + T4.size ≤ 9223372036854775807 := by omega
           have v4 : 5 + T3.size + 4 + T4.size ≤ 9223372036854775793 := by omega
           have v5 : O.size + (5 + T3.size + 4 + T4.size + 14) ≤ 9223372036854775807 := by omega
           try simp only [go_sem, simprocAttr, hF, b0, b1, b2, b3, b4, b5]
           repeat (first
            | (with_reducible (first | refine sg0 ?_ | refine hw0 ?_ | refine se0 ?_ | refine ai0 ?_ | refine as0 ?_ | refine at0 ?_ | refine ax0 ?_); simp only [go_sem, simprocAttr, hF, b0, b1, b2, b3, b4, b5])
            | ((with_reducible refine hg0 ?_); simp only [go_sem, simprocAttr, hF, b0, b1, b2, b3, b4, b5, hbx])
            | with_reducible refine aq0 fun _ _ => ?_
            | (refine awp_draw' (id := 3) [] 11 (by kernel_rfl) (by kernel_rfl) rfl rfl (fun bx0 hbx => ?_); try dsimp only [List.take, List.drop])
            | (refine awp_draw' (id := 13) [] 12 (by kernel_rfl) (by kernel_rfl) rfl rfl (fun bx0 hbx => ?_); try dsimp only [List.take, List.drop])
            | with_reducible (first | refine ar0 [] ?_ | refine ab0 ?_)
            | go_step)
           refine ⟨_, dec_ok c.fm q3, ?_⟩
           simp only [go_sem, simprocAttr, hF, v1, v2, v3, v4, v5]
           rw [← hT3]
           repeat (first
            | (with_reducible (first | refine sg0 ?_ | refine hw0 ?_ | refine se0 ?_ | refine ai0 ?_ | refine as0 ?_ | refine at0 ?_ | refine ax0 ?_); simp only [go_sem, simprocAttr, hF, v1, v2, v3, v4, v5])
            | ((with_reducible refine hg0 ?_); simp only [go_sem, simprocAttr, hF, v1, v2, v3, v4, v5, hbx])
            | with_reducible refine aq0 fun _ _ => ?_
            | (refine awp_draw' (id := 3) [] 11 (by kernel_rfl) (by kernel_rfl) rfl rfl (fun bx0 hbx => ?_); try dsimp only [List.take, List.drop])
            | (refine awp_draw' (id := 13) [] 12 (by kernel_rfl) (by kernel_rfl) rfl rfl (fun bx0 hbx => ?_); try dsimp only [List.take, List.drop])
            | with_reducible (first | refine ar0 [] ?_ | refine ab0 ?_)
            | go_step)
           refine ⟨_, dec_ok c.tt q4, ?_⟩
           simp only [go_sem, simprocAttr, hF, v1, v2, v3, v4, v5]
           rw [← hT4]
           repeat (first
            | (with_reducible (first | refine sg0 ?_ | refine hw0 ?_ | refine se0 ?_ | refine ai0 ?_ | refine as0 ?_ | refine at0 ?_ | refine ax0 ?_); simp only [go_sem, simprocAttr, hF, v1, v2, v3, v4, v5])
            | ((with_reducible refine hg0 ?_); simp only [go_sem, simprocAttr, hF, v1, v2, v3, v4, v5, hbx])
            | with_reducible refine aq0 fun _ _ => ?_
            | (refine awp_draw' (id := 3) [] 11 (by kernel_rfl) (by kernel_rfl) rfl rfl (fun bx0 hbx => ?_); try dsimp only [List.take, List.drop])
            | (refine awp_draw' (id := 13) [] 12 (by kernel_rfl) (by kernel_rfl) rfl rfl (fun bx0 hbx => ?_); try dsimp only [List.take, List.drop])
            | with_reducible (first | refine ar0 [] ?_ | refine ab0 ?_)
            | go_step)
           try rw [← hLT]
           refine awp_loop_by (ι := {j : Nat // j ≤ c.sl.length ∧ (c.sl.take j).any wrongB = false}) (fun j σ => ⟨(7, iv (j.1 : Int)) :: (4, .v (.string ((O ++ linkT c) ++ slotsT (c.sl.take j.1)))) :: keepS [1, 5, 6] σ.slot, (6, [ip c.fl, ip c.fr, ip c.fm, ip c.tt, .sl 1 (c.sl.map fun x => [ip x])]) :: keepS [1] σ.box, [], σ.ext⟩) (fun j => c.sl.length - j.1) ⟨0, by omega, rfl⟩ (sub_mk ?_) (fun R2 hR2 j => ?_)
           · simp only [go_sem, simprocAttr, hF]
             repeat' (first | rfl | exact True.intro | refine And.intro ?_ ?_)
             all_goals (first | rw [hLT]; apply ba_ext; simp [ba_app, slotsT] | skip)
           obtain ⟨j, hj, hJ⟩ := j
           dsimp only
           simp only [go_sem, simprocAttr, hF]
           have hsz := slotsT_size hJ
           have hjl : (c.sl.take j).length ≤ 8 := by rw [List.length_take]; omega
           by_cases hjt : j < c.sl.length
           case neg =>
            have hdj : decide ((j : Int) < (c.sl.length : Int)) = false := decide_eq_false (by omega)
            have hpt : List.take j c.sl = c.sl := List.take_of_length_le (by omega)
            rw [hpt] at hJ hsz
            have hgood : badC c = false := by rw [hbe, b0, b1, b2, b3, b4, b5, hJ]; rfl
            have hany : (List.take (k + 1) x.ca).any badC = false := by rw [hTk, List.any_append, hT, List.any_cons, hgood]; rfl
            have hsn : outT H (List.take (k + 1) x.ca) = ((O ++ linkT c) ++ slotsT c.sl) ++ ⟨#[10]⟩ := by rw [hTk, outT_snoc, ← hO, cause_text, ← ba_assoc, ← ba_assoc]
            have hadd : O.size + (linkT c).size + (slotsT c.sl).size ≤ 9223372036854775806 := by omega
            repeat (first
             | (with_reducible (first | refine sg0 ?_ | refine hw0 ?_ | refine se0 ?_ | refine ai0 ?_ | refine as0 ?_ | refine at0 ?_ | refine ax0 ?_); simp only [go_sem, simprocAttr, hF, hdj, hpt, hadd])
             | ((with_reducible refine hg0 ?_); simp only [go_sem, simprocAttr, hF, hdj, hpt, hadd, hbx])
             | with_reducible refine aq0 fun _ _ => ?_
             | (refine awp_draw' (id := 3) [] 11 (by kernel_rfl) (by kernel_rfl) rfl rfl (fun bx0 hbx => ?_); try dsimp only [List.take, List.drop])
             | (refine awp_draw' (id := 13) [] 12 (by kernel_rfl) (by kernel_rfl) rfl rfl (fun bx0 hbx => ?_); try dsimp only [List.take, List.drop])
             | with_reducible (first | refine ar0 [] ?_ | refine ab0 ?_)
             | go_step)
            refine ⟨⟨k + 1, by omega, hany⟩, by dsimp only; omega, hR _ _ (sub_mk ?_)⟩
            simp only [go_sem, simprocAttr, hF, hw, hsn]
           obtain ⟨s, hsj⟩ := get_of_lt hjt
           have hdj : decide ((j : Int) < (c.sl.length : Int)) = true := decide_eq_true (by omega)
           have hwj : IntKind.i64.wrap ((j : Int) + 1) = ((j + 1 : Nat) : Int) := by rw [IntKind.wrap_i64]; omega
           have hTj : List.take (j + 1) c.sl = List.take j c.sl ++ [s] := by rw [List.take_add_one, hsj]; rfl
           repeat (first
            | (with_reducible (first | refine sg0 ?_ | refine hw0 ?_ | refine se0 ?_ | refine ai0 ?_ | refine as0 ?_ | refine at0 ?_ | refine ax0 ?_); simp only [go_sem, simprocAttr, hF, hdj, hsj])
            | ((with_reducible refine hg0 ?_); simp only [go_sem, simprocAttr, hF, hdj, hsj, hbx])
            | with_reducible refine aq0 fun _ _ => ?_
            | (refine awp_draw' (id := 3) [] 11 (by kernel_rfl) (by kernel_rfl) rfl rfl (fun bx0 hbx => ?_); try dsimp only [List.take, List.drop])
            | (refine awp_draw' (id := 13) [] 12 (by kernel_rfl) (by kernel_rfl) rfl rfl (fun bx0 hbx => ?_); try dsimp only [List.take, List.drop])
            | with_reducible (first | refine ar0 [] ?_ | refine ab0 ?_)
            | go_step)
           refine ⟨_, rwrong_ok s, ?_⟩
           simp only [go_sem, simprocAttr, hF]
           cases bs : wrongB s with
           | true =>
            have hX := hbad (by rw [hbe, List.any_eq_true.2 ⟨s, List.mem_of_getElem? hsj, bs⟩]; simp)
            try simp only [go_sem, simprocAttr, hF, bs]
            repeat (first
             | (with_reducible (first | refine sg0 ?_ | refine hw0 ?_ | refine se0 ?_ | refine ai0 ?_ | refine as0 ?_ | refine at0 ?_ | refine ax0 ?_); simp only [go_sem, simprocAttr, hF, bs])
             | ((with_reducible refine hg0 ?_); simp only [go_sem, simprocAttr, hF, bs, hbx])
             | with_reducible refine aq0 fun _ _ => ?_
             | (refine awp_draw' (id := 3) [] 11 (by kernel_rfl) (by kernel_rfl) rfl rfl (fun bx0 hbx => ?_); try dsimp only [List.take, List.drop])
             | (refine awp_draw' (id := 13) [] 12 (by kernel_rfl) (by kernel_rfl) rfl rfl (fun bx0 hbx => ?_); try dsimp only [List.take, List.drop])
             | with_reducible (first | refine ar0 [] ?_ | refine ab0 ?_)
             | go_step)
            all_goals (try rw [hX])
            all_goals (try rfl)
           | false =>
            have q5 := wrongB_f bs
            have t5 := txtI_size q5
            have z1 : 1 + (txtI s).size ≤ 9223372036854775807 := by omega
            have z2 : O.size + (linkT c).size + (slotsT (List.take j c.sl)).size + (1 + (txtI s).size) ≤ 9223372036854775807 := by omega
            have hTs : (O ++ linkT c) ++ slotsT (List.take (j + 1) c.sl) = ((O ++ linkT c) ++ slotsT (List.take j c.sl)) ++ (⟨#[32]⟩ ++ txtI s) := by rw [hTj, slotsT_snoc, ← ba_assoc]
            try simp only [go_sem, simprocAttr, hF, bs, hsj]
            repeat (first
             | (with_reducible (first | refine sg0 ?_ | refine hw0 ?_ | refine se0 ?_ | refine ai0 ?_ | refine as0 ?_ | refine at0 ?_ | refine ax0 ?_); simp only [go_sem, simprocAttr, hF, bs, hsj])
             | ((with_reducible refine hg0 ?_); simp only [go_sem, simprocAttr, hF, bs, hsj, hbx])
             | with_reducible refine aq0 fun _ _ => ?_
             | (refine awp_draw' (id := 3) [] 11 (by kernel_rfl) (by kernel_rfl) rfl rfl (fun bx0 hbx => ?_); try dsimp only [List.take, List.drop])
             | (refine awp_draw' (id := 13) [] 12 (by kernel_rfl) (by kernel_rfl) rfl rfl (fun bx0 hbx => ?_); try dsimp only [List.take, List.drop])
             | with_reducible (first | refine ar0 [] ?_ | refine ab0 ?_)
             | go_step)
            repeat (first
             | (with_reducible (first | refine sg0 ?_ | refine hw0 ?_ | refine se0 ?_ | refine ai0 ?_ | refine as0 ?_ | refine at0 ?_ | refine ax0 ?_); simp only [go_sem, simprocAttr, hF, hsj])
             | ((with_reducible refine hg0 ?_); simp only [go_sem, simprocAttr, hF, hsj, hbx])
             | with_reducible refine aq0 fun _ _ => ?_
             | (refine awp_draw' (id := 3) [] 11 (by kernel_rfl) (by kernel_rfl) rfl rfl (fun bx0 hbx => ?_); try dsimp only [List.take, List.drop])
             | (refine awp_draw' (id := 13) [] 12 (by kernel_rfl) (by kernel_rfl) rfl rfl (fun bx0 hbx => ?_); try dsimp only [List.take, List.drop])
             | with_reducible (first | refine ar0 [] ?_ | refine ab0 ?_)
             | go_step)
            refine ⟨_, dec_ok s q5, ?_⟩
            simp only [go_sem, simprocAttr, hF, z1, z2, hsj]
            repeat (first
             | (with_reducible (first | refine sg0 ?_ | refine hw0 ?_ | refine se0 ?_ | refine ai0 ?_ | refine as0 ?_ | refine at0 ?_ | refine ax0 ?_); simp only [go_sem, simprocAttr, hF, z1, z2])
             | ((with_reducible refine hg0 ?_); simp only [go_sem, simprocAttr, hF, z1, z2, hbx])
             | with_reducible refine aq0 fun _ _ => ?_
             | (refine awp_draw' (id := 3) [] 11 (by kernel_rfl) (by kernel_rfl) rfl rfl (fun bx0 hbx => ?_); try dsimp only [List.take, List.drop])
             | (refine awp_draw' (id := 13) [] 12 (by kernel_rfl) (by kernel_rfl) rfl rfl (fun bx0 hbx => ?_); try dsimp only [List.take, List.drop])
             | with_reducible (first | refine ar0 [] ?_ | refine ab0 ?_)
             | go_step)
            refine ⟨⟨j + 1, by omega, by rw [hTj, List.any_append, hJ, List.any_cons, bs]; rfl⟩, by dsimp only; omega, hR2 _ _ (sub_mk ?_)⟩
            simp only [go_sem, simprocAttr, hF, hwj, hTs]
/- The reference of networks by abstract states: in, Find. -/
set_option maxHeartbeats 2000000 in
theorem in31_ok (n a b : Int) : FnOK Tryz.prog 114 [iv n, iv a, iv b] ⟨bv (inR n a b), none⟩ := by
 refine fn_ok Tryz.func114 (by kernel_rfl) rfl (by rw [Tryz.ntmps114]; exact of_decide_eq_true rfl) (fun F hF => ?_)
 rw [Tryz.ntmps114] at hF
 rw [Tryz.results114]
 unfold inR
 cases h1 : decide (a ≤ n) <;> cases h2 : decide (n ≤ b)
 · repeat (first
  | (with_reducible (first | refine sg0 ?_ | refine hw0 ?_ | refine se0 ?_ | refine ai0 ?_ | refine as0 ?_ | refine at0 ?_ | refine ax0 ?_); simp only [go_sem, simprocAttr, hF, h1, h2])
  | with_reducible (first | refine aq0 fun _ _ => ?_ | refine ar0 [] ?_ | refine ab0 ?_)
  | go_step)
   all_goals (try rfl)
 · repeat (first
  | (with_reducible (first | refine sg0 ?_ | refine hw0 ?_ | refine se0 ?_ | refine ai0 ?_ | refine as0 ?_ | refine at0 ?_ | refine ax0 ?_); simp only [go_sem, simprocAttr, hF, h1, h2])
  | with_reducible (first | refine aq0 fun _ _ => ?_ | refine ar0 [] ?_ | refine ab0 ?_)
  | go_step)
   all_goals (try rfl)
 · repeat (first
  | (with_reducible (first | refine sg0 ?_ | refine hw0 ?_ | refine se0 ?_ | refine ai0 ?_ | refine as0 ?_ | refine at0 ?_ | refine ax0 ?_); simp only [go_sem, simprocAttr, hF, h1, h2])
  | with_reducible (first | refine aq0 fun _ _ => ?_ | refine ar0 [] ?_ | refine ab0 ?_)
  | go_step)
   all_goals (try rfl)
 · repeat (first
  | (with_reducible (first | refine sg0 ?_ | refine hw0 ?_ | refine se0 ?_ | refine ai0 ?_ | refine as0 ?_ | refine at0 ?_ | refine ax0 ?_); simp only [go_sem, simprocAttr, hF, h1, h2])
  | with_reducible (first | refine aq0 fun _ _ => ?_ | refine ar0 [] ?_ | refine ab0 ?_)
  | go_step)
   all_goals (try rfl)

set_option maxHeartbeats 2000000 in
theorem nfind_ok (n : Net) (a b : Int) (hk : n.lk.length ≤ 1000000) : FnOK Tryz.prog 43 [.agg n.pv, iv a, iv b] ⟨iv (idxP (fun l : Lk => l.fr == a && l.tt == b) n.lk 0), none⟩ := by
 refine fn_ok Tryz.func43 (by kernel_rfl) rfl (by rw [Tryz.ntmps43]; exact of_decide_eq_true rfl) (fun F hF => ?_)
 rw [Tryz.ntmps43] at hF
 rw [Tryz.results43]
 repeat (first
  | (with_reducible (first | refine sg0 ?_ | refine hw0 ?_ | refine se0 ?_ | refine ai0 ?_ | refine as0 ?_ | refine at0 ?_ | refine ax0 ?_); simp only [go_sem, simprocAttr, hF])
  | with_reducible (first | refine aq0 fun _ _ => ?_ | refine ar0 [] ?_ | refine ab0 ?_)
  | go_step)
 refine awp_loop_by (ι := {k : Nat // k ≤ n.lk.length ∧ idxP (fun l : Lk => l.fr == a && l.tt == b) n.lk 0 = idxP (fun l : Lk => l.fr == a && l.tt == b) (n.lk.drop k) (k : Int)}) (fun k σ => ⟨(7, iv (k.1 : Int)) :: keepS [1, 2, 3, 6] σ.slot, σ.box, [], σ.ext⟩) (fun k => n.lk.length - k.1) ⟨0, by omega, rfl⟩ (sub_mk ?_) (fun R hR k => ?_)
 · simp only [go_sem, simprocAttr, hF]
   repeat' (first | rfl | refine ⟨?_, ?_⟩)
 obtain ⟨k, hk, hT⟩ := k
 dsimp only
 simp only [go_sem, simprocAttr, hF]
 by_cases hlt : k < n.lk.length
 case neg =>
  have hd : decide ((k : Int) < (n.lk.length : Int)) = false := decide_eq_false (by omega)
  repeat (first
   | (with_reducible (first | refine sg0 ?_ | refine hw0 ?_ | refine se0 ?_ | refine ai0 ?_ | refine as0 ?_ | refine at0 ?_ | refine ax0 ?_); simp only [go_sem, simprocAttr, hF, hd])
   | with_reducible (first | refine aq0 fun _ _ => ?_ | refine ar0 [] ?_ | refine ab0 ?_)
   | go_step)
  rw [hT, List.drop_of_length_le (by omega)]
  rfl
 obtain ⟨d, hdk⟩ := get_of_lt hlt
 have hd : decide ((k : Int) < (n.lk.length : Int)) = true := decide_eq_true (by omega)
 have hw : IntKind.i64.wrap ((k : Int) + 1) = ((k + 1 : Nat) : Int) := by rw [IntKind.wrap_i64]; omega
 have hT' : idxP (fun l : Lk => l.fr == a && l.tt == b) n.lk 0 = if (d.fr == a && d.tt == b) = true then (k : Int) else idxP (fun l : Lk => l.fr == a && l.tt == b) (n.lk.drop (k + 1)) ((k + 1 : Nat) : Int) := by rw [hT, drop_of_get hdk, idxP]; rfl
 cases e1 : (d.fr == a) with
 | false =>
  repeat (first
   | (with_reducible (first | refine sg0 ?_ | refine hw0 ?_ | refine se0 ?_ | refine ai0 ?_ | refine as0 ?_ | refine at0 ?_ | refine ax0 ?_); simp only [go_sem, simprocAttr, hF, hd, hdk, e1])
   | with_reducible (first | refine aq0 fun _ _ => ?_ | refine ar0 [] ?_ | refine ab0 ?_)
   | go_step)
  refine ⟨⟨k + 1, by omega, by rw [hT', e1]; rfl⟩, by dsimp only; omega, hR _ _ (sub_mk ?_)⟩
  simp only [go_sem, simprocAttr, hF, hw]
 | true =>
  cases e2 : (d.tt == b) with
  | false =>
   repeat (first
    | (with_reducible (first | refine sg0 ?_ | refine hw0 ?_ | refine se0 ?_ | refine ai0 ?_ | refine as0 ?_ | refine at0 ?_ | refine ax0 ?_); simp only [go_sem, simprocAttr, hF, hd, hdk, e1, e2])
    | with_reducible (first | refine aq0 fun _ _ => ?_ | refine ar0 [] ?_ | refine ab0 ?_)
    | go_step)
   refine ⟨⟨k + 1, by omega, by rw [hT', e1, e2]; rfl⟩, by dsimp only; omega, hR _ _ (sub_mk ?_)⟩
   simp only [go_sem, simprocAttr, hF, hw]
  | true =>
   repeat (first
    | (with_reducible (first | refine sg0 ?_ | refine hw0 ?_ | refine se0 ?_ | refine ai0 ?_ | refine as0 ?_ | refine at0 ?_ | refine ax0 ?_); simp only [go_sem, simprocAttr, hF, hd, hdk, e1, e2])
    | with_reducible (first | refine aq0 fun _ _ => ?_ | refine ar0 [] ?_ | refine ab0 ?_)
    | go_step)
   rw [hT', e1, e2]
   rfl
/- The reference of networks by abstract states: table. -/
set_option maxHeartbeats 20000000 in
theorem table_ok (n : Net) (hp : n.pow.length ≤ 1000000) (hpl : ∀ l ∈ n.pow, l.length ≤ 1000000) : FnOK Tryz.prog 115 [.agg n.pv] ⟨iv (powE n.nodes n.pow), none⟩ := by
 have hp1 := hp
 refine fn_ok Tryz.func115 (by kernel_rfl) rfl (by rw [Tryz.ntmps115]; exact of_decide_eq_true rfl) (fun F hF => ?_)
 rw [Tryz.ntmps115] at hF
 rw [Tryz.results115]
 by_cases hlen : (n.pow.length : Int) = n.nodes
 case neg =>
  have he : ((n.pow.length : Int) != n.nodes) = true := by simpa using hlen
  repeat (first
   | (with_reducible (first | refine sg0 ?_ | refine hw0 ?_ | refine se0 ?_ | refine ai0 ?_ | refine as0 ?_ | refine at0 ?_ | refine ax0 ?_); simp only [go_sem, simprocAttr, hF, he])
   | ((with_reducible refine hg0 ?_); simp only [go_sem, simprocAttr, hF, he, hbx])
   | with_reducible refine aq0 fun _ _ => ?_
   | (refine awp_draw' (id := 6) [] 9 (by kernel_rfl) (by kernel_rfl) rfl rfl (fun bx0 hbx => ?_); try dsimp only [List.take, List.drop])
   | with_reducible (first | refine ar0 [] ?_ | refine ab0 ?_)
   | go_step)
  rw [powE, if_pos (.inl hlen)]
 have he : ((n.pow.length : Int) != n.nodes) = false := by simpa using hlen
 repeat (first
  | (with_reducible (first | refine sg0 ?_ | refine hw0 ?_ | refine se0 ?_ | refine ai0 ?_ | refine as0 ?_ | refine at0 ?_ | refine ax0 ?_); simp only [go_sem, simprocAttr, hF, he])
  | ((with_reducible refine hg0 ?_); simp only [go_sem, simprocAttr, hF, he, hbx])
  | with_reducible refine aq0 fun _ _ => ?_
  | (refine awp_draw' (id := 6) [] 9 (by kernel_rfl) (by kernel_rfl) rfl rfl (fun bx0 hbx => ?_); try dsimp only [List.take, List.drop])
  | with_reducible (first | refine ar0 [] ?_ | refine ab0 ?_)
  | go_step)
 refine awp_loop_by (ι := {k : Nat // k ≤ n.pow.length ∧ ∀ l ∈ n.pow.take k, (l.length : Int) = n.nodes}) (fun k σ => ⟨(3, iv (k.1 : Int)) :: keepS [1, 2] σ.slot, σ.box, [], σ.ext⟩) (fun k => n.pow.length - k.1) ⟨0, by omega, by simp⟩ (sub_mk ?_) (fun R hR k => ?_)
 · simp only [go_sem, simprocAttr, hF]
   repeat' (first | rfl | refine ⟨?_, ?_⟩)
 obtain ⟨k, hk, hT⟩ := k
 dsimp only
 simp only [go_sem, simprocAttr, hF]
 by_cases hlt : k < n.pow.length
 case neg =>
  have hd : decide ((k : Int) < n.nodes) = false := decide_eq_false (by omega)
  rw [List.take_of_length_le (by omega)] at hT
  have hA : (n.pow.any fun r => !(((r.length : Nat) : Int) == n.nodes)) = false := by
   rw [List.any_eq_false]
   intro l hl
   simp [hT l hl]
  repeat (first
   | (with_reducible (first | refine sg0 ?_ | refine hw0 ?_ | refine se0 ?_ | refine ai0 ?_ | refine as0 ?_ | refine at0 ?_ | refine ax0 ?_); simp only [go_sem, simprocAttr, hF, hd])
   | ((with_reducible refine hg0 ?_); simp only [go_sem, simprocAttr, hF, hd, hbx])
   | with_reducible refine aq0 fun _ _ => ?_
   | (refine awp_draw' (id := 6) [] 9 (by kernel_rfl) (by kernel_rfl) rfl rfl (fun bx0 hbx => ?_); try dsimp only [List.take, List.drop])
   | with_reducible (first | refine ar0 [] ?_ | refine ab0 ?_)
   | go_step)
  refine awp_loop_by (ι := {k : Nat // k ≤ n.pow.length ∧ (n.pow.take k).any (fun r => r.any outP) = false}) (fun k σ => ⟨(4, iv (k.1 : Int)) :: keepS [1, 2] σ.slot, σ.box, [], σ.ext⟩) (fun k => n.pow.length - k.1) ⟨0, by omega, rfl⟩ (sub_mk ?_) (fun R2 hR2 j => ?_)
  · simp only [go_sem, simprocAttr, hF]
    repeat' (first | rfl | refine ⟨?_, ?_⟩)
  obtain ⟨j, hj, hU⟩ := j
  dsimp only
  simp only [go_sem, simprocAttr, hF]
  by_cases hjt : j < n.pow.length
  case neg =>
   have hdj : decide ((j : Int) < n.nodes) = false := decide_eq_false (by omega)
   rw [List.take_of_length_le (by omega)] at hU
   repeat (first
    | (with_reducible (first | refine sg0 ?_ | refine hw0 ?_ | refine se0 ?_ | refine ai0 ?_ | refine as0 ?_ | refine at0 ?_ | refine ax0 ?_); simp only [go_sem, simprocAttr, hF, hdj])
    | ((with_reducible refine hg0 ?_); simp only [go_sem, simprocAttr, hF, hdj, hbx])
    | with_reducible refine aq0 fun _ _ => ?_
    | (refine awp_draw' (id := 6) [] 9 (by kernel_rfl) (by kernel_rfl) rfl rfl (fun bx0 hbx => ?_); try dsimp only [List.take, List.drop])
    | with_reducible (first | refine ar0 [] ?_ | refine ab0 ?_)
    | go_step)
   rw [powE, if_neg (by rintro (h | h); exact h hlen; rw [hA] at h; cases h), if_neg (by rw [hU]; decide)]
  obtain ⟨row, hrow⟩ := get_of_lt hjt
  have hrl := hT row (List.mem_of_getElem? hrow)
  have hdj : decide ((j : Int) < n.nodes) = true := decide_eq_true (by omega)
  have hwj : IntKind.i64.wrap ((j : Int) + 1) = ((j + 1 : Nat) : Int) := by rw [IntKind.wrap_i64]; omega
  have hTj : n.pow.take (j + 1) = n.pow.take j ++ [row] := by rw [List.take_add_one, hrow]; rfl
  repeat (first
   | (with_reducible (first | refine sg0 ?_ | refine hw0 ?_ | refine se0 ?_ | refine ai0 ?_ | refine as0 ?_ | refine at0 ?_ | refine ax0 ?_); simp only [go_sem, simprocAttr, hF, hdj])
   | ((with_reducible refine hg0 ?_); simp only [go_sem, simprocAttr, hF, hdj, hbx])
   | with_reducible refine aq0 fun _ _ => ?_
   | (refine awp_draw' (id := 6) [] 9 (by kernel_rfl) (by kernel_rfl) rfl rfl (fun bx0 hbx => ?_); try dsimp only [List.take, List.drop])
   | with_reducible (first | refine ar0 [] ?_ | refine ab0 ?_)
   | go_step)
  refine awp_loop_by (ι := {i : Nat // i ≤ row.length ∧ (row.take i).any outP = false}) (fun i σ => ⟨(5, iv (i.1 : Int)) :: keepS [1, 2, 4] σ.slot, σ.box, [], σ.ext⟩) (fun i => row.length - i.1) ⟨0, by omega, rfl⟩ (sub_mk ?_) (fun R3 hR3 i => ?_)
  · simp only [go_sem, simprocAttr, hF]
    repeat' (first | rfl | refine ⟨?_, ?_⟩)
  obtain ⟨i, hi, hV⟩ := i
  dsimp only
  simp only [go_sem, simprocAttr, hF]
  by_cases hit : i < row.length
  case neg =>
   have hdi : decide ((i : Int) < n.nodes) = false := decide_eq_false (by omega)
   rw [List.take_of_length_le (by omega)] at hV
   repeat (first
    | (with_reducible (first | refine sg0 ?_ | refine hw0 ?_ | refine se0 ?_ | refine ai0 ?_ | refine as0 ?_ | refine at0 ?_ | refine ax0 ?_); simp only [go_sem, simprocAttr, hF, hdi])
    | ((with_reducible refine hg0 ?_); simp only [go_sem, simprocAttr, hF, hdi, hbx])
    | with_reducible refine aq0 fun _ _ => ?_
    | (refine awp_draw' (id := 6) [] 9 (by kernel_rfl) (by kernel_rfl) rfl rfl (fun bx0 hbx => ?_); try dsimp only [List.take, List.drop])
    | with_reducible (first | refine ar0 [] ?_ | refine ab0 ?_)
    | go_step)
   refine ⟨⟨j + 1, by omega, by rw [hTj, List.any_append, hU, List.any_cons, hV]; rfl⟩, by dsimp only; omega, hR2 _ _ (sub_mk ?_)⟩
   simp only [go_sem, simprocAttr, hF, hwj]
  obtain ⟨x, hx⟩ := get_of_lt hit
  have hdi : decide ((i : Int) < n.nodes) = true := decide_eq_true (by omega)
  have hwi : IntKind.i64.wrap ((i : Int) + 1) = ((i + 1 : Nat) : Int) := by rw [IntKind.wrap_i64]; omega
  repeat (first
   | (with_reducible (first | refine sg0 ?_ | refine hw0 ?_ | refine se0 ?_ | refine ai0 ?_ | refine as0 ?_ | refine at0 ?_ | refine ax0 ?_); simp only [go_sem, simprocAttr, hF, hdi, hrow, hx])
   | ((with_reducible refine hg0 ?_); simp only [go_sem, simprocAttr, hF, hdi, hrow, hx, hbx])
   | with_reducible refine aq0 fun _ _ => ?_
   | (refine awp_draw' (id := 6) [] 9 (by kernel_rfl) (by kernel_rfl) rfl rfl (fun bx0 hbx => ?_); try dsimp only [List.take, List.drop])
   | with_reducible (first | refine ar0 [] ?_ | refine ab0 ?_)
   | go_step)
  refine ⟨_, in31_ok x 0 68719476736, ?_⟩
  simp only [go_sem, simprocAttr, hF]
  cases ho : inR x 0 68719476736 with
  | false =>
   have hout : outP x = true := by
    unfold outP
    unfold inR at ho
    simp only [Bool.and_eq_false_iff, decide_eq_false_iff_not] at ho
    simp only [Bool.or_eq_true, decide_eq_true_eq]
    omega
   have hB : (n.pow.any fun r => r.any outP) = true := List.any_eq_true.2 ⟨row, List.mem_of_getElem? hrow, List.any_eq_true.2 ⟨x, List.mem_of_getElem? hx, hout⟩⟩
   try simp only [go_sem, simprocAttr, hF, ho]
   repeat (first
    | (with_reducible (first | refine sg0 ?_ | refine hw0 ?_ | refine se0 ?_ | refine ai0 ?_ | refine as0 ?_ | refine at0 ?_ | refine ax0 ?_); simp only [go_sem, simprocAttr, hF, ho])
    | ((with_reducible refine hg0 ?_); simp only [go_sem, simprocAttr, hF, ho, hbx])
    | with_reducible refine aq0 fun _ _ => ?_
    | (refine awp_draw' (id := 6) [] 9 (by kernel_rfl) (by kernel_rfl) rfl rfl (fun bx0 hbx => ?_); try dsimp only [List.take, List.drop])
    | with_reducible (first | refine ar0 [] ?_ | refine ab0 ?_)
    | go_step)
   rw [powE, if_neg (by rintro (h | h); exact h hlen; rw [hA] at h; cases h), if_pos hB]
  | true =>
   have hout : outP x = false := by
    unfold outP
    unfold inR at ho
    simp only [Bool.and_eq_true, decide_eq_true_eq] at ho
    simp only [Bool.or_eq_false_iff, decide_eq_false_iff_not]
    omega
   try simp only [go_sem, simprocAttr, hF, ho]
   repeat (first
    | (with_reducible (first | refine sg0 ?_ | refine hw0 ?_ | refine se0 ?_ | refine ai0 ?_ | refine as0 ?_ | refine at0 ?_ | refine ax0 ?_); simp only [go_sem, simprocAttr, hF, ho])
    | ((with_reducible refine hg0 ?_); simp only [go_sem, simprocAttr, hF, ho, hbx])
    | with_reducible refine aq0 fun _ _ => ?_
    | (refine awp_draw' (id := 6) [] 9 (by kernel_rfl) (by kernel_rfl) rfl rfl (fun bx0 hbx => ?_); try dsimp only [List.take, List.drop])
    | with_reducible (first | refine ar0 [] ?_ | refine ab0 ?_)
    | go_step)
   refine ⟨⟨i + 1, by omega, by rw [List.take_add_one, hx, List.any_append, hV]; simp [hout]⟩, by dsimp only; omega, hR3 _ _ (sub_mk ?_)⟩
   simp only [go_sem, simprocAttr, hF, hwi]
 obtain ⟨d, hdk⟩ := get_of_lt hlt
 have hd : decide ((k : Int) < n.nodes) = true := decide_eq_true (by omega)
 have hw : IntKind.i64.wrap ((k : Int) + 1) = ((k + 1 : Nat) : Int) := by rw [IntKind.wrap_i64]; omega
 by_cases hne : (d.length : Int) = n.nodes
 case neg =>
  have h1 : ((d.length : Int) != n.nodes) = true := by simpa using hne
  have hA : (n.pow.any fun r => !(((r.length : Nat) : Int) == n.nodes)) = true := List.any_eq_true.2 ⟨d, List.mem_of_getElem? hdk, by simpa using hne⟩
  repeat (first
   | (with_reducible (first | refine sg0 ?_ | refine hw0 ?_ | refine se0 ?_ | refine ai0 ?_ | refine as0 ?_ | refine at0 ?_ | refine ax0 ?_); simp only [go_sem, simprocAttr, hF, hd, hdk, h1])
   | ((with_reducible refine hg0 ?_); simp only [go_sem, simprocAttr, hF, hd, hdk, h1, hbx])
   | with_reducible refine aq0 fun _ _ => ?_
   | (refine awp_draw' (id := 6) [] 9 (by kernel_rfl) (by kernel_rfl) rfl rfl (fun bx0 hbx => ?_); try dsimp only [List.take, List.drop])
   | with_reducible (first | refine ar0 [] ?_ | refine ab0 ?_)
   | go_step)
  rw [powE, if_pos (.inr hA)]
 have h1 : ((d.length : Int) != n.nodes) = false := by simpa using hne
 repeat (first
  | (with_reducible (first | refine sg0 ?_ | refine hw0 ?_ | refine se0 ?_ | refine ai0 ?_ | refine as0 ?_ | refine at0 ?_ | refine ax0 ?_); simp only [go_sem, simprocAttr, hF, hd, hdk, h1])
  | ((with_reducible refine hg0 ?_); simp only [go_sem, simprocAttr, hF, hd, hdk, h1, hbx])
  | with_reducible refine aq0 fun _ _ => ?_
  | (refine awp_draw' (id := 6) [] 9 (by kernel_rfl) (by kernel_rfl) rfl rfl (fun bx0 hbx => ?_); try dsimp only [List.take, List.drop])
  | with_reducible (first | refine ar0 [] ?_ | refine ab0 ?_)
  | go_step)
 refine ⟨⟨k + 1, by omega, fun l hl => by
  rw [List.take_add_one, hdk] at hl
  rcases List.mem_append.1 hl with hl | hl
  · exact hT l hl
  · simp at hl; subst hl; exact hne⟩, by dsimp only; omega, hR _ _ (sub_mk ?_)⟩
 simp only [go_sem, simprocAttr, hF, hw]
/- The reference of networks by abstract states: link. -/
theorem lkB_cases {nodes : Int} {l : Lk} : lkB nodes l = (inR l.fr 0 (nodes - 1) && (inR l.tt 0 (nodes - 1) && (!(l.fr == l.tt) && inR l.ls 0 7))) := rfl

set_option maxHeartbeats 20000000 in
theorem link_ok (n : Net) (k : Nat) (d : Lk) (m : Int) (hp : n.pow.length ≤ 1000000) (hl : n.lk.length ≤ 1000000) (hd : n.lk[k]? = some d) (hm : n.mg[k]? = some m) (hpe : powE n.nodes n.pow = 0) (hn : 2 ≤ n.nodes ∧ n.nodes ≤ 32) : FnOK Tryz.prog 116 [.agg n.pv, iv (k : Int)] ⟨iv (lkE n.nodes n.pow (if k = 0 then none else n.lk[k - 1]?) d m), none⟩ := by
 have hmul : ∀ l ∈ n.pow, (l.length : Int) = n.nodes ∧ (n.pow.length : Int) = n.nodes := fun l hl => by
  unfold powE at hpe
  split at hpe
  · cases hpe
  · rename_i hc
    refine ⟨?_, Classical.byContradiction fun h => hc (.inl h)⟩
    refine Classical.byContradiction fun h => hc (.inr (List.any_eq_true.2 ⟨l, hl, by simpa using h⟩))
 have hnl : (n.pow.length : Int) = n.nodes := by
  unfold powE at hpe
  split at hpe
  · cases hpe
  · rename_i hc
    exact Classical.byContradiction fun h => hc (.inl h)
 have hwn : IntKind.i64.wrap (n.nodes - 1) = n.nodes - 1 := by rw [IntKind.wrap_i64]; omega
 have hklt : k < n.lk.length := (List.getElem?_eq_some_iff.1 hd).1
 obtain ⟨p, hp0⟩ : ∃ p, p = (if k = 0 then none else n.lk[k - 1]?) := ⟨_, rfl⟩
 rw [← hp0]
 refine fn_ok Tryz.func116 (by kernel_rfl) rfl (by rw [Tryz.ntmps116]; exact of_decide_eq_true rfl) (fun F hF => ?_)
 rw [Tryz.ntmps116] at hF
 rw [Tryz.results116]
 repeat (first
  | (with_reducible (first | refine sg0 ?_ | refine hw0 ?_ | refine se0 ?_ | refine ai0 ?_ | refine as0 ?_ | refine at0 ?_ | refine ax0 ?_); simp only [go_sem, simprocAttr, hF, hd, hwn])
  | ((with_reducible refine hg0 ?_); simp only [go_sem, simprocAttr, hF, hd, hwn, hbx])
  | with_reducible refine aq0 fun _ _ => ?_
  | (refine awp_draw' (id := 4) [] 38 (by kernel_rfl) (by kernel_rfl) rfl rfl (fun bx0 hbx => ?_); try dsimp only [List.take, List.drop])
  | (refine awp_draw' (id := 6) [] 17 (by kernel_rfl) (by kernel_rfl) rfl rfl (fun bx0 hbx => ?_); try dsimp only [List.take, List.drop])
  | with_reducible (first | refine ar0 [] ?_ | refine ab0 ?_)
  | go_step)
 refine ⟨_, in31_ok d.fr 0 (n.nodes - 1), ?_⟩
 simp only [go_sem, simprocAttr, hF]
 cases b1 : inR d.fr 0 (n.nodes - 1) with
 | false =>
  try simp only [go_sem, simprocAttr, hF, b1]
  repeat (first
   | (with_reducible (first | refine sg0 ?_ | refine hw0 ?_ | refine se0 ?_ | refine ai0 ?_ | refine as0 ?_ | refine at0 ?_ | refine ax0 ?_); simp only [go_sem, simprocAttr, hF, b1])
   | ((with_reducible refine hg0 ?_); simp only [go_sem, simprocAttr, hF, b1, hbx])
   | with_reducible refine aq0 fun _ _ => ?_
   | (refine awp_draw' (id := 4) [] 38 (by kernel_rfl) (by kernel_rfl) rfl rfl (fun bx0 hbx => ?_); try dsimp only [List.take, List.drop])
   | (refine awp_draw' (id := 6) [] 17 (by kernel_rfl) (by kernel_rfl) rfl rfl (fun bx0 hbx => ?_); try dsimp only [List.take, List.drop])
   | with_reducible (first | refine ar0 [] ?_ | refine ab0 ?_)
   | go_step)
  unfold lkE
  rw [if_pos (by rw [lkB_cases]; simp [b1])]
 | true =>
  try simp only [go_sem, simprocAttr, hF, b1]
  repeat (first
   | (with_reducible (first | refine sg0 ?_ | refine hw0 ?_ | refine se0 ?_ | refine ai0 ?_ | refine as0 ?_ | refine at0 ?_ | refine ax0 ?_); simp only [go_sem, simprocAttr, hF, b1, hwn])
   | ((with_reducible refine hg0 ?_); simp only [go_sem, simprocAttr, hF, b1, hwn, hbx])
   | with_reducible refine aq0 fun _ _ => ?_
   | (refine awp_draw' (id := 4) [] 38 (by kernel_rfl) (by kernel_rfl) rfl rfl (fun bx0 hbx => ?_); try dsimp only [List.take, List.drop])
   | (refine awp_draw' (id := 6) [] 17 (by kernel_rfl) (by kernel_rfl) rfl rfl (fun bx0 hbx => ?_); try dsimp only [List.take, List.drop])
   | with_reducible (first | refine ar0 [] ?_ | refine ab0 ?_)
   | go_step)
  refine ⟨_, in31_ok d.tt 0 (n.nodes - 1), ?_⟩
  simp only [go_sem, simprocAttr, hF]
  cases b2 : inR d.tt 0 (n.nodes - 1) with
  | false =>
   try simp only [go_sem, simprocAttr, hF, b2]
   repeat (first
    | (with_reducible (first | refine sg0 ?_ | refine hw0 ?_ | refine se0 ?_ | refine ai0 ?_ | refine as0 ?_ | refine at0 ?_ | refine ax0 ?_); simp only [go_sem, simprocAttr, hF, b2])
    | ((with_reducible refine hg0 ?_); simp only [go_sem, simprocAttr, hF, b2, hbx])
    | with_reducible refine aq0 fun _ _ => ?_
    | (refine awp_draw' (id := 4) [] 38 (by kernel_rfl) (by kernel_rfl) rfl rfl (fun bx0 hbx => ?_); try dsimp only [List.take, List.drop])
    | (refine awp_draw' (id := 6) [] 17 (by kernel_rfl) (by kernel_rfl) rfl rfl (fun bx0 hbx => ?_); try dsimp only [List.take, List.drop])
    | with_reducible (first | refine ar0 [] ?_ | refine ab0 ?_)
    | go_step)
   unfold lkE
   rw [if_pos (by rw [lkB_cases]; simp [b1, b2])]
  | true =>
   cases b3 : (d.fr == d.tt) with
   | true =>
    try simp only [go_sem, simprocAttr, hF, b2, b3]
    repeat (first
     | (with_reducible (first | refine sg0 ?_ | refine hw0 ?_ | refine se0 ?_ | refine ai0 ?_ | refine as0 ?_ | refine at0 ?_ | refine ax0 ?_); simp only [go_sem, simprocAttr, hF, b2, b3])
     | ((with_reducible refine hg0 ?_); simp only [go_sem, simprocAttr, hF, b2, b3, hbx])
     | with_reducible refine aq0 fun _ _ => ?_
     | (refine awp_draw' (id := 4) [] 38 (by kernel_rfl) (by kernel_rfl) rfl rfl (fun bx0 hbx => ?_); try dsimp only [List.take, List.drop])
     | (refine awp_draw' (id := 6) [] 17 (by kernel_rfl) (by kernel_rfl) rfl rfl (fun bx0 hbx => ?_); try dsimp only [List.take, List.drop])
     | with_reducible (first | refine ar0 [] ?_ | refine ab0 ?_)
     | go_step)
    have b3e : d.fr = d.tt := by simpa using b3
    unfold lkE
    rw [if_pos (by rw [lkB_cases]; simp [b1, b2, b3e])]
   | false =>
    try simp only [go_sem, simprocAttr, hF, b2, b3]
    repeat (first
     | (with_reducible (first | refine sg0 ?_ | refine hw0 ?_ | refine se0 ?_ | refine ai0 ?_ | refine as0 ?_ | refine at0 ?_ | refine ax0 ?_); simp only [go_sem, simprocAttr, hF, b2, b3])
     | ((with_reducible refine hg0 ?_); simp only [go_sem, simprocAttr, hF, b2, b3, hbx])
     | with_reducible refine aq0 fun _ _ => ?_
     | (refine awp_draw' (id := 4) [] 38 (by kernel_rfl) (by kernel_rfl) rfl rfl (fun bx0 hbx => ?_); try dsimp only [List.take, List.drop])
     | (refine awp_draw' (id := 6) [] 17 (by kernel_rfl) (by kernel_rfl) rfl rfl (fun bx0 hbx => ?_); try dsimp only [List.take, List.drop])
     | with_reducible (first | refine ar0 [] ?_ | refine ab0 ?_)
     | go_step)
    refine ⟨_, in31_ok d.ls 0 7, ?_⟩
    simp only [go_sem, simprocAttr, hF]
    cases b4 : inR d.ls 0 7 with
    | false =>
     try simp only [go_sem, simprocAttr, hF, b4]
     repeat (first
      | (with_reducible (first | refine sg0 ?_ | refine hw0 ?_ | refine se0 ?_ | refine ai0 ?_ | refine as0 ?_ | refine at0 ?_ | refine ax0 ?_); simp only [go_sem, simprocAttr, hF, b4])
      | ((with_reducible refine hg0 ?_); simp only [go_sem, simprocAttr, hF, b4, hbx])
      | with_reducible refine aq0 fun _ _ => ?_
      | (refine awp_draw' (id := 4) [] 38 (by kernel_rfl) (by kernel_rfl) rfl rfl (fun bx0 hbx => ?_); try dsimp only [List.take, List.drop])
      | (refine awp_draw' (id := 6) [] 17 (by kernel_rfl) (by kernel_rfl) rfl rfl (fun bx0 hbx => ?_); try dsimp only [List.take, List.drop])
      | with_reducible (first | refine ar0 [] ?_ | refine ab0 ?_)
      | go_step)
     unfold lkE
     rw [if_pos (by rw [lkB_cases]; simp [b1, b2, b4])]
    | true =>
     have hB : lkB n.nodes d = true := by rw [lkB_cases, b1, b2, b3, b4]; rfl
     have q1 : 0 ≤ d.fr ∧ d.fr ≤ n.nodes - 1 := by simpa [inR] using b1
     have q2 : 0 ≤ d.tt ∧ d.tt ≤ n.nodes - 1 := by simpa [inR] using b2
     obtain ⟨row, hrow⟩ := get_of_lt (l := n.pow) (k := d.fr.toNat) (by omega)
     have hrl := (hmul row (List.mem_of_getElem? hrow)).1
     obtain ⟨v, hv⟩ := get_of_lt (l := row) (k := d.tt.toNat) (by omega)
     have hpa : powAt n.pow d.fr d.tt = v := by
      unfold powAt
      rw [List.getD_eq_getElem?_getD, List.getD_eq_getElem?_getD, hrow, Option.getD_some, hv, Option.getD_some]
     have q10 : 0 ≤ d.fr := q1.1
     have q20 : 0 ≤ d.tt := q2.1
     by_cases hk0 : k = 0
     · have z0 : decide ((0 : Int) < (k : Int)) = false := decide_eq_false (by omega)
       have hpb : ¬ prevBadL p d = true := by rw [hp0, if_pos hk0]; simp [prevBadL]
       try simp only [go_sem, simprocAttr, hF, b4]
       repeat (first
        | (with_reducible (first | refine sg0 ?_ | refine hw0 ?_ | refine se0 ?_ | refine ai0 ?_ | refine as0 ?_ | refine at0 ?_ | refine ax0 ?_); simp only [go_sem, simprocAttr, hF, b4, z0])
        | ((with_reducible refine hg0 ?_); simp only [go_sem, simprocAttr, hF, b4, z0, hbx])
        | with_reducible refine aq0 fun _ _ => ?_
        | (refine awp_draw' (id := 4) [] 38 (by kernel_rfl) (by kernel_rfl) rfl rfl (fun bx0 hbx => ?_); try dsimp only [List.take, List.drop])
        | (refine awp_draw' (id := 6) [] 17 (by kernel_rfl) (by kernel_rfl) rfl rfl (fun bx0 hbx => ?_); try dsimp only [List.take, List.drop])
        | with_reducible (first | refine ar0 [] ?_ | refine ab0 ?_)
        | go_step)
       try simp only [go_sem, simprocAttr, hF, hm, hrow, hv, q10, q20]
       repeat (first
        | (with_reducible (first | refine sg0 ?_ | refine hw0 ?_ | refine se0 ?_ | refine ai0 ?_ | refine as0 ?_ | refine at0 ?_ | refine ax0 ?_); simp only [go_sem, simprocAttr, hF, hm, hrow, hv, q10, q20])
        | ((with_reducible refine hg0 ?_); simp only [go_sem, simprocAttr, hF, hm, hrow, hv, q10, q20, hbx])
        | with_reducible refine aq0 fun _ _ => ?_
        | (refine awp_draw' (id := 4) [] 38 (by kernel_rfl) (by kernel_rfl) rfl rfl (fun bx0 hbx => ?_); try dsimp only [List.take, List.drop])
        | (refine awp_draw' (id := 6) [] 17 (by kernel_rfl) (by kernel_rfl) rfl rfl (fun bx0 hbx => ?_); try dsimp only [List.take, List.drop])
        | with_reducible (first | refine ar0 [] ?_ | refine ab0 ?_)
        | go_step)
       refine ⟨_, in31_ok m 0 v, ?_⟩
       simp only [go_sem, simprocAttr, hF]
       cases b5 : inR m 0 v with
       | false =>
        have hb5 : m < 0 ∨ v < m := by
         unfold inR at b5
         simp only [Bool.and_eq_false_iff, decide_eq_false_iff_not] at b5
         omega
        try simp only [go_sem, simprocAttr, hF, b5]
        repeat (first
         | (with_reducible (first | refine sg0 ?_ | refine hw0 ?_ | refine se0 ?_ | refine ai0 ?_ | refine as0 ?_ | refine at0 ?_ | refine ax0 ?_); simp only [go_sem, simprocAttr, hF, b5])
         | ((with_reducible refine hg0 ?_); simp only [go_sem, simprocAttr, hF, b5, hbx])
         | with_reducible refine aq0 fun _ _ => ?_
         | (refine awp_draw' (id := 4) [] 38 (by kernel_rfl) (by kernel_rfl) rfl rfl (fun bx0 hbx => ?_); try dsimp only [List.take, List.drop])
         | (refine awp_draw' (id := 6) [] 17 (by kernel_rfl) (by kernel_rfl) rfl rfl (fun bx0 hbx => ?_); try dsimp only [List.take, List.drop])
         | with_reducible (first | refine ar0 [] ?_ | refine ab0 ?_)
         | go_step)
        unfold lkE
        rw [if_neg (by rw [hB]; decide), if_neg hpb, hpa, if_pos hb5]
       | true =>
        have hb5 : ¬ (m < 0 ∨ v < m) := by
         unfold inR at b5
         simp only [Bool.and_eq_true, decide_eq_true_eq] at b5
         omega
        try simp only [go_sem, simprocAttr, hF, b5]
        repeat (first
         | (with_reducible (first | refine sg0 ?_ | refine hw0 ?_ | refine se0 ?_ | refine ai0 ?_ | refine as0 ?_ | refine at0 ?_ | refine ax0 ?_); simp only [go_sem, simprocAttr, hF, b5])
         | ((with_reducible refine hg0 ?_); simp only [go_sem, simprocAttr, hF, b5, hbx])
         | with_reducible refine aq0 fun _ _ => ?_
         | (refine awp_draw' (id := 4) [] 38 (by kernel_rfl) (by kernel_rfl) rfl rfl (fun bx0 hbx => ?_); try dsimp only [List.take, List.drop])
         | (refine awp_draw' (id := 6) [] 17 (by kernel_rfl) (by kernel_rfl) rfl rfl (fun bx0 hbx => ?_); try dsimp only [List.take, List.drop])
         | with_reducible (first | refine ar0 [] ?_ | refine ab0 ?_)
         | go_step)
        unfold lkE
        rw [if_neg (by rw [hB]; decide), if_neg hpb, hpa, if_neg hb5]
     have z0 : decide ((0 : Int) < (k : Int)) = true := decide_eq_true (by omega)
     obtain ⟨q, hq⟩ := get_of_lt (l := n.lk) (k := k - 1) (by omega)
     have hwk : IntKind.i64.wrap ((k : Int) - 1) = ((k - 1 : Nat) : Int) := by rw [IntKind.wrap_i64]; omega
     cases e1 : decide (d.fr < q.fr) with
     | true =>
      have hpb : prevBadL p d = true := by rw [hp0, if_neg hk0, hq]; simp [prevBadL, e1]
      try simp only [go_sem, simprocAttr, hF, b4]
      repeat (first
       | (with_reducible (first | refine sg0 ?_ | refine hw0 ?_ | refine se0 ?_ | refine ai0 ?_ | refine as0 ?_ | refine at0 ?_ | refine ax0 ?_); simp only [go_sem, simprocAttr, hF, b4, z0, hwk, hq, e1])
       | ((with_reducible refine hg0 ?_); simp only [go_sem, simprocAttr, hF, b4, z0, hwk, hq, e1, hbx])
       | with_reducible refine aq0 fun _ _ => ?_
       | (refine awp_draw' (id := 4) [] 38 (by kernel_rfl) (by kernel_rfl) rfl rfl (fun bx0 hbx => ?_); try dsimp only [List.take, List.drop])
       | (refine awp_draw' (id := 6) [] 17 (by kernel_rfl) (by kernel_rfl) rfl rfl (fun bx0 hbx => ?_); try dsimp only [List.take, List.drop])
       | with_reducible (first | refine ar0 [] ?_ | refine ab0 ?_)
       | go_step)
      unfold lkE
      rw [if_neg (by rw [hB]; decide), if_pos hpb]
     | false =>
      cases e2 : (q.fr == d.fr) with
      | false =>
       have hpb : ¬ prevBadL p d = true := by rw [hp0, if_neg hk0, hq]; simp [prevBadL, e1, e2]
       try simp only [go_sem, simprocAttr, hF, b4]
       repeat (first
        | (with_reducible (first | refine sg0 ?_ | refine hw0 ?_ | refine se0 ?_ | refine ai0 ?_ | refine as0 ?_ | refine at0 ?_ | refine ax0 ?_); simp only [go_sem, simprocAttr, hF, b4, z0, hwk, hq, e1, e2])
        | ((with_reducible refine hg0 ?_); simp only [go_sem, simprocAttr, hF, b4, z0, hwk, hq, e1, e2, hbx])
        | with_reducible refine aq0 fun _ _ => ?_
        | (refine awp_draw' (id := 4) [] 38 (by kernel_rfl) (by kernel_rfl) rfl rfl (fun bx0 hbx => ?_); try dsimp only [List.take, List.drop])
        | (refine awp_draw' (id := 6) [] 17 (by kernel_rfl) (by kernel_rfl) rfl rfl (fun bx0 hbx => ?_); try dsimp only [List.take, List.drop])
        | with_reducible (first | refine ar0 [] ?_ | refine ab0 ?_)
        | go_step)
       try simp only [go_sem, simprocAttr, hF, hm, hrow, hv, q10, q20]
       repeat (first
        | (with_reducible (first | refine sg0 ?_ | refine hw0 ?_ | refine se0 ?_ | refine ai0 ?_ | refine as0 ?_ | refine at0 ?_ | refine ax0 ?_); simp only [go_sem, simprocAttr, hF, hm, hrow, hv, q10, q20])
        | ((with_reducible refine hg0 ?_); simp only [go_sem, simprocAttr, hF, hm, hrow, hv, q10, q20, hbx])
        | with_reducible refine aq0 fun _ _ => ?_
        | (refine awp_draw' (id := 4) [] 38 (by kernel_rfl) (by kernel_rfl) rfl rfl (fun bx0 hbx => ?_); try dsimp only [List.take, List.drop])
        | (refine awp_draw' (id := 6) [] 17 (by kernel_rfl) (by kernel_rfl) rfl rfl (fun bx0 hbx => ?_); try dsimp only [List.take, List.drop])
        | with_reducible (first | refine ar0 [] ?_ | refine ab0 ?_)
        | go_step)
       refine ⟨_, in31_ok m 0 v, ?_⟩
       simp only [go_sem, simprocAttr, hF]
       cases b5 : inR m 0 v with
       | false =>
        have hb5 : m < 0 ∨ v < m := by
         unfold inR at b5
         simp only [Bool.and_eq_false_iff, decide_eq_false_iff_not] at b5
         omega
        try simp only [go_sem, simprocAttr, hF, b5]
        repeat (first
         | (with_reducible (first | refine sg0 ?_ | refine hw0 ?_ | refine se0 ?_ | refine ai0 ?_ | refine as0 ?_ | refine at0 ?_ | refine ax0 ?_); simp only [go_sem, simprocAttr, hF, b5])
         | ((with_reducible refine hg0 ?_); simp only [go_sem, simprocAttr, hF, b5, hbx])
         | with_reducible refine aq0 fun _ _ => ?_
         | (refine awp_draw' (id := 4) [] 38 (by kernel_rfl) (by kernel_rfl) rfl rfl (fun bx0 hbx => ?_); try dsimp only [List.take, List.drop])
         | (refine awp_draw' (id := 6) [] 17 (by kernel_rfl) (by kernel_rfl) rfl rfl (fun bx0 hbx => ?_); try dsimp only [List.take, List.drop])
         | with_reducible (first | refine ar0 [] ?_ | refine ab0 ?_)
         | go_step)
        unfold lkE
        rw [if_neg (by rw [hB]; decide), if_neg hpb, hpa, if_pos hb5]
       | true =>
        have hb5 : ¬ (m < 0 ∨ v < m) := by
         unfold inR at b5
         simp only [Bool.and_eq_true, decide_eq_true_eq] at b5
         omega
        try simp only [go_sem, simprocAttr, hF, b5]
        repeat (first
         | (with_reducible (first | refine sg0 ?_ | refine hw0 ?_ | refine se0 ?_ | refine ai0 ?_ | refine as0 ?_ | refine at0 ?_ | refine ax0 ?_); simp only [go_sem, simprocAttr, hF, b5])
         | ((with_reducible refine hg0 ?_); simp only [go_sem, simprocAttr, hF, b5, hbx])
         | with_reducible refine aq0 fun _ _ => ?_
         | (refine awp_draw' (id := 4) [] 38 (by kernel_rfl) (by kernel_rfl) rfl rfl (fun bx0 hbx => ?_); try dsimp only [List.take, List.drop])
         | (refine awp_draw' (id := 6) [] 17 (by kernel_rfl) (by kernel_rfl) rfl rfl (fun bx0 hbx => ?_); try dsimp only [List.take, List.drop])
         | with_reducible (first | refine ar0 [] ?_ | refine ab0 ?_)
         | go_step)
        unfold lkE
        rw [if_neg (by rw [hB]; decide), if_neg hpb, hpa, if_neg hb5]
      | true =>
       cases e3 : decide (d.tt ≤ q.tt) with
       | true =>
        have hpb : prevBadL p d = true := by rw [hp0, if_neg hk0, hq]; simp [prevBadL, e1, e2, e3]
        try simp only [go_sem, simprocAttr, hF, b4]
        repeat (first
         | (with_reducible (first | refine sg0 ?_ | refine hw0 ?_ | refine se0 ?_ | refine ai0 ?_ | refine as0 ?_ | refine at0 ?_ | refine ax0 ?_); simp only [go_sem, simprocAttr, hF, b4, z0, hwk, hq, e1, e2, e3])
         | ((with_reducible refine hg0 ?_); simp only [go_sem, simprocAttr, hF, b4, z0, hwk, hq, e1, e2, e3, hbx])
         | with_reducible refine aq0 fun _ _ => ?_
         | (refine awp_draw' (id := 4) [] 38 (by kernel_rfl) (by kernel_rfl) rfl rfl (fun bx0 hbx => ?_); try dsimp only [List.take, List.drop])
         | (refine awp_draw' (id := 6) [] 17 (by kernel_rfl) (by kernel_rfl) rfl rfl (fun bx0 hbx => ?_); try dsimp only [List.take, List.drop])
         | with_reducible (first | refine ar0 [] ?_ | refine ab0 ?_)
         | go_step)
        unfold lkE
        rw [if_neg (by rw [hB]; decide), if_pos hpb]
       | false =>
        have hpb : ¬ prevBadL p d = true := by rw [hp0, if_neg hk0, hq]; simp [prevBadL, e1, e2, e3]
        try simp only [go_sem, simprocAttr, hF, b4]
        repeat (first
         | (with_reducible (first | refine sg0 ?_ | refine hw0 ?_ | refine se0 ?_ | refine ai0 ?_ | refine as0 ?_ | refine at0 ?_ | refine ax0 ?_); simp only [go_sem, simprocAttr, hF, b4, z0, hwk, hq, e1, e2, e3])
         | ((with_reducible refine hg0 ?_); simp only [go_sem, simprocAttr, hF, b4, z0, hwk, hq, e1, e2, e3, hbx])
         | with_reducible refine aq0 fun _ _ => ?_
         | (refine awp_draw' (id := 4) [] 38 (by kernel_rfl) (by kernel_rfl) rfl rfl (fun bx0 hbx => ?_); try dsimp only [List.take, List.drop])
         | (refine awp_draw' (id := 6) [] 17 (by kernel_rfl) (by kernel_rfl) rfl rfl (fun bx0 hbx => ?_); try dsimp only [List.take, List.drop])
         | with_reducible (first | refine ar0 [] ?_ | refine ab0 ?_)
         | go_step)
        try simp only [go_sem, simprocAttr, hF, hm, hrow, hv, q10, q20]
        repeat (first
         | (with_reducible (first | refine sg0 ?_ | refine hw0 ?_ | refine se0 ?_ | refine ai0 ?_ | refine as0 ?_ | refine at0 ?_ | refine ax0 ?_); simp only [go_sem, simprocAttr, hF, hm, hrow, hv, q10, q20])
         | ((with_reducible refine hg0 ?_); simp only [go_sem, simprocAttr, hF, hm, hrow, hv, q10, q20, hbx])
         | with_reducible refine aq0 fun _ _ => ?_
         | (refine awp_draw' (id := 4) [] 38 (by kernel_rfl) (by kernel_rfl) rfl rfl (fun bx0 hbx => ?_); try dsimp only [List.take, List.drop])
         | (refine awp_draw' (id := 6) [] 17 (by kernel_rfl) (by kernel_rfl) rfl rfl (fun bx0 hbx => ?_); try dsimp only [List.take, List.drop])
         | with_reducible (first | refine ar0 [] ?_ | refine ab0 ?_)
         | go_step)
        refine ⟨_, in31_ok m 0 v, ?_⟩
        simp only [go_sem, simprocAttr, hF]
        cases b5 : inR m 0 v with
        | false =>
         have hb5 : m < 0 ∨ v < m := by
          unfold inR at b5
          simp only [Bool.and_eq_false_iff, decide_eq_false_iff_not] at b5
          omega
         try simp only [go_sem, simprocAttr, hF, b5]
         repeat (first
          | (with_reducible (first | refine sg0 ?_ | refine hw0 ?_ | refine se0 ?_ | refine ai0 ?_ | refine as0 ?_ | refine at0 ?_ | refine ax0 ?_); simp only [go_sem, simprocAttr, hF, b5])
          | ((with_reducible refine hg0 ?_); simp only [go_sem, simprocAttr, hF, b5, hbx])
          | with_reducible refine aq0 fun _ _ => ?_
          | (refine awp_draw' (id := 4) [] 38 (by kernel_rfl) (by kernel_rfl) rfl rfl (fun bx0 hbx => ?_); try dsimp only [List.take, List.drop])
          | (refine awp_draw' (id := 6) [] 17 (by kernel_rfl) (by kernel_rfl) rfl rfl (fun bx0 hbx => ?_); try dsimp only [List.take, List.drop])
          | with_reducible (first | refine ar0 [] ?_ | refine ab0 ?_)
          | go_step)
         unfold lkE
         rw [if_neg (by rw [hB]; decide), if_neg hpb, hpa, if_pos hb5]
        | true =>
         have hb5 : ¬ (m < 0 ∨ v < m) := by
          unfold inR at b5
          simp only [Bool.and_eq_true, decide_eq_true_eq] at b5
          omega
         try simp only [go_sem, simprocAttr, hF, b5]
         repeat (first
          | (with_reducible (first | refine sg0 ?_ | refine hw0 ?_ | refine se0 ?_ | refine ai0 ?_ | refine as0 ?_ | refine at0 ?_ | refine ax0 ?_); simp only [go_sem, simprocAttr, hF, b5])
          | ((with_reducible refine hg0 ?_); simp only [go_sem, simprocAttr, hF, b5, hbx])
          | with_reducible refine aq0 fun _ _ => ?_
          | (refine awp_draw' (id := 4) [] 38 (by kernel_rfl) (by kernel_rfl) rfl rfl (fun bx0 hbx => ?_); try dsimp only [List.take, List.drop])
          | (refine awp_draw' (id := 6) [] 17 (by kernel_rfl) (by kernel_rfl) rfl rfl (fun bx0 hbx => ?_); try dsimp only [List.take, List.drop])
          | with_reducible (first | refine ar0 [] ?_ | refine ab0 ?_)
          | go_step)
         unfold lkE
         rw [if_neg (by rw [hB]; decide), if_neg hpb, hpa, if_neg hb5]
/- The reference of networks by abstract states: Check. -/
set_option maxHeartbeats 20000000 in
theorem ncheckR_ok (n : Net) (hp : n.pow.length ≤ 1000000) (hpl : ∀ l ∈ n.pow, l.length ≤ 1000000) (hk' : n.lk.length ≤ 1000000) (hg : n.mg.length ≤ 1000000) : FnOK Tryz.prog 83 [.agg n.pv] ⟨iv (chkN n), none⟩ := by
 refine fn_ok Tryz.func83 (by kernel_rfl) rfl (by rw [Tryz.ntmps83]; exact of_decide_eq_true rfl) (fun F hF => ?_)
 rw [Tryz.ntmps83] at hF
 rw [Tryz.results83]
 repeat (first
  | (with_reducible (first | refine sg0 ?_ | refine hw0 ?_ | refine se0 ?_ | refine ai0 ?_ | refine as0 ?_ | refine at0 ?_ | refine ax0 ?_); simp only [go_sem, simprocAttr, hF])
  | with_reducible (first | refine aq0 fun _ _ => ?_ | refine ar0 [] ?_ | refine ab0 ?_)
  | go_step)
 refine ⟨_, in31_ok n.nodes 2 32, ?_⟩
 simp only [go_sem, simprocAttr, hF]
 cases b1 : inR n.nodes 2 32 with
 | false =>
  have hb : n.nodes < 2 ∨ 32 < n.nodes := by
   unfold inR at b1
   simp only [Bool.and_eq_false_iff, decide_eq_false_iff_not] at b1
   omega
  try simp only [go_sem, simprocAttr, hF, b1]
  repeat (first
   | (with_reducible (first | refine sg0 ?_ | refine hw0 ?_ | refine se0 ?_ | refine ai0 ?_ | refine as0 ?_ | refine at0 ?_ | refine ax0 ?_); simp only [go_sem, simprocAttr, hF, b1])
   | with_reducible (first | refine aq0 fun _ _ => ?_ | refine ar0 [] ?_ | refine ab0 ?_)
   | go_step)
  rw [chkN, if_pos hb]
 | true =>
  have hn : 2 ≤ n.nodes ∧ n.nodes ≤ 32 := by
   unfold inR at b1
   simpa using b1
  have hb : ¬ (n.nodes < 2 ∨ 32 < n.nodes) := by omega
  try simp only [go_sem, simprocAttr, hF, b1]
  repeat (first
   | (with_reducible (first | refine sg0 ?_ | refine hw0 ?_ | refine se0 ?_ | refine ai0 ?_ | refine as0 ?_ | refine at0 ?_ | refine ax0 ?_); simp only [go_sem, simprocAttr, hF, b1])
   | with_reducible (first | refine aq0 fun _ _ => ?_ | refine ar0 [] ?_ | refine ab0 ?_)
   | go_step)
  refine ⟨_, table_ok n hp hpl, ?_⟩
  simp only [go_sem, simprocAttr, hF]
  by_cases hpe : powE n.nodes n.pow = 0
  case neg =>
   have he : (powE n.nodes n.pow != 0) = true := by simpa using hpe
   try simp only [go_sem, simprocAttr, hF, he]
   repeat (first
    | (with_reducible (first | refine sg0 ?_ | refine hw0 ?_ | refine se0 ?_ | refine ai0 ?_ | refine as0 ?_ | refine at0 ?_ | refine ax0 ?_); simp only [go_sem, simprocAttr, hF, he])
    | with_reducible (first | refine aq0 fun _ _ => ?_ | refine ar0 [] ?_ | refine ab0 ?_)
    | go_step)
   rw [chkN, if_neg hb, if_pos hpe]
  have he : (powE n.nodes n.pow != 0) = false := by simpa using hpe
  try simp only [go_sem, simprocAttr, hF, he]
  repeat (first
   | (with_reducible (first | refine sg0 ?_ | refine hw0 ?_ | refine se0 ?_ | refine ai0 ?_ | refine as0 ?_ | refine at0 ?_ | refine ax0 ?_); simp only [go_sem, simprocAttr, hF, he])
   | with_reducible (first | refine aq0 fun _ _ => ?_ | refine ar0 [] ?_ | refine ab0 ?_)
   | go_step)
  refine ⟨_, in31_ok n.noise 0 68719476736, ?_⟩
  simp only [go_sem, simprocAttr, hF]
  cases b2 : inR n.noise 0 68719476736 with
  | false =>
   try simp only [go_sem, simprocAttr, hF, b2]
   repeat (first
    | (with_reducible (first | refine sg0 ?_ | refine hw0 ?_ | refine se0 ?_ | refine ai0 ?_ | refine as0 ?_ | refine at0 ?_ | refine ax0 ?_); simp only [go_sem, simprocAttr, hF, b2])
    | with_reducible (first | refine aq0 fun _ _ => ?_ | refine ar0 [] ?_ | refine ab0 ?_)
    | go_step)
   rw [chkN, if_neg hb, if_neg (by rw [hpe]; decide), if_pos (.inl b2)]
  | true =>
   try simp only [go_sem, simprocAttr, hF, b2]
   repeat (first
    | (with_reducible (first | refine sg0 ?_ | refine hw0 ?_ | refine se0 ?_ | refine ai0 ?_ | refine as0 ?_ | refine at0 ?_ | refine ax0 ?_); simp only [go_sem, simprocAttr, hF, b2])
    | with_reducible (first | refine aq0 fun _ _ => ?_ | refine ar0 [] ?_ | refine ab0 ?_)
    | go_step)
   refine ⟨_, in31_ok n.thr 1000 100000, ?_⟩
   simp only [go_sem, simprocAttr, hF]
   cases b3 : inR n.thr 1000 100000 with
   | false =>
    try simp only [go_sem, simprocAttr, hF, b3]
    repeat (first
     | (with_reducible (first | refine sg0 ?_ | refine hw0 ?_ | refine se0 ?_ | refine ai0 ?_ | refine as0 ?_ | refine at0 ?_ | refine ax0 ?_); simp only [go_sem, simprocAttr, hF, b3])
     | with_reducible (first | refine aq0 fun _ _ => ?_ | refine ar0 [] ?_ | refine ab0 ?_)
     | go_step)
    rw [chkN, if_neg hb, if_neg (by rw [hpe]; decide), if_pos (.inr b3)]
   | true =>
    have hb4 : ¬ (Nd.inB n.noise 0 68719476736 = false ∨ Nd.inB n.thr 1000 100000 = false) := by
     rintro (h | h)
     · rw [show Nd.inB n.noise 0 68719476736 = true from b2] at h; cases h
     · rw [show Nd.inB n.thr 1000 100000 = true from b3] at h; cases h
    by_cases h128 : 128 < n.lk.length
    case pos =>
     have h1 : decide ((128 : Int) < (n.lk.length : Int)) = true := decide_eq_true (by omega)
     try simp only [go_sem, simprocAttr, hF, b3]
     repeat (first
      | (with_reducible (first | refine sg0 ?_ | refine hw0 ?_ | refine se0 ?_ | refine ai0 ?_ | refine as0 ?_ | refine at0 ?_ | refine ax0 ?_); simp only [go_sem, simprocAttr, hF, b3, h1])
      | with_reducible (first | refine aq0 fun _ _ => ?_ | refine ar0 [] ?_ | refine ab0 ?_)
      | go_step)
     rw [chkN, if_neg hb, if_neg (by rw [hpe]; decide), if_neg hb4, if_pos h128]
    have h1 : decide ((128 : Int) < (n.lk.length : Int)) = false := decide_eq_false (by omega)
    by_cases hml : n.mg.length = n.lk.length
    case neg =>
     have h2 : ((n.mg.length : Int) != (n.lk.length : Int)) = true := by simpa using fun h => hml (by omega)
     try simp only [go_sem, simprocAttr, hF, b3]
     repeat (first
      | (with_reducible (first | refine sg0 ?_ | refine hw0 ?_ | refine se0 ?_ | refine ai0 ?_ | refine as0 ?_ | refine at0 ?_ | refine ax0 ?_); simp only [go_sem, simprocAttr, hF, b3, h1, h2])
      | with_reducible (first | refine aq0 fun _ _ => ?_ | refine ar0 [] ?_ | refine ab0 ?_)
      | go_step)
     rw [chkN, if_neg hb, if_neg (by rw [hpe]; decide), if_neg hb4, if_neg h128, if_pos hml]
    have h2 : ((n.mg.length : Int) != (n.lk.length : Int)) = false := by simp [hml]
    have hC : chkN n = lkGo n.nodes n.pow none n.lk n.mg := by rw [chkN, if_neg hb, if_neg (by rw [hpe]; decide), if_neg hb4, if_neg h128, if_neg (by rw [hml]; simp)]
    try simp only [go_sem, simprocAttr, hF, b3]
    repeat (first
     | (with_reducible (first | refine sg0 ?_ | refine hw0 ?_ | refine se0 ?_ | refine ai0 ?_ | refine as0 ?_ | refine at0 ?_ | refine ax0 ?_); simp only [go_sem, simprocAttr, hF, b3, h1, h2])
     | with_reducible (first | refine aq0 fun _ _ => ?_ | refine ar0 [] ?_ | refine ab0 ?_)
     | go_step)
    refine awp_loop_by (ι := {k : Nat // k ≤ n.lk.length ∧ lkGo n.nodes n.pow none n.lk n.mg = lkGo n.nodes n.pow (if k = 0 then none else n.lk[k - 1]?) (n.lk.drop k) (n.mg.drop k)}) (fun k σ => ⟨(4, iv (k.1 : Int)) :: keepS [1, 2] σ.slot, σ.box, [], σ.ext⟩) (fun k => n.lk.length - k.1) ⟨0, by omega, rfl⟩ (sub_mk ?_) (fun R hR k => ?_)
    · simp only [go_sem, simprocAttr, hF]
      repeat' (first | rfl | refine ⟨?_, ?_⟩)
    obtain ⟨k, hk, hT⟩ := k
    dsimp only
    simp only [go_sem, simprocAttr, hF]
    by_cases hlt : k < n.lk.length
    case neg =>
     have hd : decide ((k : Int) < (n.lk.length : Int)) = false := decide_eq_false (by omega)
     repeat (first
      | (with_reducible (first | refine sg0 ?_ | refine hw0 ?_ | refine se0 ?_ | refine ai0 ?_ | refine as0 ?_ | refine at0 ?_ | refine ax0 ?_); simp only [go_sem, simprocAttr, hF, hd])
      | with_reducible (first | refine aq0 fun _ _ => ?_ | refine ar0 [] ?_ | refine ab0 ?_)
      | go_step)
     rw [hC, hT, List.drop_of_length_le (by omega), lkGo]
    obtain ⟨d, hdk⟩ := get_of_lt hlt
    obtain ⟨m, hmk⟩ := get_of_lt (l := n.mg) (k := k) (by omega)
    have hd : decide ((k : Int) < (n.lk.length : Int)) = true := decide_eq_true (by omega)
    have hw : IntKind.i64.wrap ((k : Int) + 1) = ((k + 1 : Nat) : Int) := by rw [IntKind.wrap_i64]; omega
    obtain ⟨E, hE⟩ : ∃ E, E = lkE n.nodes n.pow (if k = 0 then none else n.lk[k - 1]?) d m := ⟨_, rfl⟩
    have hlk := link_ok n k d m hp hk' hdk hmk hpe hn
    rw [← hE] at hlk
    have hT' : lkGo n.nodes n.pow none n.lk n.mg = if E = 0 then lkGo n.nodes n.pow (some d) (n.lk.drop (k + 1)) (n.mg.drop (k + 1)) else E := by
     rw [hT, drop_of_get hdk, drop_of_get hmk, lkGo, hE]
     rfl
    repeat (first
     | (with_reducible (first | refine sg0 ?_ | refine hw0 ?_ | refine se0 ?_ | refine ai0 ?_ | refine as0 ?_ | refine at0 ?_ | refine ax0 ?_); simp only [go_sem, simprocAttr, hF, hd])
     | with_reducible (first | refine aq0 fun _ _ => ?_ | refine ar0 [] ?_ | refine ab0 ?_)
     | go_step)
    refine ⟨_, hlk, ?_⟩
    simp only [go_sem, simprocAttr, hF]
    by_cases h0 : E = 0
    case neg =>
     have h1 : (E != 0) = true := by simpa using h0
     try simp only [go_sem, simprocAttr, hF, h1]
     repeat (first
      | (with_reducible (first | refine sg0 ?_ | refine hw0 ?_ | refine se0 ?_ | refine ai0 ?_ | refine as0 ?_ | refine at0 ?_ | refine ax0 ?_); simp only [go_sem, simprocAttr, hF, h1])
      | with_reducible (first | refine aq0 fun _ _ => ?_ | refine ar0 [] ?_ | refine ab0 ?_)
      | go_step)
     rw [hC, hT', if_neg h0]
    have h1 : (E != 0) = false := by simpa using h0
    try simp only [go_sem, simprocAttr, hF, h1]
    repeat (first
     | (with_reducible (first | refine sg0 ?_ | refine hw0 ?_ | refine se0 ?_ | refine ai0 ?_ | refine as0 ?_ | refine at0 ?_ | refine ax0 ?_); simp only [go_sem, simprocAttr, hF, h1])
     | with_reducible (first | refine aq0 fun _ _ => ?_ | refine ar0 [] ?_ | refine ab0 ?_)
     | go_step)
    refine ⟨⟨k + 1, by omega, by rw [hT', if_pos h0, if_neg (by omega), Nat.add_sub_cancel, hdk]⟩, by dsimp only; omega, hR _ _ (sub_mk ?_)⟩
    simp only [go_sem, simprocAttr, hF, hw]
end Go.Proofs.YticnppnejafhdaaGreatDoor

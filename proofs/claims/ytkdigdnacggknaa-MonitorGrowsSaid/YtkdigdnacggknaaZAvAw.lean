import Derived.Test.YtkdigdnacggknaaZAvSo
import Derived.Test.YtkdigdnacggknaaZAvEq
import Derived.Test.YtkdigdnacggknaaZAvJ
/- By abstract states: the example that every law of the monitor checks. -/
namespace Go.Proofs.Ytkdigdnacggknaa
open Go.RowKit
open Nd Rc Mo
open Av
set_option maxRecDepth 100000
set_option linter.unusedSimpArgs false
attribute [local go_sem] Av.guardB Av.sop Av.hopx Av.hop Av.hopCall Av.hopF Av.hopB Av.evo Av.evos Av.avCells Av.loadK Av.bound Av.abin Av.aun Av.partsC Av.lfill Av.placesB Av.setAt Av.stl Av.takes Av.src Av.bxOf Av.ownOf Av.St.res Av.St.put Av.St.addBox Av.St.putOwn Av.delL Av.delS Av.look Av.lookL Av.storeSt Av.stealSt Av.St.setBox Av.keepL Av.hitB Av.snap Av.snaps Av.snapCaps Av.AV.lit Av.AV.refs Av.capRefs Av.PV.av Av.CV.av Av.startSt Av.steals Av.athen Av.ablock Av.appK Av.AllS Av.AllO Av.AllR Av.keepS Av.St.avAt Av.RetOK Av.retAll Av.retOne Av.intsOf Av.ptrB Av.appB Av.appSt TypeDesc.isRow List.range_zero Option.some.injEq exists_eq_left' exists_eq_left exists_eq' exists_and_left exists_and_right exists_const true_and and_true and_self false_and and_false or_false false_or or_true true_or if_true if_false Bool.false_eq_true List.zipIdx_cons List.zipIdx_nil List.map_cons List.map_nil List.filter_cons List.filter_nil List.contains_cons List.contains_nil List.drop_succ_cons List.drop_zero List.take_succ_cons List.take_zero List.take_nil List.drop_nil List.length_cons List.length_nil List.cons_append List.nil_append List.append_nil List.getElem?_cons_zero List.getElem?_cons_succ List.getElem?_nil Option.bind_some Option.bind_none Option.map_some Option.map_none Option.isNone_none Option.isNone_some Option.isSome_some Option.isSome_none Bool.and_true Bool.true_and Bool.and_false Bool.false_and Bool.or_false Bool.false_or Bool.not_true Bool.not_false beq_true beq_false Bool.true_beq Bool.false_beq Loc.s.injEq Loc.b.injEq decide_true decide_false beq_self_eq_true Nat.zero_add Nat.add_zero List.getElem?_toArray List.toList_toArray List.size_toArray Value.oneCell' List.all_cons List.all_nil Value.int.injEq AV.v.injEq AV.sl.injEq AV.agg.injEq AV.ref.injEq AV.ept.injEq AV.tup.injEq Value.bool.injEq PV.v.injEq PV.sl.injEq List.isEmpty_nil List.isEmpty_cons forall_const not_true_eq_false not_false_eq_true true_implies false_implies Value.string.injEq List.length_map List.getElem?_map Int.toNat_natCast Int.natCast_nonneg List.length_append Value.cells implies_true TypeDesc.struct.injEq TypeDesc.slice.injEq TypeDesc.array.injEq List.getElem?_toArray Prod.mk.injEq and_assoc exists_false List.cons.injEq Operand.tmp.injEq ite_self AV.fnv.injEq AV.clo.injEq Try.sz3 Try.zr3 Try.by3 Try.pl3 Try.is3 Try.underlying3 Try.sz4 Try.zr4 Try.by4 Try.pl4 Try.is4 Try.underlying4 Try.sz32 Try.zr32 Try.by32 Try.pl32 Try.is32 Try.underlying32 Try.sz28 Try.zr28 Try.by28 Try.pl28 Try.is28 Try.underlying28 Try.sz26 Try.zr26 Try.by26 Try.pl26 Try.is26 Try.underlying26 Try.sz37 Try.zr37 Try.by37 Try.pl37 Try.is37 Try.underlying37 Try.sz68 Try.zr68 Try.by68 Try.pl68 Try.is68 Try.underlying68 Try.sz57 Try.zr57 Try.by57 Try.pl57 Try.is57 Try.underlying57 Try.sz70 Try.zr70 Try.by70 Try.pl70 Try.is70 Try.underlying70 Try.sz54 Try.zr54 Try.by54 Try.pl54 Try.is54 Try.underlying54 Try.sz66 Try.zr66 Try.by66 Try.pl66 Try.is66 Try.underlying66 Try.sz64 Try.zr64 Try.by64 Try.pl64 Try.is64 Try.underlying64 Try.sz73 Try.zr73 Try.by73 Try.pl73 Try.is73 Try.underlying73 Try.sz102 Try.zr102 Try.by102 Try.pl102 Try.is102 Try.underlying102 Try.sz105 Try.zr105 Try.by105 Try.pl105 Try.is105 Try.underlying105 Try.sz44 Try.zr44 Try.by44 Try.pl44 Try.is44 Try.underlying44 Try.sz22 Try.zr22 Try.by22 Try.pl22 Try.is22 Try.underlying22 Try.sz31 Try.zr31 Try.by31 Try.pl31 Try.is31 Try.underlying31 Try.sz23 Try.zr23 Try.by23 Try.pl23 Try.is23 Try.underlying23 Try.sz24 Try.zr24 Try.by24 Try.pl24 Try.is24 Try.underlying24 Try.sz46 Try.zr46 Try.by46 Try.pl46 Try.is46 Try.underlying46 Try.sz41 Try.zr41 Try.by41 Try.pl41 Try.is41 Try.underlying41 Try.sz42 Try.zr42 Try.by42 Try.pl42 Try.is42 Try.underlying42 Try.sz40 Try.zr40 Try.by40 Try.pl40 Try.is40 Try.underlying40 Try.it68 Try.eg68 Try.it54 Try.eg54 Try.it66 Try.eg66 Try.it57 Try.eg57 Try.it37 Try.eg37 Try.it73 Try.eg73 all_arr loc_ss loc_sb loc_bs loc_bb arr_two arr_one rg1 rg2 rg3 rg4 rg5 rg6 rg7 rg8 ResultVar.tmp.injEq Bool.not_true Bool.not_false undef Rc.Rec.pv Nd.Fl.pv Rc.Dlv.pv Rc.Att.pv Mo.Lt.pv Mo.Sv.pv Br.pv
open Go.Maps

/-- What stands for a list may be nil where the list is empty. -/
inductive PVLe : PV → PV → Prop
  | refl (p : PV) : PVLe p p
  | nil (sz : Nat) : PVLe (.v (.slice none 0 0)) (.sl sz [])
inductive PVsLe : List PV → List PV → Prop
  | nil : PVsLe [] []
  | cons {x y : PV} {xs ys : List PV} (h : PVLe x y) (t : PVsLe xs ys) : PVsLe (x :: xs) (y :: ys)
inductive AVLe : AV → AV → Prop
  | refl (x : AV) : AVLe x x
  | nil (sz : Nat) : AVLe (.v (.slice none 0 0)) (.sl sz [])
  | agg {xs ys : List PV} (h : PVsLe xs ys) : AVLe (.agg xs) (.agg ys)
inductive AVsLe : List AV → List AV → Prop
  | nil : AVsLe [] []
  | cons {x y : AV} {xs ys : List AV} (h : AVLe x y) (t : AVsLe xs ys) : AVsLe (x :: xs) (y :: ys)
theorem rep_nilS {R : Reader} {sz : Nat} : RepP R (.sl sz []) (.slice none 0 0) := .sl sz [] none 0 (fun _ _ => undef) (fun k row hk => by cases hk) (.inl rfl) (fun k row j p hk => by cases hk) (Nat.le_refl _)
theorem PVLe.rep {R : Reader} {x y : PV} {u : Value} (h : PVLe x y) (hr : RepP R x u) : RepP R y u := by
  cases h with
  | refl => exact hr
  | nil sz => cases hr; exact rep_nilS
theorem PVsLe.rep {R : Reader} {xs ys : List PV} (h : PVsLe xs ys) : ∀ {us : List Value}, RepL R xs us → RepL R ys us := by
  induction h with
  | nil => exact fun h => h
  | cons h t ih =>
    intro us hr
    cases hr with | cons g0 g1 => exact .cons (h.rep g0) (ih g1)
theorem AVLe.rep {R : Reader} {bx : Nat → Nat} {x y : AV} {u : Value} (h : AVLe x y) (hr : RepA R bx x u) : RepA R bx y u := by
  cases h with
  | refl => exact hr
  | nil sz => cases hr; exact rep_nilS
  | agg h =>
    obtain ⟨vs, e, hv⟩ := hr
    exact ⟨vs, e, h.rep hv⟩
theorem AVLe.refs {x y : AV} (h : AVLe x y) (hr : x.refs = []) : y.refs = [] := by
  cases h with
  | refl => exact hr
  | nil sz => rfl
  | agg h => rfl
theorem fnOK_le {P : Program} {f : FuncId} {args args' : List AV} {res : FRes} (h : FnOK P f args' res) (hl : AVsLe args args') : FnOK P f args res :=
  ⟨h.1, fun w R hR us hus => h.2 w R hR us (by
    clear h hR
    induction hl generalizing us with
    | nil => exact hus
    | cons h t ih =>
      cases hus with
      | cons g0 g1 g2 => exact .cons (h.rep g0) (h.refs g1) (ih _ g2))⟩
theorem cast1 : ((1 : Nat) : Int) = 1 := rfl
theorem tn0 : Int.toNat 0 = 0 := rfl
theorem eq3 : (([6, 0, 5] : List Int) == [6, 0, 5]) = true := rfl
theorem eq6 : (([1, 0, 5, 5, 0, 0] : List Int) == [1, 0, 5, 5, 0, 0]) = true := rfl
theorem eq2 : decide (([1, 2] : List Int) = [1, 2]) = true := rfl
theorem cast3 : ((3 : Nat) : Int) = 3 := rfl
def n0 : Net := ⟨2, 1, 1000, [[0, 9], [9, 0]], [⟨1, 0, 1⟩], [5]⟩
def f0 : Fl := ⟨6, 1, 0, 8, 0, 5⟩
def at1 (j : Nat) : Att := ⟨((j + 1 : Nat) : Int), 0, ((j + 1 : Nat) : Int), 0, 1, 0, 6, 3⟩
def r0 : Rec := ⟨5, (List.range 3).map at1, []⟩
def rl0 : Rec := ⟨6, [], [⟨6, 0, 5⟩]⟩
def rs0 : Rec := ⟨5, [], [⟨6, 0, 4⟩]⟩
def rt0 : Rec := ⟨9, [], [⟨1, 0, 0⟩, ⟨1, 0, 8⟩]⟩
theorem aw_late : late [f0] rl0 = ([⟨6, 0, 5⟩], 0) := by decide
theorem aw_serve : Mo.serve [f0] rs0 6 = (⟨1, 0, 0, 0, 5, 5⟩, 0) := by decide
theorem aw_twice : (twice rt0).1.length = 1 ∧ (twice rt0).2 = 0 := by decide
theorem aw_stray : (stray [] r0).1.length = 3 ∧ (stray [] r0).2 = 0 := by decide
theorem aw_breaches : breachesP n0 r0 = ([⟨6, 0, 1, 0, [1, 2]⟩], 0) := by decide
theorem aw_one : (brAll n0.lk r0.al).length ≤ 1 := by decide

set_option maxHeartbeats 2000000 in
theorem awake_ok  : FnOK Try.prog 9 [] ⟨bv true, none⟩ := by
  refine fn_ok Try.func9 (by kernel_rfl) rfl (by rw [Try.ntmps9]; exact of_decide_eq_true rfl) (fun F hF => ?_)
  rw [Try.ntmps9] at hF
  rw [Try.results9]
  repeat (first
    | ((first | with_reducible refine sops_go ?_ | with_reducible refine headW_end ?_ | with_reducible refine sops_end ?_ | with_reducible refine awp_if ?_ | with_reducible refine awp_skip ?_ | with_reducible refine awp_ret ?_ | with_reducible refine awp_exit ?_); simp only [go_sem, ↓reduceIte, Nat.reduceEqDiff, Nat.reduceLT, Nat.reduceLeDiff, Nat.reduceAdd, Nat.reduceMul, Nat.reduceSub, Nat.reduceBEq, reduceCtorEq, Int.reduceBNe, Int.reduceBEq, Int.reduceLT, Int.reduceLE, Int.reduceGT, Int.reduceGE, ne_eq, eq_self, hF])
    | (with_reducible refine awp_seq_k (fun _ _ => ?_))
    | (with_reducible refine awp_region [49] ?_)
    | (with_reducible refine awp_block ?_)
    | go_step)
  refine ⟨_, fnOK_le (late_ok [f0] rl0 (by decide) (by decide) (by decide)) (.cons (.refl _) (.cons (.agg (.cons (.refl _) (.cons (.nil 8) (.cons (.refl _) .nil)))) .nil)), ?_⟩
  simp only [go_sem, ↓reduceIte, Nat.reduceEqDiff, Nat.reduceLT, Nat.reduceLeDiff, Nat.reduceAdd, Nat.reduceMul, Nat.reduceSub, Nat.reduceBEq, reduceCtorEq, Int.reduceBNe, Int.reduceBEq, Int.reduceLT, Int.reduceLE, Int.reduceGT, Int.reduceGE, ne_eq, eq_self, hF, aw_late]
  repeat (first
    | ((first | with_reducible refine sops_go ?_ | with_reducible refine headW_end ?_ | with_reducible refine sops_end ?_ | with_reducible refine awp_if ?_ | with_reducible refine awp_skip ?_ | with_reducible refine awp_ret ?_ | with_reducible refine awp_exit ?_); simp only [go_sem, ↓reduceIte, Nat.reduceEqDiff, Nat.reduceLT, Nat.reduceLeDiff, Nat.reduceAdd, Nat.reduceMul, Nat.reduceSub, Nat.reduceBEq, reduceCtorEq, Int.reduceBNe, Int.reduceBEq, Int.reduceLT, Int.reduceLE, Int.reduceGT, Int.reduceGE, ne_eq, eq_self, hF])
    | (with_reducible refine awp_seq_k (fun _ _ => ?_))
    | (with_reducible refine awp_region [49] ?_)
    | (with_reducible refine awp_block ?_)
    | go_step)
  refine ⟨_, fnOK_le (serve_ok [f0] rs0 6 (by decide) (by decide) (by decide)) (.cons (.refl _) (.cons (.agg (.cons (.refl _) (.cons (.nil 8) (.cons (.refl _) .nil)))) (.cons (.refl _) .nil))), ?_⟩
  simp only [go_sem, ↓reduceIte, Nat.reduceEqDiff, Nat.reduceLT, Nat.reduceLeDiff, Nat.reduceAdd, Nat.reduceMul, Nat.reduceSub, Nat.reduceBEq, reduceCtorEq, Int.reduceBNe, Int.reduceBEq, Int.reduceLT, Int.reduceLE, Int.reduceGT, Int.reduceGE, ne_eq, eq_self, hF, aw_serve]
  repeat (first
    | ((first | with_reducible refine sops_go ?_ | with_reducible refine headW_end ?_ | with_reducible refine sops_end ?_ | with_reducible refine awp_if ?_ | with_reducible refine awp_skip ?_ | with_reducible refine awp_ret ?_ | with_reducible refine awp_exit ?_); simp only [go_sem, ↓reduceIte, Nat.reduceEqDiff, Nat.reduceLT, Nat.reduceLeDiff, Nat.reduceAdd, Nat.reduceMul, Nat.reduceSub, Nat.reduceBEq, reduceCtorEq, Int.reduceBNe, Int.reduceBEq, Int.reduceLT, Int.reduceLE, Int.reduceGT, Int.reduceGE, ne_eq, eq_self, hF])
    | (with_reducible refine awp_seq_k (fun _ _ => ?_))
    | (with_reducible refine awp_region [49] ?_)
    | (with_reducible refine awp_block ?_)
    | go_step)
  refine awp_nilB 7 1 8 66 rfl rfl ?_
  simp only [go_sem, ↓reduceIte, Nat.reduceEqDiff, Nat.reduceLT, Nat.reduceLeDiff, Nat.reduceAdd, Nat.reduceMul, Nat.reduceSub, Nat.reduceBEq, reduceCtorEq, Int.reduceBNe, Int.reduceBEq, Int.reduceLT, Int.reduceLE, Int.reduceGT, Int.reduceGE, ne_eq, eq_self, hF]
  repeat (first
    | ((first | with_reducible refine sops_go ?_ | with_reducible refine headW_end ?_ | with_reducible refine sops_end ?_ | with_reducible refine awp_if ?_ | with_reducible refine awp_skip ?_ | with_reducible refine awp_ret ?_ | with_reducible refine awp_exit ?_); simp only [go_sem, ↓reduceIte, Nat.reduceEqDiff, Nat.reduceLT, Nat.reduceLeDiff, Nat.reduceAdd, Nat.reduceMul, Nat.reduceSub, Nat.reduceBEq, reduceCtorEq, Int.reduceBNe, Int.reduceBEq, Int.reduceLT, Int.reduceLE, Int.reduceGT, Int.reduceGE, ne_eq, eq_self, hF])
    | (with_reducible refine awp_seq_k (fun _ _ => ?_))
    | (with_reducible refine awp_region [49] ?_)
    | (with_reducible refine awp_block ?_)
    | go_step)
  refine awp_loop_by (ι := {j : Nat // j ≤ 3}) (fun j σ => ⟨(8, iv ((j.1 + 1 : Nat) : Int)) :: keepS [0, 1, 2, 3, 4, 5, 6, 7] σ.slot, (7, [ip 5, .sl 8 (((List.range j.1).map at1).map Att.pv), .v (.slice none 0 0)]) :: [(2, [ip 2, .sl 1 [[.sl 1 [[ip 0], [ip 9]]], [.sl 1 [[ip 9], [ip 0]]]], ip 1, ip 1000, .sl 3 [[ip 1, ip 0, ip 1]], .sl 1 [[ip 5]]]), (5, [ip 1, ip 0, ip 5, ip 5, ip 0, ip 0])], [(.b 7 1, (66, 8))], σ.ext⟩) (fun j => 3 - j.1) ⟨0, by omega⟩ (sub_mk ?_) (fun R hR j => ?_)
  · simp only [go_sem, ↓reduceIte, Nat.reduceEqDiff, Nat.reduceLT, Nat.reduceLeDiff, Nat.reduceAdd, Nat.reduceMul, Nat.reduceSub, Nat.reduceBEq, reduceCtorEq, Int.reduceBNe, Int.reduceBEq, Int.reduceLT, Int.reduceLE, Int.reduceGT, Int.reduceGE, ne_eq, eq_self, hF]
    repeat' (first | rfl | refine ⟨?_, ?_⟩)
  obtain ⟨j, hj⟩ := j
  dsimp only
  simp only [go_sem, ↓reduceIte, Nat.reduceEqDiff, Nat.reduceLT, Nat.reduceLeDiff, Nat.reduceAdd, Nat.reduceMul, Nat.reduceSub, Nat.reduceBEq, reduceCtorEq, Int.reduceBNe, Int.reduceBEq, Int.reduceLT, Int.reduceLE, Int.reduceGT, Int.reduceGE, ne_eq, eq_self, hF]
  by_cases hlt : j < 3
  case neg =>
    have hd : decide (((j + 1 : Nat) : Int) < (4 : Int)) = false := decide_eq_false (by omega)
    obtain rfl : j = 3 := by omega
    repeat (first
      | ((first | with_reducible refine sops_go ?_ | with_reducible refine headW_end ?_ | with_reducible refine sops_end ?_ | with_reducible refine awp_if ?_ | with_reducible refine awp_skip ?_ | with_reducible refine awp_ret ?_ | with_reducible refine awp_exit ?_); simp only [go_sem, ↓reduceIte, Nat.reduceEqDiff, Nat.reduceLT, Nat.reduceLeDiff, Nat.reduceAdd, Nat.reduceMul, Nat.reduceSub, Nat.reduceBEq, reduceCtorEq, Int.reduceBNe, Int.reduceBEq, Int.reduceLT, Int.reduceLE, Int.reduceGT, Int.reduceGE, ne_eq, eq_self, hF, hd])
      | (with_reducible refine awp_seq_k (fun _ _ => ?_))
      | (with_reducible refine awp_region [49] ?_)
      | (with_reducible refine awp_block ?_)
      | go_step)
    refine ⟨_, fnOK_le (breaches1_ok n0 r0 (by decide) (by decide) (by decide) (by decide) (by decide) (by decide) aw_one) (.cons (.refl _) (.cons (.agg (.cons (.refl _) (.cons (.refl _) (.cons (.nil 3) .nil)))) .nil)), ?_⟩
    simp only [go_sem, ↓reduceIte, Nat.reduceEqDiff, Nat.reduceLT, Nat.reduceLeDiff, Nat.reduceAdd, Nat.reduceMul, Nat.reduceSub, Nat.reduceBEq, reduceCtorEq, Int.reduceBNe, Int.reduceBEq, Int.reduceLT, Int.reduceLE, Int.reduceGT, Int.reduceGE, ne_eq, eq_self, hF, aw_breaches]
    repeat (first
      | ((first | with_reducible refine sops_go ?_ | with_reducible refine headW_end ?_ | with_reducible refine sops_end ?_ | with_reducible refine awp_if ?_ | with_reducible refine awp_skip ?_ | with_reducible refine awp_ret ?_ | with_reducible refine awp_exit ?_); simp only [go_sem, ↓reduceIte, Nat.reduceEqDiff, Nat.reduceLT, Nat.reduceLeDiff, Nat.reduceAdd, Nat.reduceMul, Nat.reduceSub, Nat.reduceBEq, reduceCtorEq, Int.reduceBNe, Int.reduceBEq, Int.reduceLT, Int.reduceLE, Int.reduceGT, Int.reduceGE, ne_eq, eq_self, hF])
      | (with_reducible refine awp_seq_k (fun _ _ => ?_))
      | (with_reducible refine awp_region [49] ?_)
      | (with_reducible refine awp_block ?_)
      | go_step)
    refine ⟨_, fnOK_le (twice_ok rt0 (by decide) (by decide)) (.cons (.agg (.cons (.refl _) (.cons (.nil 8) (.cons (.refl _) .nil)))) .nil), ?_⟩
    simp only [go_sem, ↓reduceIte, Nat.reduceEqDiff, Nat.reduceLT, Nat.reduceLeDiff, Nat.reduceAdd, Nat.reduceMul, Nat.reduceSub, Nat.reduceBEq, reduceCtorEq, Int.reduceBNe, Int.reduceBEq, Int.reduceLT, Int.reduceLE, Int.reduceGT, Int.reduceGE, ne_eq, eq_self, hF]
    repeat (first
      | ((first | with_reducible refine sops_go ?_ | with_reducible refine headW_end ?_ | with_reducible refine sops_end ?_ | with_reducible refine awp_if ?_ | with_reducible refine awp_skip ?_ | with_reducible refine awp_ret ?_ | with_reducible refine awp_exit ?_); simp only [go_sem, ↓reduceIte, Nat.reduceEqDiff, Nat.reduceLT, Nat.reduceLeDiff, Nat.reduceAdd, Nat.reduceMul, Nat.reduceSub, Nat.reduceBEq, reduceCtorEq, Int.reduceBNe, Int.reduceBEq, Int.reduceLT, Int.reduceLE, Int.reduceGT, Int.reduceGE, ne_eq, eq_self, hF])
      | (with_reducible refine awp_seq_k (fun _ _ => ?_))
      | (with_reducible refine awp_region [49] ?_)
      | (with_reducible refine awp_block ?_)
      | go_step)
    refine ⟨_, fnOK_le (stray_ok [] r0 (by decide) (by decide) (by decide)) (.cons (.nil 6) (.cons (.agg (.cons (.refl _) (.cons (.refl _) (.cons (.nil 3) .nil)))) .nil)), ?_⟩
    simp only [go_sem, ↓reduceIte, Nat.reduceEqDiff, Nat.reduceLT, Nat.reduceLeDiff, Nat.reduceAdd, Nat.reduceMul, Nat.reduceSub, Nat.reduceBEq, reduceCtorEq, Int.reduceBNe, Int.reduceBEq, Int.reduceLT, Int.reduceLE, Int.reduceGT, Int.reduceGE, ne_eq, eq_self, hF]
    have ht1 := aw_twice.1
    have ht2 := aw_twice.2
    have ht3 := aw_stray.1
    have ht4 := aw_stray.2
    try simp only [go_sem, ↓reduceIte, Nat.reduceEqDiff, Nat.reduceLT, Nat.reduceLeDiff, Nat.reduceAdd, Nat.reduceMul, Nat.reduceSub, Nat.reduceBEq, reduceCtorEq, Int.reduceBNe, Int.reduceBEq, Int.reduceLT, Int.reduceLE, Int.reduceGT, Int.reduceGE, ne_eq, eq_self, hF, ht1, ht2, ht3, ht4, cast1, cast3, tn0, eq3, eq6, eq2]
    repeat (first
      | ((first | with_reducible refine sops_go ?_ | with_reducible refine headW_end ?_ | with_reducible refine sops_end ?_ | with_reducible refine awp_if ?_ | with_reducible refine awp_skip ?_ | with_reducible refine awp_ret ?_ | with_reducible refine awp_exit ?_); simp only [go_sem, ↓reduceIte, Nat.reduceEqDiff, Nat.reduceLT, Nat.reduceLeDiff, Nat.reduceAdd, Nat.reduceMul, Nat.reduceSub, Nat.reduceBEq, reduceCtorEq, Int.reduceBNe, Int.reduceBEq, Int.reduceLT, Int.reduceLE, Int.reduceGT, Int.reduceGE, ne_eq, eq_self, hF, ht1, ht2, ht3, ht4, cast1, cast3, tn0, eq3, eq6, eq2])
      | (with_reducible refine awp_seq_k (fun _ _ => ?_))
      | (with_reducible refine awp_region [49] ?_)
      | (with_reducible refine awp_block ?_)
      | go_step)
    refine ⟨_, eqI_ok [1, 2] [1, 2] (by decide), ?_⟩
    simp only [go_sem, ↓reduceIte, Nat.reduceEqDiff, Nat.reduceLT, Nat.reduceLeDiff, Nat.reduceAdd, Nat.reduceMul, Nat.reduceSub, Nat.reduceBEq, reduceCtorEq, Int.reduceBNe, Int.reduceBEq, Int.reduceLT, Int.reduceLE, Int.reduceGT, Int.reduceGE, ne_eq, eq_self, hF, ht1, ht2, ht3, ht4, cast1, cast3, tn0, eq3, eq6, eq2]
    repeat (first
      | ((first | with_reducible refine sops_go ?_ | with_reducible refine headW_end ?_ | with_reducible refine sops_end ?_ | with_reducible refine awp_if ?_ | with_reducible refine awp_skip ?_ | with_reducible refine awp_ret ?_ | with_reducible refine awp_exit ?_); simp only [go_sem, ↓reduceIte, Nat.reduceEqDiff, Nat.reduceLT, Nat.reduceLeDiff, Nat.reduceAdd, Nat.reduceMul, Nat.reduceSub, Nat.reduceBEq, reduceCtorEq, Int.reduceBNe, Int.reduceBEq, Int.reduceLT, Int.reduceLE, Int.reduceGT, Int.reduceGE, ne_eq, eq_self, hF, ht1, ht2, ht3, ht4, cast1, cast3, tn0, eq3, eq6, eq2])
      | (with_reducible refine awp_seq_k (fun _ _ => ?_))
      | (with_reducible refine awp_region [49] ?_)
      | (with_reducible refine awp_block ?_)
      | go_step)
  have hd : decide (((j + 1 : Nat) : Int) < (4 : Int)) = true := decide_eq_true (by omega)
  have hw : IntKind.i64.wrap (((j + 1 : Nat) : Int) + 1) = ((j + 1 + 1 : Nat) : Int) := by rw [IntKind.wrap_i64]; omega
  have hrl : (List.range j).length ≤ 99999999 := by rw [List.length_range]; omega
  repeat (first
    | ((first | with_reducible refine sops_go ?_ | with_reducible refine headW_end ?_ | with_reducible refine sops_end ?_ | with_reducible refine awp_if ?_ | with_reducible refine awp_skip ?_ | with_reducible refine awp_ret ?_ | with_reducible refine awp_exit ?_); simp only [go_sem, ↓reduceIte, Nat.reduceEqDiff, Nat.reduceLT, Nat.reduceLeDiff, Nat.reduceAdd, Nat.reduceMul, Nat.reduceSub, Nat.reduceBEq, reduceCtorEq, Int.reduceBNe, Int.reduceBEq, Int.reduceLT, Int.reduceLE, Int.reduceGT, Int.reduceGE, ne_eq, eq_self, hF, hd, hrl])
    | (with_reducible refine awp_seq_k (fun _ _ => ?_))
    | (with_reducible refine awp_region [49] ?_)
    | (with_reducible refine awp_block ?_)
    | go_step)
  refine ⟨⟨j + 1, by omega⟩, by dsimp only; omega, hR _ _ (sub_mk ?_)⟩
  simp only [go_sem, ↓reduceIte, Nat.reduceEqDiff, Nat.reduceLT, Nat.reduceLeDiff, Nat.reduceAdd, Nat.reduceMul, Nat.reduceSub, Nat.reduceBEq, reduceCtorEq, Int.reduceBNe, Int.reduceBEq, Int.reduceLT, Int.reduceLE, Int.reduceGT, Int.reduceGE, ne_eq, eq_self, hF, hw, List.range_succ, List.map_append, at1]
end Go.Proofs.Ytkdigdnacggknaa

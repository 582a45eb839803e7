import Derived.Lib.LaidTab
import Derived.Shelf.LaysM
import Derived.Shelf.Strings.OnBuilder
import Derived.Shelf.Strconv.Itoa3
import Derived.Lib.ItoaLen
import Derived.Lib.Join
import Derived.Test.YticnppnejafhdaaGreatDoorZ7
import Derived.Test.YticnppnejafhdaaGreatDoorProg
/- Searching a link, by abstract states. -/
namespace Go.Proofs.YticnppnejafhdaaGreatDoor
open Go.RowKit
open Nd Rc Mo
open Av
set_option maxRecDepth 100000
set_option linter.unusedSimpArgs false
attribute [local go_sem] Av.guardB Av.sop Av.hopx Av.hop Av.hopCall Av.hopF Av.hopB Av.evo Av.evos Av.avCells Av.loadK Av.bound Av.abin Av.aun Av.partsC Av.lfill Av.placesB Av.setAt Av.stl Av.takes Av.src Av.bxOf Av.ownOf Av.St.res Av.St.put Av.St.addBox Av.St.putOwn Av.delL Av.delS Av.look Av.lookL Av.storeSt Av.stealSt Av.St.setBox Av.keepL Av.hitB Av.snap Av.snaps Av.snapCaps Av.AV.lit Av.AV.refs Av.capRefs Av.PV.av Av.CV.av Av.startSt Av.steals Av.athen Av.ablock Av.appK Av.AllS Av.AllO Av.AllR Av.keepS Av.St.avAt Av.RetOK Av.retAll Av.retOne Av.intsOf Av.ptrB TypeDesc.isRow List.range_zero Option.some.injEq exists_eq_left' exists_eq_left exists_eq' exists_and_left exists_and_right exists_const true_and and_true and_self false_and and_false or_false false_or or_true true_or if_true if_false Bool.false_eq_true List.zipIdx_cons List.zipIdx_nil List.map_cons List.map_nil List.filter_cons List.filter_nil List.contains_cons List.contains_nil List.drop_succ_cons List.drop_zero List.take_succ_cons List.take_zero List.take_nil List.drop_nil List.length_cons List.length_nil List.cons_append List.nil_append List.append_nil List.getElem?_cons_zero List.getElem?_cons_succ List.getElem?_nil Option.bind_some Option.bind_none Option.map_some Option.map_none Option.isNone_none Option.isNone_some Option.isSome_some Option.isSome_none Bool.and_true Bool.true_and Bool.and_false Bool.false_and Bool.or_false Bool.false_or Bool.not_true Bool.not_false beq_true beq_false Bool.true_beq Bool.false_beq Loc.s.injEq Loc.b.injEq decide_true decide_false beq_self_eq_true Nat.zero_add Nat.add_zero List.getElem?_toArray List.toList_toArray List.size_toArray Value.oneCell' List.all_cons List.all_nil Value.int.injEq AV.v.injEq AV.sl.injEq AV.agg.injEq AV.ref.injEq AV.ept.injEq AV.tup.injEq Value.bool.injEq PV.v.injEq PV.sl.injEq List.isEmpty_nil List.isEmpty_cons forall_const not_true_eq_false not_false_eq_true true_implies false_implies Value.string.injEq List.length_map List.getElem?_map Int.toNat_natCast Int.natCast_nonneg List.length_append Value.cells implies_true TypeDesc.struct.injEq TypeDesc.slice.injEq TypeDesc.array.injEq List.getElem?_toArray Prod.mk.injEq and_assoc exists_false List.cons.injEq Operand.tmp.injEq ite_self AV.fnv.injEq AV.clo.injEq ne_eq eq_self Tryz.sz3 Tryz.zr3 Tryz.by3 Tryz.pl3 Tryz.is3 Tryz.underlying3 Tryz.sz4 Tryz.zr4 Tryz.by4 Tryz.pl4 Tryz.is4 Tryz.underlying4 Tryz.sz43 Tryz.zr43 Tryz.by43 Tryz.pl43 Tryz.is43 Tryz.underlying43 Tryz.sz35 Tryz.zr35 Tryz.by35 Tryz.pl35 Tryz.is35 Tryz.underlying35 Tryz.sz33 Tryz.zr33 Tryz.by33 Tryz.pl33 Tryz.is33 Tryz.underlying33 Tryz.sz28 Tryz.zr28 Tryz.by28 Tryz.pl28 Tryz.is28 Tryz.underlying28 Tryz.sz39 Tryz.zr39 Tryz.by39 Tryz.pl39 Tryz.is39 Tryz.underlying39 Tryz.sz57 Tryz.zr57 Tryz.by57 Tryz.pl57 Tryz.is57 Tryz.underlying57 Tryz.sz137 Tryz.zr137 Tryz.by137 Tryz.pl137 Tryz.is137 Tryz.underlying137 Tryz.sz66 Tryz.zr66 Tryz.by66 Tryz.pl66 Tryz.is66 Tryz.underlying66 Tryz.sz64 Tryz.zr64 Tryz.by64 Tryz.pl64 Tryz.is64 Tryz.underlying64 Tryz.sz60 Tryz.zr60 Tryz.by60 Tryz.pl60 Tryz.is60 Tryz.underlying60 Tryz.sz100 Tryz.zr100 Tryz.by100 Tryz.pl100 Tryz.is100 Tryz.underlying100 Tryz.sz103 Tryz.zr103 Tryz.by103 Tryz.pl103 Tryz.is103 Tryz.underlying103 Tryz.sz26 Tryz.zr26 Tryz.by26 Tryz.pl26 Tryz.is26 Tryz.underlying26 Tryz.sz120 Tryz.zr120 Tryz.by120 Tryz.pl120 Tryz.is120 Tryz.underlying120 Tryz.sz117 Tryz.zr117 Tryz.by117 Tryz.pl117 Tryz.is117 Tryz.underlying117 Tryz.sz30 Tryz.zr30 Tryz.by30 Tryz.pl30 Tryz.is30 Tryz.underlying30 Tryz.sz31 Tryz.zr31 Tryz.by31 Tryz.pl31 Tryz.is31 Tryz.underlying31 Tryz.sz40 Tryz.zr40 Tryz.by40 Tryz.pl40 Tryz.is40 Tryz.underlying40 Tryz.sz23 Tryz.zr23 Tryz.by23 Tryz.pl23 Tryz.is23 Tryz.underlying23 Tryz.sz24 Tryz.zr24 Tryz.by24 Tryz.pl24 Tryz.is24 Tryz.underlying24 Tryz.sz22 Tryz.zr22 Tryz.by22 Tryz.pl22 Tryz.is22 Tryz.underlying22 Tryz.sz141 Tryz.zr141 Tryz.by141 Tryz.pl141 Tryz.is141 Tryz.underlying141 Tryz.sz42 Tryz.zr42 Tryz.by42 Tryz.pl42 Tryz.is42 Tryz.underlying42 Tryz.sz29 Tryz.zr29 Tryz.by29 Tryz.pl29 Tryz.is29 Tryz.underlying29 Tryz.sz83 Tryz.zr83 Tryz.by83 Tryz.pl83 Tryz.is83 Tryz.underlying83 Tryz.it39 Tryz.eg39 Tryz.it137 Tryz.eg137 Tryz.it66 Tryz.eg66 Tryz.it28 Tryz.eg28 Tryz.it60 Tryz.eg60 all_arr loc_ss loc_sb loc_bs loc_bb arr_two arr_one rg1 rg2 rg3 rg4 rg5 rg6 rg7 rg8 ResultVar.tmp.injEq Bool.not_true Bool.not_false undef Rc.Rec.pv Nd.Fl.pv Rc.Dlv.pv Rc.Att.pv Mo.Lt.pv Fn.func.injEq Mo.Net.pv Mo.Lk.pv prow_pv irow_pv Br.pv
def ltL (a b : Int) (l : Lk) : Bool := decide (l.fr < a) || (l.fr == a && decide (l.tt < b))
theorem ltL_iff {a b : Int} {l : Lk} : ltL a b l = true ↔ l.fr < a ∨ (l.fr = a ∧ l.tt < b) := by
  unfold ltL
  rw [Bool.or_eq_true, Bool.and_eq_true, decide_eq_true_eq, decide_eq_true_eq, beq_iff_eq]
theorem lkP_iff {a b : Int} {l : Lk} : lkP a b l = true ↔ l.fr = a ∧ l.tt = b := by
  unfold lkP
  rw [Bool.and_eq_true, beq_iff_eq, beq_iff_eq]
theorem cmpI_lt {x y : Int} (h : x < y) : cmpI x y = -1 := if_pos h
theorem cmpI_gt {x y : Int} (h : y < x) : cmpI x y = 1 := by unfold cmpI; rw [if_neg (by omega), if_pos h]
theorem cmpI_eq (x : Int) : cmpI x x = 0 := by unfold cmpI; rw [if_neg (by omega), if_neg (by omega)]
theorem orI_lt (a b : Int) (l : Lk) : decide (orI [cmpI l.fr a, cmpI l.tt b] < 0) = ltL a b l ∧ (orI [cmpI l.fr a, cmpI l.tt b] == 0) = lkP a b l := by
  simp only [orI]
  unfold ltL lkP
  rcases Int.lt_trichotomy l.fr a with h | h | h
  · rw [cmpI_lt h]
    have : l.fr ≠ a := by omega
    simp [h, this]
  · subst h
    rw [cmpI_eq]
    rcases Int.lt_trichotomy l.tt b with h2 | h2 | h2
    · rw [cmpI_lt h2]
      have : l.tt ≠ b := by omega
      simp [h2, this]
    · subst h2
      rw [cmpI_eq]
      simp
    · rw [cmpI_gt h2]
      have h3 : l.tt ≠ b := by omega
      have h4 : ¬ l.tt < b := by omega
      simp [h3, h4]
  · rw [cmpI_gt h]
    have h3 : l.fr ≠ a := by omega
    have h4 : ¬ l.fr < a := by omega
    simp [h3, h4]
def LkSorted (l : List Lk) : Prop := l.Pairwise fun x y => ltL y.fr y.tt x = true
theorem lkE_zero {nodes : Int} {pow : List (List Int)} {p : Option Lk} {l : Lk} {m : Int} (h : lkE nodes pow p l m = 0) : lkB nodes l = true ∧ prevBadL p l = false ∧ 0 ≤ m ∧ m ≤ powAt pow l.fr l.tt := by
  unfold lkE at h
  split at h
  · cases h
  · rename_i h1
    split at h
    · cases h
    · rename_i h2
      split at h
      · cases h
      · rename_i h3
        exact ⟨by simpa using h1, by simpa using h2, by omega, by omega⟩
theorem lkGo_inv {nodes : Int} {pow : List (List Int)} : ∀ {l : List Lk} {ms : List Int} {p : Option Lk}, lkGo nodes pow p l ms = 0 → LkSorted l ∧ (∀ q, p = some q → ∀ x ∈ l, ltL x.fr x.tt q = true) ∧ (∀ x ∈ l, lkB nodes x = true) ∧ (∀ (i : Nat) (m : Int), i < l.length → ms[i]? = some m → 0 ≤ m ∧ ∃ a b, m ≤ powAt pow a b)
  | [], ms, p, _ => ⟨.nil, fun _ _ _ h => (by cases h), fun _ h => (by cases h), fun i m h => absurd h (Nat.not_lt_zero _)⟩
  | x :: l, ms, p, h => by
    unfold lkGo at h
    split at h
    · rename_i h0
      obtain ⟨h1, h2, h3, h4⟩ := lkE_zero h0
      obtain ⟨i1, i2, i3, i4⟩ := lkGo_inv h
      refine ⟨.cons (fun y hy => i2 x rfl y hy) i1, ?_, fun y hy => ?_, ?_⟩
      · rintro q rfl y hy
        unfold prevBadL at h2
        simp only [Bool.or_eq_false_iff, decide_eq_false_iff_not, Bool.and_eq_false_iff, beq_eq_false_iff_ne, ne_eq] at h2
        have hx : ltL x.fr x.tt q = true := by rw [ltL_iff]; omega
        rcases List.mem_cons.1 hy with rfl | hy
        · exact hx
        · have := i2 x rfl y hy
          rw [ltL_iff] at this hx ⊢
          omega
      · rcases List.mem_cons.1 hy with rfl | hy
        · exact h1
        · exact i3 y hy
      · intro i m hi hm
        cases i with
        | zero =>
          cases ms with
          | nil => cases hm
          | cons m0 ms =>
            simp only [List.getElem?_cons_zero, Option.some.injEq] at hm
            subst hm
            exact ⟨h3, _, _, h4⟩
        | succ i =>
          refine i4 i m (by simpa using hi) ?_
          cases ms with
          | nil => cases hm
          | cons m0 ms => simpa using hm
    · rename_i h0; exact absurd h h0
theorem powAt_le {nodes : Int} {pow : List (List Int)} (h : powE nodes pow = 0) (a b : Int) : powAt pow a b ≤ 68719476736 := by
  unfold powE at h
  split at h
  · cases h
  · split at h
    · cases h
    · rename_i h1
      unfold powAt
      rw [List.getD_eq_getElem?_getD, List.getD_eq_getElem?_getD]
      cases hr : pow[a.toNat]? with
      | none => simp
      | some r =>
        rw [Option.getD_some]
        cases hv : r[b.toNat]? with
        | none => simp
        | some v =>
          rw [Option.getD_some]
          by_cases hb : v ≤ 68719476736
          · exact hb
          · exfalso
            refine h1 (List.any_eq_true.2 ⟨r, List.mem_of_getElem? hr, List.any_eq_true.2 ⟨v, List.mem_of_getElem? hv, ?_⟩⟩)
            unfold outP
            simp only [Bool.or_eq_true, decide_eq_true_eq]
            omega
structure NetOK (n : Net) : Prop where
  nodes : 2 ≤ n.nodes ∧ n.nodes ≤ 32
  mg : n.mg.length = n.lk.length
  lk : n.lk.length ≤ 128
  noise : 0 ≤ n.noise ∧ n.noise ≤ 68719476736
  thr : 1000 ≤ n.thr ∧ n.thr ≤ 100000
  sorted : LkSorted n.lk
  lkb : ∀ x ∈ n.lk, lkB n.nodes x = true
  mgb : ∀ (i : Nat) (m : Int), n.mg[i]? = some m → 0 ≤ m ∧ m ≤ 68719476736
theorem netOK {n : Net} (h : chkN n = 0) : NetOK n := by
  unfold chkN at h
  split at h
  · cases h
  rename_i h1
  split at h
  · rename_i h2; exact absurd h h2
  rename_i h2
  split at h
  · cases h
  rename_i h3
  split at h
  · cases h
  rename_i h4
  split at h
  · cases h
  rename_i h5
  have hp : powE n.nodes n.pow = 0 := Classical.byContradiction h2
  obtain ⟨i1, _, i3, i4⟩ := lkGo_inv h
  have h3a : Nd.inB n.noise 0 68719476736 = true := by
    cases hq : Nd.inB n.noise 0 68719476736 with
    | true => rfl
    | false => exact absurd (.inl hq) h3
  have h3b : Nd.inB n.thr 1000 100000 = true := by
    cases hq : Nd.inB n.thr 1000 100000 with
    | true => rfl
    | false => exact absurd (.inr hq) h3
  simp only [Nd.inB, Bool.and_eq_true, decide_eq_true_eq] at h3a h3b
  refine ⟨by omega, Classical.byContradiction h5, by omega, h3a, h3b, i1, i3, fun i m hm => ?_⟩
  have hml : n.mg.length = n.lk.length := Classical.byContradiction h5
  obtain ⟨g1, a, b, g2⟩ := i4 i m (by rw [← hml]; exact (List.getElem?_eq_some_iff.1 hm).1) hm
  exact ⟨g1, Int.le_trans g2 (powAt_le hp a b)⟩
def bsN (l : List Lk) (a b : Int) : Nat := (l.takeWhile (ltL a b)).length
def bsB (l : List Lk) (a b : Int) : Bool := match l[bsN l a b]? with
  | some x => lkP a b x
  | none => false
theorem tw_len {p : Lk → Bool} : ∀ {l : List Lk} {i : Nat}, i ≤ l.length → (∀ k, k < i → ∀ x, l[k]? = some x → p x = true) → (∀ x, l[i]? = some x → p x = false) → (l.takeWhile p).length = i
  | [], i, hi, _, _ => by
    have : i = 0 := by simpa using hi
    subst this; rfl
  | y :: l, 0, _, _, h2 => by rw [List.takeWhile_cons_of_neg (by rw [h2 y rfl]; decide)]; rfl
  | y :: l, i + 1, hi, h1, h2 => by
    rw [List.takeWhile_cons_of_pos (h1 0 (by omega) y rfl), List.length_cons, tw_len (l := l) (i := i) (by simpa using hi) (fun k hk x hx => h1 (k + 1) (by omega) x (by simpa using hx)) (fun x hx => h2 x (by simpa using hx))]
theorem idx_bs {a b : Int} : ∀ {l : List Lk} (k : Int), LkSorted l → idxP (lkP a b) l k = if bsB l a b = true then k + (bsN l a b : Int) else -1
  | [], k, _ => by simp [idxP, bsB]
  | x :: l, k, hs => by
    unfold idxP
    obtain ⟨hx, hl⟩ := List.pairwise_cons.1 hs
    by_cases h1 : ltL a b x = true
    · have hp : ¬ lkP a b x = true := by rw [lkP_iff]; rw [ltL_iff] at h1; omega
      rw [if_neg hp, idx_bs (k + 1) hl]
      have hN : bsN (x :: l) a b = bsN l a b + 1 := by unfold bsN; rw [List.takeWhile_cons_of_pos h1]; rfl
      have hB : bsB (x :: l) a b = bsB l a b := by unfold bsB; rw [hN]; rfl
      rw [hN, hB]
      split
      · push_cast; omega
      · rfl
    · have hN : bsN (x :: l) a b = 0 := by unfold bsN; rw [List.takeWhile_cons_of_neg h1]; rfl
      have hB : bsB (x :: l) a b = lkP a b x := by unfold bsB; rw [hN]; rfl
      rw [hN, hB]
      by_cases h2 : lkP a b x = true
      · rw [if_pos h2, if_pos h2]; simp
      · rw [if_neg h2, if_neg h2]
        have : ∀ (m : List Lk) (j : Int), (∀ y ∈ m, lkP a b y = false) → idxP (lkP a b) m j = -1 := by
          intro m
          induction m with
          | nil => intro j _; rfl
          | cons y m ih =>
            intro j hm
            unfold idxP
            rw [if_neg (by rw [hm y List.mem_cons_self]; decide)]
            exact ih _ fun z hz => hm z (List.mem_cons_of_mem _ hz)
        refine this l _ fun y hy => ?_
        have h3 := hx y hy
        rw [Bool.eq_false_iff]
        intro h4
        rw [lkP_iff] at h4 h2
        rw [ltL_iff] at h1 h3
        omega

set_option maxHeartbeats 20000000 in
theorem bs_ok (l : List Lk) (a b : Int) (hs : LkSorted l) (hl : l.length ≤ 1000000) : FnOK Tryz.prog 112 [.sl 3 (l.map Lk.pv), .agg [ip a, ip b, ip 0], .fnv 113 []] ⟨.tup [.c (ip (bsN l a b : Int)), .c (.v (.bool (bsB l a b)))], none⟩ := by
  refine fn_ok Tryz.func112 (by kernel_rfl) rfl (by rw [Tryz.ntmps112]; exact of_decide_eq_true rfl) (fun F hF => ?_)
  rw [Tryz.ntmps112] at hF
  rw [Tryz.results112]
  repeat (first
    | ((first | with_reducible refine sops_go ?_ | with_reducible refine headW_end ?_ | with_reducible refine sops_end ?_ | with_reducible refine awp_if ?_ | with_reducible refine awp_skip ?_ | with_reducible refine awp_ret ?_ | with_reducible refine awp_exit ?_); simp only [go_sem, simprocAttr, hF])
    | ((with_reducible refine headW_go ?_); simp only [go_sem, simprocAttr, hF, hbx])
    | (with_reducible refine awp_seq_k (fun _ _ => ?_))
    | (refine awp_draw' (id := 5) [] 8 (by kernel_rfl) (by kernel_rfl) rfl rfl (fun bx0 hbx => ?_); (try dsimp only [List.take_succ_cons, List.take_zero, List.take_nil, List.drop_succ_cons, List.drop_zero, List.drop_nil]))
    | (refine awp_draw' (id := 8) [] 16 (by kernel_rfl) (by kernel_rfl) rfl rfl (fun bx0 hbx => ?_); (try dsimp only [List.take_succ_cons, List.take_zero, List.take_nil, List.drop_succ_cons, List.drop_zero, List.drop_nil]))
    | (with_reducible refine awp_region [] ?_)
    | (with_reducible refine awp_block ?_)
    | go_step)
  refine awp_loop_by (ι := {p : Nat × Nat // p.1 ≤ p.2 ∧ p.2 ≤ l.length ∧ (∀ k, k < p.1 → ∀ x, l[k]? = some x → ltL a b x = true) ∧ (∀ k, p.2 ≤ k → ∀ x, l[k]? = some x → ltL a b x = false)}) (fun p σ => ⟨(9, iv (p.1.1 : Int)) :: (10, iv (p.1.2 : Int)) :: keepS [0, 2, 4, 8] σ.slot, σ.box, [], σ.ext⟩) (fun p => p.1.2 - p.1.1) ⟨(0, l.length), by simp, Nat.le_refl _, fun k hk => absurd hk (Nat.not_lt_zero _), fun k hk x hx => absurd (List.getElem?_eq_some_iff.1 hx).1 (by simp only at hk; omega)⟩ (sub_mk ?_) (fun R hR p => ?_)
  · simp only [go_sem, simprocAttr, hF]
    repeat' (first | rfl | refine ⟨?_, ?_⟩)
  obtain ⟨⟨i, j⟩, hij, hjn, hI, hJ⟩ := p
  dsimp only at hij hjn hI hJ ⊢
  simp only [go_sem, simprocAttr, hF]
  by_cases hlt : i < j
  case neg =>
    obtain rfl : i = j := by omega
    have hd : decide ((i : Int) < (i : Int)) = false := decide_eq_false (by omega)
    have hN : bsN l a b = i := tw_len hjn hI (fun x hx => hJ i (Nat.le_refl _) x hx)
    by_cases hin : i < l.length
    case neg =>
      have hd2 : decide ((i : Int) < (l.length : Int)) = false := decide_eq_false (by omega)
      have hB : bsB l a b = false := by unfold bsB; rw [hN, List.getElem?_eq_none (by omega)]
      repeat (first
        | ((first | with_reducible refine sops_go ?_ | with_reducible refine headW_end ?_ | with_reducible refine sops_end ?_ | with_reducible refine awp_if ?_ | with_reducible refine awp_skip ?_ | with_reducible refine awp_ret ?_ | with_reducible refine awp_exit ?_); simp only [go_sem, simprocAttr, hF, hd, hd2])
        | ((with_reducible refine headW_go ?_); simp only [go_sem, simprocAttr, hF, hd, hd2, hbx])
        | (with_reducible refine awp_seq_k (fun _ _ => ?_))
        | (refine awp_draw' (id := 5) [] 8 (by kernel_rfl) (by kernel_rfl) rfl rfl (fun bx0 hbx => ?_); (try dsimp only [List.take_succ_cons, List.take_zero, List.take_nil, List.drop_succ_cons, List.drop_zero, List.drop_nil]))
        | (refine awp_draw' (id := 8) [] 16 (by kernel_rfl) (by kernel_rfl) rfl rfl (fun bx0 hbx => ?_); (try dsimp only [List.take_succ_cons, List.take_zero, List.take_nil, List.drop_succ_cons, List.drop_zero, List.drop_nil]))
        | (with_reducible refine awp_region [] ?_)
        | (with_reducible refine awp_block ?_)
        | go_step)
      rw [hN, hB]
      try rfl
    obtain ⟨x, hx⟩ := get_of_lt hin
    have hd2 : decide ((i : Int) < (l.length : Int)) = true := decide_eq_true (by omega)
    have hB : bsB l a b = lkP a b x := by unfold bsB; rw [hN, hx]
    have hq := (orI_lt a b x).2
    repeat (first
      | ((first | with_reducible refine sops_go ?_ | with_reducible refine headW_end ?_ | with_reducible refine sops_end ?_ | with_reducible refine awp_if ?_ | with_reducible refine awp_skip ?_ | with_reducible refine awp_ret ?_ | with_reducible refine awp_exit ?_); simp only [go_sem, simprocAttr, hF, hd, hd2, hx])
      | ((with_reducible refine headW_go ?_); simp only [go_sem, simprocAttr, hF, hd, hd2, hx, hbx])
      | (with_reducible refine awp_seq_k (fun _ _ => ?_))
      | (refine awp_draw' (id := 5) [] 8 (by kernel_rfl) (by kernel_rfl) rfl rfl (fun bx0 hbx => ?_); (try dsimp only [List.take_succ_cons, List.take_zero, List.take_nil, List.drop_succ_cons, List.drop_zero, List.drop_nil]))
      | (refine awp_draw' (id := 8) [] 16 (by kernel_rfl) (by kernel_rfl) rfl rfl (fun bx0 hbx => ?_); (try dsimp only [List.take_succ_cons, List.take_zero, List.take_nil, List.drop_succ_cons, List.drop_zero, List.drop_nil]))
      | (with_reducible refine awp_region [] ?_)
      | (with_reducible refine awp_block ?_)
      | go_step)
    refine ⟨_, compareL_ok x ⟨a, b, 0⟩, ?_⟩
    simp only [go_sem, simprocAttr, hF, hq]
    repeat (first
      | ((first | with_reducible refine sops_go ?_ | with_reducible refine headW_end ?_ | with_reducible refine sops_end ?_ | with_reducible refine awp_if ?_ | with_reducible refine awp_skip ?_ | with_reducible refine awp_ret ?_ | with_reducible refine awp_exit ?_); simp only [go_sem, simprocAttr, hF, hq, hd, hd2])
      | ((with_reducible refine headW_go ?_); simp only [go_sem, simprocAttr, hF, hq, hd, hd2, hbx])
      | (with_reducible refine awp_seq_k (fun _ _ => ?_))
      | (refine awp_draw' (id := 5) [] 8 (by kernel_rfl) (by kernel_rfl) rfl rfl (fun bx0 hbx => ?_); (try dsimp only [List.take_succ_cons, List.take_zero, List.take_nil, List.drop_succ_cons, List.drop_zero, List.drop_nil]))
      | (refine awp_draw' (id := 8) [] 16 (by kernel_rfl) (by kernel_rfl) rfl rfl (fun bx0 hbx => ?_); (try dsimp only [List.take_succ_cons, List.take_zero, List.take_nil, List.drop_succ_cons, List.drop_zero, List.drop_nil]))
      | (with_reducible refine awp_region [] ?_)
      | (with_reducible refine awp_block ?_)
      | go_step)
    rw [hN, hB]
    try rfl
  have hd : decide ((i : Int) < (j : Int)) = true := decide_eq_true (by omega)
  have w1 : IntKind.i64.wrap ((i : Int) + (j : Int)) = (i : Int) + (j : Int) := by rw [IntKind.wrap_i64]; omega
  have w2 : IntKind.u64.wrap ((i : Int) + (j : Int)) = (i : Int) + (j : Int) := by rw [IntKind.wrap_u64]; omega
  have w3 : IntKind.i64.wrap (((i : Int) + (j : Int)) / 2) = (((i + j) / 2 : Nat) : Int) := by rw [IntKind.wrap_i64]; omega
  obtain ⟨h, hh⟩ : ∃ h, h = (i + j) / 2 := ⟨_, rfl⟩
  rw [← hh] at w3
  obtain ⟨x, hx⟩ := get_of_lt (l := l) (k := h) (by omega)
  have hq := (orI_lt a b x).1
  have w4 : IntKind.i64.wrap ((h : Int) + 1) = ((h + 1 : Nat) : Int) := by rw [IntKind.wrap_i64]; omega
  have mono : ∀ k y, l[k]? = some y → (k < h → ltL y.fr y.tt x = true ∨ True) := fun _ _ _ _ => .inr trivial
  repeat (first
    | ((first | with_reducible refine sops_go ?_ | with_reducible refine headW_end ?_ | with_reducible refine sops_end ?_ | with_reducible refine awp_if ?_ | with_reducible refine awp_skip ?_ | with_reducible refine awp_ret ?_ | with_reducible refine awp_exit ?_); simp only [go_sem, simprocAttr, hF, hd, w1, w2, w3, hx])
    | ((with_reducible refine headW_go ?_); simp only [go_sem, simprocAttr, hF, hd, w1, w2, w3, hx, hbx])
    | (with_reducible refine awp_seq_k (fun _ _ => ?_))
    | (refine awp_draw' (id := 5) [] 8 (by kernel_rfl) (by kernel_rfl) rfl rfl (fun bx0 hbx => ?_); (try dsimp only [List.take_succ_cons, List.take_zero, List.take_nil, List.drop_succ_cons, List.drop_zero, List.drop_nil]))
    | (refine awp_draw' (id := 8) [] 16 (by kernel_rfl) (by kernel_rfl) rfl rfl (fun bx0 hbx => ?_); (try dsimp only [List.take_succ_cons, List.take_zero, List.take_nil, List.drop_succ_cons, List.drop_zero, List.drop_nil]))
    | (with_reducible refine awp_region [] ?_)
    | (with_reducible refine awp_block ?_)
    | go_step)
  refine ⟨_, compareL_ok x ⟨a, b, 0⟩, ?_⟩
  simp only [go_sem, simprocAttr, hF, hq]
  have hsrt := List.pairwise_iff_getElem.1 hs
  have hxh := (List.getElem?_eq_some_iff.1 hx)
  cases he : ltL a b x with
  | true =>
    try simp only [go_sem, simprocAttr, hF, hq, he]
    repeat (first
      | ((first | with_reducible refine sops_go ?_ | with_reducible refine headW_end ?_ | with_reducible refine sops_end ?_ | with_reducible refine awp_if ?_ | with_reducible refine awp_skip ?_ | with_reducible refine awp_ret ?_ | with_reducible refine awp_exit ?_); simp only [go_sem, simprocAttr, hF, hq, he])
      | ((with_reducible refine headW_go ?_); simp only [go_sem, simprocAttr, hF, hq, he, hbx])
      | (with_reducible refine awp_seq_k (fun _ _ => ?_))
      | (refine awp_draw' (id := 5) [] 8 (by kernel_rfl) (by kernel_rfl) rfl rfl (fun bx0 hbx => ?_); (try dsimp only [List.take_succ_cons, List.take_zero, List.take_nil, List.drop_succ_cons, List.drop_zero, List.drop_nil]))
      | (refine awp_draw' (id := 8) [] 16 (by kernel_rfl) (by kernel_rfl) rfl rfl (fun bx0 hbx => ?_); (try dsimp only [List.take_succ_cons, List.take_zero, List.take_nil, List.drop_succ_cons, List.drop_zero, List.drop_nil]))
      | (with_reducible refine awp_region [] ?_)
      | (with_reducible refine awp_block ?_)
      | go_step)
    refine ⟨⟨(h + 1, j), by dsimp only; omega, hjn, fun k hk y hy => by
        by_cases hkh : k = h
        · subst hkh; rw [hx] at hy; cases hy; exact he
        · obtain ⟨g1, g2⟩ := List.getElem?_eq_some_iff.1 hy
          have := hsrt k h g1 hxh.1 (by dsimp only at hk; omega)
          rw [g2, hxh.2] at this
          rw [ltL_iff] at this he ⊢
          omega, hJ⟩, by dsimp only; omega, hR _ _ (sub_mk ?_)⟩
    simp only [go_sem, simprocAttr, hF, w4]
  | false =>
    try simp only [go_sem, simprocAttr, hF, hq, he]
    repeat (first
      | ((first | with_reducible refine sops_go ?_ | with_reducible refine headW_end ?_ | with_reducible refine sops_end ?_ | with_reducible refine awp_if ?_ | with_reducible refine awp_skip ?_ | with_reducible refine awp_ret ?_ | with_reducible refine awp_exit ?_); simp only [go_sem, simprocAttr, hF, hq, he])
      | ((with_reducible refine headW_go ?_); simp only [go_sem, simprocAttr, hF, hq, he, hbx])
      | (with_reducible refine awp_seq_k (fun _ _ => ?_))
      | (refine awp_draw' (id := 5) [] 8 (by kernel_rfl) (by kernel_rfl) rfl rfl (fun bx0 hbx => ?_); (try dsimp only [List.take_succ_cons, List.take_zero, List.take_nil, List.drop_succ_cons, List.drop_zero, List.drop_nil]))
      | (refine awp_draw' (id := 8) [] 16 (by kernel_rfl) (by kernel_rfl) rfl rfl (fun bx0 hbx => ?_); (try dsimp only [List.take_succ_cons, List.take_zero, List.take_nil, List.drop_succ_cons, List.drop_zero, List.drop_nil]))
      | (with_reducible refine awp_region [] ?_)
      | (with_reducible refine awp_block ?_)
      | go_step)
    refine ⟨⟨(i, h), by dsimp only; omega, by dsimp only; omega, hI, fun k hk y hy => by
        by_cases hkh : k = h
        · subst hkh; rw [hx] at hy; cases hy; exact he
        · obtain ⟨g1, g2⟩ := List.getElem?_eq_some_iff.1 hy
          have := hsrt h k hxh.1 g1 (by dsimp only at hk; omega)
          rw [g2, hxh.2, ltL_iff] at this
          rw [Bool.eq_false_iff] at he ⊢
          rw [ne_eq, ltL_iff] at he ⊢
          omega⟩, by dsimp only; omega, hR _ _ (sub_mk ?_)⟩
    simp only [go_sem, simprocAttr, hF, w4]
end Go.Proofs.YticnppnejafhdaaGreatDoor
/- Abstract states: regions that draw their order and store one result late. Generic. -/
namespace Go.Proofs.YticnppnejafhdaaGreatDoor
open Go.RowKit
namespace Av
section
variable {P : Program} {ops : Array Oper} {Q : Exit → Act → World → Prop}
end
section
variable {P : Program} {F : Fr}
def stored (σ : St) (k : Nat) (cs xs : List PV) : St := { slot := σ.slot, box := (k, setAt cs 0 xs) :: σ.box, own := keepL σ.own k 0 xs.length, ext := σ.ext }
end
end Av
end Go.Proofs.YticnppnejafhdaaGreatDoor
/- Usable links, by abstract states. -/
namespace Go.Proofs.YticnppnejafhdaaGreatDoor
open Go.RowKit
open Nd Rc Mo
open Av
set_option maxRecDepth 100000
set_option linter.unusedSimpArgs false
attribute [local go_sem] Av.guardB Av.sop Av.hopx Av.hop Av.hopCall Av.hopF Av.hopB Av.evo Av.evos Av.avCells Av.loadK Av.bound Av.abin Av.aun Av.partsC Av.lfill Av.placesB Av.setAt Av.stl Av.takes Av.src Av.bxOf Av.ownOf Av.St.res Av.St.put Av.St.addBox Av.St.putOwn Av.delL Av.delS Av.look Av.lookL Av.storeSt Av.stealSt Av.St.setBox Av.keepL Av.hitB Av.snap Av.snaps Av.snapCaps Av.AV.lit Av.AV.refs Av.capRefs Av.PV.av Av.CV.av Av.startSt Av.steals Av.athen Av.ablock Av.appK Av.AllS Av.AllO Av.AllR Av.keepS Av.St.avAt Av.RetOK Av.retAll Av.retOne Av.intsOf Av.ptrB TypeDesc.isRow List.range_zero Option.some.injEq exists_eq_left' exists_eq_left exists_eq' exists_and_left exists_and_right exists_const true_and and_true and_self false_and and_false or_false false_or or_true true_or if_true if_false Bool.false_eq_true List.zipIdx_cons List.zipIdx_nil List.map_cons List.map_nil List.filter_cons List.filter_nil List.contains_cons List.contains_nil List.drop_succ_cons List.drop_zero List.take_succ_cons List.take_zero List.take_nil List.drop_nil List.length_cons List.length_nil List.cons_append List.nil_append List.append_nil List.getElem?_cons_zero List.getElem?_cons_succ List.getElem?_nil Option.bind_some Option.bind_none Option.map_some Option.map_none Option.isNone_none Option.isNone_some Option.isSome_some Option.isSome_none Bool.and_true Bool.true_and Bool.and_false Bool.false_and Bool.or_false Bool.false_or Bool.not_true Bool.not_false beq_true beq_false Bool.true_beq Bool.false_beq Loc.s.injEq Loc.b.injEq decide_true decide_false beq_self_eq_true Nat.zero_add Nat.add_zero List.getElem?_toArray List.toList_toArray List.size_toArray Value.oneCell' List.all_cons List.all_nil Value.int.injEq AV.v.injEq AV.sl.injEq AV.agg.injEq AV.ref.injEq AV.ept.injEq AV.tup.injEq Value.bool.injEq PV.v.injEq PV.sl.injEq List.isEmpty_nil List.isEmpty_cons forall_const not_true_eq_false not_false_eq_true true_implies false_implies Value.string.injEq List.length_map List.getElem?_map Int.toNat_natCast Int.natCast_nonneg List.length_append Value.cells implies_true TypeDesc.struct.injEq TypeDesc.slice.injEq TypeDesc.array.injEq List.getElem?_toArray Prod.mk.injEq and_assoc exists_false List.cons.injEq Operand.tmp.injEq ite_self AV.fnv.injEq AV.clo.injEq ne_eq eq_self Tryz.sz3 Tryz.zr3 Tryz.by3 Tryz.pl3 Tryz.is3 Tryz.underlying3 Tryz.sz4 Tryz.zr4 Tryz.by4 Tryz.pl4 Tryz.is4 Tryz.underlying4 Tryz.sz43 Tryz.zr43 Tryz.by43 Tryz.pl43 Tryz.is43 Tryz.underlying43 Tryz.sz35 Tryz.zr35 Tryz.by35 Tryz.pl35 Tryz.is35 Tryz.underlying35 Tryz.sz33 Tryz.zr33 Tryz.by33 Tryz.pl33 Tryz.is33 Tryz.underlying33 Tryz.sz28 Tryz.zr28 Tryz.by28 Tryz.pl28 Tryz.is28 Tryz.underlying28 Tryz.sz39 Tryz.zr39 Tryz.by39 Tryz.pl39 Tryz.is39 Tryz.underlying39 Tryz.sz57 Tryz.zr57 Tryz.by57 Tryz.pl57 Tryz.is57 Tryz.underlying57 Tryz.sz137 Tryz.zr137 Tryz.by137 Tryz.pl137 Tryz.is137 Tryz.underlying137 Tryz.sz66 Tryz.zr66 Tryz.by66 Tryz.pl66 Tryz.is66 Tryz.underlying66 Tryz.sz64 Tryz.zr64 Tryz.by64 Tryz.pl64 Tryz.is64 Tryz.underlying64 Tryz.sz60 Tryz.zr60 Tryz.by60 Tryz.pl60 Tryz.is60 Tryz.underlying60 Tryz.sz100 Tryz.zr100 Tryz.by100 Tryz.pl100 Tryz.is100 Tryz.underlying100 Tryz.sz103 Tryz.zr103 Tryz.by103 Tryz.pl103 Tryz.is103 Tryz.underlying103 Tryz.sz26 Tryz.zr26 Tryz.by26 Tryz.pl26 Tryz.is26 Tryz.underlying26 Tryz.sz120 Tryz.zr120 Tryz.by120 Tryz.pl120 Tryz.is120 Tryz.underlying120 Tryz.sz117 Tryz.zr117 Tryz.by117 Tryz.pl117 Tryz.is117 Tryz.underlying117 Tryz.sz30 Tryz.zr30 Tryz.by30 Tryz.pl30 Tryz.is30 Tryz.underlying30 Tryz.sz31 Tryz.zr31 Tryz.by31 Tryz.pl31 Tryz.is31 Tryz.underlying31 Tryz.sz40 Tryz.zr40 Tryz.by40 Tryz.pl40 Tryz.is40 Tryz.underlying40 Tryz.sz23 Tryz.zr23 Tryz.by23 Tryz.pl23 Tryz.is23 Tryz.underlying23 Tryz.sz24 Tryz.zr24 Tryz.by24 Tryz.pl24 Tryz.is24 Tryz.underlying24 Tryz.sz22 Tryz.zr22 Tryz.by22 Tryz.pl22 Tryz.is22 Tryz.underlying22 Tryz.sz141 Tryz.zr141 Tryz.by141 Tryz.pl141 Tryz.is141 Tryz.underlying141 Tryz.sz42 Tryz.zr42 Tryz.by42 Tryz.pl42 Tryz.is42 Tryz.underlying42 Tryz.sz29 Tryz.zr29 Tryz.by29 Tryz.pl29 Tryz.is29 Tryz.underlying29 Tryz.sz83 Tryz.zr83 Tryz.by83 Tryz.pl83 Tryz.is83 Tryz.underlying83 Tryz.it39 Tryz.eg39 Tryz.it137 Tryz.eg137 Tryz.it66 Tryz.eg66 Tryz.it28 Tryz.eg28 Tryz.it60 Tryz.eg60 all_arr loc_ss loc_sb loc_bs loc_bb arr_two arr_one rg1 rg2 rg3 rg4 rg5 rg6 rg7 rg8 ResultVar.tmp.injEq Bool.not_true Bool.not_false undef Rc.Rec.pv Nd.Fl.pv Rc.Dlv.pv Rc.Att.pv Mo.Lt.pv Fn.func.injEq Mo.Net.pv Mo.Lk.pv prow_pv irow_pv Br.pv
structure SmallN (n : Net) : Prop where
  pow : n.pow.length ≤ 1000000
  rows : ∀ l ∈ n.pow, l.length ≤ 1000000
  lk : n.lk.length ≤ 1000000
  mg : n.mg.length ≤ 1000000
theorem idxL_cases (n : Net) (a b : Int) : idxL n a b = -1 ∨ ∃ (i : Nat) (x : Lk), n.lk[i]? = some x ∧ x.fr = a ∧ x.tt = b ∧ idxL n a b = (i : Int) := by
  rcases idxP_spec (lkP a b) n.lk 0 with ⟨h, _⟩ | ⟨i, x, h1, h2, h3, _⟩
  · exact .inl h
  · rw [lkP_iff] at h2
    exact .inr ⟨i, x, h1, h2.1, h2.2, by unfold idxL; rw [h3]; omega⟩
theorem heard_nums {n : Net} (hN : NetOK n) {s : Int} (h0 : 0 ≤ s) (h1 : s ≤ 68719476736) : IntKind.i64.wrap (s * 1000) = s * 1000 ∧ IntKind.i64.wrap (n.noise + 0) = n.noise + 0 ∧ IntKind.i64.wrap (n.thr * (n.noise + 0)) = n.thr * (n.noise + 0) := by
  obtain ⟨a0, a1⟩ := hN.noise
  obtain ⟨b0, b1⟩ := hN.thr
  have m1 : n.thr * (n.noise + 0) ≤ 100000 * 68719476736 := Int.mul_le_mul b1 (by omega) (by omega) (by omega)
  have m2 : 0 ≤ n.thr * (n.noise + 0) := Int.mul_nonneg (by omega) (by omega)
  refine ⟨?_, ?_, ?_⟩ <;> rw [IntKind.wrap_i64] <;> omega

set_option maxHeartbeats 2000000 in
theorem nfindP_ok (n : Net) (a b : Int) (hN : NetOK n) : FnOK Tryz.prog 82 [.agg n.pv, iv a, iv b] ⟨iv (idxL n a b), none⟩ := by
  have hx : idxL n a b = if bsB n.lk a b = true then 0 + (bsN n.lk a b : Int) else -1 := idx_bs (a := a) (b := b) (l := n.lk) 0 hN.sorted
  have hlen := hN.lk
  refine fn_ok Tryz.func82 (by kernel_rfl) rfl (by rw [Tryz.ntmps82]; exact of_decide_eq_true rfl) (fun F hF => ?_)
  rw [Tryz.ntmps82] at hF
  rw [Tryz.results82]
  repeat (first
    | ((first | with_reducible refine sops_go ?_ | with_reducible refine headW_end ?_ | with_reducible refine sops_end ?_ | with_reducible refine awp_if ?_ | with_reducible refine awp_skip ?_ | with_reducible refine awp_ret ?_ | with_reducible refine awp_exit ?_); simp only [go_sem, simprocAttr, hF])
    | (with_reducible refine awp_seq_k (fun _ _ => ?_))
    | (with_reducible refine awp_region [] ?_)
    | (with_reducible refine awp_block ?_)
    | go_step)
  refine ⟨_, bs_ok n.lk a b hN.sorted (by omega), ?_⟩
  simp only [go_sem, simprocAttr, hF]
  cases hB : bsB n.lk a b with
  | false =>
    try simp only [go_sem, simprocAttr, hF, hB]
    repeat (first
      | ((first | with_reducible refine sops_go ?_ | with_reducible refine headW_end ?_ | with_reducible refine sops_end ?_ | with_reducible refine awp_if ?_ | with_reducible refine awp_skip ?_ | with_reducible refine awp_ret ?_ | with_reducible refine awp_exit ?_); simp only [go_sem, simprocAttr, hF, hB])
      | (with_reducible refine awp_seq_k (fun _ _ => ?_))
      | (with_reducible refine awp_region [] ?_)
      | (with_reducible refine awp_block ?_)
      | go_step)
    rw [hx, hB, if_neg (by decide)]
  | true =>
    try simp only [go_sem, simprocAttr, hF, hB]
    repeat (first
      | ((first | with_reducible refine sops_go ?_ | with_reducible refine headW_end ?_ | with_reducible refine sops_end ?_ | with_reducible refine awp_if ?_ | with_reducible refine awp_skip ?_ | with_reducible refine awp_ret ?_ | with_reducible refine awp_exit ?_); simp only [go_sem, simprocAttr, hF, hB])
      | (with_reducible refine awp_seq_k (fun _ _ => ?_))
      | (with_reducible refine awp_region [] ?_)
      | (with_reducible refine awp_block ?_)
      | go_step)
    rw [hx, hB, if_pos rfl, Int.zero_add]

set_option maxHeartbeats 2000000 in
theorem nindex_ok (n : Net) (a b : Int) (hS : SmallN n) (hc : chkN n = 0) : FnOK Tryz.prog 41 [.agg n.pv, iv a, iv b] ⟨iv (idxL n a b), none⟩ := by
  have hN := netOK hc
  have he : (chkN n != 0) = false := by rw [hc]; rfl
  refine fn_ok Tryz.func41 (by kernel_rfl) rfl (by rw [Tryz.ntmps41]; exact of_decide_eq_true rfl) (fun F hF => ?_)
  rw [Tryz.ntmps41] at hF
  rw [Tryz.results41]
  repeat (first
    | ((first | with_reducible refine sops_go ?_ | with_reducible refine headW_end ?_ | with_reducible refine sops_end ?_ | with_reducible refine awp_if ?_ | with_reducible refine awp_skip ?_ | with_reducible refine awp_ret ?_ | with_reducible refine awp_exit ?_); simp only [go_sem, simprocAttr, hF])
    | (with_reducible refine awp_seq_k (fun _ _ => ?_))
    | (with_reducible refine awp_region [] ?_)
    | (with_reducible refine awp_block ?_)
    | go_step)
  refine ⟨_, ncheck_ok n hS.pow hS.rows hS.lk hS.mg, ?_⟩
  simp only [go_sem, simprocAttr, hF, he]
  repeat (first
    | ((first | with_reducible refine sops_go ?_ | with_reducible refine headW_end ?_ | with_reducible refine sops_end ?_ | with_reducible refine awp_if ?_ | with_reducible refine awp_skip ?_ | with_reducible refine awp_ret ?_ | with_reducible refine awp_exit ?_); simp only [go_sem, simprocAttr, hF, he])
    | (with_reducible refine awp_seq_k (fun _ _ => ?_))
    | (with_reducible refine awp_region [] ?_)
    | (with_reducible refine awp_block ?_)
    | go_step)
  refine ⟨_, nfindP_ok n a b hN, ?_⟩
  simp only [go_sem, simprocAttr, hF]
  repeat (first
    | ((first | with_reducible refine sops_go ?_ | with_reducible refine headW_end ?_ | with_reducible refine sops_end ?_ | with_reducible refine awp_if ?_ | with_reducible refine awp_skip ?_ | with_reducible refine awp_ret ?_ | with_reducible refine awp_exit ?_); simp only [go_sem, simprocAttr, hF])
    | (with_reducible refine awp_seq_k (fun _ _ => ?_))
    | (with_reducible refine awp_region [] ?_)
    | (with_reducible refine awp_block ?_)
    | go_step)
  all_goals (try rfl)

set_option maxHeartbeats 2000000 in
theorem hears_ok (n : Net) (s : Int) (hN : NetOK n) (h0 : 0 ≤ s) (h1 : s ≤ 68719476736) : FnOK Tryz.prog 178 [.agg n.pv, iv s, iv 0] ⟨bv (heardB n s), none⟩ := by
  obtain ⟨w1, w2, w3⟩ := heard_nums hN h0 h1
  unfold heardB
  refine fn_ok Tryz.func178 (by kernel_rfl) rfl (by rw [Tryz.ntmps178]; exact of_decide_eq_true rfl) (fun F hF => ?_)
  rw [Tryz.ntmps178] at hF
  rw [Tryz.results178]
  repeat (first
    | ((first | with_reducible refine sops_go ?_ | with_reducible refine headW_end ?_ | with_reducible refine sops_end ?_ | with_reducible refine awp_if ?_ | with_reducible refine awp_skip ?_ | with_reducible refine awp_ret ?_ | with_reducible refine awp_exit ?_); simp only [go_sem, simprocAttr, hF, w1, w2, w3])
    | (with_reducible refine awp_seq_k (fun _ _ => ?_))
    | (with_reducible refine awp_region [] ?_)
    | (with_reducible refine awp_block ?_)
    | go_step)
  all_goals (try rfl)

set_option maxHeartbeats 20000000 in
theorem usable_ok (n : Net) (i : Nat) (x : Lk) (m : Int) (hN : NetOK n) (hx : n.lk[i]? = some x) (hm : n.mg[i]? = some m) : FnOK Tryz.prog 169 [.agg n.pv, iv (i : Int)] ⟨bv (decide (0 ≤ idxL n x.tt x.fr) && (heardB n m && heardB n (n.mg.getD (idxL n x.tt x.fr).toNat 0))), none⟩ := by
  obtain ⟨hm0, hm1⟩ := hN.mgb i m hm
  have hgd : n.mg.getD i 0 = m := by rw [List.getD_eq_getElem?_getD, hm]; rfl
  refine fn_ok Tryz.func169 (by kernel_rfl) rfl (by rw [Tryz.ntmps169]; exact of_decide_eq_true rfl) (fun F hF => ?_)
  rw [Tryz.ntmps169] at hF
  rw [Tryz.results169]
  repeat (first
    | ((first | with_reducible refine sops_go ?_ | with_reducible refine headW_end ?_ | with_reducible refine sops_end ?_ | with_reducible refine awp_if ?_ | with_reducible refine awp_skip ?_ | with_reducible refine awp_ret ?_ | with_reducible refine awp_exit ?_); simp only [go_sem, simprocAttr, hF, hx])
    | ((with_reducible refine headW_go ?_); simp only [go_sem, simprocAttr, hF, hx, hbx])
    | (with_reducible refine awp_seq_k (fun _ _ => ?_))
    | (refine awp_draw' (id := 1) [] 14 (by kernel_rfl) (by kernel_rfl) rfl rfl (fun bx0 hbx => ?_); (try dsimp only [List.take_succ_cons, List.take_zero, List.take_nil, List.drop_succ_cons, List.drop_zero, List.drop_nil]))
    | (refine awp_draw' (id := 2) [] 20 (by kernel_rfl) (by kernel_rfl) rfl rfl (fun bx0 hbx => ?_); (try dsimp only [List.take_succ_cons, List.take_zero, List.take_nil, List.drop_succ_cons, List.drop_zero, List.drop_nil]))
    | (with_reducible refine awp_region [] ?_)
    | (with_reducible refine awp_block ?_)
    | go_step)
  refine ⟨_, nfindP_ok n x.tt x.fr hN, ?_⟩
  simp only [go_sem, simprocAttr, hF]
  rcases idxL_cases n x.tt x.fr with hk | ⟨k, y, hy, _, _, hk⟩
  · have e0 : decide ((0 : Int) ≤ -1) = false := rfl
    rw [hk]
    try simp only [go_sem, simprocAttr, hF, hk, e0]
    repeat (first
      | ((first | with_reducible refine sops_go ?_ | with_reducible refine headW_end ?_ | with_reducible refine sops_end ?_ | with_reducible refine awp_if ?_ | with_reducible refine awp_skip ?_ | with_reducible refine awp_ret ?_ | with_reducible refine awp_exit ?_); simp only [go_sem, simprocAttr, hF, hk, e0])
      | ((with_reducible refine headW_go ?_); simp only [go_sem, simprocAttr, hF, hk, e0, hbx])
      | (with_reducible refine awp_seq_k (fun _ _ => ?_))
      | (refine awp_draw' (id := 1) [] 14 (by kernel_rfl) (by kernel_rfl) rfl rfl (fun bx0 hbx => ?_); (try dsimp only [List.take_succ_cons, List.take_zero, List.take_nil, List.drop_succ_cons, List.drop_zero, List.drop_nil]))
      | (refine awp_draw' (id := 2) [] 20 (by kernel_rfl) (by kernel_rfl) rfl rfl (fun bx0 hbx => ?_); (try dsimp only [List.take_succ_cons, List.take_zero, List.take_nil, List.drop_succ_cons, List.drop_zero, List.drop_nil]))
      | (with_reducible refine awp_region [] ?_)
      | (with_reducible refine awp_block ?_)
      | go_step)
    try rfl
  have e0 : decide ((0 : Int) ≤ (k : Int)) = true := decide_eq_true (by omega)
  have hkl := (List.getElem?_eq_some_iff.1 hy).1
  obtain ⟨m2, hm2⟩ := get_of_lt (l := n.mg) (k := k) (by rw [hN.mg]; exact hkl)
  obtain ⟨hp0, hp1⟩ := hN.mgb k m2 hm2
  have hgd2 : n.mg.getD (k : Int).toNat 0 = m2 := by rw [Int.toNat_natCast, List.getD_eq_getElem?_getD, hm2]; rfl
  rw [hk, hgd2]
  try simp only [go_sem, simprocAttr, hF, hk, e0, hm]
  repeat (first
    | ((first | with_reducible refine sops_go ?_ | with_reducible refine headW_end ?_ | with_reducible refine sops_end ?_ | with_reducible refine awp_if ?_ | with_reducible refine awp_skip ?_ | with_reducible refine awp_ret ?_ | with_reducible refine awp_exit ?_); simp only [go_sem, simprocAttr, hF, hk, e0, hm])
    | ((with_reducible refine headW_go ?_); simp only [go_sem, simprocAttr, hF, hk, e0, hm, hbx])
    | (with_reducible refine awp_seq_k (fun _ _ => ?_))
    | (refine awp_draw' (id := 1) [] 14 (by kernel_rfl) (by kernel_rfl) rfl rfl (fun bx0 hbx => ?_); (try dsimp only [List.take_succ_cons, List.take_zero, List.take_nil, List.drop_succ_cons, List.drop_zero, List.drop_nil]))
    | (refine awp_draw' (id := 2) [] 20 (by kernel_rfl) (by kernel_rfl) rfl rfl (fun bx0 hbx => ?_); (try dsimp only [List.take_succ_cons, List.take_zero, List.take_nil, List.drop_succ_cons, List.drop_zero, List.drop_nil]))
    | (with_reducible refine awp_region [] ?_)
    | (with_reducible refine awp_block ?_)
    | go_step)
  refine ⟨_, hears_ok n m hN hm0 hm1, ?_⟩
  simp only [go_sem, simprocAttr, hF]
  cases e1 : heardB n m with
  | false =>
    try simp only [go_sem, simprocAttr, hF, e1]
    repeat (first
      | ((first | with_reducible refine sops_go ?_ | with_reducible refine headW_end ?_ | with_reducible refine sops_end ?_ | with_reducible refine awp_if ?_ | with_reducible refine awp_skip ?_ | with_reducible refine awp_ret ?_ | with_reducible refine awp_exit ?_); simp only [go_sem, simprocAttr, hF, e1])
      | ((with_reducible refine headW_go ?_); simp only [go_sem, simprocAttr, hF, e1, hbx])
      | (with_reducible refine awp_seq_k (fun _ _ => ?_))
      | (refine awp_draw' (id := 1) [] 14 (by kernel_rfl) (by kernel_rfl) rfl rfl (fun bx0 hbx => ?_); (try dsimp only [List.take_succ_cons, List.take_zero, List.take_nil, List.drop_succ_cons, List.drop_zero, List.drop_nil]))
      | (refine awp_draw' (id := 2) [] 20 (by kernel_rfl) (by kernel_rfl) rfl rfl (fun bx0 hbx => ?_); (try dsimp only [List.take_succ_cons, List.take_zero, List.take_nil, List.drop_succ_cons, List.drop_zero, List.drop_nil]))
      | (with_reducible refine awp_region [] ?_)
      | (with_reducible refine awp_block ?_)
      | go_step)
    try (rw [hk, e0])
    try rfl
  | true =>
    try simp only [go_sem, simprocAttr, hF, e1, hm2]
    repeat (first
      | ((first | with_reducible refine sops_go ?_ | with_reducible refine headW_end ?_ | with_reducible refine sops_end ?_ | with_reducible refine awp_if ?_ | with_reducible refine awp_skip ?_ | with_reducible refine awp_ret ?_ | with_reducible refine awp_exit ?_); simp only [go_sem, simprocAttr, hF, e1, hm2])
      | ((with_reducible refine headW_go ?_); simp only [go_sem, simprocAttr, hF, e1, hm2, hbx])
      | (with_reducible refine awp_seq_k (fun _ _ => ?_))
      | (refine awp_draw' (id := 1) [] 14 (by kernel_rfl) (by kernel_rfl) rfl rfl (fun bx0 hbx => ?_); (try dsimp only [List.take_succ_cons, List.take_zero, List.take_nil, List.drop_succ_cons, List.drop_zero, List.drop_nil]))
      | (refine awp_draw' (id := 2) [] 20 (by kernel_rfl) (by kernel_rfl) rfl rfl (fun bx0 hbx => ?_); (try dsimp only [List.take_succ_cons, List.take_zero, List.take_nil, List.drop_succ_cons, List.drop_zero, List.drop_nil]))
      | (with_reducible refine awp_region [] ?_)
      | (with_reducible refine awp_block ?_)
      | go_step)
    refine ⟨_, hears_ok n m2 hN hp0 hp1, ?_⟩
    simp only [go_sem, simprocAttr, hF]
    repeat (first
      | ((first | with_reducible refine sops_go ?_ | with_reducible refine headW_end ?_ | with_reducible refine sops_end ?_ | with_reducible refine awp_if ?_ | with_reducible refine awp_skip ?_ | with_reducible refine awp_ret ?_ | with_reducible refine awp_exit ?_); simp only [go_sem, simprocAttr, hF, e0])
      | ((with_reducible refine headW_go ?_); simp only [go_sem, simprocAttr, hF, e0, hbx])
      | (with_reducible refine awp_seq_k (fun _ _ => ?_))
      | (refine awp_draw' (id := 1) [] 14 (by kernel_rfl) (by kernel_rfl) rfl rfl (fun bx0 hbx => ?_); (try dsimp only [List.take_succ_cons, List.take_zero, List.take_nil, List.drop_succ_cons, List.drop_zero, List.drop_nil]))
      | (refine awp_draw' (id := 2) [] 20 (by kernel_rfl) (by kernel_rfl) rfl rfl (fun bx0 hbx => ?_); (try dsimp only [List.take_succ_cons, List.take_zero, List.take_nil, List.drop_succ_cons, List.drop_zero, List.drop_nil]))
      | (with_reducible refine awp_region [] ?_)
      | (with_reducible refine awp_block ?_)
      | go_step)
    rw [hk, hgd2, e1, e0]
    try rfl

set_option maxHeartbeats 20000000 in
theorem Usable_ok (n : Net) (a b : Int) (hS : SmallN n) (hc : chkN n = 0) : FnOK Tryz.prog 151 [.agg n.pv, iv (idxL n a b)] ⟨bv (goodL n a b), none⟩ := by
  have hN := netOK hc
  have he : (chkN n == 0) = true := by rw [hc]; rfl
  unfold goodL
  rcases idxL_cases n a b with hk | ⟨k, y, hy, rfl, rfl, hk⟩
  case inl =>
    have e0 : decide ((0 : Int) ≤ -1) = false := rfl
    rw [hk]
    refine fn_ok Tryz.func151 (by kernel_rfl) rfl (by rw [Tryz.ntmps151]; exact of_decide_eq_true rfl) (fun F hF => ?_)
    rw [Tryz.ntmps151] at hF
    rw [Tryz.results151]
    repeat (first
      | ((first | with_reducible refine sops_go ?_ | with_reducible refine headW_end ?_ | with_reducible refine sops_end ?_ | with_reducible refine awp_if ?_ | with_reducible refine awp_skip ?_ | with_reducible refine awp_ret ?_ | with_reducible refine awp_exit ?_); simp only [go_sem, simprocAttr, hF])
      | (with_reducible refine awp_seq_k (fun _ _ => ?_))
      | (with_reducible refine awp_region [] ?_)
      | (with_reducible refine awp_block ?_)
      | go_step)
    refine ⟨_, ncheck_ok n hS.pow hS.rows hS.lk hS.mg, ?_⟩
    simp only [go_sem, simprocAttr, hF, he]
    repeat (first
      | ((first | with_reducible refine sops_go ?_ | with_reducible refine headW_end ?_ | with_reducible refine sops_end ?_ | with_reducible refine awp_if ?_ | with_reducible refine awp_skip ?_ | with_reducible refine awp_ret ?_ | with_reducible refine awp_exit ?_); simp only [go_sem, simprocAttr, hF, he, e0])
      | (with_reducible refine awp_seq_k (fun _ _ => ?_))
      | (with_reducible refine awp_region [] ?_)
      | (with_reducible refine awp_block ?_)
      | go_step)
    try rfl
  have e0 : decide ((0 : Int) ≤ (k : Int)) = true := decide_eq_true (by omega)
  have hkl := (List.getElem?_eq_some_iff.1 hy).1
  have e1 : decide ((k : Int) < (n.lk.length : Int)) = true := decide_eq_true (by omega)
  obtain ⟨m, hm⟩ := get_of_lt (l := n.mg) (k := k) (by rw [hN.mg]; exact hkl)
  have hgd : n.mg.getD (k : Int).toNat 0 = m := by rw [Int.toNat_natCast, List.getD_eq_getElem?_getD, hm]; rfl
  rw [hk, hgd]
  generalize hG : (decide (0 ≤ idxL n y.tt y.fr) && (heardB n m && heardB n (n.mg.getD (idxL n y.tt y.fr).toNat 0))) = G
  have hus := usable_ok n k y m hN hy hm
  rw [hG] at hus
  refine fn_ok Tryz.func151 (by kernel_rfl) rfl (by rw [Tryz.ntmps151]; exact of_decide_eq_true rfl) (fun F hF => ?_)
  rw [Tryz.ntmps151] at hF
  rw [Tryz.results151]
  repeat (first
    | ((first | with_reducible refine sops_go ?_ | with_reducible refine headW_end ?_ | with_reducible refine sops_end ?_ | with_reducible refine awp_if ?_ | with_reducible refine awp_skip ?_ | with_reducible refine awp_ret ?_ | with_reducible refine awp_exit ?_); simp only [go_sem, simprocAttr, hF])
    | (with_reducible refine awp_seq_k (fun _ _ => ?_))
    | (with_reducible refine awp_region [] ?_)
    | (with_reducible refine awp_block ?_)
    | go_step)
  refine ⟨_, ncheck_ok n hS.pow hS.rows hS.lk hS.mg, ?_⟩
  simp only [go_sem, simprocAttr, hF, he]
  repeat (first
    | ((first | with_reducible refine sops_go ?_ | with_reducible refine headW_end ?_ | with_reducible refine sops_end ?_ | with_reducible refine awp_if ?_ | with_reducible refine awp_skip ?_ | with_reducible refine awp_ret ?_ | with_reducible refine awp_exit ?_); simp only [go_sem, simprocAttr, hF, he, e0, e1])
    | (with_reducible refine awp_seq_k (fun _ _ => ?_))
    | (with_reducible refine awp_region [] ?_)
    | (with_reducible refine awp_block ?_)
    | go_step)
  refine ⟨_, hus, ?_⟩
  simp only [go_sem, simprocAttr, hF]
  repeat (first
    | ((first | with_reducible refine sops_go ?_ | with_reducible refine headW_end ?_ | with_reducible refine sops_end ?_ | with_reducible refine awp_if ?_ | with_reducible refine awp_skip ?_ | with_reducible refine awp_ret ?_ | with_reducible refine awp_exit ?_); simp only [go_sem, simprocAttr, hF])
    | (with_reducible refine awp_seq_k (fun _ _ => ?_))
    | (with_reducible refine awp_region [] ?_)
    | (with_reducible refine awp_block ?_)
    | go_step)
end Go.Proofs.YticnppnejafhdaaGreatDoor
/- What an explanation names: plain. -/
namespace Go.Proofs.YticnppnejafhdaaGreatDoor
open Go.RowKit
open Nd Rc Mo
open Av
set_option maxRecDepth 100000
set_option linter.unusedSimpArgs false

def namedA (slot : Int) (x : Ex) (f : Fl) (b : Br) (a : Att) : Bool := a.s == slot && (a.f == x.lt.fr && (a.cl == f.id && (a.cf == b.fm && (a.ct == b.tt && a.o != 1))))
theorem mem_onLk {al : List Att} {fl fr a b : Int} {x : Att} (h : x ∈ onLk al fl fr a b) : x ∈ al ∧ x.cl = fl ∧ x.f = fr ∧ x.cf = a ∧ x.ct = b := by
  unfold onLk ofFrame at h
  rw [List.mem_filter, List.mem_filter] at h
  simp only [Bool.and_eq_true, beq_iff_eq] at h
  exact ⟨h.1.1, h.1.2.1, h.1.2.2, h.2.1, h.2.2⟩
theorem causes_slots {n : Net} {f : Fl} {r : Rec} {fr a b : Int} {y : Br} (h : y ∈ causesX n f r fr a b) : y.sl.length = (lossL n a b).toNat + 1 ∧ ∀ s ∈ y.sl, ∃ x ∈ onLk r.al f.id fr a b, x.s = s ∧ x.o ≠ 1 := by
  unfold causesX causesK at h
  obtain ⟨i, hi, h⟩ := List.mem_flatMap.1 h
  have hi' := List.mem_range.1 hi
  unfold causeAt at h
  split at h
  · rename_i hall
    rw [List.mem_singleton.1 h]
    refine ⟨?_, fun s hs => ?_⟩
    · simp only [List.length_map, List.length_take, List.length_drop]
      omega
    · obtain ⟨x, hx, hxs⟩ := List.mem_map.1 hs
      have h1 := List.all_eq_true.1 hall x hx
      refine ⟨x, List.mem_of_mem_drop (List.mem_of_mem_take hx), hxs, ?_⟩
      unfold failB at h1
      simp only [Bool.and_eq_true, Bool.not_eq_true', beq_eq_false_iff_ne] at h1
      exact h1.1
  · cases h
theorem named_law {n : Net} {f : Fl} {ps : List (List Int)} {r : Rec} {x : Ex} (h : checkX n f ps r x = 0) : x.ca.length = ps.length ∧ ∀ b ∈ x.ca, ∃ (i : Nat) (l : Lk), n.lk[i]? = some l ∧ idxL n b.fm b.tt = (i : Int) ∧ (b.sl.length : Int) = l.ls + 1 ∧ ∀ s ∈ b.sl, r.al.any (namedA s x f b) = true := by
  unfold checkX at h
  split at h
  · rename_i h1; exact absurd h h1
  rename_i h1
  split at h
  · cases h
  rename_i h2
  split at h
  rotate_left 1
  · cases h
  rename_i h3
  have LO := lateX_ok (Classical.byContradiction h1)
  have hlen : x.ca.length = ps.length := Classical.byContradiction fun h => h2 (.inr h)
  have hN := netOK (basicB_inv LO.base).1
  refine ⟨hlen, fun b hb => ?_⟩
  obtain ⟨k, hk⟩ := List.mem_iff_getElem?.1 hb
  obtain ⟨p, hp⟩ := get_of_lt (l := ps) (k := k) (by rw [← hlen]; exact (List.getElem?_eq_some_iff.1 hk).1)
  have h4 := List.all_eq_true.1 h3 (p, b) (List.mem_of_getElem? (i := k) (List.getElem?_zip_eq_some.2 ⟨hp, hk⟩))
  dsimp only at h4
  unfold okC at h4
  rw [Bool.and_eq_true, List.contains_iff_mem] at h4
  obtain ⟨h5, h6⟩ := h4
  obtain ⟨i, g1, g2⟩ := onB_iff.1 h5
  have hix := (route_inv (LO.rt p (List.mem_of_getElem? hp))).2.2 i _ _ g1 g2
  rcases idxL_cases n b.fm b.tt with hq | ⟨j, l, hl, _, _, hq⟩
  · omega
  obtain ⟨c1, c2⟩ := causes_slots h6
  have hls : lossL n b.fm b.tt = l.ls := by unfold lossL; rw [hq, Int.toNat_natCast, List.getD_eq_getElem?_getD, hl]; rfl
  have hl0 : 0 ≤ l.ls := by
    have h := hN.lkb l (List.mem_of_getElem? hl)
    simp only [lkB, Nd.inB, Bool.and_eq_true, decide_eq_true_eq] at h
    omega
  refine ⟨j, l, hl, hq, by rw [c1, hls]; omega, fun s hs => ?_⟩
  obtain ⟨a, ha, has, hao⟩ := c2 s hs
  obtain ⟨m1, m2, m3, m4, m5⟩ := mem_onLk ha
  refine List.any_eq_true.2 ⟨a, m1, ?_⟩
  unfold namedA
  simp only [Bool.and_eq_true, beq_iff_eq, bne_iff_ne]
  exact ⟨has, m3, m2, m4, m5, hao⟩
end Go.Proofs.YticnppnejafhdaaGreatDoor
/- Abstract states: a call that is walked by hand; a box that gets its block's number as its name. Generic. -/
namespace Go.Proofs.YticnppnejafhdaaGreatDoor
open Go.RowKit
namespace Av
section
variable {P : Program} {F : Fr} {σ : St} {γ : Gh} {a : Act} {w : World}
/-- A call by hand. -/
theorem hand_call {n : Nat} {o : Oper} {d : Nat} {K : St → Prop} (hd : o.dst = some d)
    (h : ∀ (F : Fr) (γ : Gh) (a : Act) (w : World), F.n = n → Rel F σ γ a w → ∃ fid us, (execOp a.eval o).run P w = .ok (.enter fid us) w ∧
      Calls P fid us w fun e w1 => ∃ u σ' γ', e = .returned u ∧ K σ' ∧ Rel F σ' γ' (a.put (some d) u) w1) : Hand P n σ o K := by
  intro F γ a w hF hr Q
  obtain ⟨fid, us, hrun, hc⟩ := h F γ a w hF hr
  unfold Oper.wp
  rw [hrun, Oper.upon_enter, hd]
  refine hc.mono ?_
  rintro e w1 ⟨u, σ', γ', rfl, hK, hrel⟩
  exact ⟨σ', γ', hK, hrel⟩
/-- A box gets its block's number (and a million) as its name. -/
theorem awp_ren {c : Code} {Q : AX → St → Prop} (kb : Nat) (hk : (look σ.box kb).isSome) (hkb : kb < 1000000) (hno : ∀ off, lookL σ.own (.b kb off) = none)
    (h : ∀ g, look σ.box (g + 1000000) = none → AWp P F c Q (σ.ren kb (g + 1000000))) : AWp P F c Q σ := fun γ a w hr => by
  obtain ⟨h1, h2⟩ := hr.ren hk hkb rfl hno
  exact h _ h1 _ a w h2
end
end Av
end Go.Proofs.YticnppnejafhdaaGreatDoor
/- Functions whose contract asks something of the world: package-level tables. Generic. -/
namespace Go.Proofs.YticnppnejafhdaaGreatDoor
open Go.RowKit
namespace Av
/-- What held of the first world. -/
def laidE (C : World → Prop) : Ext where
  foot _ := False
  froz _ := False
  holds _ := True
  stable _ _ := trivial
  laid := C
def startStC (C : World → Prop) (args : List AV) : St := { startSt args with ext := laidE C }
def FnOKC (P : Program) (C : World → Prop) (f : FuncId) (args : List AV) (res : FRes) : Prop :=
  Enters P f ∧ ∀ (w : World) (R : Reader), C w → (∀ p v, R p = some v → w.cell? p = some v) → ∀ us, RepAL R args us →
    Calls P f us.toArray w fun e w' => ∃ u, e = .returned u ∧ Below w.heap.size w w' ∧ ResRep R w w' res u
theorem FnOK.c {P : Program} {C : World → Prop} {f : FuncId} {args : List AV} {res : FRes} (h : FnOK P f args res) : FnOKC P C f args res := ⟨h.1, fun w R _ hR us hus => h.2 w R hR us hus⟩
theorem FnOKC.plain {P : Program} {f : FuncId} {args : List AV} {res : FRes} (h : FnOKC P (fun _ => True) f args res) : FnOK P f args res := ⟨h.1, fun w R hR us hus => h.2 w R trivial hR us hus⟩
section
variable {P : Program}
/-- A function, in worlds of which something holds. -/
theorem fn_okC {C : World → Prop} {f : FuncId} {fn : Func} {c : Code} {args : List AV} {res : FRes} (hf : P.funcs[f]? = some fn) (hname : (fn.name == "runtime.NumGoroutine") = false) (hb : fn.body = some c) (hn : args.length ≤ fn.ntmps ∧ fn.ntmps ≤ 1000000)
    (h : ∀ F : Fr, F.n = fn.ntmps → AWp P F c (fun x σ => (match x with | .exit _ => False | _ => True) ∧ RetOK P fn.results σ res) (startStC C args)) : FnOKC P C f args res := by
  refine ⟨⟨fn, c, hf, hname, hb⟩, fun w R hC hR us hus => calls_of_wp hf hb ?_⟩
  have hlen := hus.length
  let F : Fr := ⟨R, w, fn.ntmps⟩
  have hmut : ∀ γ p, ¬ (startStC C args).mut γ p := fun γ p => by
    rintro (⟨k, cs, h1, _⟩ | ⟨L, e, sz, rows, h1, _⟩ | h1) <;> cases h1
  let γ0 : Gh := ⟨fun _ => 0, fun _ => none⟩
  have hR0 : ∀ p v, R p = some v → rdr R w.heap.size (startStC C args) γ0 w p = some v := fun p v hp => by
    have := Rel.cell_lt (hR p v hp)
    unfold rdr
    rw [if_pos this]; exact hp
  have hrel : Rel F (startStC C args) γ0 { tmps := us.toArray ++ Array.replicate (fn.ntmps - us.toArray.size) undef, defers := [] } w := by
    refine ⟨rfl, ?_, Below.refl _ _, hR, fun t x hx => ?_, fun k cs hk => (by cases hk), fun k k' hk => (by cases hk), fun L e sz hL => (by cases hL), fun L L' g hL => (by cases hL), fun L k g hL => (by cases hL), trivial, fun b hb => hb.elim (fun (h : False) => h.elim) (fun (h : False) => h.elim), hn.2, fun k hk => (by cases hk), hC⟩
    · show _ = fn.ntmps
      simp; omega
    · have hx' : args[t]? = some x := by
        have := hx
        unfold startStC startSt at this
        rw [look_start] at this
        simpa using this
      obtain ⟨u, h1, h2, h3⟩ := hus.get hx'
      have ht : t < us.length := (List.getElem?_eq_some_iff.1 h1).1
      refine ⟨?_, fun k hk => by rw [h3] at hk; cases hk⟩
      have : (us.toArray ++ Array.replicate (fn.ntmps - us.toArray.size) undef).getD t undef = u := by
        rw [Array.getD_eq_getD_getElem?, Array.getElem?_append_left (by simpa using ht)]
        simp [h1]
      rw [this]
      exact h2.mono hR0 (fun k _ => rfl)
  refine wp_mono (h F rfl γ0 _ w hrel) ?_
  rintro e a' w' ⟨x, σ', γ', rfl, ⟨hx, hret⟩, hr'⟩
  have hbody : ∀ v, (results fn a'.tmps).run P w' = .ok v w' ∧ ResRep R w w' res v → bodyPost P fn (fun e w' => ∃ u, e = .returned u ∧ Below w.heap.size w w' ∧ ResRep R w w' res u) x.exit_ a' w' := fun v hv => by
    cases x with
    | normal => exact ⟨hr'.defers, v, hv.1, v, rfl, hr'.below, hv.2⟩
    | exit id => exact hx.elim
    | ret => exact ⟨hr'.defers, v, hv.1, v, rfl, hr'.below, hv.2⟩
  rcases hret with ⟨t, sz, rows, e, h1, h2, h3, rfl⟩ | hret
  · refine hbody (a'.tmps.getD t undef) ⟨by simp [results_eq, h1, resOne], ?_⟩
    obtain ⟨rows', v, h4, h5, h6⟩ := hr'.owns _ _ _ h3
    have h7 : look σ'.slot t = some (.sl sz rows') := h4
    rw [h2] at h7
    cases h7
    have h8 : v = a'.tmps.getD t undef := by simpa [valAt] using h5.symm
    subst h8
    refine ⟨γ'.rw (.s t), h6, RepP.mono (fun p v hp => ?_) (hr'.slots t _ h2).1⟩
    unfold fresh
    unfold rdr at hp
    by_cases hB : p.block < w.heap.size
    · rw [if_pos hB]; rw [if_pos hB] at hp; exact hp
    · rw [if_neg hB] at hp ⊢
      by_cases hm : σ'.mut γ' p
      · rw [if_pos hm] at hp; cases hp
      · rw [if_neg hm] at hp
        rw [if_neg]
        · exact hp
        · rintro ⟨h9, h10⟩
          exact hm (.inr (.inl ⟨.s t, e, sz, rows, h3, h2, h9, h10⟩))
  · obtain ⟨cs, vs, h1, h2, h3⟩ := retAll_ok hr' hret
    have hrun : (results fn a'.tmps).run P w' = .ok (if h : vs.toArray.size = 1 then vs.toArray[0] else .tuple vs.toArray) w' := by
      rw [results_eq, Array.mapM_eq_mapM_toList, Sem.run_bind, Sem.run_map, h3]
      rfl
    have hmono : ∀ {c : CV} {u : Value}, RepC (rdr R w.heap.size σ' γ' w') c u → RepA (fresh R w w' none 0) (fun _ => 0) c.av u := fun hc => (hc.mono rdr_fresh).av
    refine hbody _ ⟨hrun, ?_⟩
    subst h1
    cases h2 with
    | nil => exact ⟨rfl, [], by simp, .nil⟩
    | cons hc ht =>
      cases ht with
      | nil =>
        refine ⟨?_, by simpa using hmono hc⟩
        rename_i c _
        cases c with
        | c p => cases p <;> rfl
        | g xs => rfl
      | cons hc' ht' =>
        exact ⟨rfl, _, by simp, .cons (hc.mono rdr_fresh) (.cons (hc'.mono rdr_fresh) (ht'.mono rdr_fresh))⟩

/-- The call of such a function. -/
theorem hand_fnC {C : World → Prop} {n d fid : Nat} {σ : St} {o : Oper} {K : St → Prop} {args : Array Operand} {ats : Array TypeId} {avs avs' : List AV} {res : FRes} (hst : ∀ {w w' : World}, Below w.heap.size w w' → C w → C w') (ho : o.op = .call { callee := .value (.func fid), args := args, argTypes := ats }) (hd : o.dst = some d) (hdn : d < n) (he : σ.ext = laidE C)
    (h3 : evos (look σ.slot) args.toList = some avs) (h4 : snaps (look σ.box) avs = some avs') (h5 : FnOKC P C fid avs' res) (h6 : (avs.all fun x => x.refs.isEmpty) = true) (h : K (σ.res d ⟨res.av, none, res.own⟩)) : Hand P n σ o K := by
  refine hand_call hd fun F γ a w hF hr => ?_
  have hC0 : C F.w0 := by have := hr.laid; rw [he] at this; exact this
  have hC : C w := hst hr.below hC0
  obtain ⟨henter, hcall⟩ := h5
  have gA := evos_ok hr (fun t y _ hy => hy) h3
  obtain ⟨_, g7⟩ := snaps_ok hr (fun _ _ h => h) gA h4
  have hf : a.eval (.func fid) = .func (.func fid) #[] #[] := rfl
  refine ⟨fid, args.map a.eval, ?_, ?_⟩
  · simp [execOp, ho, resolve, hf, Deferred.ofValue, invoke, run_callFunc henter]
  · have hargs : args.map a.eval = (args.toList.map a.eval).toArray := by
      obtain ⟨l⟩ := args
      simp
    rw [hargs]
    refine (hcall w _ hC (fun p v hp => hr.cell hp) _ (g7 h6)).mono ?_
    rintro e w1 ⟨u, rfl, hb, hres⟩
    obtain ⟨γ', _, hrel⟩ := hr.call hb (by rw [hF]; exact hdn) hres
    exact ⟨u, _, γ', rfl, h, hrel⟩
end
end Av
theorem tab_below {P : Program} {w w' : World} {name : String} {k : IntKind} {zs : List Int} (hb : Below w.heap.size w w') (h : Lib.TabIs P w name k zs) : Lib.TabIs P w' name k zs := by
  unfold Lib.TabIs World.var? at h ⊢
  cases hg : P.globalNamed name with
  | none => rw [hg] at h; cases h
  | some g =>
    rw [hg] at h
    simp only [Option.bind_some] at h ⊢
    have hlt : g < w.heap.size := by
      refine Classical.byContradiction fun hn => ?_
      rw [Array.getElem?_eq_none (by omega)] at h
      cases h
    rw [hb.block g hlt]
    exact h
end Go.Proofs.YticnppnejafhdaaGreatDoor
/- The library's contracts that this claim uses, laid for its program: written by a tool of the kit. -/
namespace Go.Proofs.YticnppnejafhdaaGreatDoor
open Go.Shelf
def Tryz.lays156_ren : Go.Shelf.Ren := ⟨fun | 156 => 89 | 165 => 124 | 166 => 125 | 169 => 126 | 240 => 158 | 241 => 159 | 276 => 175 | 277 => 176 | n => n, fun | 31 => 132 | 9 => 9 | 3 => 3 | 4 => 4 | 0 => 0 | 20 => 20 | 72 => 162 | 76 => 166 | 70 => 160 | 37 => 134 | 75 => 165 | 127 => 193 | 164 => 208 | 5 => 5 | 80 => 168 | n => n, fun | n => n⟩
theorem Tryz.lays156 : Go.Proofs.Lays.n156 Tryz.prog Tryz.lays156_ren := {
  mixed := by kernel_rfl
  f156 := Tryz.func89.trans (congrArg some (by kernel_rfl))
  f165 := Tryz.func124.trans (congrArg some (by kernel_rfl))
  f166 := Tryz.func125.trans (congrArg some (by kernel_rfl))
  f169 := Tryz.func126.trans (congrArg some (by kernel_rfl))
  f240 := Tryz.func158.trans (congrArg some (by kernel_rfl))
  f241 := Tryz.func159.trans (congrArg some (by kernel_rfl))
  f276 := Tryz.func175.trans (congrArg some (by kernel_rfl))
  f277 := Tryz.func176.trans (congrArg some (by kernel_rfl))
  t0 := Tryz.underlying0
  a0 := Tryz.isAgg0
  z0 := Tryz.sizeOf0
  v0 := Tryz.zeroValue0
  t3 := Tryz.underlying3
  a3 := Tryz.isAgg3
  z3 := Tryz.sizeOf3
  v3 := Tryz.zeroValue3
  t4 := Tryz.underlying4
  a4 := Tryz.isAgg4
  z4 := Tryz.sizeOf4
  v4 := Tryz.zeroValue4
  t9 := Tryz.underlying9
  a9 := Tryz.isAgg9
  z9 := Tryz.sizeOf9
  v9 := Tryz.zeroValue9
  t20 := Tryz.underlying20
  a20 := Tryz.isAgg20
  z20 := Tryz.sizeOf20
  v20 := Tryz.zeroValue20
  t31 := Tryz.underlying132
  a31 := Tryz.isAgg132
  z31 := Tryz.sizeOf132
  v31 := Tryz.zeroValue132
  t37 := Tryz.underlying134
  a37 := Tryz.isAgg134
  z37 := Tryz.sizeOf134
  v37 := Tryz.zeroValue134
  t70 := Tryz.underlying160
  a70 := Tryz.isAgg160
  z70 := Tryz.sizeOf160
  v70 := Tryz.zeroValue160
  t72 := Tryz.underlying162
  a72 := Tryz.isAgg162
  z72 := Tryz.sizeOf162
  v72 := Tryz.zeroValue162
  t75 := Tryz.underlying165
  a75 := Tryz.isAgg165
  z75 := Tryz.sizeOf165
  v75 := Tryz.zeroValue165
  t76 := Tryz.underlying166
  a76 := Tryz.isAgg166
  z76 := Tryz.sizeOf166
  v76 := Tryz.zeroValue166
  t127 := Tryz.underlying193
  a127 := Tryz.isAgg193
  z127 := Tryz.sizeOf193
  v127 := Tryz.zeroValue193
  t164 := Tryz.underlying208
  a164 := Tryz.isAgg208
  z164 := Tryz.sizeOf208
  v164 := Tryz.zeroValue208 }
theorem Tryz.Builder_Extra_156 : Builder.Extra Tryz.prog Tryz.lays156_ren := {
  sizeBuilder := by kernel_rfl
  liesBuilder := by kernel_rfl
  t5 := Tryz.underlying5
  a5 := Tryz.isAgg5
  z5 := Tryz.sizeOf5
  v5 := Tryz.zeroValue5
  infoByte := by kernel_rfl
  cellsByte := by kernel_rfl
  sizeByte := by kernel_rfl
  neB5 := by decide }
def Tryz.lays171_ren : Go.Shelf.Ren := ⟨fun | 171 => 88 | 243 => 123 | 246 => 157 | 283 => 171 | 284 => 172 | 285 => 173 | 286 => 174 | 129 => 147 | 317 => 179 | 318 => 180 | 319 => 181 | 320 => 182 | 337 => 183 | 338 => 184 | n => n, fun | 3 => 3 | 9 => 9 | 2 => 2 | 4 => 4 | 171 => 204 | 0 => 0 | 53 => 184 | 37 => 134 | 5 => 5 | 173 => 206 | 212 => 215 | 51 => 172 | 20 => 20 | 213 => 216 | 46 => 141 | 232 => 217 | 233 => 218 | n => n, fun | 17 => 1 | 18 => 2 | 19 => 3 | n => n⟩
theorem Tryz.lays171 : Go.Proofs.Lays.n171 Tryz.prog Tryz.lays171_ren := {
  mixed := by kernel_rfl
  f129 := Tryz.func147.trans (congrArg some (by kernel_rfl))
  f171 := Tryz.func88.trans (congrArg some (by kernel_rfl))
  f243 := Tryz.func123.trans (congrArg some (by kernel_rfl))
  f246 := Tryz.func157.trans (congrArg some (by kernel_rfl))
  f283 := Tryz.func171.trans (congrArg some (by kernel_rfl))
  f284 := Tryz.func172.trans (congrArg some (by kernel_rfl))
  f285 := Tryz.func173.trans (congrArg some (by kernel_rfl))
  f286 := Tryz.func174.trans (congrArg some (by kernel_rfl))
  f317 := Tryz.func179.trans (congrArg some (by kernel_rfl))
  f318 := Tryz.func180.trans (congrArg some (by kernel_rfl))
  f319 := Tryz.func181.trans (congrArg some (by kernel_rfl))
  f320 := Tryz.func182.trans (congrArg some (by kernel_rfl))
  f337 := Tryz.func183.trans (congrArg some (by kernel_rfl))
  f338 := Tryz.func184.trans (congrArg some (by kernel_rfl))
  t0 := Tryz.underlying0
  a0 := Tryz.isAgg0
  z0 := Tryz.sizeOf0
  v0 := Tryz.zeroValue0
  t2 := Tryz.underlying2
  a2 := Tryz.isAgg2
  z2 := Tryz.sizeOf2
  v2 := Tryz.zeroValue2
  t3 := Tryz.underlying3
  a3 := Tryz.isAgg3
  z3 := Tryz.sizeOf3
  v3 := Tryz.zeroValue3
  t4 := Tryz.underlying4
  a4 := Tryz.isAgg4
  z4 := Tryz.sizeOf4
  v4 := Tryz.zeroValue4
  t5 := Tryz.underlying5
  a5 := Tryz.isAgg5
  z5 := Tryz.sizeOf5
  v5 := Tryz.zeroValue5
  t9 := Tryz.underlying9
  a9 := Tryz.isAgg9
  z9 := Tryz.sizeOf9
  v9 := Tryz.zeroValue9
  t20 := Tryz.underlying20
  a20 := Tryz.isAgg20
  z20 := Tryz.sizeOf20
  v20 := Tryz.zeroValue20
  t37 := Tryz.underlying134
  a37 := Tryz.isAgg134
  z37 := Tryz.sizeOf134
  v37 := Tryz.zeroValue134
  t46 := Tryz.underlying141
  a46 := Tryz.isAgg141
  z46 := Tryz.sizeOf141
  v46 := Tryz.zeroValue141
  t51 := Tryz.underlying172
  a51 := Tryz.isAgg172
  z51 := Tryz.sizeOf172
  v51 := Tryz.zeroValue172
  t53 := Tryz.underlying184
  a53 := Tryz.isAgg184
  z53 := Tryz.sizeOf184
  v53 := Tryz.zeroValue184
  t171 := Tryz.underlying204
  a171 := Tryz.isAgg204
  z171 := Tryz.sizeOf204
  v171 := Tryz.zeroValue204
  t173 := Tryz.underlying206
  a173 := Tryz.isAgg206
  z173 := Tryz.sizeOf206
  v173 := Tryz.zeroValue206
  t212 := Tryz.underlying215
  a212 := Tryz.isAgg215
  z212 := Tryz.sizeOf215
  v212 := Tryz.zeroValue215
  t213 := Tryz.underlying216
  a213 := Tryz.isAgg216
  z213 := Tryz.sizeOf216
  t232 := Tryz.underlying217
  a232 := Tryz.isAgg217
  z232 := Tryz.sizeOf217
  v232 := Tryz.zeroValue217
  t233 := Tryz.underlying218
  a233 := Tryz.isAgg218
  z233 := Tryz.sizeOf218
  v233 := Tryz.zeroValue218
  g17 := by kernel_rfl
  g18 := by kernel_rfl
  g19 := by kernel_rfl }
end Go.Proofs.YticnppnejafhdaaGreatDoor
/- Texts: strconv.Itoa, strings.Join, and asking an interface for its type: by abstract states. -/
namespace Go.Proofs.YticnppnejafhdaaGreatDoor
open Go.RowKit
open Nd Rc Mo
open Av
def txtI (n : Int) : ByteArray := ⟨(Lib.itoa n).toArray⟩
/-- The table of the powers of ten. -/
def TabC (w : World) : Prop := Lib.TabIs Tryz.prog w "internal/strconv.uint64pow10" .u64 Lib.pow10Tab
theorem TabC.below {w w' : World} (hb : Below w.heap.size w w') (h : TabC w) : TabC w' := tab_below hb h
theorem itoaS_ok (i : Nat) (hi : i < 100) : FnOK Tryz.prog 88 [iv (i : Int)] ⟨.v (.string (txtI (i : Int))), none⟩ := fn_of ⟨Tryz.f88, _, Tryz.func88, by kernel_rfl, rfl⟩ fun w R hR us hus => by
  cases hus with | cons h0 _ hus =>
  cases hus
  rw [h0]
  refine (Any.strconv_Itoa_small Tryz.lays171 i hi w).mono ?_
  rintro e w' ⟨rfl, rfl⟩
  exact ⟨_, rfl, Below.refl _ _, rfl, by unfold txtI; rw [Lib.itoa_nonneg]; rfl⟩
def strRow (s : ByteArray) : List PV := [.v (.string s)]
def joinT (xs : List ByteArray) (sep : ByteArray) : ByteArray := ⟨(Lib.join (xs.map (·.data.toList)) sep.data.toList).toArray⟩
theorem join_ok (xs : List ByteArray) (sep : ByteArray) (hN : xs.length ≤ 140737488355328) (hlen : (Lib.join (xs.map (·.data.toList)) sep.data.toList).length ≤ 140737488355328) :
    FnOK Tryz.prog 89 [.sl 1 (xs.map strRow), .v (.string sep)] ⟨.v (.string (joinT xs sep)), none⟩ := fn_of ⟨Tryz.f89, _, Tryz.func89, by kernel_rfl, rfl⟩ fun w R hR us hus => by
  cases hus with | cons h0 _ hus =>
  cases hus with | cons h1 _ hus =>
  cases hus
  rw [h1]
  have h0' : RepP R (.sl 1 (xs.map strRow)) _ := h0
  generalize hp : PV.sl 1 (xs.map strRow) = p at h0'
  cases h0' with
  | v => cases hp
  | sl sz rows A cap f hsz hA hf hc =>
    injection hp with hsz1 hrows
    subst hsz1
    subst hrows
    rw [List.length_map] at hc ⊢
    refine Calls.mono (R := fun e w' => e = .returned (.string (joinT xs sep)) ∧ Below w.heap.size w w') ?_ (fun e w' h2 => ⟨_, h2.1, h2.2, rfl, rfl⟩)
    have hcells : ∀ (b off : Nat), (∀ (k : Nat) (row : List PV) (j : Nat) (p : PV), (xs.map strRow)[k]? = some row → row[j]? = some p → R ⟨b, off + k * 1 + j, none⟩ = some (f k j)) → ∀ (j : Nat) x, xs[j]? = some x → w.cell? ⟨b, off + j, none⟩ = some (.string x) := fun b off h j x hx => by
      have g1 : (xs.map strRow)[j]? = some (strRow x) := by rw [List.getElem?_map, hx]; rfl
      have g2 := hR _ _ (h j _ 0 _ g1 rfl)
      have g3 := hf j _ 0 _ g1 rfl
      cases hq : f j 0 with
      | string y =>
        rw [hq] at g3 g2
        cases g3
        simpa using g2
      | _ => rw [hq] at g3; cases g3
    match xs, hA, hcells, hN, hc, hlen with
    | [], _, _, _, _, _ =>
      refine (Any.strings_Join_none Tryz.lays156 Tryz.Builder_Extra_156 A cap sep w).mono fun e w' h2 => ⟨?_, h2.2 ▸ Below.refl _ _⟩
      rw [h2.1]; rfl
    | x :: xs, hA, hcells, hN, hc, hlen =>
      rcases hA with hA | ⟨b, off, rfl, hA2⟩
      · cases hA
      · have hc1 := hcells b off hA2
        exact Any.strings_Join Tryz.lays156 Tryz.Builder_Extra_156 b off cap (x :: xs) sep w hc1 (World.block_lt_of_cell? w _ (hc1 0 x rfl)) hN hc hlen
section
variable {n d : Nat} {σ : St} {o : Oper} {K : St → Prop}
theorem hand_assert {x : Operand} {T U t : TypeId} {u z : Value} {ty : TypeDesc} (ho : o.op = .typeAssert x T U true) (hd : o.dst = some d) (hdn : d < n) (hx : evo (Av.look σ.slot) x = some (.v (.iface t u))) (hU : Tryz.prog.underlying U = some ty) (hty : ∀ ms, ty ≠ .interface ms) (hz : (Tryz.prog.info? U).map (·.zero) = some (some z)) (h1 : z.oneCell' = true) (hu1 : u.oneCell' = true)
    (h : K (σ.put d (.tup [.c (.v (if t = U then u else z)), .c (.v (.bool (decide (t = U))))]))) : Hand Tryz.prog n σ o K := by
  refine hand_value hd hdn fun F γ a w hF hr => ⟨.tup [.c (.v (if t = U then u else z)), .c (.v (.bool (decide (t = U))))], .tuple #[if t = U then u else z, .bool (decide (t = U))], w, σ.ext, ?_, Turn.same hr.exth (fun _ h => h) (fun _ h => .inr h), ⟨[_, _], rfl, .cons (.c (.v _ ?_)) (.cons (.c (.v _ rfl)) .nil)⟩, fun k hk => (by cases hk), h⟩
  · have e1 : a.eval x = .iface t u := (evo_ok hr (fun _ _ _ hy => hy) hx).1
    have hzv : (zeroValue U).run Tryz.prog w = .ok z w := by
      cases hi : Tryz.prog.info? U with
      | none => rw [hi] at hz; cases hz
      | some i =>
        rw [hi] at hz
        simp only [Option.map_some, Option.some.injEq] at hz
        simp [zeroValue, typeInfo, hi, hz]
    have hund : (underlying U).run Tryz.prog w = .ok ty w := by
      simp [underlying, hU]
    by_cases ht : t = U
    · subst ht
      simp [execOp, ho, e1, Instr.typeAssert, hund]
    · simp [execOp, ho, e1, Instr.typeAssert, hund, hzv, ht]
  · split
    · exact hu1
    · exact h1
end
end Go.Proofs.YticnppnejafhdaaGreatDoor
/- Lines: plain. -/
namespace Go.Proofs.YticnppnejafhdaaGreatDoor
open Go.RowKit
open Nd Rc Mo
open Av
set_option maxRecDepth 100000
set_option linter.unusedSimpArgs false

inductive Pt where
  | n (i : Int)
  | s (t : ByteArray)
def Pt.pv : Pt → PV
  | .n i => .v (.iface 3 (.int .i64 i))
  | .s t => .v (.iface 9 (.string t))
def Pt.row (p : Pt) : List PV := [p.pv]
def Pt.txt : Pt → ByteArray
  | .n i => txtI i
  | .s t => t
def lineT (l : List Pt) : ByteArray := joinT (l.map Pt.txt) ⟨#[32]⟩ ++ ⟨#[10]⟩
/-- The bytes that some parts take at most. -/
def lensT (l : List Pt) : Nat := (l.map fun p => p.txt.size + 1).foldr (· + ·) 0
theorem ba_size (s : ByteArray) : s.size = s.data.toList.length := (Array.length_toList (xs := s.data)).symm
theorem lens_map : ∀ (l : List Pt), Lib.lens ((l.map Pt.txt).map (·.data.toList)) + l.length = lensT l
  | [] => rfl
  | p :: l => by
    have := lens_map l
    have h := ba_size p.txt
    have e : lensT (p :: l) = p.txt.size + 1 + lensT l := rfl
    have e2 : Lib.lens (((p :: l).map Pt.txt).map (·.data.toList)) = p.txt.data.toList.length + Lib.lens ((l.map Pt.txt).map (·.data.toList)) := rfl
    rw [e, e2, List.length_cons]
    omega
theorem joinT_len (l : List Pt) : (Lib.join ((l.map Pt.txt).map (·.data.toList)) [32]).length ≤ lensT l := by
  have h := lens_map l
  cases l with
  | nil => rw [List.map_nil, List.map_nil, Lib.join_nil]; exact Nat.zero_le _
  | cons p l =>
    rw [List.map_cons, List.map_cons] at h ⊢
    rw [Lib.join_length]
    simp only [List.length_map, List.length_cons, List.length_nil] at h ⊢
    omega
theorem lineT_size (l : List Pt) : (lineT l).size ≤ lensT l + 1 := by
  have h := joinT_len l
  unfold lineT joinT
  rw [ByteArray.size_append]
  have e1 : (⟨(Lib.join ((l.map Pt.txt).map (·.data.toList)) [32]).toArray⟩ : ByteArray).size = (Lib.join ((l.map Pt.txt).map (·.data.toList)) [32]).length := List.size_toArray
  have e2 : (⟨#[10]⟩ : ByteArray).size = 1 := rfl
  have e3 : ((⟨#[32]⟩ : ByteArray).data.toList) = [32] := rfl
  rw [e3, e1, e2]
  omega
end Go.Proofs.YticnppnejafhdaaGreatDoor

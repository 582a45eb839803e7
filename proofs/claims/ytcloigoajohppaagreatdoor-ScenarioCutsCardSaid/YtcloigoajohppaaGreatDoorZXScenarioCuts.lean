import Derived.Shelf.LaysM
import Derived.Shelf.LaysC
import Derived.Shelf.Small.Wraps
import Derived.Shelf.Strings.SlTrimAscii
import Derived.Shelf.Strings.SplitShaped
import Derived.Shelf.Strings.Shaped
import Derived.Shelf.Strconv.ErrVarAll
import Derived.Shelf.Strings.OnBuilder
import Derived.Shelf.Abstract
import Derived.Test.YtcloigoajohppaaGreatDoorZ7
set_option linter.unusedVariables false
set_option linter.unusedSimpArgs false
/- Abstract states: contracts that were proved over memory, lifted. Generic. -/
namespace Go.Proofs.YtcloigoajohppaaGreatDoor
open Go.RowKit
namespace Av

/-- A contract over memory, lifted. -/
theorem fn_of {P : Program} {f : FuncId} {args : List AV} {res : FRes} (hf : Enters P f) (h : ∀ (w : World) (R : Reader), (∀ p v, R p = some v → w.cell? p = some v) → ∀ us, RepAL R args us →
    Calls P f us.toArray w fun e w' => ∃ u, e = .returned u ∧ Below w.heap.size w w' ∧ ResRep R w w' res u) : FnOK P f args res := ⟨hf, h⟩
end Av
end Go.Proofs.YtcloigoajohppaaGreatDoor

/- The library's contracts that this claim uses, laid for its program: written by a tool of the kit. -/
namespace Go.Proofs.YtcloigoajohppaaGreatDoor
open Go.Shelf
def Tryz.lays156_ren : Go.Shelf.Ren := ⟨fun | 156 => 21 | 165 => 51 | 166 => 52 | 169 => 30 | 240 => 93 | 241 => 94 | 276 => 122 | 277 => 123 | n => n, fun | 31 => 46 | 9 => 9 | 3 => 3 | 4 => 4 | 0 => 0 | 20 => 20 | 72 => 72 | 76 => 118 | 70 => 70 | 37 => 56 | 75 => 117 | 127 => 128 | 164 => 182 | 5 => 5 | 80 => 58 | n => n, fun | n => n⟩
theorem Tryz.lays156 : Go.Proofs.Lays.n156 Tryz.prog Tryz.lays156_ren := {
  mixed := by kernel_rfl
  f156 := Tryz.func21.trans (congrArg some (by kernel_rfl))
  f165 := Tryz.func51.trans (congrArg some (by kernel_rfl))
  f166 := Tryz.func52.trans (congrArg some (by kernel_rfl))
  f169 := Tryz.func30.trans (congrArg some (by kernel_rfl))
  f240 := Tryz.func93.trans (congrArg some (by kernel_rfl))
  f241 := Tryz.func94.trans (congrArg some (by kernel_rfl))
  f276 := Tryz.func122.trans (congrArg some (by kernel_rfl))
  f277 := Tryz.func123.trans (congrArg some (by kernel_rfl))
  t0 := Tryz.underlying0
  a0 := Tryz.isAgg0
  z0 := Tryz.sizeOf0
  v0 := Tryz.zeroValue0
  t3 := Tryz.underlying3
  a3 := Tryz.isAgg3
  z3 := Tryz.sizeOf3
  v3 := Tryz.zeroValue3
  t4 := Tryz.underlying4
  a4 := Tryz.isAgg4
  z4 := Tryz.sizeOf4
  v4 := Tryz.zeroValue4
  t9 := Tryz.underlying9
  a9 := Tryz.isAgg9
  z9 := Tryz.sizeOf9
  v9 := Tryz.zeroValue9
  t20 := Tryz.underlying20
  a20 := Tryz.isAgg20
  z20 := Tryz.sizeOf20
  v20 := Tryz.zeroValue20
  t31 := Tryz.underlying46
  a31 := Tryz.isAgg46
  z31 := Tryz.sizeOf46
  v31 := Tryz.zeroValue46
  t37 := Tryz.underlying56
  a37 := Tryz.isAgg56
  z37 := Tryz.sizeOf56
  v37 := Tryz.zeroValue56
  t70 := Tryz.underlying70
  a70 := Tryz.isAgg70
  z70 := Tryz.sizeOf70
  v70 := Tryz.zeroValue70
  t72 := Tryz.underlying72
  a72 := Tryz.isAgg72
  z72 := Tryz.sizeOf72
  v72 := Tryz.zeroValue72
  t75 := Tryz.underlying117
  a75 := Tryz.isAgg117
  z75 := Tryz.sizeOf117
  v75 := Tryz.zeroValue117
  t76 := Tryz.underlying118
  a76 := Tryz.isAgg118
  z76 := Tryz.sizeOf118
  v76 := Tryz.zeroValue118
  t127 := Tryz.underlying128
  a127 := Tryz.isAgg128
  z127 := Tryz.sizeOf128
  v127 := Tryz.zeroValue128
  t164 := Tryz.underlying182
  a164 := Tryz.isAgg182
  z164 := Tryz.sizeOf182
  v164 := Tryz.zeroValue182 }
end Go.Proofs.YtcloigoajohppaaGreatDoor

namespace Go.Proofs.YtcloigoajohppaaGreatDoor
open Go.RowKit
open Av Sc
set_option maxRecDepth 100000
set_option linter.unusedSimpArgs false
theorem Tryz.Builder_Extra_156 : Builder.Extra Tryz.prog Tryz.lays156_ren := {
  sizeBuilder := by kernel_rfl
  liesBuilder := by kernel_rfl
  t5 := Tryz.underlying5
  a5 := Tryz.isAgg5
  z5 := Tryz.sizeOf5
  v5 := Tryz.zeroValue5
  infoByte := by kernel_rfl
  cellsByte := by kernel_rfl
  sizeByte := by kernel_rfl
  neB5 := by decide }
/-- The pieces of a text, each with its end of line. -/
def afterL (s : ByteArray) : List ByteArray := Lib.splitB ⟨#[10]⟩ 1 (Lib.countB s ⟨#[10]⟩) s
theorem afterL_len (s : ByteArray) : (afterL s).length = Lib.countB s ⟨#[10]⟩ + 1 := Lib.splitB_all _ (by decide) _ _ _ rfl
theorem splitAfter_any (s : ByteArray) (hs : s.size < 4294967281) (w : World) (hC : LC w) : Calls Tryz.prog 20 #[.string s, .string ⟨#[10]⟩] w fun e w' =>
    e = .returned (.slice (some ⟨w.heap.size, 0, none⟩) (afterL s).length (afterL s).length) ∧ w' = w.alloc (.cells ((afterL s).map Value.string).toArray 9) := by
  obtain ⟨-, -, m, hm⟩ := hC
  have hle := Lib.countB_le ⟨#[10]⟩ (by decide) s.size s (Nat.le_refl _)
  have hlen := afterL_len s
  have c := Any.strings_genSplit { Tryz.lays146 with } Tryz.lays146.i9 s ⟨#[10]⟩ 1 (-1) (Lib.countB s ⟨#[10]⟩ + 1) m w hs hm (by decide) (by decide) (by decide) (by decide) (by rw [if_pos (by decide)]; omega)
  rw [Nat.add_sub_cancel] at c
  have e2 : Lib.cellsOf (afterL s) (afterL s).length = ((afterL s).map Value.string).toArray := Lib.cellsOf_full _
  have c2 : Calls Tryz.prog 50 #[.string s, .string ⟨#[10]⟩, .int .i64 1, .int .i64 (-1)] w fun e w' =>
      e = .returned (.slice (some ⟨w.heap.size, 0, none⟩) (afterL s).length (afterL s).length) ∧ w' = w.alloc (.cells ((afterL s).map Value.string).toArray 9) := by
    refine c.mono ?_
    rintro e w' ⟨rfl, rfl⟩
    refine ⟨?_, ?_⟩
    · show _ = Ending.returned (Value.slice _ _ _)
      rw [hlen]
      show Ending.returned (Value.slice _ (afterL s).length _) = _
      rw [hlen]
    · rw [← e2, hlen]
      rfl
  clear c e2 hlen hle
  have e50 : ∀ args w, (callFunc 50 args).run Tryz.prog w = .ok (.enter 50 args) w := enters_of Tryz.func50 (by kernel_rfl) rfl
  go_enter Tryz.func20, Tryz.ntmps20
  go_wp2_with (go_at_fn 50; refine c2.mono ?_; rintro e w' ⟨rfl, hw⟩; rw [hw])
  go_ret
  exact ⟨rfl, rfl⟩
/-- Strings in a new block are data. -/
theorem rep_strs (w : World) (R : Reader) (L : List ByteArray) : RepP (fresh R w (w.alloc (.cells (L.map Value.string).toArray 9)) none 0) (.sl 1 (strR L)) (.slice (some ⟨w.heap.size, 0, none⟩) L.length L.length) := by
  have hl2 : (strR L).length = L.length := by unfold strR; rw [List.length_map]
  have hk : ∀ (k : Nat) (row : List PV), (strR L)[k]? = some row → ∃ p, L[k]? = some p ∧ row = [PV.v (.string p)] := fun k row h => by
    unfold strR at h
    rw [List.getElem?_map] at h
    cases hq : L[k]? with
    | none => rw [hq] at h; cases h
    | some p => rw [hq] at h; cases h; exact ⟨p, rfl, rfl⟩
  have hr := RepP.sl (R := fresh R w (w.alloc (.cells ((L).map Value.string).toArray 9)) none 0) 1 (strR L) (some ⟨w.heap.size, 0, none⟩) (L.length) (fun k _ => .string (L.getD k ByteArray.empty)) (fun k row h => by
      obtain ⟨p, _, rfl⟩ := hk k row h
      rfl) (.inr ⟨w.heap.size, 0, rfl, fun k row j p h1 h2 => by
      obtain ⟨q, hq, rfl⟩ := hk k row h1
      have hj : j = 0 := by
        cases j with
        | zero => rfl
        | succ j => simp at h2
      subst hj
      unfold fresh
      rw [if_neg (by show ¬ (w.heap.size < w.heap.size); omega)]
      rw [if_neg (by rintro ⟨h, _⟩; cases h)]
      rw [cell_of_row _ _ _ _ _ (0, 0) (heap_alloc_new w _)]
      show (L.map Value.string).toArray[0 + k * 1 + 0]? = _
      rw [List.getElem?_toArray, List.getElem?_map, show 0 + k * 1 + 0 = k by omega, hq, List.getD_eq_getElem?_getD, hq]
      rfl⟩) (fun k row j p h1 h2 => by
      obtain ⟨q, hq, rfl⟩ := hk k row h1
      cases j with
      | zero =>
        simp at h2
        subst h2
        rw [List.getD_eq_getElem?_getD, hq]
        exact .v _ rfl
      | succ j => simp at h2) (by rw [hl2]; exact Nat.le_refl _)
  rw [hl2] at hr
  exact hr
theorem splitAfter_okC (s : ByteArray) (hs : s.size < 4294967281) : FnOKC Tryz.prog LC 20 [.v (.string s), .v (.string ⟨#[10]⟩)] ⟨.sl 1 (strR (afterL s)), none⟩ := by
  refine ⟨⟨Tryz.f20, _, Tryz.func20, by kernel_rfl, rfl⟩, fun w R hC hR us hus => ?_⟩
  cases hus with | cons h0 _ hus =>
  cases hus with | cons h1 _ hus =>
  cases hus
  rw [h0, h1]
  refine (splitAfter_any s hs w hC).mono ?_
  rintro e w' ⟨rfl, rfl⟩
  have hb : Below w.heap.size w (w.alloc (.cells ((afterL s).map Value.string).toArray 9)) := (Below.refl _ w).alloc (Nat.le_refl _) _
  refine ⟨_, rfl, hb, rfl, ?_⟩
  exact rep_strs w R (afterL s)
/-- strings.Join. -/
def joinT (xs : List ByteArray) (sep : ByteArray) : ByteArray := ⟨(Lib.join (xs.map (·.data.toList)) sep.data.toList).toArray⟩
theorem join_ok (xs : List ByteArray) (sep : ByteArray) (hN : xs.length ≤ 140737488355328) (hlen : (Lib.join (xs.map (·.data.toList)) sep.data.toList).length ≤ 140737488355328) :
    FnOK Tryz.prog 21 [.sl 1 (strR xs), .v (.string sep)] ⟨.v (.string (joinT xs sep)), none⟩ := fn_of ⟨Tryz.f21, _, Tryz.func21, by kernel_rfl, rfl⟩ fun w R hR us hus => by
  cases hus with | cons h0 _ hus =>
  cases hus with | cons h1 _ hus =>
  cases hus
  rw [h1]
  have h0' : RepP R (.sl 1 (strR xs)) _ := h0
  generalize hp : PV.sl 1 (strR xs) = p at h0'
  cases h0' with
  | v => cases hp
  | sl sz rows A cap f hsz hA hf hc =>
    injection hp with hsz1 hrows
    subst hsz1
    subst hrows
    rw [show (strR xs).length = xs.length from List.length_map _] at hc ⊢
    refine Calls.mono (R := fun e w' => e = .returned (.string (joinT xs sep)) ∧ Below w.heap.size w w') ?_ (fun e w' h2 => ⟨_, h2.1, h2.2, rfl, rfl⟩)
    have hcells : ∀ (b off : Nat), (∀ (k : Nat) (row : List PV) (j : Nat) (p : PV), (strR xs)[k]? = some row → row[j]? = some p → R ⟨b, off + k * 1 + j, none⟩ = some (f k j)) → ∀ (j : Nat) x, xs[j]? = some x → w.cell? ⟨b, off + j, none⟩ = some (.string x) := fun b off h j x hx => by
      have g1 : (strR xs)[j]? = some [PV.v (.string x)] := by unfold strR; rw [List.getElem?_map, hx]; rfl
      have g2 := hR _ _ (h j _ 0 _ g1 rfl)
      have g3 := hf j _ 0 _ g1 rfl
      cases hq : f j 0 with
      | string y =>
        rw [hq] at g3 g2
        cases g3
        simpa using g2
      | _ => rw [hq] at g3; cases g3
    match xs, hA, hcells, hN, hc, hlen with
    | [], _, _, _, _, _ =>
      refine (Any.strings_Join_none Tryz.lays156 Tryz.Builder_Extra_156 A cap sep w).mono fun e w' h2 => ⟨?_, h2.2 ▸ Below.refl _ _⟩
      rw [h2.1]; rfl
    | x :: xs, hA, hcells, hN, hc, hlen =>
      rcases hA with hA | ⟨b, off, rfl, hA2⟩
      · cases hA
      · have hc1 := hcells b off hA2
        exact Any.strings_Join Tryz.lays156 Tryz.Builder_Extra_156 b off cap (x :: xs) sep w hc1 (World.block_lt_of_cell? w _ (hc1 0 x rfl)) hN hc hlen
end Go.Proofs.YtcloigoajohppaaGreatDoor
namespace Go.Proofs.YtcloigoajohppaaGreatDoor
open Go.RowKit
open Av
open Sc
set_option maxRecDepth 100000
set_option linter.unusedSimpArgs false
set_option linter.unusedVariables false

/-- The pieces, but for the last one with the separator behind. -/
def withC (c : UInt8) : List (List UInt8) → List (List UInt8)
  | [] => []
  | [x] => [x]
  | x :: y :: t => (x ++ [c]) :: withC c (y :: t)
theorem withC_cons (c : UInt8) (x : List UInt8) {t : List (List UInt8)} (h : t ≠ []) : withC c (x :: t) = (x ++ [c]) :: withC c t := by
  cases t with
  | nil => exact absurd rfl h
  | cons y t => rfl
theorem afterL_of : ∀ (k : Nat) (s : ByteArray), s.size ≤ k → Lib.splitB ⟨#[10]⟩ 1 (Lib.countB s ⟨#[10]⟩) s = (withC 10 (splitC 10 s.data.toList)).map mkB := fun k => by
  induction k with
  | zero =>
    intro s hs
    have h0 : s.data.toList = [] := List.eq_nil_of_length_eq_zero (by rw [← size_list]; omega)
    have hi : Lib.indexB s ⟨#[10]⟩ = -1 := by
      show Lib.index _ [10] = -1
      rw [Lib.index_one, h0]
      rfl
    rw [Lib.countB_miss _ _ hi, Lib.splitB_zero, h0]
    show [s] = [mkB []]
    rw [← mkB_of s, h0]
  | succ k ih =>
    intro s hs
    rcases split_cases 10 s.data.toList with h | ⟨a, r, he, h⟩
    · have hi : Lib.indexB s ⟨#[10]⟩ = -1 := by
        show Lib.index _ [10] = -1
        rw [Lib.index_one, indexByte_miss h]
      rw [Lib.countB_miss _ _ hi, Lib.splitB_zero, splitC_one h]
      show [s] = [mkB s.data.toList]
      rw [mkB_of]
    · have hi : Lib.indexB s ⟨#[10]⟩ = (a.length : Nat) := by
        show Lib.index _ [10] = _
        rw [Lib.index_one, he, indexByte_hit r h]
      have hsz := size_list s
      rw [he] at hsz
      simp only [List.length_append, List.length_cons] at hsz
      rw [Lib.countB_hit _ _ _ (show 1 ≤ (⟨#[10]⟩ : ByteArray).size from Nat.le_refl 1) hi, Nat.add_comm 1, Lib.splitB_hit _ _ _ _ _ hi]
      show s.extract 0 (a.length + 1) :: Lib.splitB ⟨#[10]⟩ 1 (Lib.countB (s.extract (a.length + 1) s.size) ⟨#[10]⟩) (s.extract (a.length + 1) s.size) = _
      rw [ih _ (by rw [ByteArray.size_extract]; omega)]
      have e1 : (s.extract (a.length + 1) s.size).data.toList = r := by
        rw [Lib.extract_to_end, he, List.drop_append]
        simp
      have e2 : s.extract 0 (a.length + 1) = mkB (a ++ [10]) := ext_list (by rw [Lib.extract_from_zero, he, mkB_list, show a ++ 10 :: r = (a ++ [10]) ++ r by simp, List.take_append_of_le_length (by simp), List.take_of_length_le (by simp)])
      rw [e1, e2, he, splitC_cons r h, withC_cons _ _ (splitC_ne _ _), List.map_cons]
theorem afterL_eq (s : ByteArray) : afterL s = (withC 10 (splitC 10 s.data.toList)).map mkB := afterL_of s.size s (Nat.le_refl _)
theorem join_flat : ∀ (xs : List (List UInt8)), Lib.join xs [] = xs.flatten := fun xs => by
  unfold Lib.join
  show ([] : List UInt8).intercalate xs = xs.flatten
  unfold List.intercalate
  have key : ∀ xs : List (List UInt8), (List.intersperse [] xs).flatten = xs.flatten := fun xs => by
    induction xs with
    | nil => rfl
    | cons x xs ih =>
      cases xs with
      | nil => rfl
      | cons y t =>
        rw [List.intersperse_cons_cons]
        simp only [List.flatten_cons, List.nil_append]
        rw [ih]
        rfl
  exact key xs
theorem joinT_mk (L : List (List UInt8)) : joinT (L.map mkB) ⟨#[]⟩ = mkB L.flatten := by
  unfold joinT
  have e : (L.map mkB).map (fun x => x.data.toList) = L := by
    rw [List.map_map]
    conv => rhs; rw [← List.map_id L]
    exact List.map_congr_left fun l _ => mkB_list l
  show mkB (Lib.join ((L.map mkB).map fun x => x.data.toList) _) = _
  rw [e]
  show mkB (Lib.join L []) = _
  rw [join_flat]
/-- A line, with its end. -/
def lnE (l : Ln) : List UInt8 := lineB l.1 l.2 ++ [10]
theorem withC_lines : ∀ (L : List Ln), withC 10 ((L.map fun l => lineB l.1 l.2) ++ [[]]) = L.map lnE ++ [[]]
  | [] => rfl
  | l :: L => by
    rw [List.map_cons, List.cons_append, withC_cons _ _ (by simp), withC_lines L]
    rfl
theorem afterL_txt {L : List Ln} (h : ∀ l ∈ L, GoodW l.1) : afterL (mkB (txt L)) = (L.map lnE ++ [[]]).map mkB := by
  rw [afterL_eq, mkB_list]
  have := split_txt [] L h
  rw [List.append_nil] at this
  rw [this]
  show (withC 10 ((L.map fun l => lineB l.1 l.2) ++ [[]])).map mkB = _
  rw [withC_lines]
theorem txt_flat (L : List Ln) : (L.map lnE).flatten = txt L := by
  induction L with
  | nil => rfl
  | cons l L ih => rw [List.map_cons, List.flatten_cons, ih, txt_cons]; rfl
theorem lines_pos (x : Sn) : 0 < (linesOf x).length := by
  rw [linesOf_init, List.length_append]
  simp only [List.length_cons, List.length_nil]
  omega
end Go.Proofs.YtcloigoajohppaaGreatDoor
namespace Go.Proofs.YtcloigoajohppaaGreatDoor
open Go.RowKit
open Av
open Sc
set_option maxRecDepth 100000
set_option linter.unusedSimpArgs false
attribute [local go_sem] Av.guardB Av.sop Av.hopx Av.hop Av.hopCall Av.hopF Av.hopB Av.evo Av.evos Av.avCells Av.loadK Av.bound Av.abin Av.aun Av.partsC Av.lfill Av.placesB Av.setAt Av.stl Av.takes Av.src Av.bxOf Av.ownOf Av.St.res Av.St.put Av.St.addBox Av.St.putOwn Av.delL Av.delS Av.look Av.lookL Av.storeSt Av.stealSt Av.St.setBox Av.keepL Av.hitB Av.snap Av.snaps Av.snapCaps Av.AV.lit Av.AV.refs Av.capRefs Av.PV.av Av.CV.av Av.startSt Av.steals Av.athen Av.ablock Av.appK Av.AllS Av.AllO Av.AllR Av.keepS Av.St.avAt Av.RetOK Av.retAll Av.retOne Av.intsOf Av.ptrB TypeDesc.isRow List.range_zero Option.some.injEq exists_eq_left' exists_eq_left exists_eq' exists_and_left exists_and_right exists_const true_and and_true and_self false_and and_false or_false false_or or_true true_or if_true if_false Bool.false_eq_true List.zipIdx_cons List.zipIdx_nil List.map_cons List.map_nil List.filter_cons List.filter_nil List.contains_cons List.contains_nil List.drop_succ_cons List.drop_zero List.take_succ_cons List.take_zero List.take_nil List.drop_nil List.length_cons List.length_nil List.cons_append List.nil_append List.append_nil List.getElem?_cons_zero List.getElem?_cons_succ List.getElem?_nil Option.bind_some Option.bind_none Option.map_some Option.map_none Option.isNone_none Option.isNone_some Option.isSome_some Option.isSome_none Bool.and_true Bool.true_and Bool.and_false Bool.false_and Bool.or_false Bool.false_or Bool.not_true Bool.not_false beq_true beq_false Bool.true_beq Bool.false_beq Loc.s.injEq Loc.b.injEq decide_true decide_false beq_self_eq_true Nat.zero_add Nat.add_zero List.getElem?_toArray List.toList_toArray List.size_toArray Value.oneCell' List.all_cons List.all_nil Value.int.injEq AV.v.injEq AV.sl.injEq AV.agg.injEq AV.ref.injEq AV.ept.injEq AV.tup.injEq Value.bool.injEq PV.v.injEq PV.sl.injEq List.isEmpty_nil List.isEmpty_cons forall_const not_true_eq_false not_false_eq_true true_implies false_implies Value.string.injEq List.length_map List.getElem?_map Int.toNat_natCast Int.natCast_nonneg List.length_append Value.cells implies_true TypeDesc.struct.injEq TypeDesc.slice.injEq TypeDesc.array.injEq List.getElem?_toArray Prod.mk.injEq and_assoc exists_false List.cons.injEq Operand.tmp.injEq ite_self AV.fnv.injEq AV.clo.injEq ne_eq eq_self Tryz.sz3 Tryz.zr3 Tryz.by3 Tryz.pl3 Tryz.is3 Tryz.underlying3 Tryz.sz4 Tryz.zr4 Tryz.by4 Tryz.pl4 Tryz.is4 Tryz.underlying4 Tryz.sz9 Tryz.zr9 Tryz.by9 Tryz.pl9 Tryz.is9 Tryz.underlying9 Tryz.sz5 Tryz.zr5 Tryz.by5 Tryz.pl5 Tryz.is5 Tryz.underlying5 Tryz.sz56 Tryz.zr56 Tryz.by56 Tryz.pl56 Tryz.is56 Tryz.underlying56 Tryz.sz24 Tryz.zr24 Tryz.by24 Tryz.pl24 Tryz.is24 Tryz.underlying24 Tryz.sz70 Tryz.zr70 Tryz.by70 Tryz.pl70 Tryz.is70 Tryz.underlying70 Tryz.sz69 Tryz.zr69 Tryz.by69 Tryz.pl69 Tryz.is69 Tryz.underlying69 Tryz.sz72 Tryz.zr72 Tryz.by72 Tryz.pl72 Tryz.is72 Tryz.underlying72 Tryz.sz74 Tryz.zr74 Tryz.by74 Tryz.pl74 Tryz.is74 Tryz.underlying74 Tryz.sz117 Tryz.zr117 Tryz.by117 Tryz.pl117 Tryz.is117 Tryz.underlying117 Tryz.sz182 Tryz.zr182 Tryz.by182 Tryz.pl182 Tryz.is182 Tryz.underlying182 Tryz.sz64 Tryz.zr64 Tryz.by64 Tryz.pl64 Tryz.is64 Tryz.underlying64 Tryz.sz67 Tryz.zr67 Tryz.by67 Tryz.pl67 Tryz.is67 Tryz.underlying67 Tryz.sz26 Tryz.zr26 Tryz.by26 Tryz.pl26 Tryz.is26 Tryz.underlying26 Tryz.sz30 Tryz.zr30 Tryz.by30 Tryz.pl30 Tryz.is30 Tryz.underlying30 Tryz.sz126 Tryz.zr126 Tryz.by126 Tryz.pl126 Tryz.is126 Tryz.underlying126 Tryz.sz79 Tryz.zr79 Tryz.by79 Tryz.pl79 Tryz.is79 Tryz.underlying79 Tryz.sz81 Tryz.zr81 Tryz.by81 Tryz.pl81 Tryz.is81 Tryz.underlying81 Tryz.sz83 Tryz.zr83 Tryz.by83 Tryz.pl83 Tryz.is83 Tryz.underlying83 Tryz.sz85 Tryz.zr85 Tryz.by85 Tryz.pl85 Tryz.is85 Tryz.underlying85 Tryz.sz35 Tryz.zr35 Tryz.by35 Tryz.pl35 Tryz.is35 Tryz.underlying35 Tryz.sz88 Tryz.zr88 Tryz.by88 Tryz.pl88 Tryz.is88 Tryz.underlying88 Tryz.sz22 Tryz.zr22 Tryz.by22 Tryz.pl22 Tryz.is22 Tryz.underlying22 Tryz.sz23 Tryz.zr23 Tryz.by23 Tryz.pl23 Tryz.is23 Tryz.underlying23 Tryz.sz27 Tryz.zr27 Tryz.by27 Tryz.pl27 Tryz.is27 Tryz.underlying27 Tryz.sz28 Tryz.zr28 Tryz.by28 Tryz.pl28 Tryz.is28 Tryz.underlying28 Tryz.sz31 Tryz.zr31 Tryz.by31 Tryz.pl31 Tryz.is31 Tryz.underlying31 Tryz.sz32 Tryz.zr32 Tryz.by32 Tryz.pl32 Tryz.is32 Tryz.underlying32 Tryz.sz33 Tryz.zr33 Tryz.by33 Tryz.pl33 Tryz.is33 Tryz.underlying33 Tryz.sz65 Tryz.zr65 Tryz.by65 Tryz.pl65 Tryz.is65 Tryz.underlying65 Tryz.sz68 Tryz.zr68 Tryz.by68 Tryz.pl68 Tryz.is68 Tryz.underlying68 Tryz.sz46 Tryz.zr46 Tryz.by46 Tryz.pl46 Tryz.is46 Tryz.underlying46 Tryz.sz38 Tryz.zr38 Tryz.by38 Tryz.pl38 Tryz.is38 Tryz.underlying38 Tryz.sz94 Tryz.zr94 Tryz.by94 Tryz.pl94 Tryz.is94 Tryz.underlying94 Tryz.sz91 Tryz.zr91 Tryz.by91 Tryz.pl91 Tryz.is91 Tryz.underlying91 Tryz.sz86 Tryz.zr86 Tryz.by86 Tryz.pl86 Tryz.is86 Tryz.underlying86 all_arr loc_ss loc_sb loc_bs loc_bb arr_two arr_one rg1 rg2 rg3 rg4 rg5 rg6 rg7 rg8 ResultVar.tmp.injEq Bool.not_true Bool.not_false undef Fn.func.injEq Av.startStC Tryz.underlying52 Sc.Fw.pv Sc.Rq.pv Sc.Ce.pv Sc.Ch.pv Sc.Wk.pv Sc.Og.pv Sc.Lk.pv Sc.Nt.pv Sc.Sn.pv Sc.rsR
set_option maxHeartbeats 4000000 in
theorem lawCuts_ok (x : Sn) (hr : RgX x) (cut : Int) (hc0 : 0 ≤ cut) (hc1 : cut < 65536) : FnOKC Tryz.prog LC 7 [.agg x.pv, .v (.int .u16 cut)] ⟨bv true, none⟩ := by
  have hfw := few54_ok x hr.pl
  refine fn_okC (C := LC) Tryz.func7 (by kernel_rfl) rfl (by rw [Tryz.ntmps7]; exact of_decide_eq_true rfl) (fun F hF => ?_)
  rw [Tryz.ntmps7] at hF
  rw [Tryz.results7]
  repeat (first
    | ((refine hand_fnC (C := LC) LC.below rfl rfl (by decide) rfl rfl rfl awake_ok rfl ?_); simp only [go_sem, simprocAttr, hF])
    | (with_reducible (first | refine sops_go ?_ | refine headW_end ?_ | refine sops_end ?_ | refine awp_if ?_ | refine awp_skip ?_ | refine awp_ret ?_ | refine awp_exit ?_); simp only [go_sem, simprocAttr, hF])
    | with_reducible (first | refine awp_seq_k fun _ _ => ?_ | refine awp_region [1000012, 1000019, 1000022, 1000033, 1000049] ?_ | refine awp_block ?_)
    | go_step)
  refine ⟨_, hfw, ?_⟩
  simp only [go_sem, simprocAttr, hF]
  cases h1 : few54B x with
  | false =>
    try simp only [go_sem, simprocAttr, hF, h1]
    repeat (first
      | ((refine hand_fnC (C := LC) LC.below rfl rfl (by decide) rfl rfl rfl awake_ok rfl ?_); simp only [go_sem, simprocAttr, hF])
      | (with_reducible (first | refine sops_go ?_ | refine headW_end ?_ | refine sops_end ?_ | refine awp_if ?_ | refine awp_skip ?_ | refine awp_ret ?_ | refine awp_exit ?_); simp only [go_sem, simprocAttr, hF, h1])
      | with_reducible (first | refine awp_seq_k fun _ _ => ?_ | refine awp_region [1000012, 1000019, 1000022, 1000033, 1000049] ?_ | refine awp_block ?_)
      | go_step)
    all_goals (try rfl)
  | true =>
    have hfm := tabLC (format_fewC x h1 hr)
    try simp only [go_sem, simprocAttr, hF, h1]
    by_cases he : (fmt x).2 = 0
    case neg =>
      have hne : ((fmt x).2 != 0) = true := by simpa using he
      repeat (first
        | ((refine hand_fnC (C := LC) LC.below rfl rfl (by decide) rfl rfl rfl hfm rfl ?_); simp only [go_sem, simprocAttr, hF, h1])
        | (with_reducible (first | refine sops_go ?_ | refine headW_end ?_ | refine sops_end ?_ | refine awp_if ?_ | refine awp_skip ?_ | refine awp_ret ?_ | refine awp_exit ?_); simp only [go_sem, simprocAttr, hF, h1, hne])
        | with_reducible (first | refine awp_seq_k fun _ _ => ?_ | refine awp_region [1000012, 1000019, 1000022, 1000033, 1000049] ?_ | refine awp_block ?_)
        | go_step)
      all_goals (try rfl)
    have hfx : fmt x = ((fmt x).1, 0) := by rw [← he]
    obtain ⟨hcan, htx⟩ := canW_of hfx
    have hne : ((0 : Int) != 0) = false := rfl
    rw [he] at hfm
    obtain ⟨s, hs⟩ : ∃ s, s = (fmt x).1 := ⟨_, rfl⟩
    rw [← hs] at hfm htx hfx
    by_cases hbig : 65536 < s.size
    case pos =>
      have hb : decide ((s.size : Int) > 65536) = true := decide_eq_true (by omega)
      repeat (first
        | ((refine hand_fnC (C := LC) LC.below rfl rfl (by decide) rfl rfl rfl hfm rfl ?_); simp only [go_sem, simprocAttr, hF, h1])
        | (with_reducible (first | refine sops_go ?_ | refine headW_end ?_ | refine sops_end ?_ | refine awp_if ?_ | refine awp_skip ?_ | refine awp_ret ?_ | refine awp_exit ?_); simp only [go_sem, simprocAttr, hF, h1, hb])
        | with_reducible (first | refine awp_seq_k fun _ _ => ?_ | refine awp_region [1000012, 1000019, 1000022, 1000033, 1000049] ?_ | refine awp_block ?_)
        | go_step)
      all_goals (try rfl)
    have hb : decide ((s.size : Int) > 65536) = false := decide_eq_false (by omega)
    have hlen : (txt (linesOf x)).length ≤ 65536 := by rw [htx, mkB_size] at hbig; omega
    have hpos := lines_pos x
    have haf := splitAfter_okC s (by omega)
    rw [htx, afterL_txt fun l hl => (good_lines hcan l hl).1, ← htx] at haf
    obtain ⟨L, hL⟩ : ∃ L, L = linesOf x := ⟨_, rfl⟩
    rw [← hL] at hpos hlen haf
    have hLl : L.length ≤ 65536 := Nat.le_trans (txt_ge L) hlen
    have e1 : strR ((L.map lnE ++ [[]]).map mkB) = strR ((L.map lnE).map mkB) ++ [[PV.v (.string (mkB []))]] := by unfold strR; rw [List.map_append, List.map_append]; rfl
    rw [e1] at haf
    obtain ⟨LL, hLL⟩ : ∃ LL, LL = strR ((L.map lnE).map mkB) := ⟨_, rfl⟩
    have hLn : LL.length = L.length := by rw [hLL]; unfold strR; simp
    rw [← hLL] at haf
    have hw1 : IntKind.i64.wrap (((LL.length + 1 : Nat) : Int) - 1) = ((LL.length : Nat) : Int) := by rw [IntKind.wrap_i64]; omega
    have hle0 : (LL.length ≤ LL.length + 1) = True := eq_true (Nat.le_succ _)
    have htk : (LL ++ [[PV.v (.string (mkB []))]]).take LL.length = LL := List.take_left
    have hz : ((LL.length : Int) = 0) = False := eq_false (by omega)
    obtain ⟨k, hk⟩ : ∃ k : Nat, (k : Int) = cut.tmod (LL.length : Int) := ⟨(cut.tmod (LL.length : Int)).toNat, by rw [Int.tmod_eq_emod_of_nonneg hc0]; have := Int.emod_nonneg cut (show (LL.length : Int) ≠ 0 by omega); omega⟩
    have hkl : k < LL.length := by
      have h := Int.emod_lt_of_pos cut (show (0 : Int) < (LL.length : Int) by omega)
      rw [Int.tmod_eq_emod_of_nonneg hc0] at hk
      omega
    have hk' := hk.symm
    have hw2 : IntKind.i64.wrap cut = cut := by rw [IntKind.wrap_i64]; omega
    have hw3 : IntKind.i64.wrap ((k : Int) + 1) = (k : Int) + 1 := by rw [IntKind.wrap_i64]; omega
    have hle1 : (k ≤ LL.length) = True := eq_true (by omega)
    have hkk : (((k : Int) + 1) == ((k : Int) + 1)) = true := beq_self_eq_true _
    have hT : FnOK Tryz.prog 21 [.sl 1 (LL.take k), .v (.string ⟨#[]⟩)] ⟨.v (.string (mkB (txt (L.take k)))), none⟩ := by
      have e2 : LL.take k = strR (((L.take k).map lnE).map mkB) := by rw [hLL]; unfold strR; rw [List.map_take, List.map_take, List.map_take]
      have e3 : Lib.join (((((L.take k).map lnE).map mkB)).map (·.data.toList)) (⟨#[]⟩ : ByteArray).data.toList = txt (L.take k) := by
        have h := congrArg (fun (b : ByteArray) => b.data.toList) (joinT_mk ((L.take k).map lnE))
        rw [txt_flat, mkB_list] at h
        rw [← h]
        unfold joinT
        simp
      have h := join_ok (((L.take k).map lnE).map mkB) ⟨#[]⟩ (by simp only [List.length_map, List.length_take]; omega) (by
        rw [e3]
        have e4 := congrArg (fun l => (txt l).length) (List.take_append_drop k L)
        simp only [txt_append, List.length_append] at e4
        omega)
      rw [joinT_mk, txt_flat, ← e2] at h
      exact h
    have hpa : FnOKC Tryz.prog LC 13 [.v (.string (mkB (txt (L.take k))))] ⟨.tup [.g snZ.pv, .c (ip ((k : Int) + 1)), .c (ip 9)], none⟩ := by
      have h := parse_okC (mkB (txt (L.take k)))
      rw [hL, parse_cut hcan (by rw [← hL]; exact hlen) (by rw [← hL]; omega), ← hL] at h
      exact h
    have e5 : snZ.pv = [ip 0, .sl 1 [], ip 0, ip 0, .sl 3 [], .sl 1 [], .sl 7 [], .sl 7 [], ip 0, ip 0, .sl 5 [], .sl 7 [], .sl 5 [], .sl 3 [], ip 0] := rfl
    rw [e5] at hpa
    generalize mkB (txt (L.take k)) = T at hT hpa
    clear hk e1 e5
    repeat (first
      | ((first | refine hand_fnC (C := LC) LC.below rfl rfl (by decide) rfl rfl rfl hfm rfl ?_ | refine hand_fnC (C := LC) LC.below rfl rfl (by decide) rfl rfl rfl haf rfl ?_ | refine hand_fnC (C := LC) LC.below rfl rfl (by decide) rfl rfl rfl hpa rfl ?_); simp only [go_sem, simprocAttr, hF, h1])
      | ((refine ⟨_, hT, ?_⟩); simp only [go_sem, simprocAttr, hF, htk])
      | (with_reducible (first | refine sops_go ?_ | refine headW_end ?_ | refine sops_end ?_ | refine awp_if ?_ | refine awp_skip ?_ | refine awp_ret ?_ | refine awp_exit ?_); simp only [go_sem, simprocAttr, hF, h1, hb, hw1, hle0, htk, Nat.zero_le, hz, hk', hw2, hle1, hw3, hkk])
      | with_reducible (first | refine awp_seq_k fun _ _ => ?_ | refine awp_region [1000012, 1000019, 1000022, 1000033, 1000049] ?_ | refine awp_block ?_)
      | go_step)
    all_goals (try rfl)
theorem u16_wf {u : Int} (h : (Lit.int .u16 u).wf = true) : 0 ≤ u ∧ u < 65536 := by
  unfold Lit.wf at h
  rw [Bool.and_eq_true] at h
  have h1 : (0 : Int) ≤ u := of_decide_eq_true h.1
  have h2 : u ≤ 65535 := of_decide_eq_true h.2
  omega
end Go.Proofs.YtcloigoajohppaaGreatDoor

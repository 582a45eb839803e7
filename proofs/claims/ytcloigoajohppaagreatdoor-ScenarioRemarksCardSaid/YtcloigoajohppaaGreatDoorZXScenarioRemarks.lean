import Derived.Shelf.LaysM
import Derived.Shelf.LaysC
import Derived.Shelf.Small.Wraps
import Derived.Shelf.Strings.SlTrimAscii
import Derived.Shelf.Strings.SplitShaped
import Derived.Shelf.Strings.Shaped
import Derived.Shelf.Strconv.ErrVarAll
import Derived.Shelf.Strings.OnBuilder
import Derived.Shelf.Abstract
import Derived.Test.YtcloigoajohppaaGreatDoorZ7
set_option linter.unusedVariables false
set_option linter.unusedSimpArgs false
/- Abstract states: contracts that were proved over memory, lifted. Generic. -/
namespace Go.Proofs.YtcloigoajohppaaGreatDoor
open Go.RowKit
namespace Av

/-- A contract over memory, lifted. -/
theorem fn_of {P : Program} {f : FuncId} {args : List AV} {res : FRes} (hf : Enters P f) (h : ∀ (w : World) (R : Reader), (∀ p v, R p = some v → w.cell? p = some v) → ∀ us, RepAL R args us →
    Calls P f us.toArray w fun e w' => ∃ u, e = .returned u ∧ Below w.heap.size w w' ∧ ResRep R w w' res u) : FnOK P f args res := ⟨hf, h⟩
end Av
end Go.Proofs.YtcloigoajohppaaGreatDoor

/- The library's contracts that this claim uses, laid for its program: written by a tool of the kit. -/
namespace Go.Proofs.YtcloigoajohppaaGreatDoor
open Go.Shelf
def Tryz.lays156_ren : Go.Shelf.Ren := ⟨fun | 156 => 21 | 165 => 51 | 166 => 52 | 169 => 30 | 240 => 93 | 241 => 94 | 276 => 122 | 277 => 123 | n => n, fun | 31 => 46 | 9 => 9 | 3 => 3 | 4 => 4 | 0 => 0 | 20 => 20 | 72 => 72 | 76 => 118 | 70 => 70 | 37 => 56 | 75 => 117 | 127 => 128 | 164 => 182 | 5 => 5 | 80 => 58 | n => n, fun | n => n⟩
theorem Tryz.lays156 : Go.Proofs.Lays.n156 Tryz.prog Tryz.lays156_ren := {
  mixed := by kernel_rfl
  f156 := Tryz.func21.trans (congrArg some (by kernel_rfl))
  f165 := Tryz.func51.trans (congrArg some (by kernel_rfl))
  f166 := Tryz.func52.trans (congrArg some (by kernel_rfl))
  f169 := Tryz.func30.trans (congrArg some (by kernel_rfl))
  f240 := Tryz.func93.trans (congrArg some (by kernel_rfl))
  f241 := Tryz.func94.trans (congrArg some (by kernel_rfl))
  f276 := Tryz.func122.trans (congrArg some (by kernel_rfl))
  f277 := Tryz.func123.trans (congrArg some (by kernel_rfl))
  t0 := Tryz.underlying0
  a0 := Tryz.isAgg0
  z0 := Tryz.sizeOf0
  v0 := Tryz.zeroValue0
  t3 := Tryz.underlying3
  a3 := Tryz.isAgg3
  z3 := Tryz.sizeOf3
  v3 := Tryz.zeroValue3
  t4 := Tryz.underlying4
  a4 := Tryz.isAgg4
  z4 := Tryz.sizeOf4
  v4 := Tryz.zeroValue4
  t9 := Tryz.underlying9
  a9 := Tryz.isAgg9
  z9 := Tryz.sizeOf9
  v9 := Tryz.zeroValue9
  t20 := Tryz.underlying20
  a20 := Tryz.isAgg20
  z20 := Tryz.sizeOf20
  v20 := Tryz.zeroValue20
  t31 := Tryz.underlying46
  a31 := Tryz.isAgg46
  z31 := Tryz.sizeOf46
  v31 := Tryz.zeroValue46
  t37 := Tryz.underlying56
  a37 := Tryz.isAgg56
  z37 := Tryz.sizeOf56
  v37 := Tryz.zeroValue56
  t70 := Tryz.underlying70
  a70 := Tryz.isAgg70
  z70 := Tryz.sizeOf70
  v70 := Tryz.zeroValue70
  t72 := Tryz.underlying72
  a72 := Tryz.isAgg72
  z72 := Tryz.sizeOf72
  v72 := Tryz.zeroValue72
  t75 := Tryz.underlying117
  a75 := Tryz.isAgg117
  z75 := Tryz.sizeOf117
  v75 := Tryz.zeroValue117
  t76 := Tryz.underlying118
  a76 := Tryz.isAgg118
  z76 := Tryz.sizeOf118
  v76 := Tryz.zeroValue118
  t127 := Tryz.underlying128
  a127 := Tryz.isAgg128
  z127 := Tryz.sizeOf128
  v127 := Tryz.zeroValue128
  t164 := Tryz.underlying182
  a164 := Tryz.isAgg182
  z164 := Tryz.sizeOf182
  v164 := Tryz.zeroValue182 }
end Go.Proofs.YtcloigoajohppaaGreatDoor

namespace Go.Proofs.YtcloigoajohppaaGreatDoor
open Go.RowKit
open Av Sc
set_option maxRecDepth 100000
set_option linter.unusedSimpArgs false
theorem Tryz.Builder_Extra_156 : Builder.Extra Tryz.prog Tryz.lays156_ren := {
  sizeBuilder := by kernel_rfl
  liesBuilder := by kernel_rfl
  t5 := Tryz.underlying5
  a5 := Tryz.isAgg5
  z5 := Tryz.sizeOf5
  v5 := Tryz.zeroValue5
  infoByte := by kernel_rfl
  cellsByte := by kernel_rfl
  sizeByte := by kernel_rfl
  neB5 := by decide }
def afterL (s : ByteArray) : List ByteArray := Lib.splitB ⟨#[10]⟩ 1 (Lib.countB s ⟨#[10]⟩) s
theorem afterL_len (s : ByteArray) : (afterL s).length = Lib.countB s ⟨#[10]⟩ + 1 := Lib.splitB_all _ (by decide) _ _ _ rfl
theorem splitAfter_any (s : ByteArray) (hs : s.size < 4294967281) (w : World) (hC : LC w) : Calls Tryz.prog 20 #[.string s, .string ⟨#[10]⟩] w fun e w' =>
    e = .returned (.slice (some ⟨w.heap.size, 0, none⟩) (afterL s).length (afterL s).length) ∧ w' = w.alloc (.cells ((afterL s).map Value.string).toArray 9) := by
  obtain ⟨-, -, m, hm⟩ := hC
  have hle := Lib.countB_le ⟨#[10]⟩ (by decide) s.size s (Nat.le_refl _)
  have hlen := afterL_len s
  have c := Any.strings_genSplit { Tryz.lays146 with } Tryz.lays146.i9 s ⟨#[10]⟩ 1 (-1) (Lib.countB s ⟨#[10]⟩ + 1) m w hs hm (by decide) (by decide) (by decide) (by decide) (by rw [if_pos (by decide)]; omega)
  rw [Nat.add_sub_cancel] at c
  have e2 : Lib.cellsOf (afterL s) (afterL s).length = ((afterL s).map Value.string).toArray := Lib.cellsOf_full _
  have c2 : Calls Tryz.prog 50 #[.string s, .string ⟨#[10]⟩, .int .i64 1, .int .i64 (-1)] w fun e w' =>
      e = .returned (.slice (some ⟨w.heap.size, 0, none⟩) (afterL s).length (afterL s).length) ∧ w' = w.alloc (.cells ((afterL s).map Value.string).toArray 9) := by
    refine c.mono ?_
    rintro e w' ⟨rfl, rfl⟩
    refine ⟨?_, ?_⟩
    · show _ = Ending.returned (Value.slice _ _ _)
      rw [hlen]
      show Ending.returned (Value.slice _ (afterL s).length _) = _
      rw [hlen]
    · rw [← e2, hlen]
      rfl
  clear c e2 hlen hle
  have e50 : ∀ args w, (callFunc 50 args).run Tryz.prog w = .ok (.enter 50 args) w := enters_of Tryz.func50 (by kernel_rfl) rfl
  go_enter Tryz.func20, Tryz.ntmps20
  go_wp2_with (go_at_fn 50; refine c2.mono ?_; rintro e w' ⟨rfl, hw⟩; rw [hw])
  go_ret
  exact ⟨rfl, rfl⟩
theorem rep_strs (w : World) (R : Reader) (L : List ByteArray) : RepP (fresh R w (w.alloc (.cells (L.map Value.string).toArray 9)) none 0) (.sl 1 (strR L)) (.slice (some ⟨w.heap.size, 0, none⟩) L.length L.length) := by
  have hl2 : (strR L).length = L.length := by unfold strR; rw [List.length_map]
  have hk : ∀ (k : Nat) (row : List PV), (strR L)[k]? = some row → ∃ p, L[k]? = some p ∧ row = [PV.v (.string p)] := fun k row h => by
    unfold strR at h
    rw [List.getElem?_map] at h
    cases hq : L[k]? with
    | none => rw [hq] at h; cases h
    | some p => rw [hq] at h; cases h; exact ⟨p, rfl, rfl⟩
  have hr := RepP.sl (R := fresh R w (w.alloc (.cells ((L).map Value.string).toArray 9)) none 0) 1 (strR L) (some ⟨w.heap.size, 0, none⟩) (L.length) (fun k _ => .string (L.getD k ByteArray.empty)) (fun k row h => by
      obtain ⟨p, _, rfl⟩ := hk k row h
      rfl) (.inr ⟨w.heap.size, 0, rfl, fun k row j p h1 h2 => by
      obtain ⟨q, hq, rfl⟩ := hk k row h1
      have hj : j = 0 := by
        cases j with
        | zero => rfl
        | succ j => simp at h2
      subst hj
      unfold fresh
      rw [if_neg (by show ¬ (w.heap.size < w.heap.size); omega)]
      rw [if_neg (by rintro ⟨h, _⟩; cases h)]
      rw [cell_of_row _ _ _ _ _ (0, 0) (heap_alloc_new w _)]
      show (L.map Value.string).toArray[0 + k * 1 + 0]? = _
      rw [List.getElem?_toArray, List.getElem?_map, show 0 + k * 1 + 0 = k by omega, hq, List.getD_eq_getElem?_getD, hq]
      rfl⟩) (fun k row j p h1 h2 => by
      obtain ⟨q, hq, rfl⟩ := hk k row h1
      cases j with
      | zero =>
        simp at h2
        subst h2
        rw [List.getD_eq_getElem?_getD, hq]
        exact .v _ rfl
      | succ j => simp at h2) (by rw [hl2]; exact Nat.le_refl _)
  rw [hl2] at hr
  exact hr
theorem splitAfter_okC (s : ByteArray) (hs : s.size < 4294967281) : FnOKC Tryz.prog LC 20 [.v (.string s), .v (.string ⟨#[10]⟩)] ⟨.sl 1 (strR (afterL s)), none⟩ := by
  refine ⟨⟨Tryz.f20, _, Tryz.func20, by kernel_rfl, rfl⟩, fun w R hC hR us hus => ?_⟩
  cases hus with | cons h0 _ hus =>
  cases hus with | cons h1 _ hus =>
  cases hus
  rw [h0, h1]
  refine (splitAfter_any s hs w hC).mono ?_
  rintro e w' ⟨rfl, rfl⟩
  have hb : Below w.heap.size w (w.alloc (.cells ((afterL s).map Value.string).toArray 9)) := (Below.refl _ w).alloc (Nat.le_refl _) _
  refine ⟨_, rfl, hb, rfl, ?_⟩
  exact rep_strs w R (afterL s)
def joinT (xs : List ByteArray) (sep : ByteArray) : ByteArray := ⟨(Lib.join (xs.map (·.data.toList)) sep.data.toList).toArray⟩
theorem join_ok (xs : List ByteArray) (sep : ByteArray) (hN : xs.length ≤ 140737488355328) (hlen : (Lib.join (xs.map (·.data.toList)) sep.data.toList).length ≤ 140737488355328) :
    FnOK Tryz.prog 21 [.sl 1 (strR xs), .v (.string sep)] ⟨.v (.string (joinT xs sep)), none⟩ := fn_of ⟨Tryz.f21, _, Tryz.func21, by kernel_rfl, rfl⟩ fun w R hR us hus => by
  cases hus with | cons h0 _ hus =>
  cases hus with | cons h1 _ hus =>
  cases hus
  rw [h1]
  have h0' : RepP R (.sl 1 (strR xs)) _ := h0
  generalize hp : PV.sl 1 (strR xs) = p at h0'
  cases h0' with
  | v => cases hp
  | sl sz rows A cap f hsz hA hf hc =>
    injection hp with hsz1 hrows
    subst hsz1
    subst hrows
    rw [show (strR xs).length = xs.length from List.length_map _] at hc ⊢
    refine Calls.mono (R := fun e w' => e = .returned (.string (joinT xs sep)) ∧ Below w.heap.size w w') ?_ (fun e w' h2 => ⟨_, h2.1, h2.2, rfl, rfl⟩)
    have hcells : ∀ (b off : Nat), (∀ (k : Nat) (row : List PV) (j : Nat) (p : PV), (strR xs)[k]? = some row → row[j]? = some p → R ⟨b, off + k * 1 + j, none⟩ = some (f k j)) → ∀ (j : Nat) x, xs[j]? = some x → w.cell? ⟨b, off + j, none⟩ = some (.string x) := fun b off h j x hx => by
      have g1 : (strR xs)[j]? = some [PV.v (.string x)] := by unfold strR; rw [List.getElem?_map, hx]; rfl
      have g2 := hR _ _ (h j _ 0 _ g1 rfl)
      have g3 := hf j _ 0 _ g1 rfl
      cases hq : f j 0 with
      | string y =>
        rw [hq] at g3 g2
        cases g3
        simpa using g2
      | _ => rw [hq] at g3; cases g3
    match xs, hA, hcells, hN, hc, hlen with
    | [], _, _, _, _, _ =>
      refine (Any.strings_Join_none Tryz.lays156 Tryz.Builder_Extra_156 A cap sep w).mono fun e w' h2 => ⟨?_, h2.2 ▸ Below.refl _ _⟩
      rw [h2.1]; rfl
    | x :: xs, hA, hcells, hN, hc, hlen =>
      rcases hA with hA | ⟨b, off, rfl, hA2⟩
      · cases hA
      · have hc1 := hcells b off hA2
        exact Any.strings_Join Tryz.lays156 Tryz.Builder_Extra_156 b off cap (x :: xs) sep w hc1 (World.block_lt_of_cell? w _ (hc1 0 x rfl)) hN hc hlen
end Go.Proofs.YtcloigoajohppaaGreatDoor
namespace Go.Proofs.YtcloigoajohppaaGreatDoor
open Go.RowKit
open Av
open Sc
set_option maxRecDepth 100000
set_option linter.unusedSimpArgs false
set_option linter.unusedVariables false

def withC (c : UInt8) : List (List UInt8) → List (List UInt8)
  | [] => []
  | [x] => [x]
  | x :: y :: t => (x ++ [c]) :: withC c (y :: t)
theorem withC_cons (c : UInt8) (x : List UInt8) {t : List (List UInt8)} (h : t ≠ []) : withC c (x :: t) = (x ++ [c]) :: withC c t := by
  cases t with
  | nil => exact absurd rfl h
  | cons y t => rfl
theorem afterL_of : ∀ (k : Nat) (s : ByteArray), s.size ≤ k → Lib.splitB ⟨#[10]⟩ 1 (Lib.countB s ⟨#[10]⟩) s = (withC 10 (splitC 10 s.data.toList)).map mkB := fun k => by
  induction k with
  | zero =>
    intro s hs
    have h0 : s.data.toList = [] := List.eq_nil_of_length_eq_zero (by rw [← size_list]; omega)
    have hi : Lib.indexB s ⟨#[10]⟩ = -1 := by
      show Lib.index _ [10] = -1
      rw [Lib.index_one, h0]
      rfl
    rw [Lib.countB_miss _ _ hi, Lib.splitB_zero, h0]
    show [s] = [mkB []]
    rw [← mkB_of s, h0]
  | succ k ih =>
    intro s hs
    rcases split_cases 10 s.data.toList with h | ⟨a, r, he, h⟩
    · have hi : Lib.indexB s ⟨#[10]⟩ = -1 := by
        show Lib.index _ [10] = -1
        rw [Lib.index_one, indexByte_miss h]
      rw [Lib.countB_miss _ _ hi, Lib.splitB_zero, splitC_one h]
      show [s] = [mkB s.data.toList]
      rw [mkB_of]
    · have hi : Lib.indexB s ⟨#[10]⟩ = (a.length : Nat) := by
        show Lib.index _ [10] = _
        rw [Lib.index_one, he, indexByte_hit r h]
      have hsz := size_list s
      rw [he] at hsz
      simp only [List.length_append, List.length_cons] at hsz
      rw [Lib.countB_hit _ _ _ (show 1 ≤ (⟨#[10]⟩ : ByteArray).size from Nat.le_refl 1) hi, Nat.add_comm 1, Lib.splitB_hit _ _ _ _ _ hi]
      show s.extract 0 (a.length + 1) :: Lib.splitB ⟨#[10]⟩ 1 (Lib.countB (s.extract (a.length + 1) s.size) ⟨#[10]⟩) (s.extract (a.length + 1) s.size) = _
      rw [ih _ (by rw [ByteArray.size_extract]; omega)]
      have e1 : (s.extract (a.length + 1) s.size).data.toList = r := by
        rw [Lib.extract_to_end, he, List.drop_append]
        simp
      have e2 : s.extract 0 (a.length + 1) = mkB (a ++ [10]) := ext_list (by rw [Lib.extract_from_zero, he, mkB_list, show a ++ 10 :: r = (a ++ [10]) ++ r by simp, List.take_append_of_le_length (by simp), List.take_of_length_le (by simp)])
      rw [e1, e2, he, splitC_cons r h, withC_cons _ _ (splitC_ne _ _), List.map_cons]
theorem afterL_eq (s : ByteArray) : afterL s = (withC 10 (splitC 10 s.data.toList)).map mkB := afterL_of s.size s (Nat.le_refl _)
theorem join_flat : ∀ (xs : List (List UInt8)), Lib.join xs [] = xs.flatten := fun xs => by
  unfold Lib.join
  show ([] : List UInt8).intercalate xs = xs.flatten
  unfold List.intercalate
  have key : ∀ xs : List (List UInt8), (List.intersperse [] xs).flatten = xs.flatten := fun xs => by
    induction xs with
    | nil => rfl
    | cons x xs ih =>
      cases xs with
      | nil => rfl
      | cons y t =>
        rw [List.intersperse_cons_cons]
        simp only [List.flatten_cons, List.nil_append]
        rw [ih]
        rfl
  exact key xs
theorem joinT_mk (L : List (List UInt8)) : joinT (L.map mkB) ⟨#[]⟩ = mkB L.flatten := by
  unfold joinT
  have e : (L.map mkB).map (fun x => x.data.toList) = L := by
    rw [List.map_map]
    conv => rhs; rw [← List.map_id L]
    exact List.map_congr_left fun l _ => mkB_list l
  show mkB (Lib.join ((L.map mkB).map fun x => x.data.toList) _) = _
  rw [e]
  show mkB (Lib.join L []) = _
  rw [join_flat]
def lnE (l : Ln) : List UInt8 := lineB l.1 l.2 ++ [10]
theorem withC_lines : ∀ (L : List Ln), withC 10 ((L.map fun l => lineB l.1 l.2) ++ [[]]) = L.map lnE ++ [[]]
  | [] => rfl
  | l :: L => by
    rw [List.map_cons, List.cons_append, withC_cons _ _ (by simp), withC_lines L]
    rfl
theorem afterL_txt {L : List Ln} (h : ∀ l ∈ L, GoodW l.1) : afterL (mkB (txt L)) = (L.map lnE ++ [[]]).map mkB := by
  rw [afterL_eq, mkB_list]
  have := split_txt [] L h
  rw [List.append_nil] at this
  rw [this]
  show (withC 10 ((L.map fun l => lineB l.1 l.2) ++ [[]])).map mkB = _
  rw [withC_lines]
theorem txt_flat (L : List Ln) : (L.map lnE).flatten = txt L := by
  induction L with
  | nil => rfl
  | cons l L ih => rw [List.map_cons, List.flatten_cons, ih, txt_cons]; rfl
theorem lines_pos (x : Sn) : 0 < (linesOf x).length := by
  rw [linesOf_init, List.length_append]
  simp only [List.length_cons, List.length_nil]
  omega
end Go.Proofs.YtcloigoajohppaaGreatDoor
namespace Go.Proofs.YtcloigoajohppaaGreatDoor
open Go.RowKit
open Av
open Sc
set_option maxRecDepth 100000
set_option linter.unusedSimpArgs false
set_option linter.unusedVariables false

abbrev Rm := List (List (List UInt8) × List UInt8)
def Rm.pieces (M : Rm) : List (List UInt8) := M.flatMap fun x => x.1 ++ [x.2]
def Rm.base (M : Rm) : List (List UInt8) := M.map (·.2)
def Rm.more : Rm → Nat
  | [] => 0
  | x :: M => x.1.length + Rm.more M
def rmB (l : List (List UInt8)) : List UInt8 := l.flatMap fun r => r ++ [10]
def Rm.lines : Rm → List (List UInt8)
  | [] => []
  | [x] => [rmB x.1 ++ x.2]
  | x :: y :: M => (rmB x.1 ++ (x.2 ++ [10])) :: Rm.lines (y :: M)
structure Rm.Ok (M : Rm) : Prop where
  no : ∀ x ∈ M, 10 ∉ x.2
  rs : ∀ x ∈ M, ∀ r ∈ x.1, 10 ∉ r ∧ skipB (mkB r) = true
theorem Rm.Ok.tail {x : List (List UInt8) × List UInt8} {M : Rm} (h : Rm.Ok (x :: M)) : Rm.Ok M := ⟨fun y hy => h.no y (List.mem_cons_of_mem _ hy), fun y hy => h.rs y (List.mem_cons_of_mem _ hy)⟩
theorem split_rm (r : List UInt8) : ∀ (l : List (List UInt8)), (∀ x ∈ l, 10 ∉ x) → splitC 10 (rmB l ++ r) = l ++ splitC 10 r
  | [], _ => rfl
  | x :: l, h => by
    show splitC 10 ((x ++ [10] ++ rmB l) ++ r) = _
    rw [List.append_assoc, List.append_assoc, List.singleton_append, splitC_cons _ (h x List.mem_cons_self), split_rm r l fun y hy => h y (List.mem_cons_of_mem _ hy)]
    rfl
theorem Rm.split : ∀ (M : Rm), M ≠ [] → Rm.Ok M → splitC 10 M.lines.flatten = M.pieces
  | [], h, _ => absurd rfl h
  | [x], _, h => by
    show splitC 10 ((rmB x.1 ++ x.2) ++ []) = (x.1 ++ [x.2]) ++ []
    rw [List.append_nil, List.append_nil, split_rm _ _ fun r hr => (h.rs x List.mem_cons_self r hr).1, splitC_one (h.no x List.mem_cons_self)]
  | x :: y :: M, _, h => by
    show splitC 10 ((rmB x.1 ++ (x.2 ++ [10])) ++ (Rm.lines (y :: M)).flatten) = (x.1 ++ [x.2]) ++ Rm.pieces (y :: M)
    rw [List.append_assoc, List.append_assoc, List.singleton_append, split_rm _ _ fun r hr => (h.rs x List.mem_cons_self r hr).1, splitC_cons _ (h.no x List.mem_cons_self), Rm.split (y :: M) (by simp) h.tail, List.append_assoc]
    rfl
def Rm.of (ps : List (List UInt8)) : Rm := ps.map fun p => ([], p)
theorem splitC_no (c : UInt8) : ∀ l : List UInt8, ∀ p ∈ splitC c l, c ∉ p
  | [], p, h => by
    rw [List.mem_singleton.1 h]
    simp
  | b :: l, p, h => by
    unfold splitC at h
    have ih := splitC_no c l
    split at h
    · rcases List.mem_cons.1 h with rfl | h
      · simp
      · exact ih p h
    · rename_i hb
      rcases List.mem_cons.1 h with rfl | h
      · intro hc
        rcases List.mem_cons.1 hc with hc | hc
        · exact hb hc.symm
        · cases hs : splitC c l with
          | nil => exact splitC_ne c l hs
          | cons q t =>
            rw [hs] at hc ih
            exact ih q List.mem_cons_self hc
      · exact ih p (List.mem_of_mem_tail h)
theorem Rm.of_ok (l : List UInt8) : Rm.Ok (Rm.of (splitC 10 l)) :=
  ⟨fun x hx => by obtain ⟨p, hp, rfl⟩ := List.mem_map.1 hx; exact splitC_no 10 l p hp, fun x hx r hr => by obtain ⟨p, hp, rfl⟩ := List.mem_map.1 hx; cases hr⟩
theorem Rm.of_lines : ∀ ps : List (List UInt8), (Rm.of ps).lines = withC 10 ps
  | [] => rfl
  | [x] => rfl
  | x :: y :: t => by
    show ([] ++ (x ++ [10])) :: Rm.lines (Rm.of (y :: t)) = (x ++ [10]) :: withC 10 (y :: t)
    rw [Rm.of_lines (y :: t)]
    rfl
theorem Rm.of_more : ∀ ps : List (List UInt8), (Rm.of ps).more = 0
  | [] => rfl
  | x :: t => by
    show 0 + (Rm.of t).more = 0
    rw [Rm.of_more t]
theorem Rm.of_base (ps : List (List UInt8)) : (Rm.of ps).base = ps := by
  unfold Rm.of Rm.base
  rw [List.map_map]
  conv => rhs; rw [← List.map_id ps]
  exact List.map_congr_left fun _ _ => rfl
def Rm.put (M : Rm) (j : Nat) (r : List UInt8) : Rm := match M[j]? with
  | some x => M.set j (r :: x.1, x.2)
  | none => M
theorem Rm.lines_get : ∀ (M : Rm) (j : Nat), M.lines[j]? = (M[j]?).map fun x => rmB x.1 ++ (x.2 ++ if j + 1 < M.length then [10] else [])
  | [], j => by simp [Rm.lines]
  | [x], 0 => by simp [Rm.lines]
  | [x], j + 1 => by simp [Rm.lines]
  | x :: y :: M, 0 => by simp [Rm.lines]
  | x :: y :: M, j + 1 => by
    show (Rm.lines (y :: M))[j]? = ((y :: M)[j]?).map _
    rw [Rm.lines_get (y :: M) j]
    simp only [List.length_cons, Nat.add_lt_add_iff_right]
theorem Rm.lines_len (M : Rm) : M.lines.length = M.length := by
  match M with
  | [] => rfl
  | [x] => rfl
  | x :: y :: M =>
    show (Rm.lines (y :: M)).length + 1 = _
    rw [Rm.lines_len (y :: M)]
    rfl
theorem Rm.put_len (M : Rm) (j : Nat) (r : List UInt8) : (M.put j r).length = M.length := by
  unfold Rm.put
  split
  · exact List.length_set
  · rfl
theorem Rm.put_lines {M : Rm} {j : Nat} {r x : List UInt8} (h : M.lines[j]? = some x) : (M.put j r).lines = M.lines.set j ((r ++ [10]) ++ x) := by
  rw [Rm.lines_get] at h
  cases hj : M[j]? with
  | none => rw [hj] at h; cases h
  | some y =>
    rw [hj] at h
    simp only [Option.map_some, Option.some.injEq] at h
    have hjl := (List.getElem?_eq_some_iff.1 hj).1
    refine List.ext_getElem? fun i => ?_
    rw [Rm.lines_get, List.getElem?_set, Rm.lines_get, Rm.put_len, Rm.lines_len]
    unfold Rm.put
    rw [hj]
    simp only
    rw [List.getElem?_set]
    by_cases hij : j = i
    · subst hij
      rw [if_pos rfl, if_pos rfl, if_pos hjl, if_pos hjl, ← h]
      simp [rmB]
    · rw [if_neg hij, if_neg hij]
theorem Rm.put_ok {M : Rm} (h : Rm.Ok M) (j : Nat) {r : List UInt8} (hr : 10 ∉ r ∧ skipB (mkB r) = true) : Rm.Ok (M.put j r) := by
  unfold Rm.put
  cases hj : M[j]? with
  | none => exact h
  | some y =>
    have hy := List.mem_of_getElem? hj
    refine ⟨fun x hx => ?_, fun x hx q hq => ?_⟩
    · rcases List.mem_or_eq_of_mem_set hx with hx | rfl
      · exact h.no x hx
      · exact h.no y hy
    · rcases List.mem_or_eq_of_mem_set hx with hx | rfl
      · exact h.rs x hx q hq
      · rcases List.mem_cons.1 hq with rfl | hq
        · exact hr
        · exact h.rs y hy q hq
theorem Rm.put_base (M : Rm) (j : Nat) (r : List UInt8) : (M.put j r).base = M.base := by
  unfold Rm.put
  cases hj : M[j]? with
  | none => rfl
  | some y =>
    unfold Rm.base
    rw [List.map_set]
    refine List.ext_getElem? fun i => ?_
    rw [List.getElem?_set]
    by_cases hij : j = i
    · subst hij
      rw [if_pos rfl, if_pos (by rw [List.length_map]; exact (List.getElem?_eq_some_iff.1 hj).1), List.getElem?_map, hj]
      rfl
    · rw [if_neg hij]
theorem more_append : ∀ (a b : Rm), Rm.more (a ++ b) = Rm.more a + Rm.more b
  | [], b => by
    show Rm.more b = 0 + _
    omega
  | x :: a, b => by
    show x.1.length + Rm.more (a ++ b) = (x.1.length + Rm.more a) + Rm.more b
    rw [more_append a b]
    omega
theorem Rm.put_more {M : Rm} {j : Nat} (hj : j < M.length) (r : List UInt8) : (M.put j r).more = M.more + 1 := by
  obtain ⟨y, hy⟩ : ∃ y, M[j]? = some y := ⟨M[j], List.getElem?_eq_getElem hj⟩
  unfold Rm.put
  rw [hy]
  simp only
  rw [List.set_eq_take_append_cons_drop, if_pos hj, more_append]
  have e := List.take_append_drop j M
  rw [drop_of_get hy] at e
  have e2 := congrArg Rm.more e
  rw [more_append] at e2
  have e3 : Rm.more ((r :: y.1, y.2) :: M.drop (j + 1)) = (y.1.length + 1) + Rm.more (M.drop (j + 1)) := rfl
  have e4 : Rm.more (y :: M.drop (j + 1)) = y.1.length + Rm.more (M.drop (j + 1)) := rfl
  omega
def Rm.Low (M : Rm) (n : Nat) : Prop := ∀ i x, M[i]? = some x → n ≤ i → x.1 = []
theorem Rm.put_low {M : Rm} {n j : Nat} (h : M.Low n) (hj : j < n) (r : List UInt8) : (M.put j r).Low n := fun i x hx hi => by
  unfold Rm.put at hx
  cases hq : M[j]? with
  | none => rw [hq] at hx; exact h i x hx hi
  | some y =>
    rw [hq] at hx
    simp only at hx
    rw [List.getElem?_set, if_neg (by omega)] at hx
    exact h i x hx hi

theorem fold_skip (rest : List ByteArray) : ∀ (l : List (List UInt8)) (k : Nat) (p : Ps), (∀ r ∈ l, skipB (mkB r) = true) → foldP k p (l.map mkB ++ rest) = foldP (k + l.length) p rest
  | [], _, _, _ => rfl
  | r :: l, k, p, h => by
    rw [List.map_cons, List.cons_append, foldP_cons, if_pos (h r List.mem_cons_self), fold_skip rest l (k + 1) p fun q hq => h q (List.mem_cons_of_mem _ hq), List.length_cons, show k + 1 + l.length = k + (l.length + 1) by omega]
theorem fold_low : ∀ (ps : List ByteArray) (k : Nat) (p : Ps), (foldP k p ps).2.2 = 0 ∨ k + 1 ≤ (foldP k p ps).2.1
  | [], _, _ => .inl rfl
  | s :: ps, k, p => by
    rw [foldP_cons]
    split
    · rcases fold_low ps (k + 1) p with h | h
      · exact .inl h
      · exact .inr (by omega)
    · split
      · rcases fold_low ps (k + 1) (stepP p (lineO s)).1 with h | h
        · exact .inl h
        · exact .inr (by omega)
      · exact .inr (Nat.le_refl _)
theorem fold_high : ∀ (ps : List ByteArray) (k : Nat) (p : Ps), (foldP k p ps).2.2 = 0 ∨ (foldP k p ps).2.1 ≤ k + ps.length
  | [], _, _ => .inl rfl
  | s :: ps, k, p => by
    rw [foldP_cons, List.length_cons]
    split
    · rcases fold_high ps (k + 1) p with h | h
      · exact .inl h
      · exact .inr (by omega)
    · split
      · rcases fold_high ps (k + 1) (stepP p (lineO s)).1 with h | h
        · exact .inl h
        · exact .inr (by omega)
      · exact .inr (by show k + 1 ≤ _; omega)
theorem fold_zero : ∀ (ps : List ByteArray) (k : Nat) (p : Ps), (foldP k p ps).2.2 = 0 → (foldP k p ps).2.1 = 0
  | [], _, _ => fun _ => rfl
  | s :: ps, k, p => by
    rw [foldP_cons]
    split
    · exact fold_zero ps (k + 1) p
    · split
      · exact fold_zero ps (k + 1) _
      · rename_i h
        intro h0
        exact absurd h0 h
theorem fold_rm : ∀ (M : Rm) (k k' : Nat) (p : Ps), Rm.Ok M → (foldP k p (M.base.map mkB)).2.2 = 0 ∨ M.Low ((foldP k p (M.base.map mkB)).2.1 - k) →
    (foldP k' p (M.pieces.map mkB)).1 = (foldP k p (M.base.map mkB)).1 ∧ (foldP k' p (M.pieces.map mkB)).2.2 = (foldP k p (M.base.map mkB)).2.2 ∧
    ((foldP k p (M.base.map mkB)).2.2 ≠ 0 → (foldP k' p (M.pieces.map mkB)).2.1 + k = (foldP k p (M.base.map mkB)).2.1 + k' + M.more)
  | [], k, k', p, _, _ => ⟨rfl, rfl, fun h => absurd rfl h⟩
  | (rs, b) :: M, k, k', p, h, hl => by
    have hrs : ∀ r ∈ rs, skipB (mkB r) = true := fun r hr => (h.rs (rs, b) List.mem_cons_self r hr).2
    have e1 : (Rm.pieces ((rs, b) :: M)).map mkB = rs.map mkB ++ (mkB b :: (Rm.pieces M).map mkB) := by
      show ((rs ++ [b]) ++ Rm.pieces M).map mkB = _
      simp
    have e2 : (Rm.base ((rs, b) :: M)).map mkB = mkB b :: (Rm.base M).map mkB := rfl
    have e3 : Rm.more ((rs, b) :: M) = rs.length + Rm.more M := rfl
    rw [e1, e2, fold_skip _ _ _ _ hrs, e3]
    rw [e2] at hl
    rw [foldP_cons] at hl
    rw [foldP_cons, foldP_cons]
    have low : ∀ q : Ps, (foldP (k + 1) q ((Rm.base M).map mkB)).2.2 = 0 ∨ Rm.Low ((rs, b) :: M) ((foldP (k + 1) q ((Rm.base M).map mkB)).2.1 - k) → (foldP (k + 1) q ((Rm.base M).map mkB)).2.2 = 0 ∨ Rm.Low M ((foldP (k + 1) q ((Rm.base M).map mkB)).2.1 - (k + 1)) := fun q hq => by
      rcases hq with hq | hq
      · exact .inl hq
      · exact .inr fun i x hx hi => hq (i + 1) x (by rw [List.getElem?_cons_succ]; exact hx) (by omega)
    by_cases hs : skipB (mkB b) = true
    · rw [if_pos hs] at hl ⊢
      rw [if_pos hs]
      obtain ⟨g1, g2, g3⟩ := fold_rm M (k + 1) (k' + rs.length + 1) p h.tail (low p hl)
      exact ⟨g1, g2, fun hne => by have := g3 hne; omega⟩
    · rw [if_neg hs] at hl ⊢
      rw [if_neg hs]
      by_cases h0 : (stepP p (lineO (mkB b))).2 = 0
      · rw [if_pos h0] at hl ⊢
        rw [if_pos h0]
        obtain ⟨g1, g2, g3⟩ := fold_rm M (k + 1) (k' + rs.length + 1) (stepP p (lineO (mkB b))).1 h.tail (low _ hl)
        exact ⟨g1, g2, fun hne => by have := g3 hne; omega⟩
      · rw [if_neg h0] at hl ⊢
        rw [if_neg h0]
        refine ⟨rfl, rfl, fun _ => ?_⟩
        have hm : Rm.more M = 0 := by
          rcases hl with hl | hl
          · exact absurd hl h0
          · have hl2 : Rm.Low M 0 := fun i x hx _ => hl (i + 1) x (by rw [List.getElem?_cons_succ]; exact hx) (by show k + 1 - k ≤ i + 1; omega)
            clear hl h low e1 e2 e3
            induction M with
            | nil => rfl
            | cons y M ih =>
              have h1 := hl2 0 y rfl (Nat.zero_le _)
              show y.1.length + Rm.more M = 0
              rw [h1, ih fun i x hx _ => hl2 (i + 1) x (by rw [List.getElem?_cons_succ]; exact hx) (Nat.zero_le _)]
              rfl
        show k' + rs.length + 1 + k = k + 1 + k' + (rs.length + Rm.more M)
        omega
theorem readP_err (k : Kd) (p : Ps) (l : List Int) : (readP k p l).2 ≠ 9 := by
  cases k
  all_goals (rcases l with _ | ⟨a0, _ | ⟨a1, _ | ⟨a2, _ | ⟨a3, _ | ⟨a4, _ | ⟨a5, _ | ⟨a6, l⟩⟩⟩⟩⟩⟩⟩)
  all_goals (first | (show (3 : Int) ≠ 9; decide) | (show (0 : Int) ≠ 9; decide) | (simp only [readP]; split <;> (first | (show (0 : Int) ≠ 9; decide) | (show (2 : Int) ≠ 9; decide) | (show (8 : Int) ≠ 9; decide))))
theorem step_err (p : Ps) (o : Option Ln) : (stepP p o).2 ≠ 9 := by
  cases o with
  | none => show (3 : Int) ≠ 9; decide
  | some x =>
    obtain ⟨w, l⟩ := x
    unfold stepP
    simp only
    split
    · unfold routeP
      split
      · show (5 : Int) ≠ 9; decide
      · split
        · show (8 : Int) ≠ 9; decide
        · show (0 : Int) ≠ 9; decide
      · split
        · show (8 : Int) ≠ 9; decide
        · show (0 : Int) ≠ 9; decide
    · split
      · show (3 : Int) ≠ 9; decide
      · split
        · show (3 : Int) ≠ 9; decide
        · split
          · show (5 : Int) ≠ 9; decide
          · exact readP_err _ _ _
theorem fold_err : ∀ (ps : List ByteArray) (k : Nat) (p : Ps), (foldP k p ps).2.2 ≠ 9
  | [], _, _ => by show (0 : Int) ≠ 9; decide
  | s :: ps, k, p => by
    rw [foldP_cons]
    split
    · exact fold_err ps (k + 1) p
    · split
      · exact fold_err ps (k + 1) _
      · exact step_err _ _
theorem lastB_pos {l : List UInt8} (h : l = [] ∨ ∃ r, l = r ++ [10]) : lastB (mkB l) = ((l.count 10 : Nat) : Int) := by
  unfold lastB
  rw [mkB_list, ByteArray.toList_eq, mkB_list]
  rw [if_pos]
  · rfl
  · rw [Bool.or_eq_true, List.isEmpty_iff]
    rcases h with h | ⟨r, h⟩
    · exact .inl h
    · refine .inr ?_
      unfold Lib.hasSuffix
      rw [List.isSuffixOf_iff_suffix]
      exact ⟨r, h.symm⟩
theorem lastB_neg {l : List UInt8} (h : ¬ (l = [] ∨ ∃ r, l = r ++ [10])) : lastB (mkB l) = ((l.count 10 : Nat) : Int) + 1 := by
  unfold lastB
  rw [mkB_list, ByteArray.toList_eq, mkB_list]
  rw [if_neg]
  · rfl
  · intro hb
    rw [Bool.or_eq_true, List.isEmpty_iff] at hb
    rcases hb with hb | hb
    · exact h (.inl hb)
    · unfold Lib.hasSuffix at hb
      rw [List.isSuffixOf_iff_suffix] at hb
      obtain ⟨r, hr⟩ := hb
      exact h (.inr ⟨r, hr.symm⟩)
theorem count_split : ∀ l : List UInt8, l.count 10 + 1 = (splitC 10 l).length
  | [] => rfl
  | b :: l => by
    have ih := count_split l
    unfold splitC
    by_cases h : b = 10
    · rw [if_pos h, h, List.count_cons_self, List.length_cons]
      omega
    · rw [if_neg h, List.count_cons_of_ne h]
      cases hs : splitC 10 l with
      | nil => exact absurd hs (splitC_ne 10 l)
      | cons q t => rw [hs] at ih; exact ih
theorem last_split : ∀ l : List UInt8, (splitC 10 l).getLastD [] = [] ↔ (l = [] ∨ ∃ r, l = r ++ [10]) := fun l => by
  rcases split_cases 10 l with h | ⟨a, r, he, h⟩
  · rw [splitC_one h]
    show l = [] ↔ _
    constructor
    · exact fun h => .inl h
    · rintro (h2 | ⟨r, h2⟩)
      · exact h2
      · rw [h2] at h
        exact absurd (by simp) h
  · subst he
    rw [splitC_cons _ h]
    have hlen : r.length < (a ++ 10 :: r).length := by simp; omega
    have ih := last_split r
    have e1 : (a :: splitC 10 r).getLastD [] = (splitC 10 r).getLastD [] := by
      cases hs : splitC 10 r with
      | nil => exact absurd hs (splitC_ne 10 r)
      | cons q t => rfl
    rw [e1, ih]
    constructor
    · rintro (rfl | ⟨q, rfl⟩)
      · exact .inr ⟨a, rfl⟩
      · exact .inr ⟨a ++ 10 :: q, by simp⟩
    · rintro (h2 | ⟨q, h2⟩)
      · simp at h2
      · rcases List.eq_nil_or_concat r with rfl | ⟨r', z, rfl⟩
        · exact .inl rfl
        · rw [List.concat_eq_append] at h2 ⊢
          refine .inr ⟨r', ?_⟩
          rw [show a ++ 10 :: (r' ++ [z]) = (a ++ 10 :: r') ++ [z] by simp] at h2
          have h3 := (List.append_inj' h2 rfl).2
          rw [h3]
termination_by l => l.length
theorem lastB_split (l : List UInt8) : lastB (mkB l) = if (splitC 10 l).getLastD [] = [] then (((splitC 10 l).length : Nat) : Int) - 1 else (((splitC 10 l).length : Nat) : Int) := by
  have hc := count_split l
  by_cases h : l = [] ∨ ∃ r, l = r ++ [10]
  · rw [lastB_pos h, if_pos ((last_split l).2 h)]
    omega
  · rw [lastB_neg h, if_neg (fun h2 => h ((last_split l).1 h2))]
    omega
end Go.Proofs.YtcloigoajohppaaGreatDoor
namespace Go.Proofs.YtcloigoajohppaaGreatDoor
open Go.RowKit
open Av
open Sc
set_option maxRecDepth 100000
set_option linter.unusedSimpArgs false
set_option linter.unusedVariables false

theorem Rm.pieces_len : ∀ M : Rm, M.pieces.length = M.base.length + M.more
  | [] => rfl
  | x :: M => by
    have ih := Rm.pieces_len M
    show ((x.1 ++ [x.2]) ++ Rm.pieces M).length = (Rm.base M).length + 1 + (x.1.length + Rm.more M)
    rw [List.length_append, List.length_append, ih]
    simp only [List.length_cons, List.length_nil]
    omega
theorem Rm.pieces_ne {x : List (List UInt8) × List UInt8} {M : Rm} : Rm.pieces (x :: M) ≠ [] := by
  show (x.1 ++ [x.2]) ++ Rm.pieces M ≠ []
  simp
theorem getLastD_append {α : Type} (a : List α) {b : List α} (h : b ≠ []) (d : α) : (a ++ b).getLastD d = b.getLastD d := by
  rcases List.eq_nil_or_concat b with rfl | ⟨c, z, rfl⟩
  · exact absurd rfl h
  · rw [List.concat_eq_append, ← List.append_assoc]
    simp [List.getLastD_eq_getLast?]
theorem Rm.pieces_last : ∀ M : Rm, M.pieces.getLastD [] = M.base.getLastD []
  | [] => rfl
  | [x] => by
    show ((x.1 ++ [x.2]) ++ []).getLastD [] = [x.2].getLastD []
    rw [List.append_nil, getLastD_append _ (by simp)]
  | x :: y :: M => by
    have ih := Rm.pieces_last (y :: M)
    show ((x.1 ++ [x.2]) ++ Rm.pieces (y :: M)).getLastD [] = _
    rw [getLastD_append _ Rm.pieces_ne, ih]
    rfl
theorem parseP_fold {T : ByteArray} (h : T.size ≤ 65536) : parseP T = if (foldP 0 psZ ((splitC 10 T.data.toList).map mkB)).2.2 ≠ 0 then (snZ, ((foldP 0 psZ ((splitC 10 T.data.toList).map mkB)).2.1 : Int), (foldP 0 psZ ((splitC 10 T.data.toList).map mkB)).2.2)
    else if ((foldP 0 psZ ((splitC 10 T.data.toList).map mkB)).1.R.begun && (foldP 0 psZ ((splitC 10 T.data.toList).map mkB)).1.R.sched && (foldP 0 psZ ((splitC 10 T.data.toList).map mkB)).1.R.done) = true then ((foldP 0 psZ ((splitC 10 T.data.toList).map mkB)).1.R.x, 0, 0) else (snZ, lastB T + 1, 9) := by
  unfold parseP
  rw [if_neg (by omega), linesB_of _ _ (Nat.le_refl _)]
theorem remarks_plain {T : ByteArray} {M : Rm} (hT : T.size ≤ 65536) (hM : M ≠ []) (hok : Rm.Ok M) (hb : M.base = splitC 10 T.data.toList) (hs : M.lines.flatten.length ≤ 65536) (hl : 0 < (parseP T).2.1 → M.Low (parseP T).2.1.toNat) :
    ((parseP T).2.2 = 9 → (parseP (mkB M.lines.flatten)).2.2 = 9 ∧ (parseP (mkB M.lines.flatten)).2.1 = (parseP T).2.1 + (M.more : Int)) ∧
    ((parseP T).2.2 ≠ 9 → 0 < (parseP T).2.1 → (parseP (mkB M.lines.flatten)).2.2 = (parseP T).2.2 ∧ (parseP (mkB M.lines.flatten)).2.1 = (parseP T).2.1 + (M.more : Int)) ∧
    ((parseP T).2.2 ≠ 9 → ¬ 0 < (parseP T).2.1 → parseP (mkB M.lines.flatten) = parseP T) := by
  have e1 := parseP_fold hT
  have e2 := parseP_fold (T := mkB M.lines.flatten) (by rw [mkB_size]; exact hs)
  rw [mkB_list, Rm.split M hM hok] at e2
  rw [← hb] at e1
  have hfl := fold_low (M.base.map mkB) 0 psZ
  have hfz := fold_zero (M.base.map mkB) 0 psZ
  have hfe := fold_err (M.base.map mkB) 0 psZ
  have hlast : lastB (mkB M.lines.flatten) = lastB T + (M.more : Int) := by
    have h1 := lastB_split M.lines.flatten
    have h2 := lastB_split T.data.toList
    rw [mkB_of] at h2
    rw [Rm.split M hM hok, Rm.pieces_last, Rm.pieces_len] at h1
    rw [← hb] at h2
    rw [h1, h2]
    split <;> omega
  by_cases h0 : (foldP 0 psZ (M.base.map mkB)).2.2 = 0
  · obtain ⟨g1, g2, g3⟩ := fold_rm M 0 0 psZ hok (.inl h0)
    rw [g1, g2] at e2
    rw [if_neg (by rw [h0]; decide)] at e1 e2
    by_cases hd : ((foldP 0 psZ (M.base.map mkB)).1.R.begun && (foldP 0 psZ (M.base.map mkB)).1.R.sched && (foldP 0 psZ (M.base.map mkB)).1.R.done) = true
    · rw [if_pos hd] at e1 e2
      rw [e1, e2]
      exact ⟨fun h => absurd h (show ¬ (0 : Int) = 9 by decide), fun _ h => absurd h (show ¬ (0 : Int) < 0 by decide), fun _ _ => rfl⟩
    · rw [if_neg hd] at e1 e2
      rw [e1, e2]
      refine ⟨fun _ => ⟨rfl, ?_⟩, fun h => absurd rfl h, fun h => absurd rfl h⟩
      show lastB (mkB M.lines.flatten) + 1 = lastB T + 1 + (M.more : Int)
      rw [hlast]
      omega
  · rw [if_pos h0] at e1
    rw [e1] at hl ⊢
    have hpos : 0 < ((foldP 0 psZ (M.base.map mkB)).2.1 : Int) := by
      rcases hfl with h | h
      · exact absurd h h0
      · omega
    have hlow := hl hpos
    obtain ⟨g1, g2, g3⟩ := fold_rm M 0 0 psZ hok (.inr (by simpa using hlow))
    have g4 := g3 h0
    rw [g1, g2, if_pos h0] at e2
    rw [e2]
    refine ⟨fun h => absurd h hfe, fun _ _ => ⟨rfl, ?_⟩, fun _ h => absurd hpos h⟩
    show (((foldP 0 psZ (M.pieces.map mkB)).2.1 : Nat) : Int) = ((foldP 0 psZ (M.base.map mkB)).2.1 : Int) + (M.more : Int)
    omega
theorem parse_num {T : ByteArray} (h : T.size ≤ 65536) : 0 ≤ (parseP T).2.1 ∧ (parseP T).2.1 ≤ (T.size : Int) + 2 := by
  rw [parseP_fold h]
  have hc := count_split T.data.toList
  have hle : T.data.toList.count 10 ≤ T.size := by rw [size_list]; exact List.count_le_length
  have hlb := lastB_split T.data.toList
  rw [mkB_of] at hlb
  have hfh := fold_high ((splitC 10 T.data.toList).map mkB) 0 psZ
  rw [List.length_map] at hfh
  by_cases h0 : (foldP 0 psZ ((splitC 10 T.data.toList).map mkB)).2.2 = 0
  · rw [if_neg (by rw [h0]; decide)]
    split
    · exact ⟨Int.le_refl 0, by show (0 : Int) ≤ _; omega⟩
    · show 0 ≤ lastB T + 1 ∧ lastB T + 1 ≤ _
      rw [hlb]
      split <;> omega
  · rw [if_pos h0]
    rcases hfh with hf | hf
    · exact absurd hf h0
    · show 0 ≤ (((foldP 0 psZ ((splitC 10 T.data.toList).map mkB)).2.1 : Nat) : Int) ∧ (((foldP 0 psZ ((splitC 10 T.data.toList).map mkB)).2.1 : Nat) : Int) ≤ _
      omega
theorem set_flat_len (L : List (List UInt8)) {j : Nat} {x : List UInt8} (h : L[j]? = some x) (r : List UInt8) : (L.set j (r ++ x)).flatten.length = L.flatten.length + r.length := by
  obtain ⟨hj, rfl⟩ := List.getElem?_eq_some_iff.1 h
  rw [List.set_eq_take_append_cons_drop, if_pos hj]
  have e := congrArg (fun l => (List.flatten l).length) (List.take_append_drop j L)
  rw [List.drop_eq_getElem_cons hj] at e
  simp only [List.flatten_append, List.flatten_cons, List.length_append] at e ⊢
  omega
theorem withC_flat : ∀ l : List UInt8, (withC 10 (splitC 10 l)).flatten = l := fun l => by
  rcases split_cases 10 l with h | ⟨a, r, he, h⟩
  · rw [splitC_one h]
    show l ++ [] = l
    simp
  · subst he
    have hlen : r.length < (a ++ 10 :: r).length := by simp; omega
    rw [splitC_cons _ h, withC_cons _ _ (splitC_ne _ _), List.flatten_cons, withC_flat r]
    simp
termination_by l => l.length
end Go.Proofs.YtcloigoajohppaaGreatDoor
namespace Go.Proofs.YtcloigoajohppaaGreatDoor
open Go.RowKit
open Av Sc
set_option maxRecDepth 100000
set_option linter.unusedSimpArgs false
set_option linter.unusedVariables false
namespace Av
section
variable {P : Program} {n d : Nat} {σ : St} {o : Oper} {K : St → Prop} {E : Ext}
theorem hand_callT (hd : o.dst = some d) (hdn : d < n)
    (h : ∀ (F : Fr) (γ : Gh) (a : Act) (w : World), F.n = n → Rel F σ γ a w → ∃ fid us, (execOp a.eval o).run P w = .ok (.enter fid us) w ∧
      Calls P fid us w fun e w1 => ∃ v x E', e = .returned v ∧ Turn σ.ext w w1 E' ∧ RepA (rdr F.R0 F.w0.heap.size { σ with ext := E' } γ w1) γ.bx x v ∧ (∀ k ∈ x.refs, (look σ.box k).isSome) ∧ K (({ σ with ext := E' } : St).put d x)) : Hand P n σ o K := by
  refine hand_call hd fun F γ a w hF hr => ?_
  obtain ⟨fid, us, h1, h2⟩ := h F γ a w hF hr
  refine ⟨fid, us, h1, h2.mono ?_⟩
  rintro e w1 ⟨v, x, E', rfl, ht, hx, href, hK⟩
  exact ⟨v, _, γ, rfl, hK, (hr.turn ht).put (by rw [hF]; exact hdn) hx href⟩
end
end Av
def strV (l : List ByteArray) : List (List Value) := l.map fun p => [.string p]
theorem strV_flat (l : List ByteArray) : (strV l).flatten = l.map Value.string := by
  induction l with
  | nil => rfl
  | cons x l ih => show [Value.string x] ++ (strV l).flatten = _; rw [ih]; rfl
theorem strV_len (l : List ByteArray) : (strV l).length = l.length := List.length_map _
section
variable {n d : Nat} {σ : St} {o : Oper} {K : St → Prop} {E : Ext} {l : List Ext}
theorem hand_splitAfter {x y : Operand} {ats : Array TypeId} {s : ByteArray} (ho : o.op = .call { callee := .value (.func 20), args := #[x, y], argTypes := ats }) (hd : o.dst = some d) (hdn : d < n) (hE : σ.ext = E.and (exts l)) (hC : ∀ w0, σ.ext.laid w0 → LC w0)
    (hx : evo (Av.look σ.slot) x = some (.v (.string s))) (hy : evo (Av.look σ.slot) y = some (.v (.string ⟨#[10]⟩))) (hs : s.size ≤ 1000000)
    (h : ∀ g, K (({ σ with ext := E.and (exts (rawR 9 1 (some g) (.slice (some ⟨g, 0, none⟩) (afterL s).length (afterL s).length) (strV (afterL s)) :: l)) } : St).put d (.v (.slice (some ⟨g, 0, none⟩) (afterL s).length (afterL s).length)))) : Hand Tryz.prog n σ o K := by
  refine hand_callT hd hdn fun F γ a w hF hr => ?_
  have hLC : LC w := LC.below hr.below (hC _ hr.laid)
  have e1 : a.eval x = .string s := eval_raw hr hx
  have e2 : a.eval y = .string ⟨#[10]⟩ := eval_raw hr hy
  have hf : a.eval (.func 20) = .func (.func 20) #[] #[] := rfl
  have henter : Av.Enters Tryz.prog 20 := ⟨Tryz.f20, _, Tryz.func20, by kernel_rfl, rfl⟩
  refine ⟨20, #[.string s, .string ⟨#[10]⟩], by simp [execOp, ho, resolve, hf, Deferred.ofValue, invoke, run_callFunc henter, e1, e2], (splitAfter_any s (by omega) w hLC).mono ?_⟩
  rintro e w1 ⟨rfl, rfl⟩
  have hlen := afterL_len s
  have hle := Lib.countB_le ⟨#[10]⟩ (by decide) s.size s (Nat.le_refl _)
  generalize afterL s = A at h hlen
  refine ⟨_, .v (.slice (some ⟨w.heap.size, 0, none⟩) A.length A.length), _, rfl, turn_more (X := rawR 9 1 (some w.heap.size) (.slice (some ⟨w.heap.size, 0, none⟩) A.length A.length) (strV A)) hr hE ?_, rfl, (fun k hk => by cases hk), h w.heap.size⟩
  have hnew : (w.alloc (.cells (A.map Value.string).toArray 9)).heap[w.heap.size]? = some (.cells (A.map Value.string).toArray 9 (0, 0)) := heap_alloc_new w _
  unfold rawR
  rw [strV_flat]
  refine Turn.below ((Below.refl _ w).alloc (Nat.le_refl _) _) ⟨⟨A.length, _, by rw [List.length_map, strV_len], Nat.zero_le _, hnew, by rw [List.length_map, strV_len]; exact Nat.le_refl _, by simp only [maxLen]; omega, by rw [List.size_toArray, List.length_map]; simp⟩, by simp [strV_len], fun g hg j u hu => ?_⟩ (fun b hb => ?_) (fun b hb => hb.elim) (fun _ _ => trivial) (fun R _ => ⟨fun k row hk => ?_, fun k row j p hk hj => ?_⟩)
  · cases hg
    rw [cell_of_row _ _ _ _ 9 (0, 0) hnew, List.getElem?_toArray]
    exact hu
  · have hb' : some w.heap.size = some b := hb
    cases hb'
    exact .inr ⟨Nat.le_refl _, by simp⟩
  · unfold strV at hk
    rw [List.map_map, List.getElem?_map] at hk
    cases hq : A[k]? with
    | none => rw [hq] at hk; cases hk
    | some z => rw [hq] at hk; cases hk; rfl
  · unfold strV at hk
    rw [List.map_map, List.getElem?_map] at hk
    cases hq : A[k]? with
    | none => rw [hq] at hk; cases hk
    | some z =>
      rw [hq] at hk
      cases hk
      cases j with
      | zero =>
        cases hj
        refine ⟨.string z, ?_, .v _ rfl⟩
        rw [List.getElem?_map, show k * 1 + 0 = k by omega, hq]
        rfl
      | succ j => simp at hj
theorem hand_joinR {x y : Operand} {ats : Array TypeId} {g i : Nat} {V : Value} {L : List ByteArray} (ho : o.op = .call { callee := .value (.func 21), args := #[x, y], argTypes := ats }) (hd : o.dst = some d) (hdn : d < n) (hE : σ.ext = E.and (exts l)) (hi : l[i]? = some (rawR 9 1 (some g) V (strV L)))
    (hx : evo (Av.look σ.slot) x = some (.v V)) (hy : evo (Av.look σ.slot) y = some (.v (.string ⟨#[]⟩))) (hN : L.length ≤ 140737488355328) (hlen : (Lib.join (L.map (·.data.toList)) (⟨#[]⟩ : ByteArray).data.toList).length ≤ 140737488355328)
    (h : K (σ.res d ⟨.v (.string (joinT L ⟨#[]⟩)), none, none⟩)) : Hand Tryz.prog n σ o K := by
  refine hand_call hd fun F γ a w hF hr => ?_
  have e1 : a.eval x = V := eval_raw hr hx
  have e2 : a.eval y = .string ⟨#[]⟩ := eval_raw hr hy
  have hrow : RowsOK w 9 1 (some g) V (strV L).flatten ((strV L).map fun r => r.map PV.v).length := hr.piece hE hi
  obtain ⟨cap, cur, hV, h1, h2, hc, h3, h4⟩ := hrow.own
  have hl : ((strV L).map fun r => r.map PV.v).length = L.length := by rw [List.length_map, strV_len]
  have hat : ∀ (j : Nat) z, L[j]? = some z → w.cell? ⟨g, 0 + j, none⟩ = some (.string z) := fun j z hz => by
    rw [Nat.zero_add]
    refine hrow.at_ g rfl j (.string z) ?_
    rw [strV_flat, List.getElem?_map, hz]
    rfl
  have hf : a.eval (.func 21) = .func (.func 21) #[] #[] := rfl
  have henter : Av.Enters Tryz.prog 21 := ⟨Tryz.f21, _, Tryz.func21, by kernel_rfl, rfl⟩
  refine ⟨21, #[V, .string ⟨#[]⟩], by simp [execOp, ho, resolve, hf, Deferred.ofValue, invoke, run_callFunc henter, e1, e2], ?_⟩
  rw [hl] at hV hc
  subst hV
  have key : Calls Tryz.prog 21 #[.slice (some ⟨g, 0, none⟩) L.length cap, .string ⟨#[]⟩] w fun e w' => e = .returned (.string (joinT L ⟨#[]⟩)) ∧ Below w.heap.size w w' := by
    cases L with
    | nil =>
      refine (Any.strings_Join_none Tryz.lays156 Tryz.Builder_Extra_156 (some ⟨g, 0, none⟩) cap ⟨#[]⟩ w).mono fun e w' h2 => ⟨?_, h2.2 ▸ Below.refl _ _⟩
      rw [h2.1]; rfl
    | cons z L => exact Any.strings_Join Tryz.lays156 Tryz.Builder_Extra_156 g 0 cap (z :: L) ⟨#[]⟩ w hat (World.block_lt_of_cell? w _ (hat 0 z rfl)) hN hc hlen
  refine key.mono ?_
  rintro e w1 ⟨rfl, hb⟩
  obtain ⟨γ', _, hrel⟩ := hr.call hb (by rw [hF]; exact hdn) (res := ⟨.v (.string (joinT L ⟨#[]⟩)), none⟩) ⟨rfl, rfl⟩
  exact ⟨_, _, γ', rfl, h, hrel⟩
end
end Go.Proofs.YtcloigoajohppaaGreatDoor
namespace Go.Proofs.YtcloigoajohppaaGreatDoor
open Go.RowKit
open Av
open Sc
set_option maxRecDepth 100000
set_option linter.unusedSimpArgs false
set_option linter.unusedVariables false

theorem addRt_mem {r : List Int} : ∀ {l : List Rq} {q : Rq}, q ∈ addRt r l → q ∈ l ∨ ∃ z ∈ l, q = { z with rs := z.rs ++ [r] } ∧ z.rs = lastRs l
  | [], q, h => by cases h
  | [z], q, h => by
    rw [show addRt r [z] = [{ z with rs := z.rs ++ [r] }] from rfl] at h
    exact .inr ⟨z, List.mem_cons_self, List.mem_singleton.1 h, rfl⟩
  | z :: y :: t, q, h => by
    rw [show addRt r (z :: y :: t) = z :: addRt r (y :: t) from rfl] at h
    rcases List.mem_cons.1 h with rfl | h
    · exact .inl List.mem_cons_self
    · rcases addRt_mem h with h | ⟨u, h1, h2, h3⟩
      · exact .inl (List.mem_cons_of_mem _ h)
      · exact .inr ⟨u, List.mem_cons_of_mem _ h1, h2, h3⟩
theorem addRt_len {r : List Int} : ∀ l : List Rq, (addRt r l).length = l.length
  | [] => rfl
  | [z] => rfl
  | z :: y :: t => by
    show (addRt r (y :: t)).length + 1 = _
    rw [addRt_len (y :: t)]
    rfl
structure Bnd (x : Sn) : Prop where
  p : x.net.power.length ≤ 1024
  pr : ∀ r ∈ x.net.power, r.length ≤ 1024
  m : x.net.margin.length ≤ 1024
  l : x.net.links.length ≤ 1024
  b : x.before.length ≤ 1024
  a : x.after.length ≤ 1024
  bq : ∀ q ∈ x.before, q.rs.length ≤ 1024 ∧ ∀ r ∈ q.rs, r.length ≤ 1024
  aq : ∀ q ∈ x.after, q.rs.length ≤ 1024 ∧ ∀ r ∈ q.rs, r.length ≤ 1024
  ce : x.cells.length ≤ 1024
  ch : x.changes.length ≤ 1024
  w : x.weak.length ≤ 1024
  o : x.outs.length ≤ 1024
  lm : x.net.margin.length = x.net.links.length
theorem Bnd.sm {x : Sn} (h : Bnd x) : SmX x :=
  ⟨fun r hr => by have := h.pr r hr; omega, by have := h.p; omega, by have := h.m; omega, by have := h.l; omega, by have := h.b; omega, by have := h.a; omega,
    fun q hq => ⟨by have := (h.bq q hq).1; omega, fun r hr => by have := (h.bq q hq).2 r hr; omega⟩, fun q hq => ⟨by have := (h.aq q hq).1; omega, fun r hr => by have := (h.aq q hq).2 r hr; omega⟩,
    by have := h.ce; omega, by have := h.ch; omega, by have := h.w; omega, by have := h.o; omega⟩
theorem snoc_len {α : Type} {l : List α} (h : ¬ 1024 ≤ l.length) (x : α) : (l ++ [x]).length ≤ 1024 := by
  rw [List.length_append]
  simp only [List.length_cons, List.length_nil]
  omega
theorem snoc_rq {l : List Rq} (h : ∀ q ∈ l, q.rs.length ≤ 1024 ∧ ∀ r ∈ q.rs, r.length ≤ 1024) (f : Fw) : ∀ q ∈ l ++ [⟨f, []⟩], q.rs.length ≤ 1024 ∧ ∀ r ∈ q.rs, r.length ≤ 1024 := fun q hq => by
  rcases List.mem_append.1 hq with hq | hq
  · exact h q hq
  · rw [List.mem_singleton.1 hq]
    exact ⟨Nat.zero_le _, fun r hr => by cases hr⟩
theorem rt_rq {l : List Rq} {r : List Int} (h : ∀ q ∈ l, q.rs.length ≤ 1024 ∧ ∀ r ∈ q.rs, r.length ≤ 1024) (hr : ¬ (1024 < r.length ∨ 1024 ≤ (lastRs l).length)) : ∀ q ∈ addRt r l, q.rs.length ≤ 1024 ∧ ∀ r ∈ q.rs, r.length ≤ 1024 := fun q hq => by
  rcases addRt_mem hq with hq | ⟨z, h1, rfl, h3⟩
  · exact h q hq
  · refine ⟨?_, fun s hs => ?_⟩
    · show (z.rs ++ [r]).length ≤ 1024
      rw [h3]
      exact snoc_len (fun h => hr (.inr h)) r
    · rcases List.mem_append.1 hs with hs | hs
      · exact (h z h1).2 s hs
      · rw [List.mem_singleton.1 hs]
        omega
theorem readP_bnd (k : Kd) (p : Ps) (l : List Int) (h : Bnd p.R.x) : Bnd (readP k p l).1.R.x := by
  cases k
  all_goals (rcases l with _ | ⟨a0, _ | ⟨a1, _ | ⟨a2, _ | ⟨a3, _ | ⟨a4, _ | ⟨a5, _ | ⟨a6, l⟩⟩⟩⟩⟩⟩⟩)
  all_goals first | exact h | (simp only [readP]; first | exact { h with } | (split <;> first | exact h | (rename_i hh; first
    | exact { h with p := (by show (List.replicate a0.toNat (List.replicate a0.toNat (0 : Int))).length ≤ 1024; rw [List.length_replicate]; omega), pr := (fun r hr => by rw [List.eq_of_mem_replicate hr, List.length_replicate]; omega) }
    | exact { h with p := (by show (List.set _ _ _).length ≤ 1024; rw [List.length_set]; exact h.p), pr := (fun r hr => by
        rcases List.mem_or_eq_of_mem_set hr with hr | rfl
        · exact h.pr r hr
        · rw [List.length_set, List.getD_eq_getElem?_getD]
          cases hq : p.R.x.net.power[a0.toNat]? with
          | none => exact Nat.zero_le _
          | some z => exact h.pr z (List.mem_of_getElem? hq)) }
    | exact { h with l := snoc_len hh _, m := (by show (p.R.x.net.margin ++ [a3]).length ≤ 1024; exact snoc_len (by rw [h.lm]; exact hh) _), lm := (by show (p.R.x.net.margin ++ [a3]).length = (p.R.x.net.links ++ [(⟨a0, a1, a2⟩ : Lk)]).length; rw [List.length_append, List.length_append, h.lm]; rfl) }
    | exact { h with b := snoc_len hh _, bq := snoc_rq h.bq _ }
    | exact { h with a := snoc_len hh _, aq := snoc_rq h.aq _ }
    | exact { h with ce := snoc_len hh _ }
    | exact { h with ch := snoc_len hh _ }
    | exact { h with w := snoc_len hh _ }
    | exact { h with o := snoc_len hh _ })))
theorem stepP_bnd (p : Ps) (o : Option Ln) (h : Bnd p.R.x) : Bnd (stepP p o).1.R.x := by
  cases o with
  | none => exact h
  | some x =>
    obtain ⟨w, l⟩ := x
    unfold stepP
    simp only
    split
    · unfold routeP
      split
      · exact h
      · split
        · exact h
        · rename_i hh
          exact { h with b := (by show (addRt l p.R.x.before).length ≤ 1024; rw [addRt_len]; exact h.b), bq := rt_rq h.bq hh }
      · split
        · exact h
        · rename_i hh
          exact { h with a := (by show (addRt l p.R.x.after).length ≤ 1024; rw [addRt_len]; exact h.a), aq := rt_rq h.aq hh }
    · split
      · exact h
      · split
        · exact h
        · split
          · exact h
          · exact readP_bnd _ _ _ h
theorem fold_bnd : ∀ (ps : List ByteArray) (k : Nat) (p : Ps), Bnd p.R.x → Bnd (foldP k p ps).1.R.x
  | [], _, _, h => h
  | s :: ps, k, p, h => by
    rw [foldP_cons]
    split
    · exact fold_bnd ps (k + 1) p h
    · split
      · exact fold_bnd ps (k + 1) _ (stepP_bnd p _ h)
      · exact h
theorem bndZ : Bnd snZ := ⟨Nat.zero_le _, (fun r h => by cases h), Nat.zero_le _, Nat.zero_le _, Nat.zero_le _, Nat.zero_le _, (fun r h => by cases h), (fun r h => by cases h), Nat.zero_le _, Nat.zero_le _, Nat.zero_le _, Nat.zero_le _, rfl⟩
theorem parse_bnd (T : ByteArray) : Bnd (parseP T).1 := by
  unfold parseP
  split
  · exact bndZ
  · simp only
    split
    · exact bndZ
    · split
      · exact fold_bnd _ _ _ bndZ
      · exact bndZ
end Go.Proofs.YtcloigoajohppaaGreatDoor
namespace Go.Proofs.YtcloigoajohppaaGreatDoor
open Go.RowKit
open Av
open Sc
set_option maxRecDepth 100000
set_option linter.unusedSimpArgs false
attribute [local go_sem] Av.guardB Av.sop Av.hopx Av.hop Av.hopCall Av.hopF Av.hopB Av.evo Av.evos Av.avCells Av.loadK Av.bound Av.abin Av.aun Av.partsC Av.lfill Av.placesB Av.setAt Av.stl Av.takes Av.src Av.bxOf Av.ownOf Av.St.res Av.St.put Av.St.addBox Av.St.putOwn Av.delL Av.delS Av.look Av.lookL Av.storeSt Av.stealSt Av.St.setBox Av.keepL Av.hitB Av.snap Av.snaps Av.snapCaps Av.AV.lit Av.AV.refs Av.capRefs Av.PV.av Av.CV.av Av.startSt Av.steals Av.athen Av.ablock Av.appK Av.AllS Av.AllO Av.AllR Av.keepS Av.St.avAt Av.RetOK Av.retAll Av.retOne Av.intsOf Av.ptrB TypeDesc.isRow List.range_zero Option.some.injEq exists_eq_left' exists_eq_left exists_eq' exists_and_left exists_and_right exists_const true_and and_true and_self false_and and_false or_false false_or or_true true_or if_true if_false Bool.false_eq_true List.zipIdx_cons List.zipIdx_nil List.map_cons List.map_nil List.filter_cons List.filter_nil List.contains_cons List.contains_nil List.drop_succ_cons List.drop_zero List.take_succ_cons List.take_zero List.take_nil List.drop_nil List.length_cons List.length_nil List.cons_append List.nil_append List.append_nil List.getElem?_cons_zero List.getElem?_cons_succ List.getElem?_nil Option.bind_some Option.bind_none Option.map_some Option.map_none Option.isNone_none Option.isNone_some Option.isSome_some Option.isSome_none Bool.and_true Bool.true_and Bool.and_false Bool.false_and Bool.or_false Bool.false_or Bool.not_true Bool.not_false beq_true beq_false Bool.true_beq Bool.false_beq Loc.s.injEq Loc.b.injEq decide_true decide_false beq_self_eq_true Nat.zero_add Nat.add_zero List.getElem?_toArray List.toList_toArray List.size_toArray Value.oneCell' List.all_cons List.all_nil Value.int.injEq AV.v.injEq AV.sl.injEq AV.agg.injEq AV.ref.injEq AV.ept.injEq AV.tup.injEq Value.bool.injEq PV.v.injEq PV.sl.injEq List.isEmpty_nil List.isEmpty_cons forall_const not_true_eq_false not_false_eq_true true_implies false_implies Value.string.injEq List.length_map List.getElem?_map Int.toNat_natCast Int.natCast_nonneg List.length_append Value.cells implies_true TypeDesc.struct.injEq TypeDesc.slice.injEq TypeDesc.array.injEq List.getElem?_toArray Prod.mk.injEq and_assoc exists_false List.cons.injEq Operand.tmp.injEq ite_self AV.fnv.injEq AV.clo.injEq ne_eq eq_self Tryz.sz3 Tryz.zr3 Tryz.by3 Tryz.pl3 Tryz.is3 Tryz.underlying3 Tryz.sz4 Tryz.zr4 Tryz.by4 Tryz.pl4 Tryz.is4 Tryz.underlying4 Tryz.sz9 Tryz.zr9 Tryz.by9 Tryz.pl9 Tryz.is9 Tryz.underlying9 Tryz.sz5 Tryz.zr5 Tryz.by5 Tryz.pl5 Tryz.is5 Tryz.underlying5 Tryz.sz56 Tryz.zr56 Tryz.by56 Tryz.pl56 Tryz.is56 Tryz.underlying56 Tryz.sz24 Tryz.zr24 Tryz.by24 Tryz.pl24 Tryz.is24 Tryz.underlying24 Tryz.sz35 Tryz.zr35 Tryz.by35 Tryz.pl35 Tryz.is35 Tryz.underlying35 Tryz.sz46 Tryz.zr46 Tryz.by46 Tryz.pl46 Tryz.is46 Tryz.underlying46 Tryz.sz38 Tryz.zr38 Tryz.by38 Tryz.pl38 Tryz.is38 Tryz.underlying38 all_arr loc_ss loc_sb loc_bs loc_bb arr_two arr_one rg1 rg2 rg3 rg4 rg5 rg6 rg7 rg8 ResultVar.tmp.injEq Bool.not_true Bool.not_false undef Fn.func.injEq Av.extSt Av.RetX List.zipIdx List.getD_cons_zero List.getD_cons_succ Av.startStC Tryz.underlying5 Tryz.sz5 Tryz.zr9 Av.rawR Tryz.underlying46 Sc.Fw.pv Sc.Rq.pv Sc.Ce.pv Sc.Ch.pv Sc.Wk.pv Sc.Og.pv Sc.Lk.pv Sc.Nt.pv Sc.Sn.pv Sc.rsR

def rmk : Nat → List UInt8
 | 0 => []
 | 1 => [35, 32, 49, 32, 50]
 | _ => [35]
theorem rmk_ok (j : Nat) : 10 ∉ rmk j ∧ skipB (mkB (rmk j)) = true := by
 match j with
 | 0 => exact ⟨by decide, rfl⟩
 | 1 => exact ⟨by decide, rfl⟩
 | j + 2 => exact ⟨by show 10 ∉ [(35 : UInt8)]; decide, rfl⟩
theorem rmk_len (j : Nat) : (rmk j).length ≤ 5 := by
 match j with
 | 0 => exact Nat.zero_le _
 | 1 => exact Nat.le_refl _
 | j + 2 => show [(35 : UInt8)].length ≤ 5; decide
def u8R (l : List Int) : List (List PV) := l.map fun k => [PV.v (.int .u8 k)]
structure PutM (T : ByteArray) (k : Nat) (M : Rm) : Prop where
 ne : M ≠ []
 ok : Rm.Ok M
 base : M.base = splitC 10 T.data.toList
 more : M.more ≤ k
 len : M.lines.flatten.length ≤ T.size + 6 * k
 low : 0 < (parseP T).2.1 → M.Low (parseP T).2.1.toNat
theorem putM_zero (T : ByteArray) : PutM T 0 (Rm.of (splitC 10 T.data.toList)) := by
 refine ⟨?_, Rm.of_ok _, Rm.of_base _, by rw [Rm.of_more]; exact Nat.le_refl 0, ?_, fun _ i x hx _ => ?_⟩
 · intro h
   have := congrArg List.length h
   unfold Rm.of at this
   rw [List.length_map] at this
   exact splitC_ne 10 T.data.toList (List.eq_nil_of_length_eq_zero this)
 · rw [Rm.of_lines, withC_flat, ← size_list]
   exact Nat.le_refl _
 · unfold Rm.of at hx
   rw [List.getElem?_map] at hx
   cases hq : (splitC 10 T.data.toList)[i]? with
   | none => rw [hq] at hx; cases hx
   | some z => rw [hq] at hx; cases hx; rfl
theorem PutM.stay {T : ByteArray} {k : Nat} {M : Rm} (h : PutM T k M) : PutM T (k + 1) M := ⟨h.ne, h.ok, h.base, Nat.le_succ_of_le h.more, by have := h.len; omega, h.low⟩
theorem PutM.go {T : ByteArray} {k j : Nat} {M : Rm} (h : PutM T k M) (hj : j < M.length) (i : Nat) (hn : ¬ (0 < (parseP T).2.1 ∧ (parseP T).2.1 ≤ (j : Int))) : PutM T (k + 1) (M.put j (rmk i)) := by
 obtain ⟨x, hx⟩ : ∃ x, M.lines[j]? = some x := ⟨_, List.getElem?_eq_getElem (by rw [Rm.lines_len]; exact hj)⟩
 refine ⟨fun e => h.ne (List.eq_nil_of_length_eq_zero (by rw [← Rm.put_len M j (rmk i), e]; rfl)), Rm.put_ok h.ok j (rmk_ok i), by rw [Rm.put_base]; exact h.base, by rw [Rm.put_more hj]; have := h.more; omega, ?_, fun hp => Rm.put_low (h.low hp) (by omega) _⟩
 rw [Rm.put_lines hx, set_flat_len _ hx, List.length_append]
 have h1 := rmk_len i
 have h2 := h.len
 simp only [List.length_cons, List.length_nil]
 omega
theorem put_strV {M : Rm} {j : Nat} {x : List UInt8} (hx : M.lines[j]? = some x) (i : Nat) :
 (strV (M.lines.map mkB)).set j [.string (mkB (rmk i ++ [10]) ++ mkB x)] = strV ((M.put j (rmk i)).lines.map mkB) := by
 rw [Rm.put_lines hx]
 unfold strV
 rw [List.map_set, List.map_set]
 have e : mkB (rmk i ++ [10]) ++ mkB x = mkB ((rmk i ++ [10]) ++ x) := ext_list (by rw [mkB_list]; simp [mkB])
 rw [← e]
set_option maxHeartbeats 4000000 in
theorem lawRemarks_ok (T : ByteArray) (at_ : List Int) (hu : ∀ k ∈ at_, 0 ≤ k ∧ k < 256) : FnOKC Tryz.prog LC 8 [.v (.string T), .sl 1 (at_.map fun k => [PV.v (.int .u8 k)])] ⟨bv true, none⟩ := by
 refine fn_okC (C := LC) Tryz.func8 (by kernel_rfl) rfl (by rw [Tryz.ntmps8]; exact of_decide_eq_true rfl) (fun F hF => ?_)
 rw [Tryz.ntmps8] at hF
 rw [Tryz.results8]
 repeat (first
  | ((refine hand_fnC (C := LC) LC.below rfl rfl (by decide) rfl rfl rfl awake_ok rfl ?_); simp only [go_sem, simprocAttr, hF])
  | ((first | with_reducible refine sops_go ?_ | with_reducible refine sops_end ?_); simp only [go_sem, simprocAttr, hF])
  | with_reducible refine awp_seq_k fun _ _ => ?_
  | (with_reducible refine awp_region (id := 0) [1000016, 1000028, 1000031, 1000036, 1000047, 1000065, 1000066, 1000068, 1000074, 1000075] ?_)
  | (with_reducible refine awp_region (id := 1) [1000016, 1000028, 1000031, 1000036, 1000047, 1000065, 1000066, 1000068, 1000074, 1000075] ?_)
  | go_step)
 by_cases hT : 2000 < T.size
 case pos =>
  have h1 : decide ((T.size : Int) > 2000) = true := decide_eq_true (by omega)
  try simp only [go_sem, simprocAttr, hF, h1]
  repeat (first
   | ((refine hand_fnC (C := LC) LC.below rfl rfl (by decide) rfl rfl rfl awake_ok rfl ?_); simp only [go_sem, simprocAttr, hF])
   | ((first | with_reducible refine sops_go ?_ | with_reducible refine sops_end ?_ | with_reducible refine awp_if ?_ | with_reducible refine awp_ret ?_); simp only [go_sem, simprocAttr, hF, h1])
   | with_reducible refine awp_seq_k fun _ _ => ?_
   | (with_reducible refine awp_region (id := 2) [1000016, 1000028, 1000031, 1000036, 1000047, 1000065, 1000066, 1000068, 1000074, 1000075] ?_)
   | go_step)
  all_goals (try rfl)
 have h1 : decide ((T.size : Int) > 2000) = false := decide_eq_false (by omega)
 by_cases hA : 20 < at_.length
 case pos =>
  have h2 : decide ((at_.length : Int) > 20) = true := decide_eq_true (by omega)
  try simp only [go_sem, simprocAttr, hF, h1, h2]
  repeat (first
   | ((refine hand_fnC (C := LC) LC.below rfl rfl (by decide) rfl rfl rfl awake_ok rfl ?_); simp only [go_sem, simprocAttr, hF])
   | ((first | with_reducible refine sops_go ?_ | with_reducible refine sops_end ?_ | with_reducible refine awp_if ?_ | with_reducible refine awp_ret ?_); simp only [go_sem, simprocAttr, hF, h1, h2])
   | with_reducible refine awp_seq_k fun _ _ => ?_
   | (with_reducible refine awp_region (id := 2) [1000016, 1000028, 1000031, 1000036, 1000047, 1000065, 1000066, 1000068, 1000074, 1000075] ?_)
   | go_step)
  all_goals (try rfl)
 have h2 : decide ((at_.length : Int) > 20) = false := decide_eq_false (by omega)
 have hpa := parse_okC T
 have hbn := (parse_bnd T).sm
 have hnum := parse_num (T := T) (by omega)
 have hsm := same_ok (parseP T).1 hbn
 have hrm := fun (M : Rm) (k : Nat) (hM : PutM T k M) (hk : k ≤ 20) => remarks_plain (T := T) (by omega) hM.ne hM.ok hM.base (by have := hM.len; omega) hM.low
 have hM0 := putM_zero T
 have hPM : ∀ (k : Nat) (M : Rm), PutM T k M → PutM T k M := fun _ _ h => h
 obtain ⟨X, hX⟩ : ∃ X, X = (parseP T).1 := ⟨_, rfl⟩
 obtain ⟨nn, hnn⟩ : ∃ nn, nn = (parseP T).2.1 := ⟨_, rfl⟩
 obtain ⟨ee, hee⟩ : ∃ ee, ee = (parseP T).2.2 := ⟨_, rfl⟩
 rw [← hX, ← hnn, ← hee] at hpa
 rw [← hX] at hsm
 rw [← hnn] at hnum
 unfold Sn.pv at hpa hsm
 try simp only [go_sem, simprocAttr, hF, h1, h2]
 repeat (first
  | ((refine hand_fnC (C := LC) LC.below rfl rfl (by decide) rfl rfl rfl hpa rfl ?_); simp only [go_sem, simprocAttr, hF, h1, h2])
  | ((refine hand_eqE (E' := (laidE LC).and (exts [])) (EqE.symm (EqE.nil_right _)) ?_; refine hand_splitAfter (l := []) (E := laidE LC) rfl rfl (by decide) rfl (fun _ h => h.1) rfl rfl (by omega) (fun g => ?_)); simp only [go_sem, simprocAttr, hF])
  | ((first | with_reducible refine sops_go ?_ | with_reducible refine sops_end ?_ | with_reducible refine awp_if ?_ | with_reducible refine awp_skip ?_); simp only [go_sem, simprocAttr, hF, h1, h2])
  | with_reducible refine awp_seq_k fun _ _ => ?_
  | (with_reducible refine awp_region (id := 3) [1000016, 1000028, 1000031, 1000036, 1000047, 1000065, 1000066, 1000068, 1000074, 1000075] ?_)
  | (with_reducible refine awp_region (id := 4) [1000016, 1000028, 1000031, 1000036, 1000047, 1000065, 1000066, 1000068, 1000074, 1000075] ?_)
  | (with_reducible refine awp_region (id := 5) [1000016, 1000028, 1000031, 1000036, 1000047, 1000065, 1000066, 1000068, 1000074, 1000075] ?_)
  | (with_reducible refine awp_region (id := 6) [1000016, 1000028, 1000031, 1000036, 1000047, 1000065, 1000066, 1000068, 1000074, 1000075] ?_)
  | (with_reducible refine awp_block ?_)
  | go_step)
 have hAL : afterL T = (Rm.of (splitC 10 T.data.toList)).lines.map mkB := by rw [afterL_eq, Rm.of_lines]
 rw [hAL]
 have hNl : ((Rm.of (splitC 10 T.data.toList)).lines.map mkB).length = (splitC 10 T.data.toList).length := by rw [List.length_map, Rm.lines_len]; exact List.length_map _
 have hcs := count_split T.data.toList
 have hct : T.data.toList.count 10 ≤ T.size := by rw [size_list]; exact List.count_le_length
 obtain ⟨N, hN⟩ : ∃ N, N = (splitC 10 T.data.toList).length := ⟨_, rfl⟩
 rw [hNl, ← hN]
 generalize hV : Value.slice (some ⟨g, 0, none⟩) N N = V
 clear hV
 refine awp_loop_by (ι := {km : Nat × Rm // km.1 ≤ at_.length ∧ PutM T km.1 km.2}) (fun km σ => ⟨(39, iv (km.1.1 : Int)) :: (9, iv (km.1.2.more : Int)) :: (8, .v V) :: keepS [0, 4, 5, 6, 7, 37, 38] σ.slot, [(5, X.pv)], [], (laidE LC).and (exts [rawR 9 1 (some g) V (strV (km.1.2.lines.map mkB))])⟩) (fun km => at_.length - km.1.1) ⟨(0, Rm.of (splitC 10 T.data.toList)), Nat.zero_le _, hM0⟩ (sub_mk ?_) (fun R hR km => ?_)
 · simp only [go_sem, simprocAttr, hF]
   repeat' (first | rfl | refine ⟨?_, ?_⟩ | (rw [Rm.of_more]; rfl))
 obtain ⟨⟨k, M⟩, hk, hM⟩ := km
 dsimp only at hk hM ⊢
 simp only [go_sem, simprocAttr, hF]
 have hML : M.length = N := by rw [hN, ← hM.base]; exact (List.length_map _).symm
 have hrl : (strV (M.lines.map mkB)).length = N := by rw [strV_len, List.length_map, Rm.lines_len]; exact hML
 have hmk := hM.more
 have hmT := hM.len
 have hwk : IntKind.i64.wrap ((k : Int) + 1) = ((k + 1 : Nat) : Int) := by rw [IntKind.wrap_i64]; omega
 by_cases hlt : k < at_.length
 case neg =>
  have hd : decide ((k : Int) < (at_.length : Int)) = false := decide_eq_false (by omega)
  obtain ⟨r9, rB, rC⟩ := hrm M k hM (by omega)
  rw [← hnn, ← hee] at r9 rB rC
  have hJl : (Lib.join ((M.lines.map mkB).map (·.data.toList)) (⟨#[]⟩ : ByteArray).data.toList).length ≤ 140737488355328 := by
   have h := congrArg (fun (b : ByteArray) => b.data.toList.length) (joinT_mk M.lines)
   rw [mkB_list] at h
   have h3 : (joinT (M.lines.map mkB) ⟨#[]⟩).data.toList = Lib.join ((M.lines.map mkB).map (·.data.toList)) (⟨#[]⟩ : ByteArray).data.toList := by unfold joinT; simp
   rw [← h3, h]
   omega
  have hJn : (M.lines.map mkB).length ≤ 140737488355328 := by rw [List.length_map, Rm.lines_len]; omega
  have hw9 : IntKind.i64.wrap (nn + (M.more : Int)) = nn + (M.more : Int) := by rw [IntKind.wrap_i64]; omega
  have hpb := parse_okC (joinT (M.lines.map mkB) ⟨#[]⟩)
  rw [joinT_mk] at hpb
  obtain ⟨T2, hT2⟩ : ∃ T2, T2 = mkB M.lines.flatten := ⟨_, rfl⟩
  rw [← hT2] at hpb r9 rB rC
  have hJ : joinT (M.lines.map mkB) ⟨#[]⟩ = T2 := by rw [joinT_mk, hT2]
  by_cases h9 : ee = 9
  case pos =>
   obtain ⟨q1, q2⟩ := r9 h9
   rw [q1, q2] at hpb
   obtain ⟨Y, hY⟩ : ∃ Y, Y = (parseP T2).1 := ⟨_, rfl⟩
   rw [← hY] at hpb
   unfold Sn.pv at hpb
   have e9 : (ee == 9) = true := by rw [h9]; rfl
   have e10 : ((nn + (M.more : Int)) == (nn + (M.more : Int))) = true := beq_self_eq_true _
   repeat (first
    | ((refine hand_joinR (i := 0) (L := M.lines.map mkB) rfl rfl (by decide) rfl rfl rfl rfl hJn hJl ?_); simp only [go_sem, simprocAttr, hF, hJ])
    | ((refine hand_fnL LC.below rfl rfl (by decide) (fun _ h => h.1) rfl rfl hpb rfl ?_); simp only [go_sem, simprocAttr, hF])
    | ((first | with_reducible refine sops_go ?_ | with_reducible refine sops_end ?_ | with_reducible refine awp_if ?_ | with_reducible refine awp_ret ?_ | with_reducible refine awp_exit ?_); simp only [go_sem, simprocAttr, hF, hd, e9, e10, hw9])
    | with_reducible refine awp_seq_k fun _ _ => ?_
    | (with_reducible refine awp_region (id := 7) [1000016, 1000028, 1000031, 1000036, 1000047, 1000065, 1000066, 1000068, 1000074, 1000075] ?_)
    | (with_reducible refine awp_region (id := 14) [1000016, 1000028, 1000031, 1000036, 1000047, 1000065, 1000066, 1000068, 1000074, 1000075] ?_)
    | (with_reducible refine awp_region (id := 15) [1000016, 1000028, 1000031, 1000036, 1000047, 1000065, 1000066, 1000068, 1000074, 1000075] ?_)
    | (with_reducible refine awp_region (id := 16) [1000016, 1000028, 1000031, 1000036, 1000047, 1000065, 1000066, 1000068, 1000074, 1000075] ?_)
    | go_step)
   all_goals (try rfl)
  have e9 : (ee == 9) = false := by simpa using h9
  have e12 : (ee == ee) = true := beq_self_eq_true _
  by_cases hp : 0 < nn
  case pos =>
   obtain ⟨q1, q2⟩ := rB h9 hp
   rw [q1, q2] at hpb
   obtain ⟨Y, hY⟩ : ∃ Y, Y = (parseP T2).1 := ⟨_, rfl⟩
   rw [← hY] at hpb
   unfold Sn.pv at hpb
   have e10 : ((nn + (M.more : Int)) == (nn + (M.more : Int))) = true := beq_self_eq_true _
   have e11 : decide (nn > 0) = true := decide_eq_true hp
   repeat (first
    | ((refine hand_joinR (i := 0) (L := M.lines.map mkB) rfl rfl (by decide) rfl rfl rfl rfl hJn hJl ?_); simp only [go_sem, simprocAttr, hF, hJ])
    | ((refine hand_fnL LC.below rfl rfl (by decide) (fun _ h => h.1) rfl rfl hpb rfl ?_); simp only [go_sem, simprocAttr, hF])
    | ((first | with_reducible refine sops_go ?_ | with_reducible refine sops_end ?_ | with_reducible refine awp_if ?_ | with_reducible refine awp_skip ?_ | with_reducible refine awp_ret ?_ | with_reducible refine awp_exit ?_); simp only [go_sem, simprocAttr, hF, hd, e9, e10, e11, e12, hw9])
    | with_reducible refine awp_seq_k fun _ _ => ?_
    | (with_reducible refine awp_region (id := 7) [1000016, 1000028, 1000031, 1000036, 1000047, 1000065, 1000066, 1000068, 1000074, 1000075] ?_)
    | (with_reducible refine awp_region (id := 14) [1000016, 1000028, 1000031, 1000036, 1000047, 1000065, 1000066, 1000068, 1000074, 1000075] ?_)
    | (with_reducible refine awp_region (id := 15) [1000016, 1000028, 1000031, 1000036, 1000047, 1000065, 1000066, 1000068, 1000074, 1000075] ?_)
    | (with_reducible refine awp_region (id := 17) [1000016, 1000028, 1000031, 1000036, 1000047, 1000065, 1000066, 1000068, 1000074, 1000075] ?_)
    | (with_reducible refine awp_region (id := 18) [1000016, 1000028, 1000031, 1000036, 1000047, 1000065, 1000066, 1000068, 1000074, 1000075] ?_)
    | go_step)
   all_goals (try rfl)
  have e11 : decide (nn > 0) = false := decide_eq_false hp
  have e10 : (nn == nn) = true := beq_self_eq_true _
  rw [rC h9 hp, ← hX, ← hnn, ← hee] at hpb
  unfold Sn.pv at hpb
  repeat (first
   | ((refine hand_joinR (i := 0) (L := M.lines.map mkB) rfl rfl (by decide) rfl rfl rfl rfl hJn hJl ?_); simp only [go_sem, simprocAttr, hF, hJ])
   | ((first | refine hand_fnL LC.below rfl rfl (by decide) (fun _ h => h.1) rfl rfl hpb rfl ?_ | refine ⟨_, hsm, ?_⟩); simp only [go_sem, simprocAttr, hF])
   | ((first | with_reducible refine sops_go ?_ | with_reducible refine sops_end ?_ | with_reducible refine awp_if ?_ | with_reducible refine awp_skip ?_ | with_reducible refine awp_ret ?_ | with_reducible refine awp_exit ?_); simp only [go_sem, simprocAttr, hF, hd, e9, e10, e11, e12])
   | with_reducible refine awp_seq_k fun _ _ => ?_
   | (with_reducible refine awp_region (id := 7) [1000016, 1000028, 1000031, 1000036, 1000047, 1000065, 1000066, 1000068, 1000074, 1000075] ?_)
   | (with_reducible refine awp_region (id := 14) [1000016, 1000028, 1000031, 1000036, 1000047, 1000065, 1000066, 1000068, 1000074, 1000075] ?_)
   | (with_reducible refine awp_region (id := 15) [1000016, 1000028, 1000031, 1000036, 1000047, 1000065, 1000066, 1000068, 1000074, 1000075] ?_)
   | (with_reducible refine awp_region (id := 17) [1000016, 1000028, 1000031, 1000036, 1000047, 1000065, 1000066, 1000068, 1000074, 1000075] ?_)
   | (with_reducible refine awp_region (id := 19) [1000016, 1000028, 1000031, 1000036, 1000047, 1000065, 1000066, 1000068, 1000074, 1000075] ?_)
   | go_step)
  all_goals (try rfl)
 obtain ⟨d, hdk⟩ := get_of_lt hlt
 have hd : decide ((k : Int) < (at_.length : Int)) = true := decide_eq_true (by omega)
 have hdu := hu d (List.mem_of_getElem? hdk)
 have hwd : IntKind.i64.wrap d = d := by rw [IntKind.wrap_i64]; omega
 have hz : ((N : Int) = 0) = False := eq_false (by omega)
 obtain ⟨j, hj⟩ : ∃ j : Nat, d.tmod (N : Int) = (j : Int) := ⟨(d.tmod (N : Int)).toNat, by rw [Int.tmod_eq_emod_of_nonneg hdu.1]; have := Int.emod_nonneg d (show (N : Int) ≠ 0 by omega); omega⟩
 have hjN : j < N := by
  have h := Int.emod_lt_of_pos d (show (0 : Int) < (N : Int) by omega)
  rw [Int.tmod_eq_emod_of_nonneg hdu.1] at hj
  omega
 repeat (first
  | ((refine hand_vLen (i := 0) rfl rfl (by decide) Tryz.underlying46 rfl rfl rfl ?_); simp only [go_sem, simprocAttr, hF, hrl])
  | ((first | with_reducible refine sops_go ?_ | with_reducible refine sops_end ?_ | with_reducible refine awp_if ?_ | with_reducible refine awp_skip ?_); simp only [go_sem, simprocAttr, hF, hd, hdk, hwd, hz, hj])
  | with_reducible refine awp_seq_k fun _ _ => ?_
  | (with_reducible refine awp_region (id := 7) [1000016, 1000028, 1000031, 1000036, 1000047, 1000065, 1000066, 1000068, 1000074, 1000075] ?_)
  | (with_reducible refine awp_region (id := 8) [1000016, 1000028, 1000031, 1000036, 1000047, 1000065, 1000066, 1000068, 1000074, 1000075] ?_)
  | (with_reducible refine awp_region (id := 9) [1000016, 1000028, 1000031, 1000036, 1000047, 1000065, 1000066, 1000068, 1000074, 1000075] ?_)
  | (with_reducible refine awp_block ?_)
  | go_step)
 by_cases hn : 0 < nn ∧ nn ≤ (j : Int)
 case pos =>
  have h5 : decide (nn > 0) = true := decide_eq_true hn.1
  have h6 : decide ((j : Int) ≥ nn) = true := decide_eq_true hn.2
  repeat (first
   | ((first | with_reducible refine sops_go ?_ | with_reducible refine sops_end ?_ | with_reducible refine awp_if ?_ | with_reducible refine awp_exit ?_); simp only [go_sem, simprocAttr, hF, h5, h6])
   | (with_reducible refine awp_region (id := 10) [1000016, 1000028, 1000031, 1000036, 1000047, 1000065, 1000066, 1000068, 1000074, 1000075] ?_)
   | (with_reducible refine awp_region (id := 13) [1000016, 1000028, 1000031, 1000036, 1000047, 1000065, 1000066, 1000068, 1000074, 1000075] ?_)
   | go_step)
  refine ⟨⟨(k + 1, M), by dsimp only; omega, hM.stay⟩, by dsimp only; omega, hR _ _ (sub_mk ?_)⟩
  simp only [go_sem, simprocAttr, hF, hwk]
 obtain ⟨x, hx⟩ : ∃ x, M.lines[j]? = some x := ⟨_, List.getElem?_eq_getElem (by rw [Rm.lines_len, hML]; exact hjN)⟩
 have hone : ∀ r ∈ strV (M.lines.map mkB), r.length = 1 := fun r hr => by obtain ⟨y, _, rfl⟩ := List.mem_map.1 hr; rfl
 have hrow : (strV (M.lines.map mkB))[j]? = some [.string (mkB x)] := by unfold strV; rw [List.getElem?_map, List.getElem?_map, hx]; rfl
 have hjr : j < (strV (M.lines.map mkB)).length := by rw [hrl]; exact hjN
 obtain ⟨i, hi⟩ : ∃ i : Nat, (k : Int).tmod 3 = (i : Int) := ⟨((k : Int).tmod 3).toNat, by rw [Int.tmod_eq_emod_of_nonneg (by omega)]; omega⟩
 have hi3 : i < 3 := by rw [Int.tmod_eq_emod_of_nonneg (by omega)] at hi; omega
 have h3 : ([[PV.v (.string ⟨#[10]⟩)], [PV.v (.string ⟨#[35, 32, 49, 32, 50, 10]⟩)], [PV.v (.string ⟨#[35, 10]⟩)]] : List (List PV))[i]? = some [PV.v (.string (mkB (rmk i ++ [10])))] := by
  match i, hi3 with
  | 0, _ => rfl
  | 1, _ => rfl
  | 2, _ => rfl
 have hi3' : (i < 3) = True := eq_true hi3
 have hxs : x.length ≤ T.size + 6 * k := by
  have h := congrArg (fun l => (List.flatten l).length) (List.take_append_drop j M.lines)
  rw [drop_of_get hx] at h
  simp only [List.flatten_append, List.flatten_cons, List.length_append] at h
  omega
 have hsz : ((mkB (rmk i ++ [10])).size + (mkB x).size ≤ 9223372036854775807) = True := eq_true (by
  have := rmk_len i
  rw [mkB_size, mkB_size, List.length_append]
  simp only [List.length_cons, List.length_nil]
  omega)
 have hps : (strV (M.lines.map mkB)).set j ([Value.string (mkB x)].set 0 (.string (mkB (rmk i ++ [10]) ++ mkB x))) = strV ((M.put j (rmk i)).lines.map mkB) := put_strV hx i
 have hmm := Rm.put_more (M := M) (j := j) (by rw [hML]; exact hjN) (rmk i)
 have hwm : IntKind.i64.wrap ((M.more : Int) + 1) = ((M.more + 1 : Nat) : Int) := by rw [IntKind.wrap_i64]; omega
 have hgo := hM.go (by rw [hML]; exact hjN) i (by rw [← hnn]; exact hn)
 have hc : decide (nn > 0) = false ∨ (decide (nn > 0) = true ∧ decide ((j : Int) ≥ nn) = false) := by
  by_cases h5 : 0 < nn
  · exact .inr ⟨decide_eq_true h5, decide_eq_false fun h => hn ⟨h5, h⟩⟩
  · exact .inl (decide_eq_false h5)
 generalize mkB (rmk i ++ [10]) = Rb at h3 hsz hps
 generalize mkB x = xb at hrow hsz hps
 rcases hc with h5 | ⟨h5, h6⟩
 case' inl => have h6 := h5
 all_goals
  repeat (first
   | ((with_reducible refine sopsJ_go ?_); simp only [go_sem, simprocAttr, hF, h5, h6, h3, hi, hi3, hi3', hsz, hwm, Av.sopJ])
   | ((with_reducible refine sopsJ_end ?_); simp only [go_sem, simprocAttr, hF, h5, h6, h3, hi, hi3, hi3', hsz, hwm, Av.sopJ])
   | (refine awp_floatJ (id := 11) [1000016, 1000028, 1000031, 1000036, 1000047, 1000065, 1000066, 1000068, 1000074, 1000075] 13 [] (by kernel_rfl) (by kernel_rfl) (by kernel_rfl) rfl rfl (fun bx0 hbx => ?_); (try dsimp only [Av.addWs, Av.addW, List.modify_succ_cons, List.modify_zero_cons, List.push_toArray, List.cons_append, List.nil_append, List.take_succ_cons, List.take_zero, List.take_nil, List.drop_succ_cons, List.drop_zero, List.drop_nil]))
   | ((with_reducible refine headW_go ?_); simp only [go_sem, simprocAttr, hF, h5, h6, h3, hi, hi3, hi3', hsz, hwm, hbx])
   | ((with_reducible refine headW_end ?_); simp only [go_sem, simprocAttr, hF, h5, h6, h3, hi, hi3, hi3', hsz, hwm, Av.sopJ])
   | ((first | refine ⟨_, handq_vIndex (i := 0) (j := j) rfl rfl (by decide) rfl rfl rfl rfl hjr Tryz.underlying46 Tryz.sz9, rfl, ?_⟩ | refine ⟨_, handq_vLoad (i := 0) (k := j) (c := 0) (sz := 1) (dd := .string) rfl rfl (by decide) rfl rfl hone hrow rfl rfl Tryz.underlying9 rfl, rfl, ?_⟩); simp only [go_sem, simprocAttr, hF, h5, h6, h3, hi, hi3, hi3', hsz, hwm, hbx])
   | ((refine hand_vStore (i := 0) (k := j) (c := 0) (sz := 1) rfl rfl rfl rfl hone hrow (by decide) rfl rfl rfl rfl Tryz.sz9 ?_); simp only [go_sem, simprocAttr, hF, h5, h6, h3, hi, hi3, hi3', hsz, hwm, Av.sopJ])
   | ((first | with_reducible refine sops_go ?_ | with_reducible refine sops_end ?_ | with_reducible refine awp_if ?_ | with_reducible refine awp_skip ?_); simp only [go_sem, simprocAttr, hF, h5, h6, h3, hi, hi3, hi3', hsz, hwm])
   | with_reducible refine awp_seq_k fun _ _ => ?_
   | (with_reducible refine awp_region (id := 10) [1000016, 1000028, 1000031, 1000036, 1000047, 1000065, 1000066, 1000068, 1000074, 1000075] ?_)
   | (with_reducible refine awp_region (id := 12) [1000016, 1000028, 1000031, 1000036, 1000047, 1000065, 1000066, 1000068, 1000074, 1000075] ?_)
   | (with_reducible refine awp_region (id := 13) [1000016, 1000028, 1000031, 1000036, 1000047, 1000065, 1000066, 1000068, 1000074, 1000075] ?_)
   | go_step)
  refine ⟨⟨(k + 1, M.put j (rmk i)), by dsimp only; omega, hgo⟩, by dsimp only; omega, hR _ _ (sub_mk ?_)⟩
  simp only [go_sem, simprocAttr, hF, hwk, hps, hmm, hwm]
  rfl
end Go.Proofs.YtcloigoajohppaaGreatDoor
namespace Go.Proofs.YtcloigoajohppaaGreatDoor
open Go.RowKit
open Av Sc
set_option maxRecDepth 100000
open Go.ChangeShapes Go.WideShapes Go.ChangeAt
def Ty.q8 : Ty := .int .u8
theorem Tryz.fitsQu8s : (Ty.slice .q8).fits Tryz.prog 56 = true := by kernel_rfl
theorem u8_wf {u : Int} (h : (Lit.int .u8 u).wf = true) : 0 ≤ u ∧ u < 256 := by
  unfold Lit.wf at h
  rw [Bool.and_eq_true] at h
  have h1 : (0 : Int) ≤ u := of_decide_eq_true h.1
  have h2 : u ≤ 255 := of_decide_eq_true h.2
  omega
theorem q8_of {w : World} (es : List Value) (_hl : es.length = Ty.q8.cells) (h : Ty.q8.holds w es) : ∃ a : Int, RepL (cellR w) [PV.v (.int .u8 a)] es ∧ (0 ≤ a ∧ a < 256) := by
  obtain ⟨n, rfl, h⟩ := h
  exact ⟨n, .cons (.v _ rfl) .nil, u8_wf h⟩
section
variable {H : Type} {enc : TypeId × Value → H} {W : World} {base : Nat} {spare : Nat → Bool} {held : Bool} {r : Reach} {b0 : Nat} {v : Value} {d : DataW H} {p : List MemPlace}
theorem open_u8s (hv : Value.okWide Tryz.prog W r b0 56 v) (h : DataW.Trod enc Tryz.prog W base spare held 56 v d p) : ∃ l : List Int, (∀ k ∈ l, 0 ≤ k ∧ k < 256) ∧ RepA (cellR W) (fun _ => 0) (.sl 1 (l.map fun k => [PV.v (.int .u8 k)])) v := by
  obtain ⟨a, len, cap, rfl⟩ := okWide_slice Tryz.underlying56 hv
  have hh := Ty.holds_trod (τ := .slice .q8) Tryz.fitsQu8s h
  obtain ⟨A, n, c, h1, hc, hm, hn, he⟩ := hh
  simp only [Value.cells, List.cons.injEq, and_true, Value.slice.injEq] at h1
  obtain ⟨rfl, rfl, rfl⟩ := h1
  obtain ⟨l, el, hr, hg⟩ := rep_of_sliceG (f := fun k => [PV.v (.int .u8 k)]) (e := Ty.q8) (by decide) hc hn q8_of he
  exact ⟨l, hg, hr⟩
end
end Go.Proofs.YtcloigoajohppaaGreatDoor

import Derived.Deep.MidRow
import Derived.Test.YtkdigdnacggknaaZRoom
import Derived.Test.YtkdigdnacggknaaZMonS
/- Rows of structs that are changed in place: what stands where, exchanges. Generic: no program's numbers. -/
namespace Go.Proofs.Ytkdigdnacggknaa
open Go.RowKit

/-- Block g holds the rows, one behind the other. -/
def RowsAt (w : World) (g : Nat) (t : TypeId) (S : Nat) (rows : List (List Value)) : Prop :=
  (∀ r ∈ rows, r.length = S) ∧ ∃ cur : Array Value, w.heap[g]? = some (.cells cur t (0, 0)) ∧ ∀ k row, rows[k]? = some row → ∀ j u, row[j]? = some u → cur[k * S + j]? = some u

theorem setCells_heap (t : TypeId) (g : Nat) : ∀ (us : List Value) (o : Nat) (w : World) (cur : Array Value), w.heap[g]? = some (.cells cur t (0, 0)) →
    ∃ cur' : Array Value, (World.setCells w g o us).heap[g]? = some (.cells cur' t (0, 0)) ∧ cur'.size = cur.size ∧ (∀ i, (i < o ∨ o + us.length ≤ i) → cur'[i]? = cur[i]?) ∧ (∀ j u, us[j]? = some u → o + j < cur.size → cur'[o + j]? = some u)
  | [], o, w, cur, h => ⟨cur, h, rfl, fun _ _ => rfl, fun j u hu => by simp at hu⟩
  | u :: us, o, w, cur, h => by
    have h1 := heap_setCell_same w g o cur t u h
    obtain ⟨cur', h2, h3, h4, h5⟩ := setCells_heap t g us (o + 1) (w.setCell ⟨g, o, none⟩ u) _ h1
    refine ⟨cur', h2, by rw [h3]; simp, fun i hi => ?_, fun j v hv hs => ?_⟩
    · rw [List.length_cons] at hi
      rw [h4 i (by omega)]
      have : o ≠ i := by omega
      simp [this]
    · cases j with
      | zero =>
        rw [h4 (o + 0) (by omega)]
        simp at hv
        subst hv
        simp [Array.getElem?_setIfInBounds]
        omega
      | succ j =>
        have := h5 j v (by simpa using hv) (by simp; omega)
        rw [show o + (j + 1) = o + 1 + j by omega]
        exact this

theorem RowsAt.put {w : World} {g S : Nat} {t : TypeId} {rows : List (List Value)} (h : RowsAt w g t S rows) {i : Nat} {row : List Value} (hi : i < rows.length) (hr : row.length = S) : RowsAt (World.setCells w g (i * S) row) g t S (rows.set i row) := by
  obtain ⟨hl, cur, hg, hc⟩ := h
  obtain ⟨cur', h2, h3, h4, h5⟩ := setCells_heap t g row (i * S) w cur hg
  have hl' : ∀ r ∈ rows.set i row, r.length = S := fun r hm => by
    rcases List.mem_or_eq_of_mem_set hm with hm | rfl
    · exact hl r hm
    · exact hr
  refine ⟨hl', cur', h2, fun k r hk j u hu => ?_⟩
  have hjS : j < S := by
    have := (List.getElem?_eq_some_iff.1 hu).1
    rw [hl' r (List.mem_of_getElem? hk)] at this
    exact this
  by_cases hki : i = k
  · subst hki
    rw [List.getElem?_set_self hi] at hk
    obtain rfl : row = r := by simpa using hk
    have hold : rows[i]? = some rows[i] := List.getElem?_eq_getElem hi
    obtain ⟨v, hv⟩ : ∃ v, rows[i][j]? = some v := ⟨_, List.getElem?_eq_getElem (by rw [hl _ (List.getElem_mem hi)]; exact hjS)⟩
    have := hc i _ hold j v hv
    exact h5 j u hu (Array.getElem?_eq_some_iff.1 this).1
  · rw [List.getElem?_set_ne hki] at hk
    rw [h4 _ (by rcases Nat.lt_or_gt_of_ne hki with q | q
                 · right; rw [hr]; have := Nat.mul_le_mul_right S (show i + 1 ≤ k by omega); rw [Nat.succ_mul] at this; omega
                 · left; have := Nat.mul_le_mul_right S (show k + 1 ≤ i by omega); rw [Nat.succ_mul] at this; omega)]
    exact hc k r hk j u hu

theorem RowsAt.lt {w : World} {g S : Nat} {t : TypeId} {rows : List (List Value)} (h : RowsAt w g t S rows) : g < w.heap.size := by
  obtain ⟨_, cur, hg, _⟩ := h
  exact heap_lt hg
theorem RowsAt.keep {w w' : World} {g S : Nat} {t : TypeId} {rows : List (List Value)} (h : RowsAt w g t S rows) (he : w'.heap[g]? = w.heap[g]?) : RowsAt w' g t S rows := by
  obtain ⟨hl, cur, hg, hc⟩ := h
  exact ⟨hl, cur, he.trans hg, hc⟩
theorem RowsAt.cell {w : World} {g S : Nat} {t : TypeId} {rows : List (List Value)} (h : RowsAt w g t S rows) {k j : Nat} {row : List Value} {u : Value} (hk : rows[k]? = some row) (hu : row[j]? = some u) : w.cell? ⟨g, k * S + j, none⟩ = some u := by
  obtain ⟨_, cur, hg, hc⟩ := h
  rw [cell_of_row w g _ cur t (0, 0) hg]
  exact hc k row hk j u hu
theorem RowsAt.frozen {w : World} {g S : Nat} {t : TypeId} {rows : List (List Value)} (h : RowsAt w g t S rows) (j : Nat) : w.frozen? ⟨g, j, none⟩ = false := by
  obtain ⟨_, cur, hg, _⟩ := h
  exact frozen_of_row w g j cur t hg
theorem RowsAt.there {w : World} {g S : Nat} {t : TypeId} {rows : List (List Value)} (h : RowsAt w g t S rows) {k : Nat} (hk : k < rows.length) : w.there g (k * S) S := fun j hj => by
  have hr : rows[k]? = some rows[k] := List.getElem?_eq_getElem hk
  have hl := h.1 _ (List.getElem_mem hk)
  have := h.cell hr (List.getElem?_eq_getElem (by omega : j < rows[k].length))
  exact ⟨by rw [this]; rfl, h.frozen _⟩
theorem RowsAt.lies {w : World} {g S : Nat} {t : TypeId} {rows : List (List Value)} (h : RowsAt w g t S rows) : Lies w w.heap.size S (some ⟨g, 0, none⟩) rows := fun _ => ⟨g, 0, rfl, h.lt, fun k row hk j u hu => by
  have := h.cell hk hu
  rw [Nat.zero_add]; exact this⟩
theorem RowsAt.of_own {α : Type} {f : α → List Value} {S : Nat} (hf : ∀ a, (f a).length = S) {w : World} {base g n c : Nat} {t : TypeId} {l : List α} (h : w.ownsRow base t S (.slice (some ⟨g, 0, none⟩) n c) l.length (l.flatMap f)) : RowsAt w g t S (l.map f) := by
  refine ⟨fun r hr => by obtain ⟨a, _, rfl⟩ := List.mem_map.1 hr; exact hf a, ?_⟩
  rcases h.2 with ⟨h', _⟩ | ⟨g', cap', cur, h', hb, hg, hnc, hcm, hcs, htake⟩
  · simp at h'
  · simp only [Value.slice.injEq, Option.some.injEq, Addr.mk.injEq, and_true] at h'
    obtain ⟨rfl, _⟩ := h'
    refine ⟨cur, hg, fun k row hk j u hu => ?_⟩
    rw [List.getElem?_map] at hk
    cases ha : l[k]? with
    | none => rw [ha] at hk; cases hk
    | some a =>
      rw [ha] at hk
      obtain rfl : f a = row := by simpa using hk
      have hj : j < S := by have := (List.getElem?_eq_some_iff.1 hu).1; rw [hf] at this; exact this
      have h1 := flat_get f S hf l k j a ha hj
      rw [hu, ← htake, List.getElem?_take] at h1
      split at h1
      · simpa using h1
      · cases h1

/-- The rows of block g are those of l, in some order; else nothing that there was has changed. -/
def Perms {α : Type} (f : α → List Value) (t : TypeId) (S : Nat) (w0 : World) (g : Nat) (l0 : List α) (w : World) : Prop :=
  w0.grownBy w (some g) ∧ ∃ l : List α, l.Perm l0 ∧ RowsAt w g t S (l.map f)

theorem grown_refl (w : World) (r : Option Nat) : w.grownBy w r := ⟨rfl, rfl, rfl, Nat.le_refl _, fun _ _ _ => rfl⟩
theorem grown_trans {a b c : World} {r : Option Nat} (h : a.grownBy b r) (k : b.grownBy c r) : a.grownBy c r := ⟨k.os.trans h.os, k.tape.trans h.tape, k.output.trans h.output, Nat.le_trans h.size k.size, fun x hx hr => (k.block x (Nat.lt_of_lt_of_le hx h.size) hr).trans (h.block x hx hr)⟩
theorem grown_below {w w' : World} (h : Below w.heap.size w w') (r : Option Nat) : w.grownBy w' r := ⟨h.os, h.tape, h.output, h.size, fun x hx _ => h.block x hx⟩
theorem grown_put (g : Nat) : ∀ (us : List Value) (o : Nat) (w : World), w.grownBy (World.setCells w g o us) (some g)
  | [], _, w => grown_refl w _
  | u :: us, o, w => grown_trans (b := w.setCell ⟨g, o, none⟩ u) ⟨rfl, rfl, rfl, by simp [World.setCell], fun x _ hx => Below.heap_setCell w ⟨g, o, none⟩ u x (fun e => hx (by rw [e]))⟩ (grown_put g us (o + 1) _)
theorem Perms.start {α : Type} {f : α → List Value} {t : TypeId} {S : Nat} {w : World} {g : Nat} {l : List α} (h : RowsAt w g t S (l.map f)) : Perms f t S w g l w := ⟨grown_refl _ _, l, .refl _, h⟩
theorem Perms.below {α : Type} {f : α → List Value} {t : TypeId} {S : Nat} {w0 w w' : World} {g : Nat} {l : List α} (h : Perms f t S w0 g l w) (hb : Below w.heap.size w w') : Perms f t S w0 g l w' := by
  obtain ⟨hg, l', hp, hr⟩ := h
  exact ⟨grown_trans hg (grown_below hb _), l', hp, hr.keep (hb.block g hr.lt)⟩
theorem Perms.trans {α : Type} {f : α → List Value} {t : TypeId} {S : Nat} {w0 w w' : World} {g : Nat} {l l' : List α} (h : w0.grownBy w (some g)) (hp : l'.Perm l) (k : Perms f t S w g l' w') : Perms f t S w0 g l w' := by
  obtain ⟨hg, l2, hp2, hr⟩ := k
  exact ⟨grown_trans h hg, l2, hp2.trans hp, hr⟩
theorem set_map {α β : Type} (f : α → β) (l : List α) (i : Nat) (a : α) : (l.map f).set i (f a) = (l.set i a).map f := by rw [List.map_set]
/-- Two rows are exchanged. -/
theorem Perms.swap {α : Type} {f : α → List Value} {t : TypeId} {S : Nat} (hf : ∀ a, (f a).length = S) {w0 w : World} {g : Nat} {l0 l : List α} (hg : w0.grownBy w (some g)) (hp : l.Perm l0) (hr : RowsAt w g t S (l.map f)) {i j : Nat} {a b : α} (hi : l[i]? = some a) (hj : l[j]? = some b) :
    Perms f t S w0 g l0 ((w.setCells g (i * S) (f b)).setCells g (j * S) (f a)) := by
  obtain ⟨hil, rfl⟩ := List.getElem?_eq_some_iff.1 hi
  obtain ⟨hjl, rfl⟩ := List.getElem?_eq_some_iff.1 hj
  refine ⟨grown_trans hg (grown_trans (grown_put g _ _ _) (grown_put g _ _ _)), (l.set i l[j]).set j l[i], (List.set_set_perm hil hjl).trans hp, ?_⟩
  have h1 := hr.put (i := i) (row := f l[j]) (by simpa using hil) (hf _)
  rw [set_map] at h1
  have h2 := h1.put (i := j) (row := f l[i]) (by simpa using hjl) (hf _)
  rw [set_map] at h2
  exact h2
end Go.Proofs.Ytkdigdnacggknaa
/- Walk: Serve of package monitor. -/
namespace Go.Proofs.Ytkdigdnacggknaa
open Go.RowKit
open Nd Rc Mo

theorem filter_one {α : Type} (p : α → Bool) (a : α) : (List.filter p [a]).length = if p a = true then 1 else 0 := by
  by_cases h : p a = true <;> simp [List.filter, h]
theorem cntAtt_succ {al : List Att} {k : Nat} {a : Att} (h : al[k]? = some a) (id : Int) : cntAtt (al.take (k + 1)) id = cntAtt (al.take k) id + (if (a.cl == id && !(a.o == 4)) = true then 1 else 0) := by
  unfold cntAtt
  rw [take_snoc h, List.filter_append, List.length_append, filter_one]
  split <;> simp
theorem cntLost_succ {al : List Att} {k : Nat} {a : Att} (h : al[k]? = some a) (id : Int) : cntLost (al.take (k + 1)) id = cntLost (al.take k) id + (if (a.cl == id && !(a.o == 4) && !(a.o == 1)) = true then 1 else 0) := by
  unfold cntLost
  rw [take_snoc h, List.filter_append, List.length_append, filter_one]
  split <;> simp
theorem cnt_bounds (al : List Att) (id : Int) (k : Nat) : 0 ≤ cntAtt (al.take k) id ∧ cntAtt (al.take k) id ≤ k ∧ 0 ≤ cntLost (al.take k) id ∧ cntLost (al.take k) id ≤ k := by
  unfold cntAtt cntLost
  have h0 := List.length_take_le k al
  have h1 := List.length_filter_le (fun a : Att => a.cl == id && !(a.o == 4)) (al.take k)
  have h2 := List.length_filter_le (fun a : Att => a.cl == id && !(a.o == 4) && !(a.o == 1)) (al.take k)
  omega
theorem arr_bounds (f : Fl) (n : Int) (l : List Int) (h : (arrival f n l).2 = true) : rel f n ≤ (arrival f n l).1 ∧ (arrival f n l).1 ≤ rel f n + f.dl - 1 := by
  unfold arrival at h ⊢
  revert h
  generalize (-1 : Int) = late
  induction l generalizing late with
  | nil => intro hq; cases hq
  | cons s l ih2 =>
    unfold arrGo
    split
    · rename_i hh; intro _; exact hh
    · split
      · exact ih2 _
      · exact ih2 _

/-- A change of a block that is neither the map nor a row of numbers. -/
theorem OwnsGr.grown {w w' : World} {base b n : Nat} {G : Int → Int → List Int} (h : OwnsGr w base b n G) {X : Nat} {t : TypeId} {cs : List Value} (hg : w.grownBy w' (some X)) (bX : Blk w X t cs) (ht : t ≠ 3) : OwnsGr w' base b n G := by
  obtain ⟨D, h1, h2⟩ := h
  obtain ⟨es, clock, hb, F, hs, hD, hbb, hlen, hap⟩ := h1
  refine ⟨D, World.ownsGroups.kept ⟨es, clock, hb, F, hs, hD, hbb, hlen, hap⟩ hg (fun e => ?_) (fun es' clock' hb' x hx => ?_), h2⟩
  · injection e with e
    subst e
    unfold Blk at bX
    rw [hb] at bX
    cases bX
  · cases hv : x.val.ownBlock with
    | none => exact .inl rfl
    | some g =>
      refine .inr (fun e => ?_)
      injection e with e
      subst e
      rw [hb] at hb'
      obtain ⟨rfl, rfl⟩ : es = es' ∧ clock = clock' := by simpa using hb'
      obtain ⟨y, hy⟩ := F.reads x hx
      obtain ⟨z, hz, _⟩ := Go.WideElems.rd_val hy
      obtain ⟨zs, hoi, _⟩ := rowElem_inv hz
      exact ht (own_type2 hoi.1 hv.symm bX)
theorem OwnsGr.cells {w : World} {base b n : Nat} {G : Int → Int → List Int} (h : OwnsGr w base b n G) {X : Nat} {t : TypeId} {cs : List Value} (bX : Blk w X t cs) (ht : t ≠ 3) (us : List Value) (o : Nat) : OwnsGr (w.setCells X o us) base b n G :=
  h.grown (grown_put X us o w) bX ht
/-- What has been counted behind n frames, and the numbers' bounds. -/
theorem sv_bounds {f : Fl} (hf : fault f = 0) (dl : List Dlv) (k : Nat) : 0 ≤ (svGo f dl k).1 ∧ (svGo f dl k).1 ≤ k ∧ 0 ≤ (svGo f dl k).2.1 ∧ (svGo f dl k).2.1 ≤ 512 ∧ 0 ≤ (svGo f dl k).2.2 ∧ (svGo f dl k).2.2 ≤ 512 := by
  obtain ⟨ln, h1, _, h3, h4, h5⟩ := svGo_inv hf dl k
  obtain ⟨_, _, _, hp, hq, hdl, _⟩ := fault_zero hf
  by_cases hk : ln < k
  · obtain ⟨a1, a2, a3⟩ := h4 hk
    omega
  · obtain ⟨a1, a2⟩ := h5 (by omega)
    omega
theorem svGo_succ (f : Fl) (dl : List Dlv) (k : Nat) : svGo f dl (k + 1) = svStep f dl (svGo f dl k) k := by
  unfold svGo
  rw [List.range_succ, List.foldl_append]
  rfl
end Go.Proofs.Ytkdigdnacggknaa
/- Walk: Serve of package monitor. -/
namespace Go.Proofs.Ytkdigdnacggknaa
open Go.RowKit
open Nd Rc Mo

/-- A service as Go's memory holds it. -/
def Mo.Sv.cells (s : Sv) : List Value := [.int .i64 s.fr, .int .i64 s.late, .int .i64 s.least, .int .i64 s.most, .int .i64 s.att, .int .i64 s.lost]
set_option maxRecDepth 100000 in
set_option maxHeartbeats 4000000 in
theorem serve_any (fs : List Fl) (r : Rec) (x : Int) (F A D : Option Addr) (cf ca cd : Nat) (w : World) (hF : Lies w w.heap.size 6 F (fs.map Fl.row)) (hf : fs.length ≤ 1000000) (hA : LiesA w w.heap.size A r.al) (hD : LiesD w w.heap.size D r.dl) (hla : r.al.length ≤ 1000000) (hld : r.dl.length ≤ 1000000) :
    Calls Try.prog 23 #[.slice F fs.length cf, .agg #[.int .i64 r.slots, .slice A r.al.length ca, .slice D r.dl.length cd], .int .i64 x] w fun e w' => Below w.heap.size w w' ∧ e = .returned (.tuple #[.agg (Mo.serve fs r x).1.cells.toArray, .int .i64 (Mo.serve fs r x).2]) := by
  obtain ⟨N, hN⟩ : ∃ N, N = w.heap.size := ⟨_, rfl⟩
  obtain ⟨na, hna⟩ : ∃ n, n = r.al.length := ⟨_, rfl⟩
  obtain ⟨nd, hnd⟩ : ∃ n, n = r.dl.length := ⟨_, rfl⟩
  obtain ⟨m, hm⟩ : ∃ m, m = fs.length := ⟨_, rfl⟩
  obtain ⟨slots, hsl⟩ : ∃ s, s = r.slots := ⟨_, rfl⟩
  obtain ⟨W1, hW1⟩ : ∃ W1, W1 = (w.alloc (.cells #[.int .i64 slots, .slice A na ca, .slice D nd cd] 28)).alloc (.cells #[.int .i64 0, .int .i64 0, .int .i64 0, .int .i64 0, .int .i64 0, .int .i64 0] 57) := ⟨_, rfl⟩
  have hb1 : Below N w W1 := by rw [hW1, hN]; exact ((Below.refl _ _).alloc (Nat.le_refl _) _).alloc (by simp) _
  have bR : Blk W1 N 28 [.int .i64 slots, .slice A na ca, .slice D nd cd] := by rw [hW1]; exact Blk.alloc (Blk.new2 _ [.int .i64 slots, .slice A na ca, .slice D nd cd] hN) _
  have bO : Blk W1 (N + 1) 57 [.int .i64 0, .int .i64 0, .int .i64 0, .int .i64 0, .int .i64 0, .int .i64 0] := by rw [hW1]; exact Blk.new2 _ [.int .i64 0, .int .i64 0, .int .i64 0, .int .i64 0, .int .i64 0, .int .i64 0] (by simp [hN])
  have HW := Lib.hid (fun W (h' : Below W1.heap.size W1 W) => (show Below w.heap.size w W ∧ Row W N [.int .i64 slots, .slice A na ca, .slice D nd cd] ∧ Blk W (N + 1) 57 [.int .i64 0, .int .i64 0, .int .i64 0, .int .i64 0, .int .i64 0, .int .i64 0] from ⟨by rw [← hN]; exact hb1.trans (h'.mono (by have := bR.lt; omega)), (bR.below h' bR.lt).row, bO.below h' bO.lt⟩))
  have HF := Lib.hid (fun W (h' : Below W1.heap.size W1 W) => Lies.later hF (HW.out W h').1)
  have HA := Lib.hid (fun W (h' : Below W1.heap.size W1 W) => (show LiesA W W.heap.size A r.al from (hA.below (HW.out W h').1).more (HW.out W h').1.size))
  have HD := Lib.hid (fun W (h' : Below W1.heap.size W1 W) => (show LiesD W W.heap.size D r.dl from (hD.below (HW.out W h').1).more (HW.out W h').1.size))
  have HRt := Lib.hid (right_any fs r F A D cf ca cd W1 (HF.out _ (Below.refl _ _)) hf (HA.out _ (Below.refl _ _)) (HD.out _ (Below.refl _ _)) hla hld)
  have HFind := Lib.hid (fun W (h' : Below W1.heap.size W1 W) => find_any fs x F cf W (HF.out W h') hf)
  have HAr := Lib.hid (fun (hg : good r = true) W (h' : Below W1.heap.size W1 W) => arrivals_any r A D ca cd W (HD.out W h') hld (fun d hd => by
    obtain ⟨a1, a2, a3, a4, a5, a6⟩ := good_dlv hg hd
    have := (good_slots hg).2
    exact ⟨num_small (by omega), num_small (by omega), num_small (by omega)⟩))
  rw [← hna, ← hnd, ← hsl] at HRt HAr ⊢
  rw [← hm] at HRt HFind ⊢
  rw [← hnd] at hld
  rw [← hna] at hla
  have HM := Lib.hid hm
  have HSl := Lib.hid hsl
  have HNd := Lib.hid hnd
  have HNa := Lib.hid hna
  have HW1 := Lib.hid hW1
  have HN := Lib.hid hN
  have hNlt : N + 1 < W1.heap.size := bO.lt
  obtain ⟨G, hG⟩ : ∃ G, G = Mo.serve fs r x := ⟨_, rfl⟩
  rw [← hG]
  have HG := Lib.hid hG
  clear hF hA hD hna hnd hm hsl hb1 bR hN hf bO hG
  have r1 : Row ((w.alloc (.cells #[.int .i64 slots, .slice A na ca, .slice D nd cd] 28)).alloc (.cells #[.int .i64 0, .int .i64 0, .int .i64 0, .int .i64 0, .int .i64 0, .int .i64 0] 57)) N [.int .i64 slots, .slice A na ca, .slice D nd cd] := by rw [← hW1]; exact (HW.out _ (Below.refl _ _)).2.1
  have hNw : Hid (N = w.heap.size) := HN
  rw [HN.out] at r1
  unfold Row at r1
  clear hW1
  go_enter Try.func23, Try.ntmps23
  clear r1
  go_wp2_with fail
  rw [← HW1.out, ← HN.out]
  refine HRt.out.mono ?_
  rintro e w2 ⟨rfl, hb2⟩
  clear HRt
  cases hr : right fs r with
  | false =>
    have hl : Hid (G = (Sv.zero, 1)) := Lib.hid (by rw [HG.out]; unfold Mo.serve; rw [hr]; rfl)
    clear hr HAr HFind
    have b5 := (HW.out _ hb2).2.2
    have cb5 := b5.row
    have fb5 := b5.frozen
    unfold Row at cb5
    have b6 := ((((((b5.set_ 0 (.int .i64 0)).set_ 1 (.int .i64 0)).set_ 2 (.int .i64 0)).set_ 3 (.int .i64 0)).set_ 4 (.int .i64 0)).set_ 5 (.int .i64 0))
    simp only [List.set_cons_zero, List.set_cons_succ] at b6
    have C6 := Lib.hid b6.row
    have HB6 : Hid (Below w.heap.size w ((((((w2.setCell ⟨N + 1, 0, none⟩ (.int .i64 0)).setCell ⟨N + 1, 1, none⟩ (.int .i64 0)).setCell ⟨N + 1, 2, none⟩ (.int .i64 0)).setCell ⟨N + 1, 3, none⟩ (.int .i64 0)).setCell ⟨N + 1, 4, none⟩ (.int .i64 0)).setCell ⟨N + 1, 5, none⟩ (.int .i64 0))) := Lib.hid (((((((HW.out _ hb2).1.setCell (p := ⟨N + 1, 0, none⟩) (by dsimp only; have := HN.out; omega) (.int .i64 0)).setCell (p := ⟨N + 1, 1, none⟩) (by dsimp only; have := HN.out; omega) (.int .i64 0)).setCell (p := ⟨N + 1, 2, none⟩) (by dsimp only; have := HN.out; omega) (.int .i64 0)).setCell (p := ⟨N + 1, 3, none⟩) (by dsimp only; have := HN.out; omega) (.int .i64 0)).setCell (p := ⟨N + 1, 4, none⟩) (by dsimp only; have := HN.out; omega) (.int .i64 0)).setCell (p := ⟨N + 1, 5, none⟩) (by dsimp only; have := HN.out; omega) (.int .i64 0))
    clear b6
    go_wp2_with fail
    have c6 := C6.out
    unfold Row at c6
    refine bodyPost_ret (v := .tuple #[.agg #[.int .i64 0, .int .i64 0, .int .i64 0, .int .i64 0, .int .i64 0, .int .i64 0], .int .i64 1]) (by simp [results, Try.results23, go_sem, c6]) rfl ?_
    exact ⟨HB6.out, by rw [hl.out]; rfl⟩
  | true =>
    obtain ⟨hc, hg⟩ := right_inv hr
    obtain ⟨hfa, _, hm16⟩ := chkF_ok hc
    obtain ⟨hs0, hs1⟩ := good_slots hg
    have HFa := Lib.hid hfa
    have HAr := Lib.hid (HAr.out hg)
    have HR := Lib.hid hr
    rw [← HSl.out] at hs0 hs1
    clear hc hg hfa hr hm16
    go_wp2_with fail
    refine (HFind.out _ hb2).mono ?_
    rintro e w3 ⟨rfl, hb3'⟩
    have hb3 : Below W1.heap.size W1 w3 := hb2.trans (hb3'.mono hb2.size)
    clear HFind hb3'
    rcases findF_cases fs x with ⟨hT, hfn⟩ | ⟨i, f, hfi, hT, hfs⟩
    · have hl : Hid (G = (Sv.zero, 7)) := Lib.hid (by rw [HG.out]; unfold Mo.serve; rw [if_pos HR.out, hfn])
      rw [hT]
      clear hT hfn HAr
      have b5 := (HW.out _ hb3).2.2
      have cb5 := b5.row
      have fb5 := b5.frozen
      unfold Row at cb5
      have b6 := ((((((b5.set_ 0 (.int .i64 0)).set_ 1 (.int .i64 0)).set_ 2 (.int .i64 0)).set_ 3 (.int .i64 0)).set_ 4 (.int .i64 0)).set_ 5 (.int .i64 0))
      simp only [List.set_cons_zero, List.set_cons_succ] at b6
      have C6 := Lib.hid b6.row
      have HB6 : Hid (Below w.heap.size w ((((((w3.setCell ⟨N + 1, 0, none⟩ (.int .i64 0)).setCell ⟨N + 1, 1, none⟩ (.int .i64 0)).setCell ⟨N + 1, 2, none⟩ (.int .i64 0)).setCell ⟨N + 1, 3, none⟩ (.int .i64 0)).setCell ⟨N + 1, 4, none⟩ (.int .i64 0)).setCell ⟨N + 1, 5, none⟩ (.int .i64 0))) := Lib.hid (((((((HW.out _ hb3).1.setCell (p := ⟨N + 1, 0, none⟩) (by dsimp only; have := HN.out; omega) (.int .i64 0)).setCell (p := ⟨N + 1, 1, none⟩) (by dsimp only; have := HN.out; omega) (.int .i64 0)).setCell (p := ⟨N + 1, 2, none⟩) (by dsimp only; have := HN.out; omega) (.int .i64 0)).setCell (p := ⟨N + 1, 3, none⟩) (by dsimp only; have := HN.out; omega) (.int .i64 0)).setCell (p := ⟨N + 1, 4, none⟩) (by dsimp only; have := HN.out; omega) (.int .i64 0)).setCell (p := ⟨N + 1, 5, none⟩) (by dsimp only; have := HN.out; omega) (.int .i64 0))
      clear b6
      go_wp2_with fail
      have c6 := C6.out
      unfold Row at c6
      refine bodyPost_ret (v := .tuple #[.agg #[.int .i64 0, .int .i64 0, .int .i64 0, .int .i64 0, .int .i64 0, .int .i64 0], .int .i64 7]) (by simp [results, Try.results23, go_sem, c6]) rfl ?_
      exact ⟨HB6.out, by rw [hl.out]; rfl⟩
    · obtain ⟨fb, foff, hFe, hfB, hcs⟩ := (HF.out _ hb3).at_ hfi
      have him : i < m := by rw [HM.out]; exact (List.getElem?_eq_some_iff.1 hfi).1
      have hi0 : decide ((i : Int) < 0) = false := decide_eq_false (by omega)
      have hi1 : ¬ (i : Int) < 0 := by omega
      have hff := HFa.out f (List.mem_of_getElem? hfi)
      have hfx : f.id = x := by have := List.find?_some hfs; simpa using this
      have HFx := Lib.hid hfx
      clear hfx
      have hl : Hid (G = (serveF f r, 0)) := Lib.hid (by rw [HG.out]; unfold Mo.serve; rw [if_pos HR.out, hfs])
      have q0 := hcs i f hfi 0 _ rfl
      have q1 := hcs i f hfi 1 _ rfl
      have q2 := hcs i f hfi 2 _ rfl
      have q3 := hcs i f hfi 3 _ rfl
      have q4 := hcs i f hfi 4 _ rfl
      have q5 := hcs i f hfi 5 _ rfl
      simp only [Nat.add_zero] at q0 q1 q2 q3 q4 q5
      rw [hT]
      obtain ⟨wd, hwd⟩ : ∃ wd, wd = w3.drew := ⟨_, rfl⟩
      have hbd : Below w3.heap.size w3 wd := by rw [hwd]; exact (Below.refl _ _).drew
      have hB_wd : Below W1.heap.size W1 wd := hb3.trans (hbd.mono hb3.size)
      have hX_wd : Below w3.heap.size w3 wd := hbd
      have hNl3 : N < w3.heap.size := by have := hb3.size; omega
      have rN := (HW.out _ hb3).2.1
      subst hFe
      clear hcs hfi hT hfs HR HG
      go_upto_region 6 with fail
      go_cut [9, 10] (fun s9 s10 W => ∃ (X b : Nat), s9 = .pointer (some ⟨X, 0, none⟩) ∧ s10 = .map (some b) ∧ Below W1.heap.size W1 W ∧ W1.heap.size ≤ X ∧ Hid (Blk W X 37 [.int .i64 f.id, .int .i64 f.fr, .int .i64 f.tn, .int .i64 f.pe, .int .i64 f.ph, .int .i64 f.dl]) ∧ Hid (OwnsGr W (b + 1) b nd (slotsOf r.dl)))
      case first =>
        refine wp_region_rough (w3.heap.size) 9 [] #[false, false, false, false, false, false, false, false, false] (by kernel_rfl) rfl rfl ?_
        rw [← hwd]
        clear hwd
        have y0 : ∀ (x' : ExtW w3.heap.size wd), x'.val.cell? ⟨fb, foff + i * 6, none⟩ = some (.int .i64 f.id) := fun x' => (x'.cell _ hfB).trans ((hbd.cell (p := ⟨fb, foff + i * 6, none⟩) hfB).trans q0)
        have y1 : ∀ (x' : ExtW w3.heap.size wd), x'.val.cell? ⟨fb, foff + i * 6 + 1, none⟩ = some (.int .i64 f.fr) := fun x' => (x'.cell _ hfB).trans ((hbd.cell (p := ⟨fb, foff + i * 6 + 1, none⟩) hfB).trans q1)
        have y2 : ∀ (x' : ExtW w3.heap.size wd), x'.val.cell? ⟨fb, foff + i * 6 + 2, none⟩ = some (.int .i64 f.tn) := fun x' => (x'.cell _ hfB).trans ((hbd.cell (p := ⟨fb, foff + i * 6 + 2, none⟩) hfB).trans q2)
        have y3 : ∀ (x' : ExtW w3.heap.size wd), x'.val.cell? ⟨fb, foff + i * 6 + 3, none⟩ = some (.int .i64 f.pe) := fun x' => (x'.cell _ hfB).trans ((hbd.cell (p := ⟨fb, foff + i * 6 + 3, none⟩) hfB).trans q3)
        have y4 : ∀ (x' : ExtW w3.heap.size wd), x'.val.cell? ⟨fb, foff + i * 6 + 4, none⟩ = some (.int .i64 f.ph) := fun x' => (x'.cell _ hfB).trans ((hbd.cell (p := ⟨fb, foff + i * 6 + 4, none⟩) hfB).trans q4)
        have y5 : ∀ (x' : ExtW w3.heap.size wd), x'.val.cell? ⟨fb, foff + i * 6 + 5, none⟩ = some (.int .i64 f.dl) := fun x' => (x'.cell _ hfB).trans ((hbd.cell (p := ⟨fb, foff + i * 6 + 5, none⟩) hfB).trans q5)
        have yN : ∀ (x' : ExtW w3.heap.size wd) (j : Nat), x'.val.cell? ⟨N, j, none⟩ = _ := fun x' j => (x'.cell _ hNl3).trans ((hbd.cell (p := ⟨N, j, none⟩) hNl3).trans (rN j))
        clear q0 q1 q2 q3 q4 q5 rN
        refine anyR_take0 0 _ (nth0) rfl (by kernel_rfl) (by kernel_rfl) (by kernel_rfl) (l' := #[true, false, false, false, false, false, false, false, false]) rfl rfl ?_; intro K hK; go_big_quiet_op; go_big_quiet_on
        refine anyR_take0 1 _ (nthS (nth0)) rfl (by kernel_rfl) (by kernel_rfl) (by kernel_rfl) (l' := #[true, true, false, false, false, false, false, false, false]) rfl rfl ?_; intro K hK; go_big_quiet_op; go_big_quiet_on
        refine anyR_take0 2 _ (nthS (nthS (nth0))) rfl (by kernel_rfl) (by kernel_rfl) (by kernel_rfl) (l' := #[true, true, true, false, false, false, false, false, false]) rfl rfl ?_; intro K hK; go_big_quiet_op; go_big_quiet_on
        refine anyR_take 3 _ (nthS (nthS (nthS (nth0)))) rfl (by kernel_rfl) (by kernel_rfl) (by kernel_rfl) (by kernel_rfl) (l' := #[true, true, true, true, false, false, false, false, false]) rfl rfl ?_; intro K hK; go_big_quiet_op; go_big_quiet_on
        refine anyR_take 4 _ (nthS (nthS (nthS (nthS (nth0))))) rfl (by kernel_rfl) (by kernel_rfl) (by kernel_rfl) (by kernel_rfl) (l' := #[true, true, true, true, true, false, false, false, false]) rfl rfl ?_; intro K hK; go_big_quiet_op; go_big_quiet_on
        refine anyR_two 5 6 _ _ (nthS (nthS (nthS (nthS (nthS (nth0)))))) (nthS (nthS (nthS (nthS (nthS (nthS (nth0))))))) (by kernel_rfl) (l1 := #[true, true, true, true, true, true, false, false, false]) (l2 := #[true, true, true, true, true, false, true, false, false]) rfl rfl ?_ ?_
        · clear y0 y1 y2 y3 y4 y5 yN
          go_wp2_with fail
          refine (HAr.out _ hB_wd).mono ?_
          rintro e V1 ⟨hsV1, b, rfl, hbb, hO⟩
          have HGr := Lib.hid hO
          clear hO
          go_wp2_with fail
          have hB_V1 : Below W1.heap.size W1 V1 := hB_wd.trans (hsV1.mono hB_wd.size)
          have hX_V1 : Below w3.heap.size w3 V1 := hX_wd.trans (hsV1.mono hX_wd.size)
          refine OneR_mk (hsV1.mono hX_wd.size) ?_
          refine anyR_one 6 _ (nthS (nthS (nthS (nthS (nthS (nthS (nth0))))))) (by kernel_rfl) (l' := #[true, true, true, true, true, true, true, false, false]) rfl ?_
          go_wp2_with fail
          generalize hWa : World.alloc _ _ = Wa
          obtain ⟨X, hX⟩ : ∃ X, X = V1.heap.size := ⟨_, rfl⟩
          have hsWa : Below V1.heap.size V1 Wa := by rw [← hWa]; exact (Below.refl _ _).alloc (Nat.le_refl _) _
          have bXa : Blk Wa X 37 [.int .i64 0, .int .i64 0, .int .i64 0, .int .i64 0, .int .i64 0, .int .i64 0] := by rw [← hWa]; exact Blk.new2 37 [.int .i64 0, .int .i64 0, .int .i64 0, .int .i64 0, .int .i64 0, .int .i64 0] hX
          have hXM : W1.heap.size ≤ X := by rw [hX]; exact hB_V1.size
          have hX3 : w3.heap.size ≤ X := by rw [hX]; exact hX_V1.size
          rw [← hX]
          clear hWa hX
          have hB_Wa : Below W1.heap.size W1 Wa := hB_V1.trans (hsWa.mono hB_V1.size)
          have hX_Wa : Below w3.heap.size w3 Wa := hX_V1.trans (hsWa.mono hX_V1.size)
          have bXV : Blk Wa X 37 [.int .i64 0, .int .i64 0, .int .i64 0, .int .i64 0, .int .i64 0, .int .i64 0] := bXa
          have HGr2 : Hid (OwnsGr Wa (b + 1) b nd (slotsOf r.dl)) := Lib.hid (HGr.out.below hsWa)
          clear HGr
          have HGr := HGr2
          clear HGr2
          refine OneR_mk (hsWa.mono hX_V1.size) ?_
          refine anyR_one 7 _ (nthS (nthS (nthS (nthS (nthS (nthS (nthS (nth0)))))))) (by kernel_rfl) (l' := #[true, true, true, true, true, true, true, true, false]) rfl ?_
          have cb5 := bXV.row
          have fb5 := bXV.frozen
          unfold Row at cb5
          have b6 := ((((((bXV.set_ 0 (.int .i64 f.id)).set_ 1 (.int .i64 f.fr)).set_ 2 (.int .i64 f.tn)).set_ 3 (.int .i64 f.pe)).set_ 4 (.int .i64 f.ph)).set_ 5 (.int .i64 f.dl))
          simp only [List.set_cons_zero, List.set_cons_succ] at b6
          have HG6 := Lib.hid (OwnsGr.cells HGr.out bXV (by decide) [.int .i64 f.id, .int .i64 f.fr, .int .i64 f.tn, .int .i64 f.pe, .int .i64 f.ph, .int .i64 f.dl] 0)
          have B6 := Lib.hid b6
          clear b6
          go_wp2_with fail
          generalize hW6 : World.setCell _ _ _ = W6'
          have hbe : Below w3.heap.size Wa W6' := by rw [← hW6]; exact (((((((Below.refl _ Wa).setCell (p := ⟨X, 0, none⟩) hX3 (.int .i64 f.id)).setCell (p := ⟨X, 1, none⟩) hX3 (.int .i64 f.fr)).setCell (p := ⟨X, 2, none⟩) hX3 (.int .i64 f.tn)).setCell (p := ⟨X, 3, none⟩) hX3 (.int .i64 f.pe)).setCell (p := ⟨X, 4, none⟩) hX3 (.int .i64 f.ph)).setCell (p := ⟨X, 5, none⟩) hX3 (.int .i64 f.dl))
          have HB6 : Hid (Below W1.heap.size W1 W6') := Lib.hid (by rw [← hW6]; exact ((((((hB_Wa.setCell (p := ⟨X, 0, none⟩) hXM (.int .i64 f.id)).setCell (p := ⟨X, 1, none⟩) hXM (.int .i64 f.fr)).setCell (p := ⟨X, 2, none⟩) hXM (.int .i64 f.tn)).setCell (p := ⟨X, 3, none⟩) hXM (.int .i64 f.pe)).setCell (p := ⟨X, 4, none⟩) hXM (.int .i64 f.ph)).setCell (p := ⟨X, 5, none⟩) hXM (.int .i64 f.dl)))
          have B7 : Hid (Blk W6' X 37 [.int .i64 f.id, .int .i64 f.fr, .int .i64 f.tn, .int .i64 f.pe, .int .i64 f.ph, .int .i64 f.dl]) := Lib.hid (by rw [← hW6]; exact B6.out)
          have HG7 : Hid (OwnsGr W6' (b + 1) b nd (slotsOf r.dl)) := Lib.hid (by rw [← hW6]; exact HG6.out)
          clear hW6 B6 HG6 cb5 fb5
          refine OneR_mk (hbe) ?_
          refine anyR_take0 8 _ (nthS (nthS (nthS (nthS (nthS (nthS (nthS (nthS (nth0))))))))) rfl (by kernel_rfl) (by kernel_rfl) (by kernel_rfl) (l' := #[true, true, true, true, true, true, true, true, true]) rfl rfl ?_; intro K hK; go_big_quiet_op; go_big_quiet_on
          refine anyR_end (by kernel_rfl) ?_
          go_wp2_with fail
          go_meet
          exact ⟨X, b, rfl, rfl, HB6.out, hXM, B7, HG7⟩
        · clear y0 y1 y2 y3 y4 y5 yN
          go_wp2_with fail
          generalize hWa : World.alloc _ _ = Wa
          obtain ⟨X, hX⟩ : ∃ X, X = wd.heap.size := ⟨_, rfl⟩
          have hsWa : Below wd.heap.size wd Wa := by rw [← hWa]; exact (Below.refl _ _).alloc (Nat.le_refl _) _
          have bXa : Blk Wa X 37 [.int .i64 0, .int .i64 0, .int .i64 0, .int .i64 0, .int .i64 0, .int .i64 0] := by rw [← hWa]; exact Blk.new2 37 [.int .i64 0, .int .i64 0, .int .i64 0, .int .i64 0, .int .i64 0, .int .i64 0] hX
          have hXM : W1.heap.size ≤ X := by rw [hX]; exact hB_wd.size
          have hX3 : w3.heap.size ≤ X := by rw [hX]; exact hX_wd.size
          rw [← hX]
          clear hWa hX
          have hB_Wa : Below W1.heap.size W1 Wa := hB_wd.trans (hsWa.mono hB_wd.size)
          have hX_Wa : Below w3.heap.size w3 Wa := hX_wd.trans (hsWa.mono hX_wd.size)
          refine OneR_mk (hsWa.mono hX_wd.size) ?_
          refine anyR_one 5 _ (nthS (nthS (nthS (nthS (nthS (nth0)))))) (by kernel_rfl) (l' := #[true, true, true, true, true, true, true, false, false]) rfl ?_
          go_wp2_with fail
          refine (HAr.out _ hB_Wa).mono ?_
          rintro e V1 ⟨hsV1, b, rfl, hbb, hO⟩
          have HGr := Lib.hid hO
          clear hO
          go_wp2_with fail
          have hB_V1 : Below W1.heap.size W1 V1 := hB_Wa.trans (hsV1.mono hB_Wa.size)
          have hX_V1 : Below w3.heap.size w3 V1 := hX_Wa.trans (hsV1.mono hX_Wa.size)
          have bXV : Blk V1 X 37 [.int .i64 0, .int .i64 0, .int .i64 0, .int .i64 0, .int .i64 0, .int .i64 0] := bXa.below hsV1 bXa.lt
          refine OneR_mk (hsV1.mono hX_Wa.size) ?_
          refine anyR_one 7 _ (nthS (nthS (nthS (nthS (nthS (nthS (nthS (nth0)))))))) (by kernel_rfl) (l' := #[true, true, true, true, true, true, true, true, false]) rfl ?_
          have cb5 := bXV.row
          have fb5 := bXV.frozen
          unfold Row at cb5
          have b6 := ((((((bXV.set_ 0 (.int .i64 f.id)).set_ 1 (.int .i64 f.fr)).set_ 2 (.int .i64 f.tn)).set_ 3 (.int .i64 f.pe)).set_ 4 (.int .i64 f.ph)).set_ 5 (.int .i64 f.dl))
          simp only [List.set_cons_zero, List.set_cons_succ] at b6
          have HG6 := Lib.hid (OwnsGr.cells HGr.out bXV (by decide) [.int .i64 f.id, .int .i64 f.fr, .int .i64 f.tn, .int .i64 f.pe, .int .i64 f.ph, .int .i64 f.dl] 0)
          have B6 := Lib.hid b6
          clear b6
          go_wp2_with fail
          generalize hW6 : World.setCell _ _ _ = W6'
          have hbe : Below w3.heap.size V1 W6' := by rw [← hW6]; exact (((((((Below.refl _ V1).setCell (p := ⟨X, 0, none⟩) hX3 (.int .i64 f.id)).setCell (p := ⟨X, 1, none⟩) hX3 (.int .i64 f.fr)).setCell (p := ⟨X, 2, none⟩) hX3 (.int .i64 f.tn)).setCell (p := ⟨X, 3, none⟩) hX3 (.int .i64 f.pe)).setCell (p := ⟨X, 4, none⟩) hX3 (.int .i64 f.ph)).setCell (p := ⟨X, 5, none⟩) hX3 (.int .i64 f.dl))
          have HB6 : Hid (Below W1.heap.size W1 W6') := Lib.hid (by rw [← hW6]; exact ((((((hB_V1.setCell (p := ⟨X, 0, none⟩) hXM (.int .i64 f.id)).setCell (p := ⟨X, 1, none⟩) hXM (.int .i64 f.fr)).setCell (p := ⟨X, 2, none⟩) hXM (.int .i64 f.tn)).setCell (p := ⟨X, 3, none⟩) hXM (.int .i64 f.pe)).setCell (p := ⟨X, 4, none⟩) hXM (.int .i64 f.ph)).setCell (p := ⟨X, 5, none⟩) hXM (.int .i64 f.dl)))
          have B7 : Hid (Blk W6' X 37 [.int .i64 f.id, .int .i64 f.fr, .int .i64 f.tn, .int .i64 f.pe, .int .i64 f.ph, .int .i64 f.dl]) := Lib.hid (by rw [← hW6]; exact B6.out)
          have HG7 : Hid (OwnsGr W6' (b + 1) b nd (slotsOf r.dl)) := Lib.hid (by rw [← hW6]; exact HG6.out)
          clear hW6 B6 HG6 cb5 fb5
          refine OneR_mk (hbe) ?_
          refine anyR_take0 8 _ (nthS (nthS (nthS (nthS (nthS (nthS (nthS (nthS (nth0))))))))) rfl (by kernel_rfl) (by kernel_rfl) (by kernel_rfl) (l' := #[true, true, true, true, true, true, true, true, true]) rfl rfl ?_; intro K hK; go_big_quiet_op; go_big_quiet_on
          refine anyR_end (by kernel_rfl) ?_
          go_wp2_with fail
          go_meet
          exact ⟨X, b, rfl, rfl, HB6.out, hXM, B7, HG7⟩
      case rest =>
        obtain ⟨X, b, rfl, rfl, hBc, hXM, HXc, HGc⟩ := hcut
        have hcb := complete_bounds hff hs1
        obtain ⟨cn, hcn⟩ : ∃ cn : Nat, complete f slots = (cn : Int) := ⟨(complete f slots).toNat, by omega⟩
        have HCN : Hid (complete f r.slots = (cn : Int)) := Lib.hid (by rw [← HSl.out, hcn])
        have hcn4 : cn ≤ 4096 := by omega
        have Con := Lib.hid (complete_any f slots (.slice A na ca) (.slice D nd cd) hff hs0 hs1 rfl rfl wc)
        rw [hcn] at Con
        have rX := HXc.out.row
        have rN := (HW.out _ hBc).2.1
        unfold Row at rX rN
        clear hcb hcn
        go_wp2_with fail
        refine Con.out.mono ?_
        rintro e w4 ⟨rfl, hb4⟩
        have hB4 : Below W1.heap.size W1 w4 := hBc.trans (hb4.mono hBc.size)
        have HX4 : Hid (Blk w4 X 37 [.int .i64 f.id, .int .i64 f.fr, .int .i64 f.tn, .int .i64 f.pe, .int .i64 f.ph, .int .i64 f.dl]) := Lib.hid (HXc.out.below hb4 HXc.out.lt)
        have HG4 : Hid (OwnsGr w4 (b + 1) b nd (slotsOf r.dl)) := Lib.hid (HGc.out.below hb4)
        clear Con rX rN HXc HGc hBc hb4
        go_upto_region 8 with fail
        obtain ⟨Y, hY⟩ : ∃ Y, Y = w4.heap.size := ⟨_, rfl⟩
        generalize hWs : World.alloc _ _ = Ws
        have HY0 : Hid (Blk Ws Y 57 [.int .i64 (cn : Int), .int .i64 (svGo f r.dl 0).1, .int .i64 (svGo f r.dl 0).2.1, .int .i64 (svGo f r.dl 0).2.2, .int .i64 0, .int .i64 0]) := Lib.hid (by rw [← hWs]; exact Blk.new2 57 [.int .i64 (cn : Int), .int .i64 0, .int .i64 0, .int .i64 0, .int .i64 0, .int .i64 0] hY)
        have hbs : Below w4.heap.size w4 Ws := by rw [← hWs]; exact (Below.refl _ _).alloc (Nat.le_refl _) _
        have hBs : Below W1.heap.size W1 Ws := hB4.trans (hbs.mono hB4.size)
        have HXs : Hid (Blk Ws X 37 [.int .i64 f.id, .int .i64 f.fr, .int .i64 f.tn, .int .i64 f.pe, .int .i64 f.ph, .int .i64 f.dl]) := Lib.hid (HX4.out.below hbs HX4.out.lt)
        have HGs : Hid (OwnsGr Ws (b + 1) b nd (slotsOf r.dl)) := Lib.hid (HG4.out.below hbs)
        have hXY : X < Y := by rw [hY]; exact HX4.out.lt
        have hYM : W1.heap.size ≤ Y := by rw [hY]; exact hB4.size
        rw [← hY]
        have rY := HY0.out.row
        unfold Row at rY
        clear hWs hY hB4 HX4 HG4 hbs
        go_wp2_with fail
        clear rY
        go_loopw [41] (fun i wr => ∃ (n : Nat), n ≤ cn ∧ i = .int .i64 n ∧ Below W1.heap.size W1 wr ∧ Hid (Blk wr X 37 [.int .i64 f.id, .int .i64 f.fr, .int .i64 f.tn, .int .i64 f.pe, .int .i64 f.ph, .int .i64 f.dl]) ∧ Hid (Blk wr Y 57 [.int .i64 (cn : Int), .int .i64 (svGo f r.dl n).1, .int .i64 (svGo f r.dl n).2.1, .int .i64 (svGo f r.dl n).2.2, .int .i64 0, .int .i64 0]) ∧ Hid (OwnsGr wr (b + 1) b nd (slotsOf r.dl))) (fun i _ => cn - (intOf i).toNat)
        case atStart => exact ⟨0, by omega, rfl, hBs, HXs, HY0, HGs⟩
        case round =>
          clear HXs HGs HY0 hBs
          obtain ⟨n, hn, rfl, hb, HXb, HYb, HGb⟩ := hrel
          by_cases hlt2 : n < cn
          · obtain ⟨wd, hwd⟩ : ∃ wd, wd = wr.drew := ⟨_, rfl⟩
            have hbd : Below wr.heap.size wr wd := by rw [hwd]; exact (Below.refl _ _).drew
            obtain ⟨u5, hlook', hoi⟩ := (HGb.out.below hbd).look (by unfold maxLen; omega) (a := x) (c := (n : Int)) (num_small (by rw [← HFx.out]; obtain ⟨h1, _⟩ := fault_zero hff; omega)) (num_small (by omega))
            obtain ⟨A5, c5, hu5⟩ := own_form2 hoi.1
            have hl5 : (slotsOf r.dl x (n : Int)).length ≤ 1000000 := by
              have h1 : (slotsOf r.dl x (n : Int)).length ≤ r.dl.length := by unfold slotsOf; rw [List.length_map]; exact List.length_filter_le _ _
              have := HNd.out
              omega
            have hI5 : LiesI wd wd.heap.size A5 (slotsOf r.dl x (n : Int)) := by
              have h1 := hoi.1
              rw [hu5] at h1
              exact own_I (by rw [flatI_map]; exact h1)
            have Con := Lib.hid (arrival_any f n (slotsOf r.dl x (n : Int)) A5 c5 wd hff (by omega) (by omega) hI5 hl5)
            rw [hu5] at hlook'
            obtain ⟨T5, hT5⟩ : ∃ T5, T5 = arrival f n (slotsOf r.dl x (n : Int)) := ⟨_, rfl⟩
            have HAb : Hid (T5.2 = true → rel f n ≤ T5.1 ∧ T5.1 ≤ rel f n + f.dl - 1) := Lib.hid (by rw [hT5]; exact arr_bounds f n _)
            have HT5 : Hid (svGo f r.dl (n + 1) = if T5.2 = true then ((svGo f r.dl n).1, if (svGo f r.dl n).2.1 = 0 ∨ T5.1 - rel f n + 1 < (svGo f r.dl n).2.1 then T5.1 - rel f n + 1 else (svGo f r.dl n).2.1, max (svGo f r.dl n).2.2 (T5.1 - rel f n + 1)) else ((svGo f r.dl n).1 + 1, (svGo f r.dl n).2.1, (svGo f r.dl n).2.2)) := Lib.hid (by rw [svGo_succ, hT5, ← HFx.out]; rfl)
            rw [← hT5] at Con
            obtain ⟨q5, hq5⟩ : ∃ q, q = (slotsOf r.dl x (n : Int)).length := ⟨_, rfl⟩
            rw [← hq5] at Con hlook'
            have HXd : Hid (Blk wd X 37 [.int .i64 f.id, .int .i64 f.fr, .int .i64 f.tn, .int .i64 f.pe, .int .i64 f.ph, .int .i64 f.dl]) := Lib.hid (by rw [hwd]; exact HXb.out.drew)
            have hXl : X < wr.heap.size := HXb.out.lt
            have HDZ : Hid (wr.heap.size = wd.heap.size) := Lib.hid (by rw [hwd]; rfl)
            have hBd : Below W1.heap.size W1 wd := hb.trans (hbd.mono hb.size)
            have HYd : Hid (Blk wd Y 57 [.int .i64 (cn : Int), .int .i64 (svGo f r.dl n).1, .int .i64 (svGo f r.dl n).2.1, .int .i64 (svGo f r.dl n).2.2, .int .i64 0, .int .i64 0]) := Lib.hid (by rw [hwd]; exact HYb.out.drew)
            have HGd : Hid (OwnsGr wd (b + 1) b nd (slotsOf r.dl)) := Lib.hid (HGb.out.below hbd)
            have hSb := sv_bounds hff r.dl n
            obtain ⟨S, hS⟩ : ∃ S, S = svGo f r.dl n := ⟨_, rfl⟩
            rw [← hS] at HYd HT5 hSb
            clear hoi hu5 hI5 hl5 hT5 hq5 hbd hS HXb HYb HGb
            go_upto_region 11 with fail
            refine wp_region_rough (wr.heap.size) 13 [] #[false, false, false, false, false, false, false, false, false, false, false, false, false] (by kernel_rfl) rfl rfl ?_
            rw [← hwd]
            clear hwd
            have y0 : ∀ (x' : ExtW wr.heap.size wd), x'.val.cell? ⟨X, 0, none⟩ = some (.int .i64 f.id) := fun x' => (x'.cell _ hXl).trans (HXd.out.row 0)
            have y1 : ∀ (x' : ExtW wr.heap.size wd), x'.val.cell? ⟨X, 1, none⟩ = some (.int .i64 f.fr) := fun x' => (x'.cell _ hXl).trans (HXd.out.row 1)
            have y2 : ∀ (x' : ExtW wr.heap.size wd), x'.val.cell? ⟨X, 2, none⟩ = some (.int .i64 f.tn) := fun x' => (x'.cell _ hXl).trans (HXd.out.row 2)
            have y3 : ∀ (x' : ExtW wr.heap.size wd), x'.val.cell? ⟨X, 3, none⟩ = some (.int .i64 f.pe) := fun x' => (x'.cell _ hXl).trans (HXd.out.row 3)
            have y4 : ∀ (x' : ExtW wr.heap.size wd), x'.val.cell? ⟨X, 4, none⟩ = some (.int .i64 f.ph) := fun x' => (x'.cell _ hXl).trans (HXd.out.row 4)
            have y5 : ∀ (x' : ExtW wr.heap.size wd), x'.val.cell? ⟨X, 5, none⟩ = some (.int .i64 f.dl) := fun x' => (x'.cell _ hXl).trans (HXd.out.row 5)
            refine anyR_take 0 _ (nth0) rfl (by kernel_rfl) (by kernel_rfl) (by kernel_rfl) (by kernel_rfl) (l' := #[true, false, false, false, false, false, false, false, false, false, false, false, false]) rfl rfl ?_; intro K hK; go_big_quiet_op; go_big_quiet_on
            refine anyR_take0 1 _ (nthS (nth0)) rfl (by kernel_rfl) (by kernel_rfl) (by kernel_rfl) (l' := #[true, true, false, false, false, false, false, false, false, false, false, false, false]) rfl rfl ?_; intro K hK; go_big_quiet_op; go_big_quiet_on
            refine anyR_take0 2 _ (nthS (nthS (nth0))) rfl (by kernel_rfl) (by kernel_rfl) (by kernel_rfl) (l' := #[true, true, true, false, false, false, false, false, false, false, false, false, false]) rfl rfl ?_; intro K hK; go_big_quiet_op; go_big_quiet_on
            refine anyR_take0 3 _ (nthS (nthS (nthS (nth0)))) rfl (by kernel_rfl) (by kernel_rfl) (by kernel_rfl) (l' := #[true, true, true, true, false, false, false, false, false, false, false, false, false]) rfl rfl ?_; intro K hK; go_big_quiet_op; go_big_quiet_on
            refine anyR_take0 4 _ (nthS (nthS (nthS (nthS (nth0))))) rfl (by kernel_rfl) (by kernel_rfl) (by kernel_rfl) (l' := #[true, true, true, true, true, false, false, false, false, false, false, false, false]) rfl rfl ?_; intro K hK; go_big_quiet_op; go_big_quiet_on
            refine anyR_take0 5 _ (nthS (nthS (nthS (nthS (nthS (nth0)))))) rfl (by kernel_rfl) (by kernel_rfl) (by kernel_rfl) (l' := #[true, true, true, true, true, true, false, false, false, false, false, false, false]) rfl rfl ?_; intro K hK; go_big_quiet_op; go_big_quiet_on
            refine anyR_one 6 _ (nthS (nthS (nthS (nthS (nthS (nthS (nth0))))))) (by kernel_rfl) (l' := #[true, true, true, true, true, true, true, false, false, false, false, false, false]) rfl ?_
            clear y0 y1 y2 y3 y4 y5
            go_wp2_with fail
            clear hlook'
            refine OneR_mk (Below.refl _ _) ?_
            refine anyR_one 7 _ (nthS (nthS (nthS (nthS (nthS (nthS (nthS (nth0)))))))) (by kernel_rfl) (l' := #[true, true, true, true, true, true, true, true, false, false, false, false, false]) rfl ?_
            go_wp2_with fail
            refine Con.out.mono ?_
            rintro e w5 ⟨rfl, hb5⟩
            clear Con
            go_wp2_with fail
            refine OneR_mk (hb5.mono (Nat.le_of_eq HDZ.out)) ?_
            refine anyR_take0 8 _ (nthS (nthS (nthS (nthS (nthS (nthS (nthS (nthS (nth0))))))))) rfl (by kernel_rfl) (by kernel_rfl) (by kernel_rfl) (l' := #[true, true, true, true, true, true, true, true, true, false, false, false, false]) rfl rfl ?_; intro K hK; go_big_quiet_op; go_big_quiet_on
            refine anyR_take0 9 _ (nthS (nthS (nthS (nthS (nthS (nthS (nthS (nthS (nthS (nth0)))))))))) rfl (by kernel_rfl) (by kernel_rfl) (by kernel_rfl) (l' := #[true, true, true, true, true, true, true, true, true, true, false, false, false]) rfl rfl ?_; intro K hK; go_big_quiet_op; go_big_quiet_on
            refine anyR_take0 10 _ (nthS (nthS (nthS (nthS (nthS (nthS (nthS (nthS (nthS (nthS (nth0))))))))))) rfl (by kernel_rfl) (by kernel_rfl) (by kernel_rfl) (l' := #[true, true, true, true, true, true, true, true, true, true, true, false, false]) rfl rfl ?_; intro K hK; go_big_quiet_op; go_big_quiet_on
            refine anyR_take0 11 _ (nthS (nthS (nthS (nthS (nthS (nthS (nthS (nthS (nthS (nthS (nthS (nth0)))))))))))) rfl (by kernel_rfl) (by kernel_rfl) (by kernel_rfl) (l' := #[true, true, true, true, true, true, true, true, true, true, true, true, false]) rfl rfl ?_; intro K hK; go_big_quiet_op; go_big_quiet_on
            refine anyR_take0 12 _ (nthS (nthS (nthS (nthS (nthS (nthS (nthS (nthS (nthS (nthS (nthS (nthS (nth0))))))))))))) rfl (by kernel_rfl) (by kernel_rfl) (by kernel_rfl) (l' := #[true, true, true, true, true, true, true, true, true, true, true, true, true]) rfl rfl ?_; intro K hK; go_big_quiet_op; go_big_quiet_on
            refine anyR_end (by kernel_rfl) ?_
            have hB5 : Below W1.heap.size W1 w5 := hBd.trans (hb5.mono hBd.size)
            have HX5 : Hid (Blk w5 X 37 [.int .i64 f.id, .int .i64 f.fr, .int .i64 f.tn, .int .i64 f.pe, .int .i64 f.ph, .int .i64 f.dl]) := Lib.hid (HXd.out.below hb5 HXd.out.lt)
            have HY5 : Hid (Blk w5 Y 57 [.int .i64 (cn : Int), .int .i64 S.1, .int .i64 S.2.1, .int .i64 S.2.2, .int .i64 0, .int .i64 0]) := Lib.hid (HYd.out.below hb5 HYd.out.lt)
            have HG5 : Hid (OwnsGr w5 (b + 1) b nd (slotsOf r.dl)) := Lib.hid (HGd.out.below hb5)
            clear HXd HYd HGd hBd HDZ hb5 hb hXl
            cases hok : T5.2 with
            | false =>
              have hQ : Hid (svGo f r.dl (n + 1) = (S.1 + 1, S.2.1, S.2.2)) := Lib.hid (by rw [HT5.out, hok]; rfl)
              have hw1 : IntKind.i64.wrap (S.1 + 1) = S.1 + 1 := by rw [IntKind.wrap_i64]; omega
              clear hok HAb HT5
              have hB6 : Hid (Below W1.heap.size W1 (w5.setCell ⟨Y, 1, none⟩ (.int .i64 (S.1 + 1)))) := Lib.hid (hB5.setCell (p := ⟨Y, 1, none⟩) hYM (.int .i64 (S.1 + 1)))
              have HX6 : Hid (Blk (w5.setCell ⟨Y, 1, none⟩ (.int .i64 (S.1 + 1))) X 37 [.int .i64 f.id, .int .i64 f.fr, .int .i64 f.tn, .int .i64 f.pe, .int .i64 f.ph, .int .i64 f.dl]) := Lib.hid (HX5.out.far (p := ⟨Y, 1, none⟩) (by dsimp only; omega) (.int .i64 (S.1 + 1)))
              have bY6 := (HY5.out.set_ 1 (.int .i64 (S.1 + 1)))
              simp only [List.set_cons_zero, List.set_cons_succ] at bY6
              have HY6 : Hid (Blk (w5.setCell ⟨Y, 1, none⟩ (.int .i64 (S.1 + 1))) Y 57 [.int .i64 (cn : Int), .int .i64 (S.1 + 1), .int .i64 S.2.1, .int .i64 S.2.2, .int .i64 0, .int .i64 0]) := Lib.hid bY6
              have HG6 : Hid (OwnsGr (w5.setCell ⟨Y, 1, none⟩ (.int .i64 (S.1 + 1))) (b + 1) b nd (slotsOf r.dl)) := Lib.hid (OwnsGr.cells HG5.out HY5.out (by decide) [.int .i64 (S.1 + 1)] 1)
              have rY := HY5.out.row
              have fY := HY5.out.frozen
              have rX := HX5.out.row
              unfold Row at rY rX
              clear bY6 HY5 HG5 HX5 hB5
              go_wp2_with fail
              go_roundw
              case rel => exact ⟨n + 1, by omega, by go_num, hB6.out, HX6, Lib.hid (by rw [hQ.out]; exact HY6.out), HG6⟩
              case measure => simp [intOf]; omega
            | true =>
              obtain ⟨hq1, hq2⟩ := HAb.out hok
              have hQ : Hid (svGo f r.dl (n + 1) = (S.1, if S.2.1 = 0 ∨ T5.1 - rel f n + 1 < S.2.1 then T5.1 - rel f n + 1 else S.2.1, max S.2.2 (T5.1 - rel f n + 1))) := Lib.hid (by rw [HT5.out, if_pos hok])
              obtain ⟨mm, hmm⟩ : ∃ mm, mm = (n : Int) * f.pe := ⟨_, rfl⟩
              have hrel : rel f n = f.ph + mm := by rw [hmm]; rfl
              rw [hrel] at hQ hq1 hq2
              obtain ⟨_, _, _, hpe, hph, hdl, _⟩ := fault_zero hff
              have hm0 : 0 ≤ mm := by rw [hmm]; exact Int.mul_nonneg (by omega) (by omega)
              have hm1 : mm ≤ 1000000 * f.pe := by rw [hmm]; exact Int.mul_le_mul_of_nonneg_right (by omega) (by omega)
              have hw1 : IntKind.i64.wrap ((n : Int) * f.pe) = mm := by rw [← hmm, IntKind.wrap_i64]; omega
              have hw2 : IntKind.i64.wrap (T5.1 - f.ph) = T5.1 - f.ph := by rw [IntKind.wrap_i64]; omega
              have hw3 : IntKind.i64.wrap (T5.1 - f.ph - mm) = T5.1 - f.ph - mm := by rw [IntKind.wrap_i64]; omega
              obtain ⟨q, hq⟩ : ∃ q, q = T5.1 - f.ph - mm + 1 := ⟨_, rfl⟩
              have hw4 : IntKind.i64.wrap (T5.1 - f.ph - mm + 1) = q := by rw [← hq, IntKind.wrap_i64]; omega
              have hqe : T5.1 - (f.ph + mm) + 1 = q := by rw [hq]; omega
              rw [hqe] at hQ
              have HMM := Lib.hid hmm.symm
              clear HAb HT5 hrel hmm hok hq1 hq2 hq hqe hm0 hm1
              obtain ⟨mx, hmx⟩ : ∃ mx, mx = max S.2.2 q := ⟨_, rfl⟩
              have hmx' : (if S.2.2 < q then q else S.2.2) = mx := by rw [hmx, Int.max_def]; split <;> split <;> omega
              rw [← hmx] at hQ
              have b3 := HY5.out.set_ 3 (.int .i64 mx)
              simp only [List.set_cons_zero, List.set_cons_succ] at b3
              have hx3 := HX5.out.far (p := ⟨Y, 3, none⟩) (by dsimp only; omega) (.int .i64 mx)
              have hg3 := OwnsGr.cells HG5.out HY5.out (by decide) [.int .i64 mx] 3
              have hB3 := hB5.setCell (p := ⟨Y, 3, none⟩) hYM (.int .i64 mx)
              have HP3 := Lib.hid (And.intro b3 (And.intro hx3 (And.intro hg3 hB3)))
              have HMX := Lib.hid hmx'
              have rY := HY5.out.row
              have fY := HY5.out.frozen
              have rX := HX5.out.row
              unfold Row at rY rX
              clear b3 hx3 hg3 hB3 hmx hmx'
              go_upto_region 16 with fail
              rw [HMX.out]
              generalize hW3 : World.setCell _ _ _ = W3
              have HP : Hid (Blk W3 Y 57 [.int .i64 (cn : Int), .int .i64 S.1, .int .i64 S.2.1, .int .i64 mx, .int .i64 0, .int .i64 0] ∧ Blk W3 X 37 [.int .i64 f.id, .int .i64 f.fr, .int .i64 f.tn, .int .i64 f.pe, .int .i64 f.ph, .int .i64 f.dl] ∧ OwnsGr W3 (b + 1) b nd (slotsOf r.dl) ∧ Below W1.heap.size W1 W3) := Lib.hid (by rw [← hW3]; exact HP3.out)
              clear hW3 HP3 rY fY rX HY5 HX5 HG5 hB5 HMX
              have rY := HP.out.1.row
              have fY := HP.out.1.frozen
              unfold Row at rY
              by_cases e1 : S.2.1 = 0 ∨ q < S.2.1
              · have hQ2 : Hid (svGo f r.dl (n + 1) = (S.1, q, mx)) := Lib.hid (by rw [hQ.out, if_pos e1])
                have b4 := HP.out.1.set_ 2 (.int .i64 q)
                simp only [List.set_cons_zero, List.set_cons_succ] at b4
                have HP4 := Lib.hid (And.intro b4 (And.intro (HP.out.2.1.far (p := ⟨Y, 2, none⟩) (by dsimp only; omega) (.int .i64 q)) (And.intro (OwnsGr.cells HP.out.2.2.1 HP.out.1 (by decide) [.int .i64 q] 2) (HP.out.2.2.2.setCell (p := ⟨Y, 2, none⟩) hYM (.int .i64 q)))))
                clear b4
                by_cases e2 : S.2.1 = 0
                · have d1 : (S.2.1 == 0) = true := by simpa using e2
                  clear e1 e2 hQ
                  go_wp2_with fail
                  go_roundw
                  case rel => exact ⟨n + 1, by omega, by go_num, HP4.out.2.2.2, Lib.hid HP4.out.2.1, Lib.hid (by rw [hQ2.out]; exact HP4.out.1), Lib.hid HP4.out.2.2.1⟩
                  case measure => simp [intOf]; omega
                · have d1 : (S.2.1 == 0) = false := by simpa using e2
                  have d2 : decide (q < S.2.1) = true := decide_eq_true (by omega)
                  clear e1 e2 hQ
                  go_wp2_with fail
                  go_roundw
                  case rel => exact ⟨n + 1, by omega, by go_num, HP4.out.2.2.2, Lib.hid HP4.out.2.1, Lib.hid (by rw [hQ2.out]; exact HP4.out.1), Lib.hid HP4.out.2.2.1⟩
                  case measure => simp [intOf]; omega
              · have hQ2 : Hid (svGo f r.dl (n + 1) = (S.1, S.2.1, mx)) := Lib.hid (by rw [hQ.out, if_neg e1])
                have d1 : (S.2.1 == 0) = false := by
                  rw [beq_eq_false_iff_ne]
                  exact fun h => e1 (.inl h)
                have d2 : decide (q < S.2.1) = false := decide_eq_false (fun h => e1 (.inr h))
                clear e1 hQ
                go_wp2_with fail
                go_roundw
                case rel => exact ⟨n + 1, by omega, by go_num, HP.out.2.2.2, Lib.hid HP.out.2.1, Lib.hid (by rw [hQ2.out]; exact HP.out.1), Lib.hid HP.out.2.2.1⟩
                case measure => simp [intOf]; omega
          · have h1 : n = cn := by omega
            subst h1
            have hS1 := sv_bounds hff r.dl n
            obtain ⟨S, hS⟩ : ∃ S, S = svGo f r.dl n := ⟨_, rfl⟩
            rw [← hS] at HYb
            have HS := Lib.hid hS
            have rN := (HW.out _ hb).2.1
            unfold Row at rN
            have HY0 : Hid (Blk wr Y 57 [.int .i64 (n : Int), .int .i64 S.1, .int .i64 S.2.1, .int .i64 S.2.2, .int .i64 (cntAtt (r.al.take 0) x), .int .i64 (cntLost (r.al.take 0) x)]) := Lib.hid (by simpa [cntAtt, cntLost] using HYb.out)
            clear HGb HXb hS HYb
            go_wp2_with fail
            clear rN
            obtain ⟨wo, hwo⟩ : ∃ wo : World, wo = wr := ⟨_, rfl⟩
            subst hwo
            go_loopw [92] (fun i wr => ∃ (k : Nat), k ≤ na ∧ i = .int .i64 k ∧ Below W1.heap.size W1 wr ∧ Hid (Blk wr Y 57 [.int .i64 (n : Int), .int .i64 S.1, .int .i64 S.2.1, .int .i64 S.2.2, .int .i64 (cntAtt (r.al.take k) x), .int .i64 (cntLost (r.al.take k) x)])) (fun i _ => na - (intOf i).toNat)
            case atStart => exact ⟨0, by omega, rfl, hb, HY0⟩
            case round =>
              clear HY0 hb
              obtain ⟨k, hk, rfl, hb, HYb⟩ := hrel
              by_cases hlt3 : k < na
              · obtain ⟨a, hak⟩ := get_of_lt (l := r.al) (k := k) (by rw [← HNa.out]; exact hlt3)
                obtain ⟨ab, aoff, rfl, haB, hcs⟩ := (HA.out _ hb).at_ hak
                obtain ⟨c0, c1, c2, c3, c4, c5, c6, c7⟩ := hcs k a hak
                have HCt := Lib.hid (And.intro (cntAtt_succ hak x) (cntLost_succ hak x))
                obtain ⟨k1, k2, k3, k4⟩ := cnt_bounds r.al x k
                obtain ⟨A0, hA0⟩ : ∃ A0, A0 = cntAtt (r.al.take k) x := ⟨_, rfl⟩
                obtain ⟨L0, hL0⟩ : ∃ L0, L0 = cntLost (r.al.take k) x := ⟨_, rfl⟩
                rw [← hA0, ← hL0] at HCt HYb
                rw [← hA0] at k1 k2
                rw [← hL0] at k3 k4
                have hw1 : IntKind.i64.wrap (A0 + 1) = A0 + 1 := by rw [IntKind.wrap_i64]; omega
                have hw2 : IntKind.i64.wrap (L0 + 1) = L0 + 1 := by rw [IntKind.wrap_i64]; omega
                clear hcs hak hA0 hL0
                go_upto_region 22 with fail
                clear c0 c1 c2 c3 c4 c5 c6 c7
                obtain ⟨Z, hZ⟩ : ∃ Z, Z = wr.heap.size := ⟨_, rfl⟩
                generalize hWa : World.alloc _ _ = Wa
                have bZ : Blk Wa Z 66 [.int .i64 a.s, .int .i64 a.f, .int .i64 a.cs, .int .i64 a.co, .int .i64 a.cf, .int .i64 a.ct, .int .i64 a.cl, .int .i64 a.o] := by rw [← hWa]; exact Blk.new2 _ [.int .i64 a.s, .int .i64 a.f, .int .i64 a.cs, .int .i64 a.co, .int .i64 a.cf, .int .i64 a.ct, .int .i64 a.cl, .int .i64 a.o] hZ
                have hBa : Below W1.heap.size W1 Wa := by rw [← hWa]; exact hb.alloc hb.size _
                have HYa : Hid (Blk Wa Y 57 [.int .i64 (n : Int), .int .i64 S.1, .int .i64 S.2.1, .int .i64 S.2.2, .int .i64 A0, .int .i64 L0]) := Lib.hid (by rw [← hWa]; exact HYb.out.alloc _)
                have hYZ : Y < Z := by rw [hZ]; exact HYb.out.lt
                rw [← hZ]
                have rZ := bZ.row
                have rY := HYa.out.row
                unfold Row at rZ rY
                clear hWa hZ hb HYb bZ
                cases hc : (a.cl == x) with
                | false =>
                  have b6 := HYa.out
                  have HY6 : Hid (Blk Wa Y 57 [.int .i64 (n : Int), .int .i64 S.1, .int .i64 S.2.1, .int .i64 S.2.2, .int .i64 A0, .int .i64 L0]) := Lib.hid b6
                  have hB6 : Hid (Below W1.heap.size W1 Wa) := Lib.hid hBa
                  have HN6 : Hid (cntAtt (r.al.take (k + 1)) x = A0 ∧ cntLost (r.al.take (k + 1)) x = L0) := Lib.hid (by obtain ⟨e1, e2⟩ := HCt.out; rw [e1, e2]; simp [hc])
                  have fY := HYa.out.frozen
                  clear b6 HYa HCt
                  go_wp2_with fail
                  go_roundw
                  case rel => exact ⟨k + 1, by omega, by go_num, hB6.out, Lib.hid (by rw [HN6.out.1, HN6.out.2]; exact HY6.out)⟩
                  case measure => simp [intOf]; omega
                | true =>
                  cases ho : (a.o == 4) with
                  | true =>
                    have ho' : (a.o != 4) = false := by simpa using ho
                    have b6 := HYa.out
                    have HY6 : Hid (Blk Wa Y 57 [.int .i64 (n : Int), .int .i64 S.1, .int .i64 S.2.1, .int .i64 S.2.2, .int .i64 A0, .int .i64 L0]) := Lib.hid b6
                    have hB6 : Hid (Below W1.heap.size W1 Wa) := Lib.hid hBa
                    have HN6 : Hid (cntAtt (r.al.take (k + 1)) x = A0 ∧ cntLost (r.al.take (k + 1)) x = L0) := Lib.hid (by obtain ⟨e1, e2⟩ := HCt.out; rw [e1, e2]; simp [hc, ho])
                    have fY := HYa.out.frozen
                    clear b6 HYa HCt
                    go_wp2_with fail
                    go_roundw
                    case rel => exact ⟨k + 1, by omega, by go_num, hB6.out, Lib.hid (by rw [HN6.out.1, HN6.out.2]; exact HY6.out)⟩
                    case measure => simp [intOf]; omega
                  | false =>
                    have ho' : (a.o != 4) = true := by simpa using ho
                    cases h1 : (a.o == 1) with
                    | true =>
                      have h1' : (a.o != 1) = false := by simpa using h1
                      have b6 := (HYa.out.set_ 4 (.int .i64 (A0 + 1)))
                      simp only [List.set_cons_zero, List.set_cons_succ] at b6
                      have HY6 : Hid (Blk (Wa.setCell ⟨Y, 4, none⟩ (.int .i64 (A0 + 1))) Y 57 [.int .i64 (n : Int), .int .i64 S.1, .int .i64 S.2.1, .int .i64 S.2.2, .int .i64 (A0 + 1), .int .i64 L0]) := Lib.hid b6
                      have hB6 : Hid (Below W1.heap.size W1 (Wa.setCell ⟨Y, 4, none⟩ (.int .i64 (A0 + 1)))) := Lib.hid (hBa.setCell (p := ⟨Y, 4, none⟩) hYM (.int .i64 (A0 + 1)))
                      have HN6 : Hid (cntAtt (r.al.take (k + 1)) x = (A0 + 1) ∧ cntLost (r.al.take (k + 1)) x = L0) := Lib.hid (by obtain ⟨e1, e2⟩ := HCt.out; rw [e1, e2]; simp [hc, ho, h1])
                      have fY := HYa.out.frozen
                      clear b6 HYa HCt
                      go_wp2_with fail
                      go_roundw
                      case rel => exact ⟨k + 1, by omega, by go_num, hB6.out, Lib.hid (by rw [HN6.out.1, HN6.out.2]; exact HY6.out)⟩
                      case measure => simp [intOf]; omega
                    | false =>
                      have h1' : (a.o != 1) = true := by simpa using h1
                      have b6 := ((HYa.out.set_ 4 (.int .i64 (A0 + 1))).set_ 5 (.int .i64 (L0 + 1)))
                      simp only [List.set_cons_zero, List.set_cons_succ] at b6
                      have HY6 : Hid (Blk ((Wa.setCell ⟨Y, 4, none⟩ (.int .i64 (A0 + 1))).setCell ⟨Y, 5, none⟩ (.int .i64 (L0 + 1))) Y 57 [.int .i64 (n : Int), .int .i64 S.1, .int .i64 S.2.1, .int .i64 S.2.2, .int .i64 (A0 + 1), .int .i64 (L0 + 1)]) := Lib.hid b6
                      have hB6 : Hid (Below W1.heap.size W1 ((Wa.setCell ⟨Y, 4, none⟩ (.int .i64 (A0 + 1))).setCell ⟨Y, 5, none⟩ (.int .i64 (L0 + 1)))) := Lib.hid ((hBa.setCell (p := ⟨Y, 4, none⟩) hYM (.int .i64 (A0 + 1))).setCell (p := ⟨Y, 5, none⟩) hYM (.int .i64 (L0 + 1)))
                      have HN6 : Hid (cntAtt (r.al.take (k + 1)) x = (A0 + 1) ∧ cntLost (r.al.take (k + 1)) x = (L0 + 1)) := Lib.hid (by obtain ⟨e1, e2⟩ := HCt.out; rw [e1, e2]; simp [hc, ho, h1])
                      have fY := HYa.out.frozen
                      clear b6 HYa HCt
                      go_wp2_with fail
                      go_roundw
                      case rel => exact ⟨k + 1, by omega, by go_num, hB6.out, Lib.hid (by rw [HN6.out.1, HN6.out.2]; exact HY6.out)⟩
                      case measure => simp [intOf]; omega
              · have h1 : k = na := by omega
                subst h1
                have hto : r.al.take k = r.al := List.take_of_length_le (by rw [← HNa.out]; exact Nat.le_refl _)
                rw [hto] at HYb
                have hfin : Hid ((Mo.serveF f r).cells = [.int .i64 (n : Int), .int .i64 S.1, .int .i64 S.2.1, .int .i64 S.2.2, .int .i64 (cntAtt r.al x), .int .i64 (cntLost r.al x)]) := Lib.hid (by
                  have hcc := HCN.out
                  unfold Mo.serveF Mo.Sv.cells
                  dsimp only
                  rw [HFx.out, hcc, Int.toNat_natCast, ← HS.out])
                have rY := HYb.out.row
                unfold Row at rY
                clear hlt3 hto
                have b5 := (HW.out _ hb).2.2
                have cb5 := b5.row
                have fb5 := b5.frozen
                unfold Row at cb5
                have b6 := ((((((b5.set_ 0 (.int .i64 (n : Int))).set_ 1 (.int .i64 S.1)).set_ 2 (.int .i64 S.2.1)).set_ 3 (.int .i64 S.2.2)).set_ 4 (.int .i64 (cntAtt r.al x))).set_ 5 (.int .i64 (cntLost r.al x)))
                simp only [List.set_cons_zero, List.set_cons_succ] at b6
                have C6 := Lib.hid b6.row
                have HB6 : Hid (Below w.heap.size w ((((((wr.setCell ⟨N + 1, 0, none⟩ (.int .i64 (n : Int))).setCell ⟨N + 1, 1, none⟩ (.int .i64 S.1)).setCell ⟨N + 1, 2, none⟩ (.int .i64 S.2.1)).setCell ⟨N + 1, 3, none⟩ (.int .i64 S.2.2)).setCell ⟨N + 1, 4, none⟩ (.int .i64 (cntAtt r.al x))).setCell ⟨N + 1, 5, none⟩ (.int .i64 (cntLost r.al x)))) := Lib.hid (((((((HW.out _ hb).1.setCell (p := ⟨N + 1, 0, none⟩) (by dsimp only; have := HN.out; omega) (.int .i64 (n : Int))).setCell (p := ⟨N + 1, 1, none⟩) (by dsimp only; have := HN.out; omega) (.int .i64 S.1)).setCell (p := ⟨N + 1, 2, none⟩) (by dsimp only; have := HN.out; omega) (.int .i64 S.2.1)).setCell (p := ⟨N + 1, 3, none⟩) (by dsimp only; have := HN.out; omega) (.int .i64 S.2.2)).setCell (p := ⟨N + 1, 4, none⟩) (by dsimp only; have := HN.out; omega) (.int .i64 (cntAtt r.al x))).setCell (p := ⟨N + 1, 5, none⟩) (by dsimp only; have := HN.out; omega) (.int .i64 (cntLost r.al x)))
                clear b6
                go_wp2_with fail
                have c6 := C6.out
                unfold Row at c6
                refine bodyPost_ret (v := .tuple #[.agg #[.int .i64 (n : Int), .int .i64 S.1, .int .i64 S.2.1, .int .i64 S.2.2, .int .i64 (cntAtt r.al x), .int .i64 (cntLost r.al x)], .int .i64 0]) (by simp [results, Try.results23, go_sem, c6]) rfl ?_
                exact ⟨HB6.out, by rw [hl.out]; dsimp only; rw [hfin.out]⟩
end Go.Proofs.Ytkdigdnacggknaa

import Derived.Laws.OwnMore
import Derived.Laws.Entries
import Derived.Laws.Small
import Derived.Laws.Strings
import Derived.Laws.Concat
import Derived.Laws.Build
import Derived.Test.YtkdigdnacggknaaZAvD
/- Abstract states: rows that the frame owns: made, grown, handed on; a store into a box. Generic. -/
namespace Go.Proofs.Ytkdigdnacggknaa
open Go.RowKit
namespace Av

theorem add_mid (b o j : Nat) : (⟨b, o, none⟩ : Addr).add j = ⟨b, o + j, none⟩ := Addr.add_mid b o j
section
variable {P : Program}
/-- append onto a row that is owned. -/
theorem run_append_av (w : World) (base : Nat) (t ty e : TypeId) (i : TypeInfo) (z : Value) (ht : P.underlying t = some (.slice e)) (hi : P.info? e = some i) (hz : i.zero = some z)
    (hzs : z.cells.size = i.size) (hsz : 0 < i.size) (hby : i.bytes ≤ 1000000) (v : Value) (n : Nat) (xs : List Value) (q : Option Nat) (hown : OwnV w base e i.size n v q) (hxl : xs.length = n * i.size)
    (hxs : ∀ g, q = some g → ∀ (j : Nat) (u : Value), xs[j]? = some u → w.cell? ⟨g, j, none⟩ = some u)
    (A : Option Addr) (m c : Nat) (news : List Value) (hl : news.length = m * i.size) (hA : m = 0 ∨ ∃ b off, A = some ⟨b, off, none⟩ ∧ ∀ (j : Nat) (u : Value), news[j]? = some u → w.cell? ⟨b, off + j, none⟩ = some u)
    (h1 : ∀ u ∈ news, u.oneCell' = true) (hnm : n + m ≤ 100000000) (hbase : base ≤ w.heap.size) :
    ∃ v' w' q', (Builtin.append_ #[t, t] ty #[v, .slice A m c]).run P w = .ok v' w' ∧ OwnV w' base e i.size (n + m) v' q' ∧ (∀ g, q' = some g → ∀ (j : Nat) (u : Value), (xs ++ news)[j]? = some u → w'.cell? ⟨g, j, none⟩ = some u) ∧
      (∀ k, k < w.heap.size → q ≠ some k → w'.heap[k]? = w.heap[k]?) ∧ (∀ g, q = some g → ∀ j, j < n * i.size → w'.cell? ⟨g, j, none⟩ = w.cell? ⟨g, j, none⟩) ∧ (q' = q ∨ q' = some w.heap.size) ∧
      w'.os = w.os ∧ w'.tape = w.tape ∧ w'.output = w.output ∧ w.heap.size ≤ w'.heap.size := by
  have hmax : n + m ≤ maxLen := by simp only [maxLen]; omega
  have hbytes : (n + m) * i.bytes ≤ 140737488355328 := Nat.le_trans (Nat.mul_le_mul hnm hby) (by decide)
  by_cases hm : m = 0
  · subst hm
    have hn0 : news = [] := List.eq_nil_of_length_eq_zero (by simpa using hl)
    subst hn0
    have hrun : (Builtin.append_ #[t, t] ty #[v, .slice A 0 c]).run P w = .ok v w := by
      cases q with
      | none =>
        obtain ⟨rfl, rfl⟩ := hown
        cases A <;> simp [Builtin.append_, run_underlying ht, sizeOf, typeInfo, hi, Builtin.lenOf, Builtin.firstCells, loadCells, loadCellsFrom]
      | some g =>
        obtain ⟨cap, cur, rfl, _, _, hnc, _⟩ := hown
        cases A <;> simp [Builtin.append_, run_underlying ht, sizeOf, typeInfo, hi, Builtin.lenOf, Builtin.firstCells, hnc, storeCells, loadCells, loadCellsFrom]
    exact ⟨v, w, q, hrun, hown, fun g hg j u hu => hxs g hg j u (by simpa using hu), fun _ _ _ => rfl, fun _ _ _ _ => rfl, .inl rfl, rfl, rfl, rfl, Nat.le_refl _⟩
  · obtain ⟨b, off, rfl, hnews⟩ := hA.resolve_left hm
    have hnews' : ∀ (j : Nat) (u : Value), news[j]? = some u → w.cell? ((⟨b, off, none⟩ : Addr).add j) = some u := fun j u hu => by rw [add_mid]; exact hnews j u hu
    have hlen : (xs ++ news).length = (n + m) * i.size := by rw [List.length_append, hxl, hl, Nat.add_mul]
    have grown : ∀ (old : Nat), old < n + m → OwnV (w.drew.alloc (.cells (xs.toArray ++ news.toArray ++ Builtin.zeroCells z.cells (grownCap w (n + m) old e - (n + m))) e)) base e i.size (n + m) (.slice (some ⟨w.heap.size, 0, none⟩) (n + m) (grownCap w (n + m) old e)) (some w.heap.size) ∧
        (∀ g, some w.heap.size = some g → ∀ (j : Nat) (u : Value), (xs ++ news)[j]? = some u → (w.drew.alloc (.cells (xs.toArray ++ news.toArray ++ Builtin.zeroCells z.cells (grownCap w (n + m) old e - (n + m))) e)).cell? ⟨g, j, none⟩ = some u) := by
      intro old ho
      have hge := grownCap_ge w (n + m) old e
      have hcm : grownCap w (n + m) old e ≤ maxLen := grownCap_le_maxLen w (n + m) old e hmax
      refine ⟨⟨_, _, rfl, hbase, heap_alloc_new w.drew _, hge, hcm, ?_⟩, ?_⟩
      · simp only [Array.size_append, List.size_toArray, size_zeroCells, hzs, hxl, hl, ← Nat.add_mul]
        congr 1
        omega
      · rintro g hg j u hu
        cases hg
        have hh : (w.drew.alloc (.cells (xs.toArray ++ news.toArray ++ Builtin.zeroCells z.cells (grownCap w (n + m) old e - (n + m))) e)).heap[w.heap.size]? = some (.cells (xs.toArray ++ news.toArray ++ Builtin.zeroCells z.cells (grownCap w (n + m) old e - (n + m))) e (0, 0)) := heap_alloc_new w.drew _
        rw [cell_of_row _ _ j _ e (0, 0) hh]
        have hj : j < (xs ++ news).length := (List.getElem?_eq_some_iff.1 hu).1
        rw [← Array.getElem?_toList]
        simp only [Array.toList_append]
        rw [List.getElem?_append_left (by simpa using hj)]
        exact hu
    have hold : ∀ (o : Obj) (k : Nat), k < w.heap.size → (w.drew.alloc o).heap[k]? = w.heap[k]? := fun o k hk => by
      show (w.heap.push o)[k]? = _
      rw [Array.getElem?_push, if_neg (by omega)]
    cases q with
    | none =>
      obtain ⟨rfl, rfl⟩ := hown
      have hx : xs = [] := List.eq_nil_of_length_eq_zero (by simpa using hxl)
      subst hx
      have hr := run_append_nil (P := P) w t ty e i z ht hi hz ⟨b, off, none⟩ m c news hl hnews' (by omega) (by omega) (by have hb := hbytes; simp only [Nat.zero_add] at hb; omega)
      obtain ⟨g1, g2⟩ := grown 0 (by omega)
      simp only [Nat.zero_add, List.nil_append, Array.empty_append] at g1 g2 ⊢
      exact ⟨_, _, some w.heap.size, hr, g1, g2, fun k hk _ => hold _ k hk, fun g hg => (by cases hg), .inr rfl, rfl, rfl, rfl, by simp⟩
    | some g =>
      obtain ⟨cap, cur, rfl, hbg, hg, hnc, hcm, hcs⟩ := hown
      have hglt : g < w.heap.size := (Array.getElem?_eq_some_iff.1 hg).1
      have hcur : cur.toList.take (n * i.size) = xs := by
        refine List.ext_getElem? fun j => ?_
        rw [List.getElem?_take]
        by_cases hj : j < n * i.size
        · rw [if_pos hj]
          have hj' : j < xs.length := by rw [hxl]; exact hj
          have := hxs g rfl j xs[j] (List.getElem?_eq_getElem hj')
          rw [cell_of_row w g j cur e (0, 0) hg] at this
          rw [List.getElem?_eq_getElem hj', ← this]
          simp
        · rw [if_neg hj, List.getElem?_eq_none (by rw [hxl]; omega)]
      by_cases hroom : n + m ≤ cap
      · have hfit : n * i.size + news.length ≤ cur.size := by rw [hl, hcs, ← Nat.add_mul]; exact Nat.mul_le_mul_right _ hroom
        have hr := run_append_room (P := P) w t ty e i ht hi g n cap cur hg ⟨b, off, none⟩ m c news hl hnews' h1 hroom hfit
        have hhp := setRow_heap w g cur (cur.toList.take (n * i.size) ++ news ++ cur.toList.drop (n * i.size + news.length)).toArray e (0, 0) hg
        have hcell : ∀ (j : Nat) (u : Value), (xs ++ news)[j]? = some u → (w.setRow g (cur.toList.take (n * i.size) ++ news ++ cur.toList.drop (n * i.size + news.length)).toArray).cell? ⟨g, j, none⟩ = some u := fun j u hu => by
          rw [cell_of_row _ g j _ e (0, 0) hhp]
          rw [← Array.getElem?_toList]
          simp only
          rw [hcur, List.getElem?_append_left (List.getElem?_eq_some_iff.1 hu).1]
          exact hu
        refine ⟨_, _, some g, hr, ⟨cap, _, rfl, hbg, hhp, hroom, hcm, ?_⟩, fun g' hg' => by cases hg'; exact hcell, fun k _ hk => setRow_other w g k _ (fun e => hk (by rw [e])), ?_, .inl rfl, rfl, rfl, rfl, by simp⟩
        · simp only [List.size_toArray, List.length_append, List.length_take, List.length_drop, Array.length_toList]
          omega
        · rintro g' hg' j hj
          cases hg'
          have hj' : j < xs.length := by rw [hxl]; exact hj
          rw [hcell j xs[j] (by rw [List.getElem?_append_left hj']; exact List.getElem?_eq_getElem hj'), hxs g rfl j xs[j] (List.getElem?_eq_getElem hj')]
      · have hr := run_append_grow (P := P) w t ty e i z ht hi hz ⟨g, 0, none⟩ n cap xs hxl (fun j u hu => by rw [add_mid, Nat.zero_add]; exact hxs g rfl j u hu) ⟨b, off, none⟩ m c news hl hnews' (by omega) (by omega) (growslice_fits (by omega) hbytes)
        obtain ⟨g1, g2⟩ := grown cap (by omega)
        refine ⟨_, _, some w.heap.size, hr, g1, g2, fun k hk _ => hold _ k hk, fun g' hg' j _ => ?_, .inr rfl, rfl, rfl, rfl, by simp⟩
        cases hg'
        exact World.cell?_of_block (w := w) (a := ⟨g, j, none⟩) (hold _ g hglt)
end

def delS (l : List (Loc × (TypeId × Nat))) : Option Nat → List (Loc × (TypeId × Nat))
  | some t => delL l (.s t)
  | none => l
/-- A slot gets a slice that it owns. -/
def St.putOwn (σ : St) (d sz : Nat) (rows : List (List PV)) (e : TypeId) : St := { slot := (d, .sl sz rows) :: σ.slot, box := σ.box, own := (.s d, (e, sz)) :: delL σ.own (.s d), ext := σ.ext }
def Gh.setRow (γ : Gh) (L : Loc) (q : Option Nat) : Gh := { γ with rw := fun L' => if L' = L then q else γ.rw L' }
theorem lookL_putOwn (σ : St) (d sz : Nat) (rows : List (List PV)) (e : TypeId) (L : Loc) : lookL (σ.putOwn d sz rows e).own L = if L = .s d then some (e, sz) else lookL σ.own L := by
  unfold St.putOwn
  dsimp only
  rw [lookL_cons, lookL_del]
  by_cases h : L = .s d
  · rw [if_pos h.symm, if_pos h]
  · rw [if_neg (fun e => h e.symm), if_neg h, if_neg h]
theorem avAt_putOwn {σ : St} {d sz : Nat} {rows : List (List PV)} {e : TypeId} {L : Loc} : (σ.putOwn d sz rows e).avAt L = if L = .s d then some (.sl sz rows) else σ.avAt L := by
  cases L with
  | s t =>
    simp only [St.avAt, St.putOwn, look_cons, Loc.s.injEq]
    by_cases h : d = t
    · rw [if_pos h, if_pos h.symm]
    · rw [if_neg h, if_neg (fun e => h e.symm)]
  | b k off => rw [if_neg (by simp)]; rfl
/-- The frame's rows grow: slot d gets a slice whose block is new, or is that of the owned row at s (which is not owned there any more). -/
theorem Rel.row {F : Fr} {σ : St} {γ : Gh} {a : Act} {w w1 : World} (h : Rel F σ γ a w) {d : Nat} (hd : d < F.n) {s : Option Nat} {sz : Nat} {rows : List (List PV)} {e : TypeId} {v : Value} {q : Option Nat}
    (hos : w1.os = w.os) (htp : w1.tape = w.tape) (hou : w1.output = w.output) (hsz : w.heap.size ≤ w1.heap.size)
    (hb : ∀ k, k < w.heap.size → (∀ t, s = some t → γ.rw (.s t) ≠ some k) → w1.heap[k]? = w.heap[k]?)
    (hs : ∀ t, s = some t → ∃ es rs, lookL σ.own (.s t) = some es ∧ look σ.slot t = some (.sl es.2 rs) ∧ rs.length * es.2 ≤ rows.length * sz ∧ ∀ g, γ.rw (.s t) = some g → ∀ j, j < rs.length * es.2 → w1.cell? ⟨g, j, none⟩ = w.cell? ⟨g, j, none⟩)
    (hq : ∀ g, q = some g → w.heap.size ≤ g ∨ ∃ t, s = some t ∧ γ.rw (.s t) = some g)
    (hv : OwnV w1 F.w0.heap.size e sz rows.length v q)
    (hrep : RepP (fun p => if (rdr F.R0 F.w0.heap.size σ γ w p).isSome then rdr F.R0 F.w0.heap.size σ γ w p else if q = some p.block ∧ p.off < rows.length * sz then w1.cell? p else if p.block < w.heap.size ∨ q = some p.block then none else w1.cell? p) (.sl sz rows) v) :
    Rel F ({ σ with own := delS σ.own s }.putOwn d sz rows e) (γ.setRow (.s d) q) (a.put (some d) v) w1 := by
  generalize hσ1 : ({ σ with own := delS σ.own s } : St) = σ1
  have hslot : σ1.slot = σ.slot := by rw [← hσ1]
  have hbox : σ1.box = σ.box := by rw [← hσ1]
  have hext : σ1.ext = σ.ext := by rw [← hσ1]
  have hown1 : ∀ L x, lookL σ1.own L = some x → lookL σ.own L = some x ∧ ∀ t, s = some t → L ≠ .s t := fun L x hx => by
    rw [← hσ1] at hx
    cases s with
    | none => exact ⟨hx, fun t ht => by cases ht⟩
    | some t =>
      dsimp only [delS] at hx
      rw [lookL_del] at hx
      by_cases hL : L = .s t
      · rw [if_pos hL] at hx; cases hx
      · rw [if_neg hL] at hx; exact ⟨hx, fun t' ht' => by cases ht'; exact hL⟩
  have hav1 : ∀ L, σ1.avAt L = σ.avAt L := fun L => by cases L <;> simp [St.avAt, hslot, hbox]
  have hsome : ∀ {L x}, lookL σ.own L = some x → (lookL σ.own L).isSome := fun hx => by rw [show lookL σ.own _ = _ from hx]; rfl
  -- the rows of others are not touched
  have hother : ∀ L x g, lookL σ1.own L = some x → γ.rw L = some g → w1.heap[g]? = w.heap[g]? ∧ q ≠ some g := fun L x g hx hg => by
    obtain ⟨h1, h2⟩ := hown1 L x hx
    have hlt := (h.row_lt (hsome h1) hg).1
    have hne : ∀ t, s = some t → γ.rw (.s t) ≠ some g := fun t ht e => by
      obtain ⟨es, rs, h3, _⟩ := hs t ht
      exact h2 t ht (h.rowinj L (.s t) g (hsome h1) (hsome h3) hg e)
    refine ⟨hb g hlt hne, fun e => ?_⟩
    rcases hq g e with hge | ⟨t, ht, hgt⟩
    · omega
    · exact hne t ht hgt
  have hboxes : ∀ k, (look σ.box k).isSome → w1.heap[γ.bx k]? = w.heap[γ.bx k]? ∧ q ≠ some (γ.bx k) := fun k hk => by
    have hlt := (h.box_lt hk).1
    have hne : ∀ t, s = some t → γ.rw (.s t) ≠ some (γ.bx k) := fun t ht e => by
      obtain ⟨es, rs, h3, _⟩ := hs t ht
      exact h.rowbox (.s t) k _ (hsome h3) hk e rfl
    refine ⟨hb _ hlt hne, fun e => ?_⟩
    rcases hq _ e with hge | ⟨t, ht, hgt⟩
    · omega
    · exact hne t ht hgt
  have hrw : ∀ L, L ≠ .s d → (γ.setRow (.s d) q).rw L = γ.rw L := fun L hL => by simp [Gh.setRow, hL]
  have hrwd : (γ.setRow (.s d) q).rw (.s d) = q := by simp [Gh.setRow]
  have hmut : ∀ p, ¬ σ.mut γ p → ¬ (q = some p.block ∧ rows.length * sz ≤ p.off) → ¬ (σ1.putOwn d sz rows e).mut (γ.setRow (.s d) q) p := fun p hm hp hm' => by
    rcases hm' with ⟨k, cs, hk, hpk⟩ | ⟨L, e', sz', rows', h1, h2, h3, h4⟩ | hx
    · exact hm (.inl ⟨k, cs, by rw [← hbox]; exact hk, hpk⟩)
    rotate_left
    · exact hm (.inr (.inr (by rw [← hext]; exact hx)))
    · by_cases hL : L = .s d
      · subst hL
        rw [avAt_putOwn, if_pos rfl] at h2
        rw [hrwd] at h3
        cases h2
        exact hp ⟨h3, h4⟩
      · rw [lookL_putOwn, if_neg hL] at h1
        rw [avAt_putOwn, if_neg hL, hav1] at h2
        rw [hrw L hL] at h3
        exact hm (.inr (.inl ⟨L, e', sz', rows', (hown1 L _ h1).1, h2, h3, h4⟩))
  have hcellkeep : ∀ p v, F.w0.heap.size ≤ p.block → ¬ σ.mut γ p → w.cell? p = some v → w1.cell? p = some v ∧ ¬ (q = some p.block ∧ rows.length * sz ≤ p.off) := fun p v hB hm hc => by
    have hlt := Rel.cell_lt hc
    by_cases hp : ∃ t, s = some t ∧ γ.rw (.s t) = some p.block
    · obtain ⟨t, ht, hg⟩ := hp
      obtain ⟨es, rs, h3, h4, h5, h6⟩ := hs t ht
      have hoff : p.off < rs.length * es.2 := by
        rcases Nat.lt_or_ge p.off (rs.length * es.2) with h7 | h7
        · exact h7
        · exact absurd (.inr (.inl ⟨.s t, es.1, es.2, rs, h3, h4, hg, h7⟩)) hm
      have hsp : p = ⟨p.block, p.off, none⟩ := by
        obtain ⟨pb, po, ps⟩ := p
        cases ps with
        | none => rfl
        | some x => simp [World.cell?] at hc; split at hc <;> simp at hc
      refine ⟨?_, fun e => by omega⟩
      rw [hsp, h6 p.block hg p.off hoff, ← hsp]
      exact hc
    · have hne : ∀ t, s = some t → γ.rw (.s t) ≠ some p.block := fun t ht hg => hp ⟨t, ht, hg⟩
      refine ⟨(World.cell?_of_block (w := w) (hb p.block hlt hne)).trans hc, fun e => ?_⟩
      rcases hq _ e.1 with hge | ⟨t, ht, hgt⟩
      · omega
      · exact hne t ht hgt
  have hle : ∀ p v, rdr F.R0 F.w0.heap.size σ γ w p = some v → rdr F.R0 F.w0.heap.size (σ1.putOwn d sz rows e) (γ.setRow (.s d) q) w1 p = some v :=
    rdr_le fun p v hB hm hc => by
      obtain ⟨h1, h2⟩ := hcellkeep p v hB hm hc
      exact ⟨hmut p hm h2, h1⟩
  have hblk : ∀ b, σ.ext.foot b ∨ σ.ext.froz b → w1.heap[b]? = w.heap[b]? ∧ q ≠ some b := fun b hbf => by
    obtain ⟨h1, h2, h3, h4⟩ := h.extf b hbf
    have hne : ∀ t, s = some t → γ.rw (.s t) ≠ some b := fun t ht => by
      obtain ⟨es, rs, h5, _⟩ := hs t ht
      exact h4 (.s t) (hsome h5)
    refine ⟨hb b h2 hne, fun e => ?_⟩
    rcases hq b e with hge | ⟨t, ht, hgt⟩
    · omega
    · exact hne t ht hgt
  have hexth : (σ1.putOwn d sz rows e).ext.holds w1 := by
    show σ1.ext.holds w1
    rw [hext]
    exact σ.ext.stable (fun b hbf => (hblk b hbf).1) h.exth
  have hextf : ∀ b, (σ1.putOwn d sz rows e).ext.foot b ∨ (σ1.putOwn d sz rows e).ext.froz b → F.w0.heap.size ≤ b ∧ b < w1.heap.size ∧ (∀ k, (look (σ1.putOwn d sz rows e).box k).isSome → (γ.setRow (.s d) q).bx k ≠ b) ∧ (∀ L, (lookL (σ1.putOwn d sz rows e).own L).isSome → (γ.setRow (.s d) q).rw L ≠ some b) := fun b hbf => by
    have hbf' : σ.ext.foot b ∨ σ.ext.froz b := by rw [← hext]; exact hbf
    obtain ⟨h1, h2, h3, h4⟩ := h.extf b hbf'
    refine ⟨h1, by omega, fun k hk => h3 k (by rw [← hbox]; exact hk), fun L hL => ?_⟩
    by_cases hLd : L = .s d
    · rw [hLd, hrwd]; exact (hblk b hbf').2
    · obtain ⟨x, hx⟩ := Option.isSome_iff_exists.1 hL
      rw [lookL_putOwn, if_neg hLd] at hx
      rw [hrw L hLd]
      exact h4 L (hsome (hown1 L _ hx).1)
  have hd' : d < a.tmps.size := by rw [h.size]; exact hd
  refine ⟨by rw [defers_put]; exact h.defers, by rw [size_put]; exact h.size, h.below.trans ⟨hos, htp, hou, hsz, fun k hk => hb k (Nat.lt_of_lt_of_le hk h.base) fun t ht e => by
      obtain ⟨es, rs, h3, _⟩ := hs t ht
      have := (h.row_lt (hsome h3) e).2
      omega⟩, h.r0, fun t y hy => ?_, fun k cs hk => ?_, fun k k' hk hk' => ?_, fun L e' sz' hL => ?_, fun L L' g hL hL' hg hg' => ?_, fun L k g hL hk hg => ?_, hexth, hextf, h.small, fun k hk => h.dyn k (by rw [← hbox]; exact hk)⟩
  · simp only [St.putOwn, look_cons] at hy
    rw [getD_put hd']
    by_cases hdt : d = t
    · rw [if_pos hdt] at hy ⊢
      cases hy
      refine ⟨RepP.mono (fun p v hp => ?_) hrep, fun k hk => by cases hk⟩
      by_cases hr : (rdr F.R0 F.w0.heap.size σ γ w p).isSome
      · rw [if_pos hr] at hp; exact hle p v hp
      · rw [if_neg hr] at hp
        have hnB : ¬ p.block < F.w0.heap.size := fun hB => by
          have hplt : p.block < w.heap.size := Nat.lt_of_lt_of_le hB h.base
          by_cases hqp : q = some p.block ∧ p.off < rows.length * sz
          · rw [hqp.1] at hv
            have := hv.lt.1
            omega
          · rw [if_neg hqp, if_pos (.inl hplt)] at hp; cases hp
        unfold rdr
        rw [if_neg hnB]
        by_cases hqp : q = some p.block ∧ p.off < rows.length * sz
        · rw [if_pos hqp] at hp
          rw [if_neg ?_]
          · exact hp
          · rintro (⟨k, cs, hk, hpk⟩ | ⟨L, e', sz', rows', h1, h2, h3, h4⟩ | hx)
            rotate_left 2
            · exact (hblk p.block (.inl (by rw [← hext]; exact hx))).2 hqp.1
            · have hk' : look σ.box k = some cs := by rw [← hbox]; exact hk
              exact (hboxes k (by rw [hk']; rfl)).2 (by rw [hqp.1, hpk]; rfl)
            · by_cases hL : L = .s d
              · subst hL
                rw [avAt_putOwn, if_pos rfl] at h2
                cases h2
                omega
              · rw [lookL_putOwn, if_neg hL] at h1
                rw [hrw L hL] at h3
                exact (hother L _ _ h1 h3).2 hqp.1
        · rw [if_neg hqp] at hp
          by_cases hpp : p.block < w.heap.size ∨ q = some p.block
          · rw [if_pos hpp] at hp; cases hp
          · rw [if_neg hpp] at hp
            rw [if_neg ?_]
            · exact hp
            · refine hmut p ?_ (fun e => hpp (.inr e.1))
              rintro (⟨k, cs, hk, hpk⟩ | ⟨L, e', sz', rows', h1, h2, h3, h4⟩ | hx)
              rotate_left 2
              · exact hpp (.inl (h.extf p.block (.inl hx)).2.1)
              · have := (h.box_lt (k := k) (by rw [hk]; rfl)).1
                exact hpp (.inl (by omega))
              · have := (h.row_lt (hsome h1) h3).1
                exact hpp (.inl this)
    · rw [if_neg hdt, hslot] at hy
      rw [if_neg hdt]
      obtain ⟨h1, h2⟩ := h.slots t y hy
      exact ⟨h1.mono hle (fun _ _ => rfl), fun k hk => by
        show (look σ1.box k).isSome
        rw [hbox]; exact h2 k hk⟩
  · have hk' : look σ.box k = some cs := by rw [← hbox]; exact hk
    obtain ⟨us, ty, h1, h2, h3⟩ := h.boxes k cs hk'
    exact ⟨us, ty, (hboxes k (by rw [hk']; rfl)).1.trans h1, h2, h3.mono hle⟩
  · exact h.boxinj k k' (by rw [← hbox]; exact hk) (by rw [← hbox]; exact hk')
  · by_cases hLd : L = .s d
    · subst hLd
      rw [lookL_putOwn, if_pos rfl] at hL
      cases hL
      exact ⟨rows, v, by rw [avAt_putOwn, if_pos rfl], by simp only [valAt, getD_put hd', if_pos], by rw [hrwd]; exact hv⟩
    · rw [lookL_putOwn, if_neg hLd] at hL
      obtain ⟨hL0, _⟩ := hown1 L _ hL
      obtain ⟨rows', v', h1, h2, h3⟩ := h.owns L e' sz' hL0
      refine ⟨rows', v', by rw [avAt_putOwn, if_neg hLd, hav1]; exact h1, ?_, by rw [hrw L hLd]; exact h3.keep fun g hg => (hother L _ g hL hg).1⟩
      cases L with
      | s t =>
        have : d ≠ t := fun e => hLd (by rw [e])
        simp only [valAt, getD_put hd', if_neg this]
        exact h2
      | b k off =>
        have hk : (look σ.box k).isSome := by
          cases hk : look σ.box k with
          | none => simp [St.avAt, hk] at h1
          | some cs => rfl
        exact (World.cell?_of_block (w := w) (a := ⟨γ.bx k, off, none⟩) (hboxes k hk).1).trans h2
  · obtain ⟨x, hx⟩ := Option.isSome_iff_exists.1 hL
    obtain ⟨x', hx'⟩ := Option.isSome_iff_exists.1 hL'
    by_cases h1 : L = .s d <;> by_cases h2 : L' = .s d
    · rw [h1, h2]
    · subst h1
      rw [lookL_putOwn, if_neg h2] at hx'
      rw [hrwd] at hg
      rw [hrw L' h2] at hg'
      exact absurd hg (hother L' _ g hx' hg').2
    · subst h2
      rw [lookL_putOwn, if_neg h1] at hx
      rw [hrwd] at hg'
      rw [hrw L h1] at hg
      exact absurd hg' (hother L _ g hx hg).2
    · rw [lookL_putOwn, if_neg h1] at hx
      rw [lookL_putOwn, if_neg h2] at hx'
      rw [hrw L h1] at hg
      rw [hrw L' h2] at hg'
      exact h.rowinj L L' g (hsome (hown1 L _ hx).1) (hsome (hown1 L' _ hx').1) hg hg'
  · obtain ⟨x, hx⟩ := Option.isSome_iff_exists.1 hL
    have hk' : (look σ.box k).isSome := by rw [← hbox]; exact hk
    by_cases h1 : L = .s d
    · subst h1
      rw [hrwd] at hg
      exact fun e => (hboxes k hk').2 (by rw [hg, e]; rfl)
    · rw [lookL_putOwn, if_neg h1] at hx
      rw [hrw L h1] at hg
      exact h.rowbox L k g (hsome (hown1 L _ hx).1) hk' hg

end Av
end Go.Proofs.Ytkdigdnacggknaa
/- Abstract states: what an operation without effects yields, and that the machine yields it. Generic. -/
namespace Go.Proofs.Ytkdigdnacggknaa
open Go.RowKit
namespace Av

theorem RepA.free {R : Reader} {bx bx' : Nat → Nat} {x : AV} {u : Value} (hx : x.refs = []) (h : RepA R bx x u) : RepA R bx' x u :=
  h.mono (fun _ _ hp => hp) (fun k hk => by rw [hx] at hk; cases hk)

/-- A call's result: what it is; whether the caller owns the row (elements of that type). -/
structure FRes where
  av : AV
  own : Option TypeId := none
def fresh (R : Reader) (w w' : World) (q : Option Nat) (m : Nat) : Reader := fun p => if p.block < w.heap.size then R p else if q = some p.block ∧ m ≤ p.off then none else w'.cell? p
def ResRep (R : Reader) (w w' : World) (res : FRes) (u : Value) : Prop :=
  match res.own, res.av with
  | some e, .sl sz rows => ∃ q, OwnV w' w.heap.size e sz rows.length u q ∧ RepP (fresh R w w' q (rows.length * sz)) (.sl sz rows) u
  | some _, _ => False
  | none, x => x.refs = [] ∧ RepA (fresh R w w' none 0) (fun _ => 0) x u
inductive RepAL (R : Reader) : List AV → List Value → Prop
  | nil : RepAL R [] []
  | cons {x : AV} {u : Value} {xs : List AV} {us : List Value} (h : RepA R (fun _ => 0) x u) (hr : x.refs = []) (t : RepAL R xs us) : RepAL R (x :: xs) (u :: us)
theorem RepAL.append {R : Reader} {ps qs : List AV} {us vs : List Value} (h : RepAL R ps us) (h' : RepAL R qs vs) : RepAL R (ps ++ qs) (us ++ vs) := by
  induction h with
  | nil => exact h'
  | cons h hr _ ih => exact .cons h hr ih
def Enters (P : Program) (f : FuncId) : Prop := ∃ fn c, P.funcs[f]? = some fn ∧ (fn.name == "runtime.NumGoroutine") = false ∧ fn.body = some c
/-- Called with such arguments the function returns this, and leaves what was there. -/
def FnOK (P : Program) (f : FuncId) (args : List AV) (res : FRes) : Prop :=
  Enters P f ∧ ∀ (w : World) (R : Reader), (∀ p v, R p = some v → w.cell? p = some v) → ∀ us, RepAL R args us →
    Calls P f us.toArray w fun e w' => ∃ u, e = .returned u ∧ Below w.heap.size w w' ∧ ResRep R w w' res u

structure HR where
  av : AV
  box : Option (List PV) := none
  own : Option TypeId := none
def St.res (σ : St) (d : Nat) (r : HR) : St :=
  match r.own with
  | some e => match r.av with
    | .sl sz rows => σ.putOwn d sz rows e
    | x => σ.put d x
  | none => match r.box with
    | some cs => (σ.addBox d cs).put d r.av
    | none => σ.put d r.av

def evo (g : Nat → Option AV) : Operand → Option AV
  | .tmp t => g t
  | .const v => some (.v v)
  | .func f => some (.clo f [])
  | .global _ => none
def evos (g : Nat → Option AV) : List Operand → Option (List AV)
  | [] => some []
  | x :: l => match evo g x, evos g l with
    | some v, some vs => some (v :: vs)
    | _, _ => none
def avCells : AV → Option (List PV)
  | .v u => if u.oneCell' = true then some [.v u] else none
  | .sl sz rows => some [.sl sz rows]
  | .agg xs => some xs
  | _ => none
def snapCaps (bx : Nat → Option (List PV)) : List (Nat × Nat) → Option (List (List PV))
  | [] => some []
  | c :: l => match bx c.1, snapCaps bx l with
    | some cs, some r => some (cs.drop c.2 :: r)
    | _, _ => none
/-- A datum as a callee takes it: pointers into boxes are pointers to what these hold now. -/
def snap (bx : Nat → Option (List PV)) : AV → Option AV
  | .ref k off => (bx k).map fun cs => .ept (cs.drop off)
  | .clo f caps => (snapCaps bx caps).map (.fnv f)
  | .tup _ => none
  | x => some x
def snaps (bx : Nat → Option (List PV)) : List AV → Option (List AV)
  | [] => some []
  | x :: l => match snap bx x, snaps bx l with
    | some v, some vs => some (v :: vs)
    | _, _ => none
def AV.lit : AV → Bool
  | .v _ => true
  | .tup vs => vs.all fun | .c (.v _) => true | _ => false
  | _ => false
def capRefs (g : Nat → Option AV) : List Operand → Option (List (Nat × Nat))
  | [] => some []
  | x :: l => match evo g x, capRefs g l with
    | some (.ref k off), some r => some ((k, off) :: r)
    | _, _ => none

def abin (op : BinOp) : Value → Value → Option Value
  | .int k a, .int k' b => if k = k' then (match op with
    | .add => some (.int k (k.wrap (a + b)))
    | .sub => some (.int k (k.wrap (a - b)))
    | .mul => some (.int k (k.wrap (a * b)))
    | .quo => if b = 0 then none else some (.int k (k.wrap (a.tdiv b)))
    | .rem => if b = 0 then none else some (.int k (a.tmod b))
    | .eql => some (.bool (a == b))
    | .neq => some (.bool (a != b))
    | .lss => some (.bool (decide (a < b)))
    | .leq => some (.bool (decide (a ≤ b)))
    | .gtr => some (.bool (decide (b < a)))
    | .geq => some (.bool (decide (b ≤ a)))
    | _ => none) else none
  | .string a, .string b => match op with
    | .eql => some (.bool (a.toList == b.toList))
    | .neq => some (.bool !(a.toList == b.toList))
    | .lss => some (.bool (Op.bytesLess a.toList b.toList))
    | _ => none
  | _, _ => none
def aun (op : UnOp) : Value → Option Value
  | .bool b => match op with
    | .not => some (.bool !b)
    | _ => none
  | .int k a => match op with
    | .neg => some (.int k (k.wrap (0 - a)))
    | _ => none
  | _ => none
def lenOfB (b : Option Nat) : Nat := b.getD 0
def loadK (P : Program) (T : TypeId) (row : List PV) (K : HR → Prop) : Prop :=
  ∃ d n, P.underlying T = some d ∧ (P.info? T).map (·.size) = some n ∧
    if d.isRow = true then n ≤ row.length ∧ K ⟨.agg (row.take n), none, none⟩ else ∃ p, row[0]? = some p ∧ K ⟨p.av, none, none⟩
def bound (g : Nat → Option AV) (dflt : Nat) : Option Operand → Nat → Prop
  | none, n => n = dflt
  | some x, n => ∃ k i, evo g x = some (.v (.int k i)) ∧ 0 ≤ i ∧ n = i.toNat
theorem arr_of {α : Type} {a : Array α} {l : List α} (h : a.toList = l) : a = l.toArray := by rw [← h]
def hopB (P : Program) (g : Nat → Option AV) (b : Builtin) (args : Array Operand) (ats : Array TypeId) (K : HR → Prop) : Prop :=
  match b with
  | .len => ∃ x T, args.toList = [x] ∧ ats.toList = [T] ∧ ((∃ sz rows e, evo g x = some (.sl sz rows) ∧ P.underlying T = some (.slice e) ∧ K ⟨.v (.int .i64 rows.length), none, none⟩) ∨
      (∃ s, evo g x = some (.v (.string s)) ∧ P.underlying T = some .string ∧ K ⟨.v (.int .i64 s.size), none, none⟩) ∨
      (∃ A n c e, evo g x = some (.v (.slice A n c)) ∧ P.underlying T = some (.slice e) ∧ K ⟨.v (.int .i64 n), none, none⟩))
  | .max => ∃ x y k u v, args.toList = [x, y] ∧ evo g x = some (.v (.int k u)) ∧ evo g y = some (.v (.int k v)) ∧ K ⟨.v (.int k (if u < v then v else u)), none, none⟩
  | .min => ∃ x y k u v, args.toList = [x, y] ∧ evo g x = some (.v (.int k u)) ∧ evo g y = some (.v (.int k v)) ∧ K ⟨.v (.int k (if v < u then v else u)), none, none⟩
  | _ => False
def hopF (P : Program) (g : Nat → Option AV) (bx : Nat → Option (List PV)) (f : Operand) (args : Array Operand) (K : HR → Prop) : Prop :=
  ∃ fv fid caps avs avs' res, evo g f = some fv ∧ snap bx fv = some (.fnv fid caps) ∧ evos g args.toList = some avs ∧ snaps bx avs = some avs' ∧ FnOK P fid (avs' ++ caps.map AV.ept) res ∧
    (((fv :: avs).all fun x => x.refs.isEmpty) = true ∨ (res.av.lit = true ∧ res.own = none)) ∧ K ⟨res.av, none, res.own⟩
def hopCall (P : Program) (g : Nat → Option AV) (bx : Nat → Option (List PV)) (c : Call) (K : HR → Prop) : Prop :=
  match c.callee with
  | .builtin b => hopB P g b c.args c.argTypes K
  | .value f => hopF P g bx f c.args K
  | .invoke _ _ => False
/-- A pointer that is not nil. -/
def ptrB : AV → Bool
  | .ref _ _ => true
  | .ept _ => true
  | .v (.pointer (some _)) => true
  | _ => false
/-- The operation yields such a result: in slots g and boxes bx. -/
def hop (P : Program) (g : Nat → Option AV) (bx : Nat → Option (List PV)) (o : Oper) (K : HR → Prop) : Prop :=
  match o.op with
  | .move x | .assign x => ∃ v, evo g x = some v ∧ K ⟨v, none, none⟩
  | .pick c a b => ∃ t v, evo g c = some (.v (.bool t)) ∧ evo g (if t = true then a else b) = some v ∧ K ⟨v, none, none⟩
  | .box _ x => ∃ v cs d, evo g x = some v ∧ avCells v = some cs ∧ o.dst = some d ∧ bx d = none ∧ K ⟨.ref d 0, some cs, none⟩
  | .alloc T => ∃ z d, (P.info? T).map (·.zero) = some (some z) ∧ (z.cells.toList.all (·.oneCell')) = true ∧ o.dst = some d ∧ bx d = none ∧ K ⟨.ref d 0, some (z.cells.toList.map .v), none⟩
  | .load T x => match evo g x with
    | some (.ref k off) => ∃ cs, bx k = some cs ∧ loadK P T (cs.drop off) K
    | some (.ept row) => loadK P T row K
    | _ => False
  | .fieldAddr T x i => ∃ fs f n, P.underlying T = some (.struct fs) ∧ fs[i]? = some f ∧ (P.info? f.type).map (·.size) = some n ∧ 0 < n ∧ (match evo g x with
    | some (.ref k off) => K ⟨.ref k (off + f.offset), none, none⟩
    | some (.ept row) => K ⟨.ept (row.drop f.offset), none, none⟩
    | _ => False)
  | .field T x i => ∃ fs f d n xs, P.underlying T = some (.struct fs) ∧ fs[i]? = some f ∧ P.underlying f.type = some d ∧ (P.info? f.type).map (·.size) = some n ∧ evo g x = some (.agg xs) ∧
      if d.isRow = true then K ⟨.agg ((xs.drop f.offset).take n), none, none⟩ else ∃ p, xs[f.offset]? = some p ∧ K ⟨p.av, none, none⟩
  | .indexAddr T x ix => ∃ k i, evo g ix = some (.v (.int k i)) ∧ 0 ≤ i ∧ (match P.underlying T with
    | some (.slice e) => ∃ sz rows row, evo g x = some (.sl sz rows) ∧ (P.info? e).map (·.size) = some sz ∧ rows[i.toNat]? = some row ∧ K ⟨.ept row, none, none⟩
    | some (.array n e) => ∃ sz, (P.info? e).map (·.size) = some sz ∧ i < n ∧ (match evo g x with
      | some (.ref k off) => K ⟨.ref k (off + i.toNat * sz), none, none⟩
      | some (.ept row) => K ⟨.ept (row.drop (i.toNat * sz)), none, none⟩
      | _ => False)
    | _ => False)
  | .slice T x lo hi mx => mx = none ∧ match P.underlying T with
    | some (.slice e) => ∃ sz rows l h, evo g x = some (.sl sz rows) ∧ (P.info? e).map (·.size) = some sz ∧ bound g 0 lo l ∧ bound g rows.length hi h ∧ l ≤ h ∧ h ≤ rows.length ∧ K ⟨.sl sz ((rows.take h).drop l), none, none⟩
    | some .string => ∃ s l h, evo g x = some (.v (.string s)) ∧ bound g 0 lo l ∧ bound g s.size hi h ∧ l ≤ h ∧ h ≤ s.size ∧ K ⟨.v (.string (s.extract l h)), none, none⟩
    | _ => False
  | .index T x ix => ∃ k i s c, evo g ix = some (.v (.int k i)) ∧ 0 ≤ i ∧ P.underlying T = some .string ∧ evo g x = some (.v (.string s)) ∧ s.data[i.toNat]? = some c ∧ K ⟨.v (.int .u8 (c.toNat : Nat)), none, none⟩
  | .binOp op _ x y _ => ∃ u v r, evo g x = some (.v u) ∧ evo g y = some (.v v) ∧ abin op u v = some r ∧ K ⟨.v r, none, none⟩
  | .unOp op _ x => ∃ u r, evo g x = some (.v u) ∧ aun op u = some r ∧ K ⟨.v r, none, none⟩
  | .makeInterface T x => ∃ u, evo g x = some (.v u) ∧ P.concrete T = true ∧ K ⟨.v (.iface T u), none, none⟩
  | .makeFunc fn first caps => ∃ f cs, fn = .func f ∧ first = #[] ∧ capRefs g caps.toList = some cs ∧ K ⟨.clo f cs, none, none⟩
  | .extract x i => ∃ vs c, evo g x = some (.tup vs) ∧ vs[i]? = some c ∧ K ⟨c.av, none, none⟩
  | .call c => hopCall P g bx c K
  | .nilCheck x => ∃ v, evo g x = some v ∧ ptrB v = true ∧ K ⟨v, none, none⟩
  | _ => False

end Av
end Go.Proofs.Ytkdigdnacggknaa
/- Abstract states: the machine yields what an operation yields abstractly. Generic. -/
namespace Go.Proofs.Ytkdigdnacggknaa
open Go.RowKit
namespace Av

theorem Rel.cell {F : Fr} {σ : St} {γ : Gh} {a : Act} {w : World} (h : Rel F σ γ a w) {p : Addr} {v : Value} (hp : rdr F.R0 F.w0.heap.size σ γ w p = some v) : w.cell? p = some v := by
  unfold rdr at hp
  by_cases hB : p.block < F.w0.heap.size
  · rw [if_pos hB] at hp
    exact (h.below.cell hB).trans (h.r0 _ _ hp)
  · rw [if_neg hB] at hp
    by_cases hm : σ.mut γ p
    · rw [if_pos hm] at hp; cases hp
    · rw [if_neg hm] at hp; exact hp
theorem evo_ok {F : Fr} {σ : St} {γ : Gh} {a : Act} {w : World} (h : Rel F σ γ a w) {g : Nat → Option AV} {x : Operand} {v : AV} (hg : ∀ t y, x = .tmp t → g t = some y → look σ.slot t = some y) (he : evo g x = some v) :
    RepA (rdr F.R0 F.w0.heap.size σ γ w) γ.bx v (a.eval x) ∧ ∀ k ∈ v.refs, (look σ.box k).isSome := by
  cases x with
  | tmp t => exact h.slots t v (hg t v rfl he)
  | const u => cases he; exact ⟨rfl, fun k hk => by cases hk⟩
  | func f => cases he; exact ⟨rfl, fun k hk => by cases hk⟩
  | global g => cases he
section
variable {P : Program}
theorem info_some {α : Type} {f : TypeInfo → α} {T : TypeId} {x : α} (h : (P.info? T).map f = some x) : ∃ i, P.info? T = some i ∧ f i = x := by
  cases hi : P.info? T with
  | none => rw [hi] at h; cases h
  | some i => rw [hi] at h; exact ⟨i, rfl, by simpa using h⟩
theorem run_load_one (w : World) (b o : Nat) (T : TypeId) (d : TypeDesc) (v : Value) (hc : w.cell? ⟨b, o, none⟩ = some v) (hu : P.underlying T = some d) (hd : d.isRow = false) :
    (Instr.loadAt T (.pointer (some ⟨b, o, none⟩))).run P w = .ok v w := by
  have hagg : (isAgg T).run P w = .ok false w := by
    unfold isAgg
    rw [Sem.run_bind, run_underlying hu w]
    cases d <;> simp_all
  simp [Instr.loadAt, Instr.sureAddr, loadVar, Sem.run_bind, hagg, load, Sem.run, hc]
end
/-- Where the operation's value comes from. -/
def src (P : Program) (g : Nat → Option AV) (o : Oper) : Option Loc :=
  match o.op with
  | .move (.tmp s) | .assign (.tmp s) => some (.s s)
  | .load T (.tmp p) => match g p, P.underlying T with
    | some (.ref k off), some d => if d.isRow = true then none else some (.b k off)
    | _, _ => none
  | _ => none
section
variable {P : Program} {F : Fr} {σ : St} {γ : Gh} {a : Act} {w : World} {o : Oper} {Q : Exit → Act → World → Prop} {d : Nat}
theorem Rel.boxcell (h : Rel F σ γ a w) {k off : Nat} (hk : (look σ.box k).isSome) (hoff : ∀ cs, look σ.box k = some cs → off < cs.length) : ∃ v, w.cell? ⟨γ.bx k, off, none⟩ = some v := by
  obtain ⟨cs, hk⟩ := Option.isSome_iff_exists.1 hk
  obtain ⟨us, ty, h1, _, h3⟩ := h.boxes k cs hk
  have := hoff cs hk
  have hl := h3.length
  exact ⟨us[off], by rw [cell_of_row w _ off _ ty (0, 0) h1]; simp [show off < us.length by omega]⟩
/-- One operation's step. -/
def Stp (P : Program) (F : Fr) (σ : St) (γ : Gh) (a : Act) (w : World) (o : Oper) (d : Nat) (σ' : St) : Act → World → Prop := fun a' w' =>
  ∃ γ' u, a' = a.put (some d) u ∧ Below w.heap.size w w' ∧ (∀ k, (look σ.box k).isSome → γ'.bx k = γ.bx k) ∧ Rel F σ' γ' a' w' ∧
    ∀ g S, (∀ t y, Operand.tmp t ∈ o.op.operands.toList → g t = some y → look σ.slot t = some y) → src P g o = some S → valAt a w γ S = some u ∨ valAt a w γ S = none
theorem src_val (h : Rel F σ γ a w) {g : Nat → Option AV} {S : Loc} {u : Value} (hg : ∀ t y, Operand.tmp t ∈ o.op.operands.toList → g t = some y → look σ.slot t = some y) (hs : src P g o = some S) (hrun : (execOp a.eval o).run P w = .ok (.value u) w) :
    valAt a w γ S = some u ∨ valAt a w γ S = none := by
  unfold src at hs
  split at hs
  · rename_i s ho
    cases hs
    simp only [execOp, ho, Sem.run_pure, Result.ok.injEq, Next.value.injEq, and_true] at hrun
    exact .inl (by rw [← hrun]; rfl)
  · rename_i s ho
    cases hs
    simp only [execOp, ho, Sem.run_pure, Result.ok.injEq, Next.value.injEq, and_true] at hrun
    exact .inl (by rw [← hrun]; rfl)
  · rename_i T p ho
    split at hs
    · rename_i k off d0 h1 h2
      split at hs
      · cases hs
      · rename_i hrow
        cases hs
        have h3 := (h.slots p _ (hg p _ (by rw [ho]; simp [Op.operands]) h1)).1
        have h4 : a.eval (.tmp p) = .pointer (some ⟨γ.bx k, off, none⟩) := h3
        show w.cell? ⟨γ.bx k, off, none⟩ = some u ∨ w.cell? ⟨γ.bx k, off, none⟩ = none
        cases hc : w.cell? ⟨γ.bx k, off, none⟩ with
        | none => exact .inr rfl
        | some v =>
          left
          have h5 := run_load_one (P := P) w (γ.bx k) off T d0 v hc h2 (by simpa using hrow)
          simp only [execOp, ho, h4, Sem.run_bind, h5, Result.andThen_ok, Sem.run_pure, Result.ok.injEq, Next.value.injEq, and_true] at hrun
          rw [hrun]
    · cases hs
  · cases hs
theorem pure_ok (h : Rel F σ γ a w) (hd : o.dst = some d) (hdn : d < F.n) {x : AV} {u : Value} (hrun : (execOp a.eval o).run P w = .ok (.value u) w) (hx : RepA (rdr F.R0 F.w0.heap.size σ γ w) γ.bx x u) (hr : ∀ k ∈ x.refs, (look σ.box k).isSome) :
    o.wp P a w (Stp P F σ γ a w o d (σ.res d ⟨x, none, none⟩)) Q := by
  unfold Oper.wp
  rw [hrun]
  show Stp P F σ γ a w o d (σ.put d x) (a.put o.dst u) w
  rw [hd]
  exact ⟨γ, u, rfl, Below.refl _ _, fun _ _ => rfl, h.put hdn hx hr, fun g S hg hs => src_val h hg hs hrun⟩
theorem box_ok (h : Rel F σ γ a w) (hd : o.dst = some d) (hdn : d < F.n) (hb : look σ.box d = none) {cs : List PV} {us : List Value} {ty : TypeId} (hsrc : ∀ g, src P g o = none)
    (hrun : (execOp a.eval o).run P w = .ok (.value (.pointer (some ⟨w.heap.size, 0, none⟩))) (w.alloc (.cells us.toArray ty))) (hl : RepL (rdr F.R0 F.w0.heap.size σ γ w) cs us) :
    o.wp P a w (Stp P F σ γ a w o d (σ.res d ⟨.ref d 0, some cs, none⟩)) Q := by
  unfold Oper.wp
  rw [hrun]
  show Stp P F σ γ a w o d ((σ.addBox d cs).put d (.ref d 0)) (a.put o.dst _) _
  rw [hd]
  refine ⟨_, _, rfl, (Below.refl _ _).alloc (Nat.le_refl _) _, fun k hk => ?_, (h.addBox (Nat.lt_of_lt_of_le hdn h.small) hb hl ty).put hdn ?_ ?_, fun g S hg hs => by rw [hsrc g] at hs; cases hs⟩
  · have : k ≠ d := fun e => by subst e; rw [hb] at hk; cases hk
    simp [Gh.addBox, this]
  · show _ = Value.pointer (some ⟨(γ.addBox d w.heap.size).bx d, 0, none⟩)
    simp [Gh.addBox]
  · intro k hk
    simp only [AV.refs, List.mem_singleton] at hk
    subst hk
    show (look ((k, cs) :: σ.box) k).isSome
    simp [look_cons]
end
theorem avCells_ok {R : Reader} {bx : Nat → Nat} {x : AV} {u : Value} {cs : List PV} (hx : RepA R bx x u) (hc : avCells x = some cs) : RepL R cs u.cells.toList := by
  cases x with
  | v y =>
    simp only [avCells] at hc
    by_cases h1 : y.oneCell' = true
    · rw [if_pos h1] at hc
      cases hc
      rw [show u = y from hx]
      have : y.cells = #[y] := by cases y <;> first | rfl | cases h1
      rw [this]
      exact .cons (.v y h1) .nil
    · rw [if_neg h1] at hc; cases hc
  | sl sz rows =>
    cases hc
    have hx' : RepP R (.sl sz rows) u := hx
    have h1 := hx'.one
    have : u.cells = #[u] := by cases u <;> first | rfl | cases h1
    rw [this]
    exact .cons hx' .nil
  | agg xs =>
    cases hc
    obtain ⟨us, rfl, h1⟩ := hx
    simpa [Value.cells] using h1
  | tup vs => cases hc
  | ref k off => cases hc
  | ept row => cases hc
  | clo f caps => cases hc
  | fnv f caps => cases hc
section
variable {P : Program}
/-- What lies behind a pointer is loaded. -/
theorem loadK_ok {T : TypeId} {row : List PV} {K : HR → Prop} (h : loadK P T row K) : ∃ x, K ⟨x, none, none⟩ ∧ x.refs = [] ∧
    ∀ (R : Reader) (bx : Nat → Nat) (w : World) (b off : Nat) (us : List Value), RepL R row us → (∀ (i : Nat) (u : Value), us[i]? = some u → w.cell? ⟨b, off + i, none⟩ = some u) →
      ∃ v, (Instr.loadAt T (.pointer (some ⟨b, off, none⟩))).run P w = .ok v w ∧ RepA R bx x v := by
  obtain ⟨d, n, hu, hn, hk⟩ := h
  by_cases hd : d.isRow = true
  · rw [if_pos hd] at hk
    refine ⟨_, hk.2, rfl, fun R bx w b off us hr hc => ?_⟩
    have hl := hr.length
    refine ⟨.agg (us.take n).toArray, ?_, us.take n, rfl, hr.take n⟩
    refine run_loadAt_mid w b off T (us.take n) d (fun j v hv => ?_) hu hd ?_
    · rw [List.getElem?_take] at hv
      split at hv
      · exact hc j v hv
      · cases hv
    · rw [hn, List.length_take, hl, Nat.min_eq_left hk.1]
  · rw [if_neg hd] at hk
    obtain ⟨p, hp, hk⟩ := hk
    have href : p.av.refs = [] := by cases p <;> rfl
    refine ⟨_, hk, href, fun R bx w b off us hr hc => ?_⟩
    obtain ⟨u, hu0, hpu⟩ := hr.get hp
    exact ⟨u, run_load_one w b off T d u (by have := hc 0 u hu0; simpa using this) hu (by simpa using hd), hpu.av⟩
theorem run_field_at (w : World) (T : TypeId) (fs : Array Field) (f : Field) (i n b o : Nat) (hu : P.underlying T = some (.struct fs)) (hf : fs[i]? = some f) (hn : (P.info? f.type).map (·.size) = some (n + 1)) :
    (Instr.fieldAt T (.pointer (some ⟨b, o, none⟩)) i).run P w = .ok (.pointer (some ⟨b, o + f.offset, none⟩)) w := by
  obtain ⟨j, hj, hs⟩ := info_some hn
  simp [Instr.fieldAt, Sem.run_bind, run_underlying hu, hf, Instr.sureAddr, fieldPlace, sizeOf, typeInfo, hj, hs, Addr.add_lit]
theorem run_part (w : World) (T : TypeId) (d : TypeDesc) (n : Nat) (us : List Value) (off : Nat) (hu : P.underlying T = some d) (hn : (P.info? T).map (·.size) = some n) :
    (d.isRow = true → (part T us.toArray off).run P w = .ok (.agg ((us.drop off).take n).toArray) w) ∧ (d.isRow = false → ∀ v, us[off]? = some v → (part T us.toArray off).run P w = .ok v w) := by
  obtain ⟨j, hj, hs⟩ := info_some hn
  constructor
  · intro hd
    have hagg : (isAgg T).run P w = .ok true w := by
      unfold isAgg
      rw [Sem.run_bind, run_underlying hu w]
      cases d <;> simp_all
    simp [part, Sem.run_bind, hagg, sizeOf, typeInfo, hj, hs]
  · intro hd v hv
    have hagg : (isAgg T).run P w = .ok false w := by
      unfold isAgg
      rw [Sem.run_bind, run_underlying hu w]
      cases d <;> simp_all
    simp [part, Sem.run_bind, hagg, hv]
theorem abin_ok {op : BinOp} {u v r : Value} (h : abin op u v = some r) (T : TypeId) (x y : Operand) (w : World) : ((do eqGuard op T x y u v; binOp op T u v) : Sem Value).run P w = .ok r w := by
  unfold abin at h
  split at h
  · split at h
    · rename_i hk
      subst hk
      rw [Sem.run_bind, eqGuard_at_int]
      simp only [Sem.run_pure, Result.andThen_ok]
      cases op <;> simp only [] at h <;> first
        | (cases h; simp [binOp, Op.intArith, Op.intCmp]; done)
        | (split at h
           · cases h
           · rename_i hb; cases h; simp [binOp, Op.intDiv, hb])
        | cases h
    · cases h
  · rw [Sem.run_bind, eqGuard_at_string]
    simp only [Sem.run_pure, Result.andThen_ok]
    cases op <;> simp only [] at h <;> first
      | (cases h; simp [binOp, Op.stringOp]; done)
      | cases h
  · cases h
theorem aun_ok {op : UnOp} {u r : Value} (h : aun op u = some r) (w : World) : (Op.unary op u).run P w = .ok r w := by
  unfold aun at h
  split at h
  · cases op <;> simp only [] at h <;> first | (cases h; rfl) | cases h
  · cases op <;> simp only [] at h <;> first | (cases h; rfl) | cases h
  · cases h
end

end Av
end Go.Proofs.Ytkdigdnacggknaa

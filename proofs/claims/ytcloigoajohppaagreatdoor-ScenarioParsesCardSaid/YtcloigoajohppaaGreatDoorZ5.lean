import Derived.Great.BuildSlice
import Derived.Lib.LaidTab
import Derived.Stop.LaidErr
import Derived.Lay
import Derived.ChangeMaps5
import Derived.ProofKit
import Derived.LaidMore
import Derived.OpenShut
import Derived.Stop.Joined
import Derived.Below
import Derived.Test.YtcloigoajohppaaGreatDoorZ4
import Derived.Test.YtcloigoajohppaaGreatDoorRows
set_option linter.unusedVariables false
set_option linter.unusedSimpArgs false
set_option maxHeartbeats 4000000
/- Parse: what it answers; what has been read is data. -/
namespace Go.Proofs.YtcloigoajohppaaGreatDoor
open Go.RowKit
open Av
open Sc
set_option maxRecDepth 100000
set_option linter.unusedSimpArgs false

def foldP : Nat → Ps → List ByteArray → Ps × Nat × Int
  | _, p, [] => (p, 0, 0)
  | k, p, s :: l => if skipB s then foldP (k + 1) p l else if (stepP p (lineO s)).2 = 0 then foldP (k + 1) (stepP p (lineO s)).1 l else (p, k + 1, (stepP p (lineO s)).2)
theorem linesB_size : ∀ (m : Nat) (s x : ByteArray), x ∈ linesB m s → x.size ≤ s.size
  | 0, s, x, h => by simp [linesB] at h; subst h; exact Nat.le_refl _
  | m + 1, s, x, h => by
    unfold linesB at h
    split at h
    · simp at h; subst h; exact Nat.le_refl _
    · rcases List.mem_cons.1 h with rfl | h
      · rw [ByteArray.size_extract]; omega
      · have := linesB_size m _ x h
        rw [ByteArray.size_extract] at this
        omega
theorem foldP_get {l : List ByteArray} {k : Nat} {s : ByteArray} {p : Ps} (h : l[k]? = some s) : foldP k p (l.drop k) = if skipB s then foldP (k + 1) p (l.drop (k + 1)) else if (stepP p (lineO s)).2 = 0 then foldP (k + 1) (stepP p (lineO s)).1 (l.drop (k + 1)) else (p, k + 1, (stepP p (lineO s)).2) := by
  obtain ⟨hk, rfl⟩ := List.getElem?_eq_some_iff.1 h
  rw [List.drop_eq_getElem_cons hk]
  rfl
def netZ : Nt := ⟨0, [], 0, 0, [], []⟩
def snZ : Sn := ⟨netZ, [], [], 0, 0, [], [], [], [], 0⟩
def rdZ : Rd := ⟨snZ, 0, false, false, false⟩
def psZ : Ps := ⟨rdZ, none⟩
def hdrZ : Hdr := ⟨none, .slice none 0 0, []⟩
def rmZ : RM := ⟨.slice none 0 0, hdrZ, hdrZ, .slice none 0 0, .slice none 0 0, hdrZ, hdrZ, hdrZ, hdrZ, .pointer none⟩
def rxZ : RX := ⟨rdZ, rmZ, ⟨none, .slice none 0 0⟩, ⟨none, .slice none 0 0⟩, ⟨none, .slice none 0 0⟩, [], [], []⟩
theorem okZ : OKX psZ rxZ := ⟨rfl, rfl, rfl, rfl, fun h => absurd rfl h, rfl, ⟨fun _ => ⟨rfl, rfl, rfl⟩, fun h => absurd rfl h, Int.le_refl 0, (by decide), rfl, fun r hr => (by cases hr), rfl⟩⟩

section
variable {R : Reader} {w : World} {e : TypeId} {sz : Nat} {q : Option Nat} {V : Value} {xs : List Value} {rows : List (List PV)}
theorem repP_rows (h : RowsOK w e sz q V xs rows.length) (hr : RowsRd R sz xs rows) (hR : ∀ g, q = some g → ∀ j u, w.cell? ⟨g, j, none⟩ = some u → R ⟨g, j, none⟩ = some u) : RepP R (.sl sz rows) V := by
  cases q with
  | none =>
    obtain ⟨rfl, hn⟩ := h.own
    obtain rfl : rows = [] := List.eq_nil_of_length_eq_zero hn
    exact .sl sz [] none 0 (fun _ _ => undef) (fun k row hk => by simp at hk) (.inl rfl) (fun k row j p hk => by simp at hk) (Nat.le_refl 0)
  | some g =>
    obtain ⟨cap, cur, rfl, _, _, hc, _, _⟩ := h.own
    refine .sl sz rows (some ⟨g, 0, none⟩) cap (fun k j => (xs[k * sz + j]?).getD undef) hr.len (.inr ⟨g, 0, rfl, fun k row j p hk hj => ?_⟩) (fun k row j p hk hj => ?_) hc
    · obtain ⟨x, h1, h2⟩ := hr.rd k row j p hk hj
      rw [h1, Nat.zero_add]
      exact hR g rfl _ _ (h.at_ g rfl _ _ h1)
    · obtain ⟨x, h1, h2⟩ := hr.rd k row j p hk hj
      rw [h1]
      exact h2
theorem rowsE_rep {w : World} (h : (rowsE e sz q V xs rows).holds w) (hr : (rowsE e sz q V xs rows).reads R) (hR : ∀ g, q = some g → ∀ j u, w.cell? ⟨g, j, none⟩ = some u → R ⟨g, j, none⟩ = some u) : RepP R (.sl sz rows) V := repP_rows h hr hR
end
theorem exts_reads : ∀ {l : List Ext} {i : Nat} {X : Ext} {R : Reader}, (exts l).reads R → l[i]? = some X → X.reads R
  | [], _, _, _, _, h => by simp at h
  | E :: l, 0, X, R, hh, h => by simp at h; subst h; exact hh.2
  | E :: l, i + 1, X, R, hh, h => exts_reads (l := l) (i := i) hh.1 (by simpa using h)
theorem exts_foot : ∀ {l : List Ext} {i : Nat} {X : Ext} {b : Nat}, l[i]? = some X → X.foot b → (exts l).foot b
  | [], _, _, _, h, _ => by simp at h
  | E :: l, 0, X, b, h, hb => by simp at h; subst h; exact .inr hb
  | E :: l, i + 1, X, b, h, hb => .inl (exts_foot (l := l) (i := i) (by simpa using h) hb)
theorem rep_sn {R : Reader} {w : World} {b : Nat} {p : Ps} {X : RX} (hX : OKX p X) (h : (exts (pcsX b X)).holds w) (hr : (exts (pcsX b X)).reads R) (hR : ∀ g, (exts (pcsX b X)).foot g → ∀ j u, w.cell? ⟨g, j, none⟩ = some u → R ⟨g, j, none⟩ = some u) :
    RepL R p.R.x.pv ((rvals X.R X.m).take 15) := by
  have row : ∀ (i : Nat) {e : TypeId} {sz : Nat} {q : Option Nat} {V : Value} {xs : List Value} {rows : List (List PV)}, (pcsX b X)[i]? = some (rowsE e sz q V xs rows) → RepP R (.sl sz rows) V := fun i _ _ q _ _ _ hi =>
    rowsE_rep (exts_get h hi) (exts_reads hr hi) fun g hg j u hu => hR g (exts_foot hi hg) j u hu
  have own : ∀ (i : Nat) {e : TypeId} {sz : Nat} {q : Option Nat} {V : Value} {xs : List Value} {rows rows' : List (List PV)}, (pcsX b X)[i]? = some (rowsE e sz q V xs rows) → rows'.length = rows.length → RowsRd R sz xs rows' → RepP R (.sl sz rows') V := fun i _ _ q _ _ _ _ hi hl hrd =>
    repP_rows (by have h1 : RowsOK _ _ _ _ _ _ _ := exts_get h hi; rw [hl]; exact h1) hrd fun g hg j u hu => hR g (exts_foot hi hg) j u hu
  have pw : ∀ a (z : Pz), X.pw[a]? = some z → RepP R (.sl 1 (z.row.map fun n => [ip n])) z.V := fun a z hz => by
    have := row _ (pcsX_row (b := b) hz)
    simpa [List.map_map, Function.comp_def] using this
  have gb : ∀ a (z : Rz), X.bs[a]? = some z → (pcsX b X)[10 + (X.zs.length + a)]? = some z.ext := fun a z hz => by
    rw [pcsX_get]
    unfold dynX
    rw [List.getElem?_append_right (by rw [List.length_map]; omega), List.length_map, show X.zs.length + a - X.zs.length = a by omega,
      List.getElem?_append_left (by rw [List.length_map]; exact (List.getElem?_eq_some_iff.1 hz).1), List.getElem?_map, hz]
    rfl
  have gz : ∀ a (z : Rz), X.zs[a]? = some z → (pcsX b X)[10 + a]? = some z.ext := fun a z hz => by
    rw [pcsX_get]
    unfold dynX
    rw [List.getElem?_append_left (by rw [List.length_map]; exact (List.getElem?_eq_some_iff.1 hz).1), List.getElem?_map, hz]
    rfl
  have rq : ∀ (l : List Rz), (∀ z ∈ l, RepP R (.sl 1 (rsR z.rs)) z.V) → RowsRd R 7 ((l.map Rz.vals).flatten) ((l.map Rz.rq).map Rq.pv) := fun l hl => by
    refine ⟨fun k row hk => ?_, fun k row j p' hk hj => ?_⟩
    · rw [List.getElem?_map, List.getElem?_map] at hk
      cases hz : l[k]? with
      | none => rw [hz] at hk; cases hk
      | some z => rw [hz] at hk; cases hk; rfl
    · rw [List.getElem?_map, List.getElem?_map] at hk
      cases hz : l[k]? with
      | none => rw [hz] at hk; cases hk
      | some z =>
        rw [hz] at hk
        cases hk
        have hrep : RepL R (Rq.pv z.rq) z.vals := .cons (.v _ rfl) (.cons (.v _ rfl) (.cons (.v _ rfl) (.cons (.v _ rfl) (.cons (.v _ rfl) (.cons (.v _ rfl) (.cons (hl z (List.mem_of_getElem? hz)) .nil))))))
        obtain ⟨x, h1, h2⟩ := hrep.get hj
        exact ⟨x, flat_get (fun r hr' => by obtain ⟨y, _, rfl⟩ := List.mem_map.1 hr'; rfl) (by rw [List.getElem?_map, hz]; rfl) h1, h2⟩
  have hpw : RepP R (.sl 1 (rsR p.R.x.net.power)) X.hp.V := by
    refine own 7 (rows := (X.pw.map fun x => [x.V]).map fun r => r.map PV.v) (xs := (X.pw.map fun x => [x.V]).flatten) rfl (by unfold rsR; rw [← hX.pw]; simp) ?_
    rw [← hX.pw]
    unfold rsR
    refine ⟨fun k row hk => ?_, fun k row j p' hk hj => ?_⟩
    · rw [List.getElem?_map, List.getElem?_map] at hk
      cases hz : X.pw[k]? with
      | none => rw [hz] at hk; cases hk
      | some z => rw [hz] at hk; cases hk; rfl
    · rw [List.getElem?_map, List.getElem?_map] at hk
      cases hz : X.pw[k]? with
      | none => rw [hz] at hk; cases hk
      | some z =>
        rw [hz] at hk
        cases hk
        have hrep : RepL R [PV.sl 1 (z.row.map fun n => [ip n])] [z.V] := .cons (pw k z hz) .nil
        obtain ⟨x, h1, h2⟩ := hrep.get hj
        exact ⟨x, flat_get (sz := 1) (fun r hr' => by obtain ⟨y, _, rfl⟩ := List.mem_map.1 hr'; rfl) (by rw [List.getElem?_map, hz]; rfl) h1, h2⟩
  have hbf : RepP R (.sl 7 (p.R.x.before.map Rq.pv)) X.hb.V := by
    refine own 8 (rows := (X.bs.reverse.map Rz.vals).map fun r => r.map PV.v) (xs := (X.bs.reverse.map Rz.vals).flatten) rfl (by rw [← hX.bs]; simp) ?_
    rw [← hX.bs]
    refine rq _ fun z hz => ?_
    obtain ⟨a, ha⟩ := List.getElem?_of_mem (List.mem_reverse.1 hz)
    exact row _ (gb a z ha)
  have haf : RepP R (.sl 7 (p.R.x.after.map Rq.pv)) X.ha.V := by
    refine own 9 (rows := (X.zs.reverse.map Rz.vals).map fun r => r.map PV.v) (xs := (X.zs.reverse.map Rz.vals).flatten) rfl (by rw [← hX.zs]; simp) ?_
    rw [← hX.zs]
    refine rq _ fun z hz => ?_
    obtain ⟨a, ha⟩ := List.getElem?_of_mem (List.mem_reverse.1 hz)
    exact row _ (gz a z ha)
  have hRR := hX.R
  rw [← hRR]
  rw [← hRR] at hpw hbf haf
  exact .cons (.v _ rfl) (.cons hpw (.cons (.v _ rfl) (.cons (.v _ rfl) (.cons (row 1 rfl) (.cons (row 2 rfl) (.cons hbf (.cons haf (.cons (.v _ rfl) (.cons (.v _ rfl) (.cons (row 3 rfl) (.cons (row 4 rfl) (.cons (row 5 rfl) (.cons (row 6 rfl) (.cons (.v _ rfl) .nil))))))))))))))
theorem exts_empty {w : World} : ∀ {l : List Ext}, (∀ E ∈ l, E.holds w ∧ ∀ b, ¬ E.all b) → (exts l).holds w ∧ ∀ b, ¬ (exts l).all b
  | [], _ => ⟨trivial, fun b h => h.elim (fun h => h.elim) (fun h => h.elim)⟩
  | E :: l, h => by
    have h1 := exts_empty (l := l) fun E' hE => h E' (List.mem_cons_of_mem _ hE)
    have h2 := h E List.mem_cons_self
    refine ⟨⟨h1.1, h2.1, fun b hb => absurd hb (h1.2 b)⟩, fun b hb => ?_⟩
    rcases hb with (hb | hb) | (hb | hb)
    · exact h1.2 b (.inl hb)
    · exact h2.2 b (.inl hb)
    · exact h1.2 b (.inr hb)
    · exact h2.2 b (.inr hb)
theorem exts_laidOf {w : World} : ∀ {l : List Ext}, (∀ E ∈ l, E.laid w) → (exts l).laid w
  | [], _ => trivial
  | E :: l, h => ⟨exts_laidOf (l := l) fun E' hE => h E' (List.mem_cons_of_mem _ hE), h E List.mem_cons_self⟩
theorem exts_readsOf {R : Reader} : ∀ {l : List Ext}, (∀ E ∈ l, E.reads R) → (exts l).reads R
  | [], _ => trivial
  | E :: l, h => ⟨exts_readsOf (l := l) fun E' hE => h E' (List.mem_cons_of_mem _ hE), h E List.mem_cons_self⟩
theorem rowsZ {e : TypeId} {sz : Nat} (w : World) : (rowsE e sz none (.slice none 0 0) [] []).holds w ∧ ∀ b, ¬ (rowsE e sz none (.slice none 0 0) [] []).all b :=
  ⟨⟨⟨rfl, rfl⟩, (Nat.zero_mul _).symm, fun g h => by cases h⟩, fun b h => h.elim (fun h => by cases h) (fun h => h.elim)⟩
theorem rowsZ_reads {e : TypeId} {sz : Nat} (R : Reader) : (rowsE e sz none (.slice none 0 0) [] []).reads R := ⟨fun k row h => by simp at h, fun k row j p h => by simp at h⟩
def tailZ : List Ext := [rowsE 126 3 none (.slice none 0 0) [] [], rowsE 3 1 none (.slice none 0 0) [] [], rowsE 79 5 none (.slice none 0 0) [] [], rowsE 81 7 none (.slice none 0 0) [] [], rowsE 83 5 none (.slice none 0 0) [] [], rowsE 85 3 none (.slice none 0 0) [] [], rowsE 24 1 none (.slice none 0 0) [] [], rowsE 67 7 none (.slice none 0 0) [] [], rowsE 67 7 none (.slice none 0 0) [] []]
theorem pcsZ (b : Nat) : pcsX b rxZ = rawU b (rvals rdZ rmZ) :: tailZ := rfl
theorem tailZ_all (P : Ext → Prop) (h : ∀ e sz, P (rowsE e sz none (.slice none 0 0) [] [])) : ∀ E ∈ tailZ, P E := by
  intro E hE
  unfold tailZ at hE
  simp only [List.mem_cons, List.not_mem_nil, or_false] at hE
  rcases hE with rfl | rfl | rfl | rfl | rfl | rfl | rfl | rfl | rfl <;> exact h _ _
theorem holdZ {b : Nat} {w : World} {T : TypeId} (h : w.heap[b]? = some (.cells (rvals rdZ rmZ).toArray T (0, 0))) : (exts (pcsX b rxZ)).holds w := by
  rw [pcsZ]
  have ht := exts_empty (w := w) (tailZ_all (fun E => E.holds w ∧ ∀ b, ¬ E.all b) fun e sz => rowsZ w)
  exact ⟨ht.1, ⟨T, h⟩, fun b' hb => absurd hb (ht.2 b')⟩
theorem allZ {b x : Nat} (h : (exts (pcsX b rxZ)).all x) : x = b := by
  rw [pcsZ] at h
  have ht := exts_empty (w := default) (tailZ_all (fun E => E.holds default ∧ ∀ b, ¬ E.all b) fun e sz => rowsZ default)
  rcases h with (h | h) | (h | h)
  · exact absurd (.inl h) (ht.2 x)
  · exact h
  · exact absurd (.inr h) (ht.2 x)
  · exact h.elim
theorem laidZ (b : Nat) (w : World) : (exts (pcsX b rxZ)).laid w := by
  rw [pcsZ]
  exact ⟨exts_laidOf (tailZ_all (fun E => E.laid w) fun _ _ => trivial), trivial⟩
theorem readsZ (b : Nat) (R : Reader) : (exts (pcsX b rxZ)).reads R := by
  rw [pcsZ]
  exact ⟨exts_readsOf (tailZ_all (fun E => E.reads R) fun _ _ => rowsZ_reads R), trivial⟩
def snV : List Value := [.int .i64 0, .slice none 0 0, .int .i64 0, .int .i64 0, .slice none 0 0, .slice none 0 0, .slice none 0 0, .slice none 0 0, .int .i64 0, .int .i64 0, .slice none 0 0, .slice none 0 0, .slice none 0 0, .slice none 0 0, .int .i64 0]
theorem slZ (R : Reader) (sz : Nat) : RepP R (.sl sz []) (.slice none 0 0) := .sl sz [] none 0 (fun _ _ => undef) (fun k row hk => by simp at hk) (.inl rfl) (fun k row j p hk => by simp at hk) (Nat.le_refl 0)
theorem repZ (R : Reader) : RepL R snZ.pv snV :=
  .cons (.v _ rfl) (.cons (slZ R 1) (.cons (.v _ rfl) (.cons (.v _ rfl) (.cons (slZ R 3) (.cons (slZ R 1) (.cons (slZ R 7) (.cons (slZ R 7) (.cons (.v _ rfl) (.cons (.v _ rfl) (.cons (slZ R 5) (.cons (slZ R 7) (.cons (slZ R 5) (.cons (slZ R 3) (.cons (.v _ rfl) .nil))))))))))))))
structure PW (w : World) (N N' kb : Nat) (S : Nat → Prop) (p : Ps) (W : World) : Prop where
  rel : ∃ X γ a, OKX p X ∧ Rel ⟨fun _ => none, w, 0⟩ (exSt LC S W ((knownE kb).and (exts (pcsX (N + 3) X)))) γ a W
  c2 : W.heap[N]? = some (.cells snV.toArray 35 (0, 0))
  c3 : W.heap[N + 1]? = some (.cells #[.int .i64 0] 3 (0, 0))
  c4 : W.heap[N + 2]? = some (.cells #[.int .i64 0] 38 (0, 0))
  c5 : W.heap[N']? = some (.cells #[.pointer (some ⟨N + 3, 0, none⟩)] 91 (0, 0))
  c6 : W.heap[N' + 1]? = some (.cells #[.map (some kb)] 95 (0, 0))
theorem PW.touched {w : World} {N N' kb B : Nat} {S T : Nat → Prop} {p : Ps} {W W' : World} (h : PW w N N' kb S p W) (ht : touch T W W') (hTS : ∀ b, T b → S b) (hT : ∀ b, T b → B ≤ b) (hB : N + 3 ≤ N') (hB' : N' + 2 ≤ B) : PW w N N' kb S p W' := by
  obtain ⟨X, γ, a, h1, h2⟩ := h.rel
  exact ⟨⟨X, γ, a, h1, h2.touchedS (ht.mono fun b _ hb => hTS b hb)⟩, ht.keep h.c2 fun e => (by have := hT _ e; omega), ht.keep h.c3 fun e => (by have := hT _ e; omega), ht.keep h.c4 fun e => (by have := hT _ e; omega), ht.keep h.c5 fun e => (by have := hT _ e; omega), ht.keep h.c6 fun e => (by have := hT _ e; omega)⟩
theorem PW.more {w : World} {N N' kb : Nat} {S S' : Nat → Prop} {p : Ps} {W W' : World} (h : PW w N N' kb S p W) (hb : Below W.heap.size W W') (hS : ∀ b, S' b ↔ S b ∨ (W.heap.size ≤ b ∧ b < W'.heap.size)) : PW w N N' kb S' p W' := by
  obtain ⟨X, γ, a, h1, h2⟩ := h.rel
  have lt : ∀ {b : Nat} {o : Obj}, W.heap[b]? = some o → W'.heap[b]? = some o := fun h => (hb.block _ (Array.getElem?_eq_some_iff.1 h).1).trans h
  exact ⟨⟨X, γ, a, h1, h2.moreS hb hS⟩, lt h.c2, lt h.c3, lt h.c4, lt h.c5, lt h.c6⟩
end Go.Proofs.YtcloigoajohppaaGreatDoor
/- Parse. -/
namespace Go.Proofs.YtcloigoajohppaaGreatDoor
open Go.RowKit
open Av
open Sc
set_option maxRecDepth 100000
set_option linter.unusedSimpArgs false

attribute [local go_sem] Oper.semAt_some
def lastB (s : ByteArray) : Int := if s.toList.isEmpty || Lib.hasSuffix s.data.toList [10] then (Lib.countByte s.data.toList 10 : Int) else (Lib.countByte s.data.toList 10 : Int) + 1
def parseP (text : ByteArray) : Sn × Int × Int :=
  if 65536 < text.size then (snZ, 0, 8) else
  let r := foldP 0 psZ (linesB text.size text)
  if r.2.2 ≠ 0 then (snZ, r.2.1, r.2.2)
  else if r.1.R.begun && r.1.R.sched && r.1.R.done then (r.1.R.x, 0, 0)
  else (snZ, lastB text + 1, 9)
section
variable {tmps : Array Value} {w : World} {a N : Nat} {t T : TypeId} {d : TypeDesc} {vs : List Value} {v : Value}
theorem resOne_row {P : Program} (ha : tmps.getD a undef = .pointer (some ⟨N, 0, none⟩)) (h : w.heap[N]? = some (.cells vs.toArray T (0, 0))) (hu : P.underlying t = some d) (hrow : d.isRow = true) (hsz : (P.info? t).map (·.size) = some vs.length) : (resOne tmps (.cell a t)).run P w = .ok (.agg vs.toArray) w := by
  have hl : ∀ v, (Instr.loadAt t (.pointer (some ⟨N, 0, none⟩))).run P w = .ok v w → ((do loadVar t (← asAddr (tmps.getD a undef)) : Sem Value)).run P w = .ok v w := fun v hv => by
    rw [ha]
    simpa [Instr.loadAt, Instr.sureAddr, asAddr] using hv
  refine hl _ (run_loadAt_mid w _ 0 t _ d (fun j v hv => ?_) hu hrow hsz)
  rw [cell_of_row w _ _ _ T (0, 0) h, Nat.zero_add]
  simpa using hv
theorem resOne_one {P : Program} (ha : tmps.getD a undef = .pointer (some ⟨N, 0, none⟩)) (h : w.heap[N]? = some (.cells #[v] T (0, 0))) (hu : P.underlying t = some d) (hrow : d.isRow = false) : (resOne tmps (.cell a t)).run P w = .ok v w := by
  have hl : ∀ v, (Instr.loadAt t (.pointer (some ⟨N, 0, none⟩))).run P w = .ok v w → ((do loadVar t (← asAddr (tmps.getD a undef)) : Sem Value)).run P w = .ok v w := fun v hv => by
    rw [ha]
    simpa [Instr.loadAt, Instr.sureAddr, asAddr] using hv
  exact hl _ (run_load_one w _ 0 t d v (cell_one1 h) hu hrow)
end
open Classical in
noncomputable def besR (N : Nat) (S : Nat → Prop) (w : World) : Reader := fun q => if q.block < N ∨ S q.block then none else w.cell? q
theorem _root_.Go.Proofs.YtcloigoajohppaaGreatDoor.Av.RepL.all_one {R : Reader} {ps : List PV} {us : List Value} (h : RepL R ps us) : us.all (·.oneCell') = true := by
  induction h with
  | nil => rfl
  | cons h _ ih => rw [List.all_cons, h.one, ih]; rfl
theorem resP {tmps : Array Value} {W : World} {N : Nat} {vs : List Value} {k e : Int} {T2 T3 T4 : TypeId} (a2 : tmps.getD 2 undef = .pointer (some ⟨N, 0, none⟩)) (a3 : tmps.getD 3 undef = .pointer (some ⟨N + 1, 0, none⟩)) (a4 : tmps.getD 4 undef = .pointer (some ⟨N + 2, 0, none⟩))
    (h2 : W.heap[N]? = some (.cells vs.toArray T2 (0, 0))) (hl : vs.length = 15) (h3 : W.heap[N + 1]? = some (.cells #[.int .i64 k] T3 (0, 0))) (h4 : W.heap[N + 2]? = some (.cells #[.int .i64 e] T4 (0, 0))) :
    (results Tryz.f13 tmps).run Tryz.prog W = .ok (.tuple #[.agg vs.toArray, .int .i64 k, .int .i64 e]) W := by
  rw [results_eq, Tryz.results13, Array.mapM_eq_mapM_toList, Sem.run_bind, Sem.run_map]
  have e2 := resOne_row (P := Tryz.prog) (t := 35) a2 h2 Tryz.underlying35 rfl (by rw [hl]; exact Tryz.sz35)
  have e3 := resOne_one (P := Tryz.prog) (t := 3) a3 h3 Tryz.underlying3 rfl
  have e4 := resOne_one (P := Tryz.prog) (t := 38) a4 h4 Tryz.underlying38 rfl
  simp only [List.mapM_cons, List.mapM_nil, Sem.run_bind, e2, e3, e4, Result.andThen_ok, Sem.run_pure]
  rfl
theorem parse_fin {W5 : World} {N D : Nat} {T2 T3 T4 : TypeId} {old : Array Value} {u3 u4 : Value} (vs : List Value) (k e : Int) (q2 : W5.heap[N]? = some (.cells old T2 (0, 0))) (q3 : W5.heap[N + 1]? = some (.cells #[u3] T3 (0, 0))) (q4 : W5.heap[N + 2]? = some (.cells #[u4] T4 (0, 0))) (hd : W5.heap[D]? = some (.deferred (some []))) (hD : N + 3 ≤ D)
    {W7 : World} (h7 : ((W5.setRow N vs.toArray).setCell ⟨N + 1, 0, none⟩ (.int .i64 k)).setCell ⟨N + 1 + 1, 0, none⟩ (.int .i64 e) = W7) :
    W7.heap[D]? = some (.deferred (some [])) ∧ (W7.putObj D (.deferred none)).heap[N]? = some (.cells vs.toArray T2 (0, 0)) ∧ (W7.putObj D (.deferred none)).heap[N + 1]? = some (.cells #[.int .i64 k] T3 (0, 0)) ∧ (W7.putObj D (.deferred none)).heap[N + 2]? = some (.cells #[.int .i64 e] T4 (0, 0)) ∧
      touch (fun b => (N ≤ b ∧ b < N + 3) ∨ b = D) W5 (W7.putObj D (.deferred none)) ∧ ∀ b, ¬ ((N ≤ b ∧ b < N + 3) ∨ b = D) → (W7.putObj D (.deferred none)).heap[b]? = W5.heap[b]? := by
  obtain ⟨A, hA⟩ : ∃ A, W5.setRow N vs.toArray = A := ⟨_, rfl⟩
  obtain ⟨B, hB⟩ : ∃ B, A.setCell ⟨N + 1, 0, none⟩ (.int .i64 k) = B := ⟨_, rfl⟩
  rw [hA, hB] at h7
  have t1 : touch (fun b => b = N) W5 A := by rw [← hA]; exact setRow_touch _ _ _ rfl
  have t2 : touch (fun b => b = N + 1) A B := by rw [← hB]; exact touch.setCell _ _ _ rfl
  have t3 : touch (fun b => b = N + 2) B W7 := by rw [← h7]; exact touch.setCell _ _ _ rfl
  have t4 : touch (fun b => b = D) W7 (W7.putObj D (.deferred none)) := touch.putObj _ _ _ rfl
  have a2 : A.heap[N]? = some (.cells vs.toArray T2 (0, 0)) := by rw [← hA]; exact setRow_same q2
  have b3 : B.heap[N + 1]? = some (.cells #[.int .i64 k] T3 (0, 0)) := by rw [← hB]; exact heap_set (t1.keep q3 (by omega))
  have c4 : W7.heap[N + 2]? = some (.cells #[.int .i64 e] T4 (0, 0)) := by rw [← h7]; exact heap_set (t2.keep (t1.keep q4 (by omega)) (by omega))
  refine ⟨t3.keep (t2.keep (t1.keep hd (by omega)) (by omega)) (by omega), t4.keep (t3.keep (t2.keep a2 (by omega)) (by omega)) (by omega), t4.keep (t3.keep b3 (by omega)) (by omega), t4.keep c4 (by omega), ?_, fun b hb => ?_⟩
  · exact (((t1.mono fun b _ e => .inl ⟨by omega, by omega⟩).trans (t2.mono fun b _ e => .inl ⟨by omega, by omega⟩)).trans (t3.mono fun b _ e => .inl ⟨by omega, by omega⟩)).trans (t4.mono fun b _ e => .inr e)
  · have e1 : A.heap[b]? = W5.heap[b]? := by
      have : ¬ N = b := by omega
      rw [← hA]
      simp [World.setRow, Array.getElem?_modify, this]
    exact (World.putObj_heap_other (by omega)).trans ((by rw [← h7]; exact Below.heap_setCell _ ⟨N + 1 + 1, 0, none⟩ _ _ (show b ≠ N + 1 + 1 by omega) : W7.heap[b]? = B.heap[b]?).trans ((by rw [← hB]; exact Below.heap_setCell _ ⟨N + 1, 0, none⟩ _ _ (show b ≠ N + 1 by omega) : B.heap[b]? = A.heap[b]?).trans e1))
set_option maxRecDepth 100000 in
theorem parse_any (text : ByteArray) (w : World) (hC : LC w) : Calls Tryz.prog 13 #[.string text] w fun e w' => ∃ vs, e = .returned (.tuple #[.agg vs.toArray, .int .i64 (parseP text).2.1, .int .i64 (parseP text).2.2]) ∧ Below w.heap.size w w' ∧ RepL (fun p => if p.block < w.heap.size then none else w'.cell? p) (parseP text).1.pv vs := by
  obtain ⟨n, hn⟩ : ∃ n : Nat, n = 5 := ⟨_, rfl⟩
  clear hn
  refine (callsIn_wide (n := n)).1 ?_
  refine callsIn_of_wp_marks Tryz.func13 rfl trivial ?_ rfl
  simp only [Tryz.ntmps13, List.size_toArray, List.length_cons, List.length_nil, Nat.reduceAdd, Nat.reduceSub, Array.replicate_succ, Array.replicate_zero, List.push_toArray, List.append_toArray, List.nil_append, List.cons_append]
  by_cases hbig : 65536 < text.size
  · have hbig' : (65536 : Int) < (text.size : Int) := by omega
    have hres : parseP text = (snZ, 0, 8) := by unfold parseP; rw [if_pos hbig]
    rw [hres]
    gi_wp2
    obtain ⟨N, hN⟩ : ∃ N, w.heap.size = N := ⟨_, rfl⟩
    generalize hW4 : World.alloc _ _ = W4
    rw [hN]
    refine ⟨_, resP (N := N) (vs := snV) (k := 0) (e := 8) (T2 := 35) (T3 := 3) (T4 := 38) rfl rfl rfl ?_ rfl ?_ ?_, _, rfl, ?_, ?_⟩
    · rw [← hW4, ← hN]; repeat (first | (refine alloc_at _ _ _ ?_; (try simp only [World.size_alloc]) <;> omega) | refine (Below.heap_alloc _ _ _ (by simp only [World.size_alloc]; omega)).trans ?_)
    · rw [← hW4, ← hN]; repeat (first | (refine alloc_at _ _ _ ?_; (try simp only [World.size_alloc]) <;> omega) | refine (Below.heap_alloc _ _ _ (by simp only [World.size_alloc]; omega)).trans ?_)
    · rw [← hW4, ← hN]; repeat (first | (refine alloc_at _ _ _ ?_; (try simp only [World.size_alloc]) <;> omega) | refine (Below.heap_alloc _ _ _ (by simp only [World.size_alloc]; omega)).trans ?_)
    · rw [← hW4, ← hN]; exact (((Below.refl _ w).alloc (Nat.le_refl _) _).alloc (by simp) _).alloc (by simp; omega) _
    · exact repZ _
  · have hbig' : ¬ (65536 : Int) < (text.size : Int) := by omega
    gi_wp2_with ((with_reducible refine And.intro ?_ (And.intro ?_ ?_)); exact trivial; (intro h; cases h); first | (refine (callsIn_wide.2 (forms_any _)).mono ?_; rintro e w' ⟨kb, rfl, hbk, hkx, hkf⟩) | (refine (callsIn_wide.2 (lines_any text _)).mono ?_; rintro e w' ⟨rfl, rfl⟩))
    generalize hW4 : World.alloc _ _ = W4 at hbk hkf
    generalize hWf : World.alloc _ _ = Wf
    obtain ⟨N, hN⟩ : ∃ N, w.heap.size = N := ⟨_, rfl⟩
    obtain ⟨N', hN'⟩ : ∃ N', w'.heap.size = N' := ⟨_, rfl⟩
    have hs4 : W4.heap.size = N + 4 := by rw [← hW4]; simp only [World.size_alloc]; omega
    have hNN : N + 4 ≤ N' := by have := hbk.size; omega
    have hb4 : Below N w W4 := by
      rw [← hW4, ← hN]; exact ((((Below.refl _ w).alloc (Nat.le_refl _) _).alloc (by simp) _).alloc (by simp; omega) _).alloc (by simp; omega) _
    have g2 : W4.heap[N]? = some (.cells snV.toArray 35 (0, 0)) := by rw [← hW4, ← hN]; repeat (first | (refine alloc_at _ _ _ ?_; (try simp only [World.size_alloc]) <;> omega) | refine (Below.heap_alloc _ _ _ (by simp only [World.size_alloc]; omega)).trans ?_)
    have g3 : W4.heap[N + 1]? = some (.cells #[.int .i64 0] 3 (0, 0)) := by rw [← hW4, ← hN]; repeat (first | (refine alloc_at _ _ _ ?_; (try simp only [World.size_alloc]) <;> omega) | refine (Below.heap_alloc _ _ _ (by simp only [World.size_alloc]; omega)).trans ?_)
    have g4 : W4.heap[N + 2]? = some (.cells #[.int .i64 0] 38 (0, 0)) := by rw [← hW4, ← hN]; repeat (first | (refine alloc_at _ _ _ ?_; (try simp only [World.size_alloc]) <;> omega) | refine (Below.heap_alloc _ _ _ (by simp only [World.size_alloc]; omega)).trans ?_)
    have gb : W4.heap[N + 3]? = some (.cells (rvals rdZ rmZ).toArray 94 (0, 0)) := by rw [← hW4, ← hN]; repeat (first | (refine alloc_at _ _ _ ?_; (try simp only [World.size_alloc]) <;> omega) | refine (Below.heap_alloc _ _ _ (by simp only [World.size_alloc]; omega)).trans ?_)
    rw [hs4] at hbk hkf
    have hsf : Wf.heap.size = N' + 3 := by rw [← hWf]; simp only [World.size_alloc]; omega
    have hbf : Below N' w' Wf := by
      rw [← hWf, ← hN']; exact (((Below.refl _ w').alloc (Nat.le_refl _) _).alloc (by simp) _).alloc (by simp; omega) _
    have f5 : Wf.heap[N']? = some (.cells #[.pointer (some ⟨N + 3, 0, none⟩)] 91 (0, 0)) := by rw [← hWf, ← hN', ← hN]; repeat (first | (refine alloc_at _ _ _ ?_; (try simp only [World.size_alloc]) <;> omega) | refine (Below.heap_alloc _ _ _ (by simp only [World.size_alloc]; omega)).trans ?_)
    have f6 : Wf.heap[N' + 1]? = some (.cells #[.map (some kb)] 95 (0, 0)) := by rw [← hWf, ← hN']; repeat (first | (refine alloc_at _ _ _ ?_; (try simp only [World.size_alloc]) <;> omega) | refine (Below.heap_alloc _ _ _ (by simp only [World.size_alloc]; omega)).trans ?_)
    have ft : Wf.heap[N' + 2]? = some (.cells #[.string text] 9 (0, 0)) := by rw [← hWf, ← hN']; repeat (first | (refine alloc_at _ _ _ ?_; (try simp only [World.size_alloc]) <;> omega) | refine (Below.heap_alloc _ _ _ (by simp only [World.size_alloc]; omega)).trans ?_)
    have l4 : ∀ {b : Nat} {o : Obj}, b < N + 4 → W4.heap[b]? = some o → Wf.heap[b]? = some o := fun hb h => (hbf.block _ (by omega)).trans ((hbk.block _ hb).trans h)
    rw [hN, hN']
    clear hWf hW4
    refine range_law (gf := 77) (lb := #[.pointer (some ⟨N' + 1 + 1, 0, none⟩)]) rfl (enters_of Tryz.func77 (by kernel_rfl) rfl) ?_
    intro fn W1 rec hrec hb hs1 hD1 hl1
    rw [hsf] at hs1 hD1 hl1 hb ⊢
    have hst : ∀ st pe, (rec st pe).state = st := fun st pe => by rw [hrec]
    have hpe : ∀ st pe, (rec st pe).pending = pe := fun st pe => by rw [hrec]
    have hps : ∀ st pe, (rec st pe).params = #[20, 21] := fun st pe => by rw [hrec]
    have hasn := fun st pe => congrArg (fun r => Loop.assign (r st pe)) hrec
    have hbod := fun st pe => congrArg (fun r => Loop.body (r st pe)) hrec
    have htm := fun st pe => congrArg (fun r => Loop.tmps (r st pe)) hrec
    dsimp only at hasn hbod htm
    have hset : ∀ st pe st' pe', { rec st pe with state := st', pending := pe' } = rec st' pe' := fun st pe st' pe' => by rw [hrec]
    have hset1 : ∀ st pe st', { rec st pe with state := st' } = rec st' pe := fun st pe st' => by rw [hrec]
    have hlt : ∀ {w : World} {b : Nat} {o : Obj}, w.heap[b]? = some o → b < w.heap.size := fun h => (Array.getElem?_eq_some_iff.1 h).1
    have hbe : ∀ {w : World} {b b' : Nat} {o : Obj} (o' : Obj), w.heap[b]? = some o → b ≠ b' → (w.putObj b' o').heap[b]? = some o := fun o' h hn => (World.putObj_heap_other hn).trans h
    have hb1 : Below N w W1 := hb4.trans ((hbk.mono (by omega)).trans ((hbf.mono (by omega)).trans (hb.mono (by omega))))
    have l1 : ∀ {b : Nat} {o : Obj}, Wf.heap[b]? = some o → W1.heap[b]? = some o := fun h => (hb.block _ (by have := hlt h; omega)).trans h
    clear hrec
    obtain ⟨S, hS⟩ : ∃ S : Nat → Nat → Prop, S = fun B b => (N ≤ b ∧ b < N + 3) ∨ (N' ≤ b ∧ b < B) := ⟨_, rfl⟩
    have hP1 : PW w N N' kb (S (N' + 5)) psZ W1 := by
      refine ⟨⟨rxZ, _, _, okZ, Rel.beginS hC (by rw [hN]; exact hb1) ?_ ⟨trivial, laidZ _ _⟩ (fun R => ⟨trivial, readsZ _ R⟩) ?_ ?_⟩, l1 (l4 (by omega) g2), l1 (l4 (by omega) g3), l1 (l4 (by omega) g4), l1 f5, l1 f6⟩
      · refine ⟨(knownE kb).stable (fun b hb' => ?_) hkx, holdZ (l1 (l4 (by omega) gb)), fun b h1 h2 => ?_⟩
        · have h3 := hkf b hb'
          exact (hb.block b (by omega)).trans (hbf.block b (by omega))
        · have h3 := hkf b h1
          have h4 := allZ h2
          omega
      · intro b hb'
        rw [hS] at hb'
        rw [hN, hs1]
        refine ⟨by omega, by omega, fun h1 => ?_⟩
        rcases (all_and b).1 h1 with h1 | h1
        · have h3 := hkf b h1
          omega
        · have h4 := allZ h1
          omega
      · intro b h1
        rw [hN, hs1]
        rcases (all_and b).1 h1 with h1 | h1
        · have h3 := hkf b h1
          omega
        · have h4 := allZ h1
          omega
    refine (lines_in (n - 1) (N' + 4) (N' + 2) text (by omega) (N' + 5)
      (fun B k W => ∃ p, foldP 0 psZ (linesB text.size text) = foldP k p ((linesB text.size text).drop k) ∧ PW w N N' kb (S B) p W ∧ W.heap[N' + 3]? = some (.deferred (some [])) ∧ W.heap[N' + 4]? = some (.loop (rec .ready none)) ∧ N' + 5 ≤ B)
      (fun _ W => ∃ k e, e ≠ 0 ∧ (foldP 0 psZ (linesB text.size text)).2 = (k, e) ∧ Below N w W ∧ W.heap[N]? = some (.cells snV.toArray 35 (0, 0)) ∧ W.heap[N + 1]? = some (.cells #[.int .i64 (k : Int)] 3 (0, 0)) ∧ W.heap[N + 2]? = some (.cells #[.int .i64 e] 38 (0, 0)) ∧ W.heap[N' + 3]? = some (.deferred (some [])) ∧ W.heap[N' + 4]? = some (.loop (rec .done (some .ret))))
      ?hE ?hT ?hTx ?hS ?hY W1 (by omega) (cell_one1 (l1 ft)) ⟨psZ, by rw [List.drop_zero], by rw [hs1]; exact hP1, hD1, hl1, by rw [hs1]; omega⟩).mono ?_
    case hE =>
      rintro B k W W' ⟨p, h1, h2, h3, h4, h9⟩ hB hbw
      have h5 := hlt h4
      have h6 := hbw.size
      exact ⟨p, h1, h2.more hbw (fun b => by rw [hS, hB]; dsimp only; omega), (hbw.block _ (hlt h3)).trans h3, (hbw.block _ (hlt h4)).trans h4, by omega⟩
    case hT =>
      rintro B k W W' ⟨p, h1, h2, h3, h4, h9⟩ ht
      exact ⟨p, h1, h2.touched (B := N' + 5) ht (fun b hb' => by rw [hS]; exact .inr ⟨by omega, hb'.2⟩) (fun b hb' => hb'.1) (by omega) (by omega), ht.keep h3 (by omega), ht.keep h4 (by omega), h9⟩
    case hTx =>
      rintro B W W' ⟨k, e, h1, h2, h3, h4, h5, h6, h7, h8⟩ ht
      exact ⟨k, e, h1, h2, h3.trans ⟨ht.os, ht.tape, ht.output, ht.size, fun b hb' => ht.block b (by have := hlt h8; omega) (by omega)⟩, ht.keep h4 (by omega), ht.keep h5 (by omega), ht.keep h6 (by omega), ht.keep h7 (by omega), ht.keep h8 (by omega)⟩
    case hS =>
      rintro B k s W hk hsk ⟨p, h1, h2⟩
      exact ⟨p, by rw [h1, foldP_get hk, if_pos hsk], h2⟩
    case hY =>
      rintro m B k s W hk hsk ⟨p, h1, h2, h3, h4, h9⟩
      refine yield_law (A1 := ?A) h4 (hst _ _) (by rw [hps]; rfl) ?asg ?bdy
      case asg =>
        rw [hasn, htm, hps]
        simp only [List.zip_toArray, List.zip_cons_cons, List.zip_nil_right, List.foldl_toArray, List.foldl_cons, List.foldl_nil, List.setIfInBounds_toArray, List.set_cons_succ, List.set_cons_zero]
        gi_wp2
        first | exact rfl | exact ⟨rfl, rfl⟩
      obtain ⟨W2, hW2⟩ : ∃ W2, W.putObj (N' + 4) (.loop { rec .ready none with state := .busy }) = W2 := ⟨_, rfl⟩
      have ht2 : touch (fun b => b = N' + 4) W W2 := by rw [← hW2]; exact touch.putObj _ _ _ rfl
      have hl2 : W2.heap[N' + 4]? = some (.loop (rec .busy none)) := by rw [← hW2, hset1]; exact World.putObj_heap_same (hlt h4)
      have hp2 : PW w N N' kb (S B) p W2 := h2.touched (B := N' + 4) ht2 (fun b hb' => by rw [hS]; exact .inr ⟨by omega, by omega⟩) (fun b hb' => by omega) (by omega) (by omega)
      have hd2 := ht2.keep h3 (by omega)
      have hsz : s.size ≤ 100000 := by
        have := linesB_size _ _ _ (List.mem_of_getElem? hk)
        omega
      obtain ⟨X, γ, a, hX, hrel⟩ := hp2.rel
      have hline := (line_okX (N + 3) kb hX s hsz).calls _ ((laidE LC).and (heldS (S B) fun b => W2.heap[b]?)) γ a W2 [wrP (N + 3), .string s, .map (some kb)] (fun w0 h => h.1) hrel (.cons rfl rfl (.cons rfl rfl (.cons rfl rfl .nil)))
      unfold wrP at hline
      have q5 := cell_one1 hp2.c5
      have q6 := cell_one1 hp2.c6
      obtain ⟨Rp, hRp⟩ : ∃ Rp, (fun (e : Ending) (W' : World) => (∀ b, N' + 5 ≤ b → b < B → W'.heap[b]? = W.heap[b]?) ∧ ((e = .returned (.bool true) ∧ ∃ p, foldP 0 psZ (linesB text.size text) = foldP (k + 1) p ((linesB text.size text).drop (k + 1)) ∧ PW w N N' kb (S B) p W' ∧ W'.heap[N' + 3]? = some (.deferred (some [])) ∧ W'.heap[N' + 4]? = some (.loop (rec .ready none)) ∧ N' + 5 ≤ B) ∨
        (e = .returned (.bool false) ∧ ∃ k e, e ≠ 0 ∧ (foldP 0 psZ (linesB text.size text)).2 = (k, e) ∧ Below N w W' ∧ W'.heap[N]? = some (.cells snV.toArray 35 (0, 0)) ∧ W'.heap[N + 1]? = some (.cells #[.int .i64 (k : Int)] 3 (0, 0)) ∧ W'.heap[N + 2]? = some (.cells #[.int .i64 e] 38 (0, 0)) ∧ W'.heap[N' + 3]? = some (.deferred (some [])) ∧ W'.heap[N' + 4]? = some (.loop (rec .done (some .ret)))))) = Rp := ⟨_, rfl⟩
      rw [hRp, hW2, hbod]
      have hp2c2 := hp2.c2
      have hp2c3 := hp2.c3
      have hp2c4 := hp2.c4
      have hp2c5 := hp2.c5
      have hp2c6 := hp2.c6
      clear hp2 h2
      gi_wp2
      refine ⟨trivial, (fun h => (by cases h)), ?_⟩
      refine CallsIn.mono (CallsIn.inRound _ (callsIn_wide.2 hline)) ?_
      rintro e W3 ⟨u, γ', ⟨X3, hi⟩, rfl, hrel3, _, hu⟩
      obtain rfl := hu
      have hk3 : ∀ b, S B b → W3.heap[b]? = W2.heap[b]? := fun b hb' => hrel3.exth.1.2.1 b hb'
      have hin1 : ∀ b, N ≤ b → b < N + 3 → S B b := fun b h1 h2 => by rw [hS]; exact .inl ⟨h1, h2⟩
      have hin2 : ∀ b, N' ≤ b → b < B → S B b := fun b h1 h2 => by rw [hS]; exact .inr ⟨h1, h2⟩
      have t2 := (hk3 N (hin1 _ (by omega) (by omega))).trans hp2c2
      have t3 := (hk3 (N + 1) (hin1 _ (by omega) (by omega))).trans hp2c3
      have t4 := (hk3 (N + 2) (hin1 _ (by omega) (by omega))).trans hp2c4
      have t5 := (hk3 N' (hin2 _ (by omega) (by omega))).trans hp2c5
      have t6 := (hk3 (N' + 1) (hin2 _ (by omega) (by omega))).trans hp2c6
      have td := (hk3 (N' + 3) (hin2 _ (by omega) (by omega))).trans hd2
      have tl := (hk3 (N' + 4) (hin2 _ (by omega) (by omega))).trans hl2
      have hback : ∀ b, N' + 5 ≤ b → b < B → W3.heap[b]? = W.heap[b]? := fun b h1 h2 => (hk3 b (hin2 _ (by omega) h2)).trans (by rw [← hW2]; exact World.putObj_heap_other (by omega))
      have hrel4 : Rel ⟨fun _ => none, w, 0⟩ (exSt LC (S B) W3 ((knownE kb).and (exts (pcsX (N + 3) X3)))) γ' a W3 := Rel.touchedS (w0 := W2) hrel3 (touch.refl _ _)
      have hbl : Below N w W3 := by rw [← hN]; exact hrel3.below
      have hfold := foldP_get (p := p) hk
      rw [if_neg (by rw [hsk]; simp)] at hfold
      obtain ⟨er, her⟩ : ∃ er, (stepP p (lineO s)).2 = er := ⟨_, rfl⟩
      rw [her] at hi hfold ⊢
      clear hline hrel hrel3 hk3 hp2c2 hp2c3 hp2c4 hp2c5 hp2c6 q5 q6
      by_cases h0 : er = 0
      · subst h0
        have hPW : PW w N N' kb (S B) (stepP p (lineO s)).1 W3 := ⟨⟨X3, γ', a, hi rfl, hrel4⟩, t2, t3, t4, t5, t6⟩
        have hdone : ∃ v w', (Instr.endRound (N' + 4) none).run Tryz.prog W3 = .ok v w' ∧ Rp (.returned v) w' := by
          refine ⟨_, _, run_endRound none tl, ?_⟩
          rw [← hRp, hset]
          refine ⟨fun b b1 b2 => (World.putObj_heap_other (by omega)).trans (hback b b1 b2), .inl ⟨rfl, _, ?_, hPW.touched (B := N' + 4) (touch.putObj (S := fun b => b = N' + 4) _ _ _ rfl) (fun b hb' => hin2 _ (by omega) (by omega)) (fun b hb' => by omega) (by omega) (by omega), hbe _ td (by omega), World.putObj_heap_same (hlt tl), h9⟩⟩
          rw [h1, hfold, if_pos rfl]
        clear hRp hi hPW
        gi_wp2
        exact hdone
      · have hne : (er == 0) = false := by simpa using h0
        clear hi
        gi_wp2_with (with_reducible refine hold_store 35 ?_)
        refine ⟨?_⟩
        refine store_row_in (FOK.round _) rfl 35 _ _ rfl N snV.toArray rfl rfl _ _ t2 Tryz.sz35 rfl (by simp [snV, Value.oneCell']) ?_
        obtain ⟨W4, hW4⟩ : ∃ W4, W3.setRow N snV.toArray = W4 := ⟨_, rfl⟩
        have htc : touch (fun b => b = N) W3 W4 := by rw [← hW4]; exact setRow_touch _ _ _ rfl
        have o4 : ∀ b, b ≠ N → W4.heap[b]? = W3.heap[b]? := fun b hb' => by
          have : ¬ N = b := fun e => hb' e.symm
          rw [← hW4]
          simp [World.setRow, Array.getElem?_modify, this]
        have v2 : W4.heap[N]? = some (.cells snV.toArray 35 (0, 0)) := by rw [← hW4]; exact setRow_same t2
        have v3 := htc.keep t3 (by omega)
        have v4 := htc.keep t4 (by omega)
        have vd := htc.keep td (by omega)
        have vl := htc.keep tl (by omega)
        have z3 := cell_one1 v3
        have z4 := cell_one1 v4
        have y3 := frozen_one v3
        have y4 := frozen_one v4
        rw [hW4]
        clear hW4
        gi_wp2
        obtain ⟨W5, hW5⟩ : ∃ W5, W4.setCell ⟨N + 1, 0, none⟩ (.int .i64 ((k : Int) + 1)) = W5 := ⟨_, rfl⟩
        obtain ⟨W6, hW6⟩ : ∃ W6, W5.setCell ⟨N + 1 + 1, 0, none⟩ (.int .i64 er) = W6 := ⟨_, rfl⟩
        rw [hW5, hW6]
        have s5 : touch (fun b => b = N + 1) W4 W5 := by rw [← hW5]; exact touch.setCell _ _ _ rfl
        have s6 : touch (fun b => b = N + 2) W5 W6 := by rw [← hW6]; exact touch.setCell _ _ _ rfl
        have x3 : W5.heap[N + 1]? = some (.cells #[.int .i64 ((k + 1 : Nat) : Int)] 3 (0, 0)) := by rw [← hW5]; exact heap_set v3
        have x4 : W6.heap[N + 2]? = some (.cells #[.int .i64 er] 38 (0, 0)) := by rw [← hW6]; exact heap_set (s5.keep v4 (by omega))
        have sall : touch (fun b => N ≤ b ∧ b < N + 3) W3 W6 := ((htc.mono fun b _ e => ⟨by omega, by omega⟩).trans (s5.mono fun b _ e => ⟨by omega, by omega⟩)).trans (s6.mono fun b _ e => ⟨by omega, by omega⟩)
        have oall : ∀ b, N + 3 ≤ b → W6.heap[b]? = W3.heap[b]? := fun b hb' => by
          rw [← hW6, ← hW5]
          exact (Below.heap_setCell _ ⟨N + 1 + 1, 0, none⟩ _ _ (show b ≠ N + 1 + 1 by omega)).trans ((Below.heap_setCell _ ⟨N + 1, 0, none⟩ _ _ (show b ≠ N + 1 by omega)).trans (o4 b (by omega)))
        have l6 := sall.keep tl (by omega)
        refine ⟨_, _, run_endRound (some .ret) l6, ?_⟩
        rw [← hRp, hset]
        refine ⟨fun b b1 b2 => (World.putObj_heap_other (by omega)).trans ((oall b (by omega)).trans (hback b b1 b2)), .inr ⟨rfl, k + 1, er, h0, ?_, ?_, hbe _ (s6.keep (s5.keep v2 (by omega)) (by omega)) (by omega), hbe _ (s6.keep x3 (by omega)) (by omega), hbe _ x4 (by omega), hbe _ (sall.keep td (by omega)) (by omega), World.putObj_heap_same (hlt l6)⟩⟩
        · rw [h1, hfold, if_neg h0]
        · exact below_touch hbl ((sall.mono (S' := fun b => N ≤ b) fun b _ e => e.1).trans (touch.putObj _ _ _ (by omega))) (fun b hb' => hb') (by have := hlt tl; omega)
    rintro e W' ⟨⟨v, rfl⟩, B, (⟨p, h1, h2, h3, h4, h9⟩ | ⟨k, e, h1, h2, h3, h4, h5, h6, h7, h8⟩)⟩
    · obtain ⟨W5, hW5⟩ : ∃ W5, W'.putObj (N' + 4) (.loop { rec .ready none with state := .exhausted }) = W5 := ⟨_, rfl⟩
      refine ⟨_, _, run_endLoop h4 (by rw [hst]; simp), ?_⟩
      have hp5 : PW w N N' kb (S B) p W5 := by rw [← hW5]; exact h2.touched (B := N' + 4) (touch.putObj (S := fun b => b = N' + 4) _ _ _ rfl) (fun b hb' => by rw [hS]; exact .inr ⟨by omega, by omega⟩) (fun b hb' => by omega) (by omega) (by omega)
      have hd5 : W5.heap[N' + 3]? = some (.deferred (some [])) := by rw [← hW5]; exact hbe _ h3 (by omega)
      rw [hW5, hpe]
      obtain ⟨X, γ, a, hX, hrel⟩ := hp5.rel
      obtain ⟨T, hT⟩ : ∃ T, W5.heap[N + 3]? = some (.cells (rvals X.R X.m).toArray T (0, 0)) := exts_get hrel.exth.2.1.2.1 (rfl : (pcsX (N + 3) X)[0]? = some (rawU (N + 3) (rvals X.R X.m)))
      rw [hX.R] at hT
      have hc : ∀ j v, (rvals p.R X.m)[j]? = some v → W5.cell? ⟨N + 3, j, none⟩ = some v := fun j v h => by rw [cell_of_row _ _ _ _ T (0, 0) hT]; simpa using h
      obtain ⟨M, hM⟩ : ∃ M, X.m = M := ⟨_, rfl⟩
      rw [hM] at hc hT
      have r0 := hc 0 _ rfl
      have r1 := hc 1 _ rfl
      have r2 := hc 2 _ rfl
      have r3 := hc 3 _ rfl
      have r4 := hc 4 _ rfl
      have r5 := hc 5 _ rfl
      have r6 := hc 6 _ rfl
      have r7 := hc 7 _ rfl
      have r8 := hc 8 _ rfl
      have r9 := hc 9 _ rfl
      have r10 := hc 10 _ rfl
      have r11 := hc 11 _ rfl
      have r12 := hc 12 _ rfl
      have r13 := hc 13 _ rfl
      have r14 := hc 14 _ rfl
      have r16 := hc 16 _ rfl
      have r17 := hc 17 _ rfl
      have r18 := hc 18 _ rfl
      have q2 := hp5.c2
      have q3 := hp5.c3
      have q4 := hp5.c4
      have q5 := cell_one1 hp5.c5
      have hcnt : ∀ W, Calls Tryz.prog 38 #[.string text, .string ⟨#[10]⟩] W fun e w' => e = .returned (.int .i64 ((Lib.countByte text.data.toList 10 : Nat) : Int)) ∧ w' = W := fun W => Any.strings_Count_one (ρ := Tryz.lays138_ren) { Tryz.lays138 with } text 10 W
      have hsuf : ∀ W, Calls Tryz.prog 39 #[.string text, .string ⟨#[10]⟩] W fun e w' => e = .returned (.bool (Lib.hasSuffix text.data.toList [10])) ∧ w' = W := fun W => Any.strings_HasSuffix (ρ := Tryz.lays100_ren) { Tryz.lays100 with } text ⟨#[10]⟩ W (by omega)
      have hcb : Lib.countByte text.data.toList 10 ≤ 65536 := by
        unfold Lib.countByte
        have := List.count_le_length (a := (10 : UInt8)) (l := text.data.toList)
        rw [← Sc.ba_size] at this
        omega
      obtain ⟨ct, hct⟩ : ∃ ct : Nat, Lib.countByte text.data.toList 10 = ct := ⟨_, rfl⟩
      rw [hct] at hcnt hcb
      have hfold : foldP 0 psZ (linesB text.size text) = (p, 0, 0) := by rw [h1, List.drop_length]; rfl
      obtain ⟨b1, hb1⟩ : ∃ b, p.R.begun = b := ⟨_, rfl⟩
      obtain ⟨b2, hb2⟩ : ∃ b, p.R.sched = b := ⟨_, rfl⟩
      obtain ⟨b3, hb3⟩ : ∃ b, p.R.done = b := ⟨_, rfl⟩
      rw [hb1] at r16
      rw [hb2] at r17
      rw [hb3] at r18
      have hbad : (b1 && b2 && b3) = false → parseP text = (snZ, lastB text + 1, 9) := fun h => by
        unfold parseP
        rw [if_neg hbig]
        dsimp only
        rw [hfold]
        dsimp only
        rw [if_neg (by simp), hb1, hb2, hb3, h]
        rfl
      have hgood : (b1 && b2 && b3) = true → parseP text = (p.R.x, 0, 0) := fun h => by
        unfold parseP
        rw [if_neg hbig]
        dsimp only
        rw [hfold]
        dsimp only
        rw [if_neg (by simp), hb1, hb2, hb3, h]
        rfl
      simp only [Exit.inBlock, Exit.then, List.cons_append, List.nil_append]
      clear hp5 h1 h2 h3 h4 hst hpe hps hasn hbod htm hset hset1 hW5
      cases b1
      · have hres := hbad rfl
        have hbl : Below N w W5 := by rw [← hN]; exact hrel.below
        clear hbad hgood r17 r18 hrel hX hM hc hT r0 r1 r2 r3 r4 r5 r6 r7 r8 r9 r10 r11 r12 r13 r14 hfold hb1 hb2 hb3 l4 l1 hlt hbe hS hP1 hD1 hl1 f5 f6 ft g2 g3 g4 gb hbk hkf hkx hb hC hbf hb4
        cases hem : text.toList.isEmpty
        · cases hsf : Lib.hasSuffix text.data.toList [10]
          · have hlb : lastB text = (ct : Int) + 1 := by unfold lastB; rw [hem, hsf, hct]; rfl
            rw [hsf] at hsuf
            gi_wp2_with (first | ((with_reducible refine And.intro ?_ (And.intro ?_ ?_)); exact trivial; (intro h; cases h); first | (refine (callsIn_wide.2 (hcnt _)).mono ?_; rintro e w' ⟨rfl, hww⟩; obtain rfl : W5 = w' := hww.symm) | (refine (callsIn_wide.2 (hsuf _)).mono ?_; rintro e w' ⟨rfl, hww⟩; obtain rfl : W5 = w' := hww.symm)) | (with_reducible refine hold_store 35 ?_))
            refine ⟨?_⟩
            refine store_row_in FOK.wide rfl 35 _ _ rfl N snV.toArray rfl rfl _ _ q2 Tryz.sz35 rfl (by simp [snV, Value.oneCell']) ?_
            obtain ⟨W6, hW6⟩ : ∃ W6, W5.setRow N snV.toArray = W6 := ⟨_, rfl⟩
            have htc : touch (fun b => b = N) W5 W6 := by rw [← hW6]; exact setRow_touch _ _ _ rfl
            have v3 := htc.keep q3 (by omega)
            have v4 := htc.keep q4 (by omega)
            have z3 := cell_one1 v3
            have z4 := cell_one1 v4
            have y3 := frozen_one v3
            have y4 := frozen_one v4
            rw [hW6]
            gi_wp2
            generalize hW7 : World.setCell _ _ _ = W7
            rw [← hW6] at hW7
            obtain ⟨f1, f2, f3, f4, f5, f6⟩ := parse_fin snV _ 9 q2 q3 q4 hd5 (by omega) hW7
            refine ⟨by simp, .inl ⟨_, _, rfl, run_takeDeferred f1, _, resP (N := N) (vs := snV) rfl rfl rfl f2 rfl f3 f4, snV, ?_, ?_, ?_⟩⟩
            · rw [hres, hlb]
            · rw [hN]
              exact below_touch hbl f5 (fun b hb' => by omega) (by have := (Array.getElem?_eq_some_iff.1 hd5).1; omega)
            · rw [hres]
              exact repZ _
          · have hlb : lastB text = (ct : Int) := by unfold lastB; rw [hem, hsf, hct]; rfl
            rw [hsf] at hsuf
            gi_wp2_with (first | ((with_reducible refine And.intro ?_ (And.intro ?_ ?_)); exact trivial; (intro h; cases h); first | (refine (callsIn_wide.2 (hcnt _)).mono ?_; rintro e w' ⟨rfl, hww⟩; obtain rfl : W5 = w' := hww.symm) | (refine (callsIn_wide.2 (hsuf _)).mono ?_; rintro e w' ⟨rfl, hww⟩; obtain rfl : W5 = w' := hww.symm)) | (with_reducible refine hold_store 35 ?_))
            refine ⟨?_⟩
            refine store_row_in FOK.wide rfl 35 _ _ rfl N snV.toArray rfl rfl _ _ q2 Tryz.sz35 rfl (by simp [snV, Value.oneCell']) ?_
            obtain ⟨W6, hW6⟩ : ∃ W6, W5.setRow N snV.toArray = W6 := ⟨_, rfl⟩
            have htc : touch (fun b => b = N) W5 W6 := by rw [← hW6]; exact setRow_touch _ _ _ rfl
            have v3 := htc.keep q3 (by omega)
            have v4 := htc.keep q4 (by omega)
            have z3 := cell_one1 v3
            have z4 := cell_one1 v4
            have y3 := frozen_one v3
            have y4 := frozen_one v4
            rw [hW6]
            gi_wp2
            generalize hW7 : World.setCell _ _ _ = W7
            rw [← hW6] at hW7
            obtain ⟨f1, f2, f3, f4, f5, f6⟩ := parse_fin snV _ 9 q2 q3 q4 hd5 (by omega) hW7
            refine ⟨by simp, .inl ⟨_, _, rfl, run_takeDeferred f1, _, resP (N := N) (vs := snV) rfl rfl rfl f2 rfl f3 f4, snV, ?_, ?_, ?_⟩⟩
            · rw [hres, hlb]
            · rw [hN]
              exact below_touch hbl f5 (fun b hb' => by omega) (by have := (Array.getElem?_eq_some_iff.1 hd5).1; omega)
            · rw [hres]
              exact repZ _
        · have hlb : lastB text = (ct : Int) := by unfold lastB; rw [hem, hct]; rfl
          gi_wp2_with (first | ((with_reducible refine And.intro ?_ (And.intro ?_ ?_)); exact trivial; (intro h; cases h); first | (refine (callsIn_wide.2 (hcnt _)).mono ?_; rintro e w' ⟨rfl, hww⟩; obtain rfl : W5 = w' := hww.symm) | (refine (callsIn_wide.2 (hsuf _)).mono ?_; rintro e w' ⟨rfl, hww⟩; obtain rfl : W5 = w' := hww.symm)) | (with_reducible refine hold_store 35 ?_))
          refine And.intro trivial ?_
          gi_wp2_with (with_reducible refine hold_store 35 ?_)
          refine ⟨?_⟩
          refine store_row_in FOK.wide rfl 35 _ _ rfl N snV.toArray rfl rfl _ _ q2 Tryz.sz35 rfl (by simp [snV, Value.oneCell']) ?_
          obtain ⟨W6, hW6⟩ : ∃ W6, W5.setRow N snV.toArray = W6 := ⟨_, rfl⟩
          have htc : touch (fun b => b = N) W5 W6 := by rw [← hW6]; exact setRow_touch _ _ _ rfl
          have v3 := htc.keep q3 (by omega)
          have v4 := htc.keep q4 (by omega)
          have z3 := cell_one1 v3
          have z4 := cell_one1 v4
          have y3 := frozen_one v3
          have y4 := frozen_one v4
          rw [hW6]
          gi_wp2
          generalize hW7 : World.setCell _ _ _ = W7
          rw [← hW6] at hW7
          obtain ⟨f1, f2, f3, f4, f5, f6⟩ := parse_fin snV _ 9 q2 q3 q4 hd5 (by omega) hW7
          refine ⟨by simp, .inl ⟨_, _, rfl, run_takeDeferred f1, _, resP (N := N) (vs := snV) rfl rfl rfl f2 rfl f3 f4, snV, ?_, ?_, ?_⟩⟩
          · rw [hres, hlb]
          · rw [hN]
            exact below_touch hbl f5 (fun b hb' => by omega) (by have := (Array.getElem?_eq_some_iff.1 hd5).1; omega)
          · rw [hres]
            exact repZ _
      · cases b2
        · have hres := hbad rfl
          have hbl : Below N w W5 := by rw [← hN]; exact hrel.below
          clear hbad hgood r18 hrel hX hM hc hT r0 r1 r2 r3 r4 r5 r6 r7 r8 r9 r10 r11 r12 r13 r14 hfold hb1 hb2 hb3 l4 l1 hlt hbe hS hP1 hD1 hl1 f5 f6 ft g2 g3 g4 gb hbk hkf hkx hb hC hbf hb4
          cases hem : text.toList.isEmpty
          · cases hsf : Lib.hasSuffix text.data.toList [10]
            · have hlb : lastB text = (ct : Int) + 1 := by unfold lastB; rw [hem, hsf, hct]; rfl
              rw [hsf] at hsuf
              gi_wp2_with (first | ((with_reducible refine And.intro ?_ (And.intro ?_ ?_)); exact trivial; (intro h; cases h); first | (refine (callsIn_wide.2 (hcnt _)).mono ?_; rintro e w' ⟨rfl, hww⟩; obtain rfl : W5 = w' := hww.symm) | (refine (callsIn_wide.2 (hsuf _)).mono ?_; rintro e w' ⟨rfl, hww⟩; obtain rfl : W5 = w' := hww.symm)) | (with_reducible refine hold_store 35 ?_))
              refine ⟨?_⟩
              refine store_row_in FOK.wide rfl 35 _ _ rfl N snV.toArray rfl rfl _ _ q2 Tryz.sz35 rfl (by simp [snV, Value.oneCell']) ?_
              obtain ⟨W6, hW6⟩ : ∃ W6, W5.setRow N snV.toArray = W6 := ⟨_, rfl⟩
              have htc : touch (fun b => b = N) W5 W6 := by rw [← hW6]; exact setRow_touch _ _ _ rfl
              have v3 := htc.keep q3 (by omega)
              have v4 := htc.keep q4 (by omega)
              have z3 := cell_one1 v3
              have z4 := cell_one1 v4
              have y3 := frozen_one v3
              have y4 := frozen_one v4
              rw [hW6]
              gi_wp2
              generalize hW7 : World.setCell _ _ _ = W7
              rw [← hW6] at hW7
              obtain ⟨f1, f2, f3, f4, f5, f6⟩ := parse_fin snV _ 9 q2 q3 q4 hd5 (by omega) hW7
              refine ⟨by simp, .inl ⟨_, _, rfl, run_takeDeferred f1, _, resP (N := N) (vs := snV) rfl rfl rfl f2 rfl f3 f4, snV, ?_, ?_, ?_⟩⟩
              · rw [hres, hlb]
              · rw [hN]
                exact below_touch hbl f5 (fun b hb' => by omega) (by have := (Array.getElem?_eq_some_iff.1 hd5).1; omega)
              · rw [hres]
                exact repZ _
            · have hlb : lastB text = (ct : Int) := by unfold lastB; rw [hem, hsf, hct]; rfl
              rw [hsf] at hsuf
              gi_wp2_with (first | ((with_reducible refine And.intro ?_ (And.intro ?_ ?_)); exact trivial; (intro h; cases h); first | (refine (callsIn_wide.2 (hcnt _)).mono ?_; rintro e w' ⟨rfl, hww⟩; obtain rfl : W5 = w' := hww.symm) | (refine (callsIn_wide.2 (hsuf _)).mono ?_; rintro e w' ⟨rfl, hww⟩; obtain rfl : W5 = w' := hww.symm)) | (with_reducible refine hold_store 35 ?_))
              refine ⟨?_⟩
              refine store_row_in FOK.wide rfl 35 _ _ rfl N snV.toArray rfl rfl _ _ q2 Tryz.sz35 rfl (by simp [snV, Value.oneCell']) ?_
              obtain ⟨W6, hW6⟩ : ∃ W6, W5.setRow N snV.toArray = W6 := ⟨_, rfl⟩
              have htc : touch (fun b => b = N) W5 W6 := by rw [← hW6]; exact setRow_touch _ _ _ rfl
              have v3 := htc.keep q3 (by omega)
              have v4 := htc.keep q4 (by omega)
              have z3 := cell_one1 v3
              have z4 := cell_one1 v4
              have y3 := frozen_one v3
              have y4 := frozen_one v4
              rw [hW6]
              gi_wp2
              generalize hW7 : World.setCell _ _ _ = W7
              rw [← hW6] at hW7
              obtain ⟨f1, f2, f3, f4, f5, f6⟩ := parse_fin snV _ 9 q2 q3 q4 hd5 (by omega) hW7
              refine ⟨by simp, .inl ⟨_, _, rfl, run_takeDeferred f1, _, resP (N := N) (vs := snV) rfl rfl rfl f2 rfl f3 f4, snV, ?_, ?_, ?_⟩⟩
              · rw [hres, hlb]
              · rw [hN]
                exact below_touch hbl f5 (fun b hb' => by omega) (by have := (Array.getElem?_eq_some_iff.1 hd5).1; omega)
              · rw [hres]
                exact repZ _
          · have hlb : lastB text = (ct : Int) := by unfold lastB; rw [hem, hct]; rfl
            gi_wp2_with (first | ((with_reducible refine And.intro ?_ (And.intro ?_ ?_)); exact trivial; (intro h; cases h); first | (refine (callsIn_wide.2 (hcnt _)).mono ?_; rintro e w' ⟨rfl, hww⟩; obtain rfl : W5 = w' := hww.symm) | (refine (callsIn_wide.2 (hsuf _)).mono ?_; rintro e w' ⟨rfl, hww⟩; obtain rfl : W5 = w' := hww.symm)) | (with_reducible refine hold_store 35 ?_))
            refine And.intro trivial ?_
            gi_wp2_with (with_reducible refine hold_store 35 ?_)
            refine ⟨?_⟩
            refine store_row_in FOK.wide rfl 35 _ _ rfl N snV.toArray rfl rfl _ _ q2 Tryz.sz35 rfl (by simp [snV, Value.oneCell']) ?_
            obtain ⟨W6, hW6⟩ : ∃ W6, W5.setRow N snV.toArray = W6 := ⟨_, rfl⟩
            have htc : touch (fun b => b = N) W5 W6 := by rw [← hW6]; exact setRow_touch _ _ _ rfl
            have v3 := htc.keep q3 (by omega)
            have v4 := htc.keep q4 (by omega)
            have z3 := cell_one1 v3
            have z4 := cell_one1 v4
            have y3 := frozen_one v3
            have y4 := frozen_one v4
            rw [hW6]
            gi_wp2
            generalize hW7 : World.setCell _ _ _ = W7
            rw [← hW6] at hW7
            obtain ⟨f1, f2, f3, f4, f5, f6⟩ := parse_fin snV _ 9 q2 q3 q4 hd5 (by omega) hW7
            refine ⟨by simp, .inl ⟨_, _, rfl, run_takeDeferred f1, _, resP (N := N) (vs := snV) rfl rfl rfl f2 rfl f3 f4, snV, ?_, ?_, ?_⟩⟩
            · rw [hres, hlb]
            · rw [hN]
              exact below_touch hbl f5 (fun b hb' => by omega) (by have := (Array.getElem?_eq_some_iff.1 hd5).1; omega)
            · rw [hres]
              exact repZ _
        · cases b3
          · have hres := hbad rfl
            have hbl : Below N w W5 := by rw [← hN]; exact hrel.below
            clear hbad hgood  hrel hX hM hc hT r0 r1 r2 r3 r4 r5 r6 r7 r8 r9 r10 r11 r12 r13 r14 hfold hb1 hb2 hb3 l4 l1 hlt hbe hS hP1 hD1 hl1 f5 f6 ft g2 g3 g4 gb hbk hkf hkx hb hC hbf hb4
            cases hem : text.toList.isEmpty
            · cases hsf : Lib.hasSuffix text.data.toList [10]
              · have hlb : lastB text = (ct : Int) + 1 := by unfold lastB; rw [hem, hsf, hct]; rfl
                rw [hsf] at hsuf
                gi_wp2_with (first | ((with_reducible refine And.intro ?_ (And.intro ?_ ?_)); exact trivial; (intro h; cases h); first | (refine (callsIn_wide.2 (hcnt _)).mono ?_; rintro e w' ⟨rfl, hww⟩; obtain rfl : W5 = w' := hww.symm) | (refine (callsIn_wide.2 (hsuf _)).mono ?_; rintro e w' ⟨rfl, hww⟩; obtain rfl : W5 = w' := hww.symm)) | (with_reducible refine hold_store 35 ?_))
                refine ⟨?_⟩
                refine store_row_in FOK.wide rfl 35 _ _ rfl N snV.toArray rfl rfl _ _ q2 Tryz.sz35 rfl (by simp [snV, Value.oneCell']) ?_
                obtain ⟨W6, hW6⟩ : ∃ W6, W5.setRow N snV.toArray = W6 := ⟨_, rfl⟩
                have htc : touch (fun b => b = N) W5 W6 := by rw [← hW6]; exact setRow_touch _ _ _ rfl
                have v3 := htc.keep q3 (by omega)
                have v4 := htc.keep q4 (by omega)
                have z3 := cell_one1 v3
                have z4 := cell_one1 v4
                have y3 := frozen_one v3
                have y4 := frozen_one v4
                rw [hW6]
                gi_wp2
                generalize hW7 : World.setCell _ _ _ = W7
                rw [← hW6] at hW7
                obtain ⟨f1, f2, f3, f4, f5, f6⟩ := parse_fin snV _ 9 q2 q3 q4 hd5 (by omega) hW7
                refine ⟨by simp, .inl ⟨_, _, rfl, run_takeDeferred f1, _, resP (N := N) (vs := snV) rfl rfl rfl f2 rfl f3 f4, snV, ?_, ?_, ?_⟩⟩
                · rw [hres, hlb]
                · rw [hN]
                  exact below_touch hbl f5 (fun b hb' => by omega) (by have := (Array.getElem?_eq_some_iff.1 hd5).1; omega)
                · rw [hres]
                  exact repZ _
              · have hlb : lastB text = (ct : Int) := by unfold lastB; rw [hem, hsf, hct]; rfl
                rw [hsf] at hsuf
                gi_wp2_with (first | ((with_reducible refine And.intro ?_ (And.intro ?_ ?_)); exact trivial; (intro h; cases h); first | (refine (callsIn_wide.2 (hcnt _)).mono ?_; rintro e w' ⟨rfl, hww⟩; obtain rfl : W5 = w' := hww.symm) | (refine (callsIn_wide.2 (hsuf _)).mono ?_; rintro e w' ⟨rfl, hww⟩; obtain rfl : W5 = w' := hww.symm)) | (with_reducible refine hold_store 35 ?_))
                refine ⟨?_⟩
                refine store_row_in FOK.wide rfl 35 _ _ rfl N snV.toArray rfl rfl _ _ q2 Tryz.sz35 rfl (by simp [snV, Value.oneCell']) ?_
                obtain ⟨W6, hW6⟩ : ∃ W6, W5.setRow N snV.toArray = W6 := ⟨_, rfl⟩
                have htc : touch (fun b => b = N) W5 W6 := by rw [← hW6]; exact setRow_touch _ _ _ rfl
                have v3 := htc.keep q3 (by omega)
                have v4 := htc.keep q4 (by omega)
                have z3 := cell_one1 v3
                have z4 := cell_one1 v4
                have y3 := frozen_one v3
                have y4 := frozen_one v4
                rw [hW6]
                gi_wp2
                generalize hW7 : World.setCell _ _ _ = W7
                rw [← hW6] at hW7
                obtain ⟨f1, f2, f3, f4, f5, f6⟩ := parse_fin snV _ 9 q2 q3 q4 hd5 (by omega) hW7
                refine ⟨by simp, .inl ⟨_, _, rfl, run_takeDeferred f1, _, resP (N := N) (vs := snV) rfl rfl rfl f2 rfl f3 f4, snV, ?_, ?_, ?_⟩⟩
                · rw [hres, hlb]
                · rw [hN]
                  exact below_touch hbl f5 (fun b hb' => by omega) (by have := (Array.getElem?_eq_some_iff.1 hd5).1; omega)
                · rw [hres]
                  exact repZ _
            · have hlb : lastB text = (ct : Int) := by unfold lastB; rw [hem, hct]; rfl
              gi_wp2_with (first | ((with_reducible refine And.intro ?_ (And.intro ?_ ?_)); exact trivial; (intro h; cases h); first | (refine (callsIn_wide.2 (hcnt _)).mono ?_; rintro e w' ⟨rfl, hww⟩; obtain rfl : W5 = w' := hww.symm) | (refine (callsIn_wide.2 (hsuf _)).mono ?_; rintro e w' ⟨rfl, hww⟩; obtain rfl : W5 = w' := hww.symm)) | (with_reducible refine hold_store 35 ?_))
              refine And.intro trivial ?_
              gi_wp2_with (with_reducible refine hold_store 35 ?_)
              refine ⟨?_⟩
              refine store_row_in FOK.wide rfl 35 _ _ rfl N snV.toArray rfl rfl _ _ q2 Tryz.sz35 rfl (by simp [snV, Value.oneCell']) ?_
              obtain ⟨W6, hW6⟩ : ∃ W6, W5.setRow N snV.toArray = W6 := ⟨_, rfl⟩
              have htc : touch (fun b => b = N) W5 W6 := by rw [← hW6]; exact setRow_touch _ _ _ rfl
              have v3 := htc.keep q3 (by omega)
              have v4 := htc.keep q4 (by omega)
              have z3 := cell_one1 v3
              have z4 := cell_one1 v4
              have y3 := frozen_one v3
              have y4 := frozen_one v4
              rw [hW6]
              gi_wp2
              generalize hW7 : World.setCell _ _ _ = W7
              rw [← hW6] at hW7
              obtain ⟨f1, f2, f3, f4, f5, f6⟩ := parse_fin snV _ 9 q2 q3 q4 hd5 (by omega) hW7
              refine ⟨by simp, .inl ⟨_, _, rfl, run_takeDeferred f1, _, resP (N := N) (vs := snV) rfl rfl rfl f2 rfl f3 f4, snV, ?_, ?_, ?_⟩⟩
              · rw [hres, hlb]
              · rw [hN]
                exact below_touch hbl f5 (fun b hb' => by omega) (by have := (Array.getElem?_eq_some_iff.1 hd5).1; omega)
              · rw [hres]
                exact repZ _
          · have hres := hgood rfl
            have hbl : Below N w W5 := by rw [← hN]; exact hrel.below
            have hexts := hrel.exth.2.1.2.1
            have hdisj := hrel.exth.2.2
            have hread := hrel.extr.2.2
            clear hbad hgood hfold hb1 hb2 hb3 l4 l1 hlt hbe hP1 hD1 hl1 f5 f6 ft g2 g3 g4 gb hbk hkf hkx hb hC hbf hb4 hcnt hsuf hc hT
            gi_wp2_with (with_reducible refine hold_store 35 ?_)
            refine ⟨?_⟩
            have hSN : ∀ b, N ≤ b → b < N + 3 → S B b := fun b h1 h2 => by rw [hS]; exact .inl ⟨h1, h2⟩
            have hSD : S B (N' + 3) := by rw [hS]; exact .inr ⟨by omega, by omega⟩
            have hrep : RepL (besR N (S B) W5) p.R.x.pv ((rvals p.R M).take 15) := by
              have h9 := rep_sn (R := besR N (S B) W5) (w := W5) (b := N + 3) hX hexts ?_ ?_
              · rw [hX.R, hM] at h9
                exact h9
              · refine (exts (pcsX (N + 3) X)).rmono (fun q v hq => ?_) hread
                unfold rdr at hq
                dsimp only at hq
                rw [hN] at hq
                by_cases h1 : q.block < N
                · rw [if_pos h1] at hq; cases hq
                · rw [if_neg h1] at hq
                  by_cases h2 : S B q.block
                  · rw [if_pos (.inr (.inr (.inl (.inl (.inr h2)))))] at hq; cases hq
                  · unfold besR
                    rw [if_neg (fun h : _ ∨ _ => h.elim h1 h2)]
                    split at hq
                    · cases hq
                    · exact hq
              · intro g hg j u hu
                have h1 := (hrel.extf g (.inl (.inr (.inr hg)))).1
                have h2 : ¬ S B g := fun h => hdisj g (.inl (.inr h)) (.inl (.inr hg))
                have h3 : w.heap.size = N := hN
                unfold besR
                rw [if_neg (fun h : _ ∨ _ => h.elim (fun h => by dsimp only at h h1; omega) h2)]
                exact hu
            have hone : ((rvals p.R M).take 15).toArray.all (·.oneCell') = true := by
              rw [List.all_toArray]
              exact hrep.all_one
            clear hexts hdisj hread hrel hX hM
            refine store_row_in FOK.wide rfl 35 _ _ rfl N ((rvals p.R M).take 15).toArray rfl rfl _ _ q2 Tryz.sz35 rfl hone ?_
            obtain ⟨W6, hW6⟩ : ∃ W6, W5.setRow N ((rvals p.R M).take 15).toArray = W6 := ⟨_, rfl⟩
            have htc : touch (fun b => b = N) W5 W6 := by rw [← hW6]; exact setRow_touch _ _ _ rfl
            have v3 := htc.keep q3 (by omega)
            have v4 := htc.keep q4 (by omega)
            have z3 := cell_one1 v3
            have z4 := cell_one1 v4
            have y3 := frozen_one v3
            have y4 := frozen_one v4
            rw [hW6]
            gi_wp2
            generalize hW7 : World.setCell _ _ _ = W7
            rw [← hW6] at hW7
            obtain ⟨f1, f2, f3, f4, f5, f6⟩ := parse_fin ((rvals p.R M).take 15) 0 0 q2 q3 q4 hd5 (by omega) hW7
            refine ⟨by simp, .inl ⟨_, _, rfl, run_takeDeferred f1, _, resP (N := N) (vs := (rvals p.R M).take 15) rfl rfl rfl f2 rfl f3 f4, (rvals p.R M).take 15, ?_, ?_, ?_⟩⟩
            · rw [hres]
            · rw [hN]
              exact below_touch hbl f5 (fun b hb' => by omega) (by have := (Array.getElem?_eq_some_iff.1 hd5).1; omega)
            · rw [hres]
              refine hrep.mono fun q v hq => ?_
              unfold besR at hq
              split at hq
              · cases hq
              · rename_i h1
                rw [if_neg (by rw [hN]; exact fun h => h1 (.inl h))]
                refine (World.cell?_of_block (w := W5) (a := q) (f6 q.block fun h => ?_)).trans hq
                rcases h with h | h
                · exact h1 (.inr (hSN _ h.1 h.2))
                · exact h1 (.inr (by rw [h]; exact hSD))
    · refine ⟨_, _, run_endLoop h8 (by rw [hst]; simp), ?_⟩
      rw [hpe]
      refine wpIn_ret ?_
      refine ⟨by simp, .inl ⟨_, _, rfl, run_takeDeferred (hbe _ h7 (by omega)), ?_⟩⟩
      have hres : parseP text = (snZ, (k : Int), e) := by
        unfold parseP
        rw [if_neg hbig]
        dsimp only
        rw [h2]
        dsimp only
        rw [if_pos h1]
      refine ⟨_, resP (N := N) (vs := snV) (k := k) (e := e) rfl rfl rfl (hbe _ (hbe _ h4 (by omega)) (by omega)) rfl (hbe _ (hbe _ h5 (by omega)) (by omega)) (hbe _ (hbe _ h6 (by omega)) (by omega)), snV, ?_, ?_, ?_⟩
      · rw [hres]
      · rw [hN]
        exact below_touch h3 ((touch.putObj (S := fun b => N' ≤ b) _ _ _ (by omega)).trans (touch.putObj _ _ _ (by omega))) (fun b hb' => by omega) (by have := hlt h8; omega)
      · rw [hres]
        exact repZ _
end Go.Proofs.YtcloigoajohppaaGreatDoor
/- Parse: its contract. -/
namespace Go.Proofs.YtcloigoajohppaaGreatDoor
open Go.RowKit
open Av
open Sc
set_option maxRecDepth 100000
set_option linter.unusedSimpArgs false

theorem parse_okC (text : ByteArray) : FnOKC Tryz.prog LC 13 [.v (.string text)] ⟨.tup [.g (parseP text).1.pv, .c (ip (parseP text).2.1), .c (ip (parseP text).2.2)], none⟩ := by
  refine ⟨⟨Tryz.f13, _, Tryz.func13, by kernel_rfl, rfl⟩, fun w R hC hR us hus => ?_⟩
  cases hus with | cons h0 _ hus =>
  cases hus
  rw [h0]
  refine (parse_any text w hC).mono ?_
  rintro e w' ⟨vs, rfl, hb, hrep⟩
  refine ⟨_, rfl, hb, rfl, [.agg vs.toArray, .int .i64 (parseP text).2.1, .int .i64 (parseP text).2.2], rfl, .cons (.g (hrep.mono fun q v hq => ?_)) (.cons (.c (.v _ rfl)) (.cons (.c (.v _ rfl)) .nil))⟩
  unfold fresh
  split at hq
  · cases hq
  · rename_i h
    rw [if_neg h, if_neg (by simp)]
    exact hq
end Go.Proofs.YtcloigoajohppaaGreatDoor
/- The lines of a text that was written are read: in plain Lean. -/
namespace Go.Proofs.YtcloigoajohppaaGreatDoor
open Go.RowKit
open Av
open Sc
set_option maxRecDepth 100000
set_option linter.unusedSimpArgs false
set_option linter.unusedVariables false

theorem linesB_of : ∀ (m : Nat) (s : ByteArray), s.size ≤ m → linesB m s = (splitC 10 s.data.toList).map mkB := fun m => by
  induction m with
  | zero =>
    intro s hs
    have h0 : s.data.toList = [] := List.eq_nil_of_length_eq_zero (by rw [← size_list]; omega)
    rw [h0]
    show [s] = [mkB []]
    rw [← mkB_of s, h0]
  | succ m ih =>
    intro s hs
    unfold linesB
    rcases split_cases 10 s.data.toList with h | ⟨a, r, he, h⟩
    · rw [indexByte_miss h, if_pos (by decide), splitC_one h, List.map_cons, List.map_nil, mkB_of]
    · have hi : Lib.indexByte s.data.toList 10 = (a.length : Nat) := by rw [he, indexByte_hit r h]
      have hsz := size_list s
      rw [he] at hsz
      simp only [List.length_append, List.length_cons] at hsz
      rw [hi, if_neg (by omega), show ((a.length : Nat) : Int).toNat = a.length from Int.toNat_natCast _, ih _ (by rw [ByteArray.size_extract]; omega)]
      have e1 : (s.extract (a.length + 1) s.size).data.toList = r := by
        rw [Lib.extract_to_end, he, List.drop_append]
        simp
      have e2 : s.extract 0 a.length = mkB a := ext_list (by rw [Lib.extract_from_zero, he, mkB_list]; simp)
      rw [e1, e2, he, splitC_cons r h, List.map_cons]
theorem wordsL_eq (s : ByteArray) : wordsL s = (splitC 32 s.data.toList).map mkB := wordsL_of 32 s.size s (Nat.le_refl _)
theorem numR_itoa {n : Int} (h0 : -1099511627776 ≤ n) (h1 : n ≤ 1099511627776) : numR (mkB (Lib.itoa n)) = (n, true) := by
  unfold numR
  rw [mkB_list, atoiAll_itoa h0 h1]
  show (n, ((mkB (Lib.itoa n)).toList == (mkB (Lib.itoa n)).toList) && _) = _
  rw [beq_self_eq_true, decide_eq_true h0, decide_eq_true h1]
  rfl
theorem foldP_cons (k : Nat) (p : Ps) (s : ByteArray) (l : List ByteArray) : foldP k p (s :: l) = if skipB s then foldP (k + 1) p l else if (stepP p (lineO s)).2 = 0 then foldP (k + 1) (stepP p (lineO s)).1 l else (p, k + 1, (stepP p (lineO s)).2) := rfl
end Go.Proofs.YtcloigoajohppaaGreatDoor
/- The lines of a scenario are read back as the scenario: in plain Lean. -/
namespace Go.Proofs.YtcloigoajohppaaGreatDoor
open Go.RowKit
open Av
open Sc
set_option maxRecDepth 100000
set_option linter.unusedSimpArgs false
set_option linter.unusedVariables false

theorem kd_word (k : Kd) : kdOf k.word = some k ∧ k.word ≠ wRoute := by cases k <;> decide
end Go.Proofs.YtcloigoajohppaaGreatDoor
/- The example. -/
namespace Go.Proofs.YtcloigoajohppaaGreatDoor
open Go.RowKit
open Av
open Sc
set_option maxRecDepth 100000
set_option linter.unusedSimpArgs false

def exB : ByteArray := ⟨#[110, 101, 116, 119, 111, 114, 107, 32, 50, 32, 49, 32, 50, 48, 48, 48, 10, 112, 111, 119, 101, 114, 32, 48, 32, 49, 32, 52, 48, 10, 112, 111, 119, 101, 114, 32, 49, 32, 48, 32, 52, 48, 10, 108, 105, 110, 107, 32, 48, 32, 49, 32, 48, 32, 50, 48, 10, 115, 99, 104, 101, 100, 117, 108, 101, 32, 52, 32, 49, 10, 115, 108, 111, 116, 115, 32, 56, 10]⟩
def exC : ByteArray := ⟨#[110, 101, 116, 119, 111, 114, 107, 32, 50, 32, 49, 32, 50, 48, 48, 48, 10, 112, 111, 119, 101, 114, 32, 48, 32, 49, 32, 52, 48, 10, 112, 111, 119, 101, 114, 32, 49, 32, 48, 32, 52, 48, 10, 108, 105, 110, 107, 32, 48, 32, 49, 32, 48, 32, 50, 48, 10, 115, 108, 111, 116, 115, 32, 56, 10, 115, 99, 104, 101, 100, 117, 108, 101, 32, 52, 32, 49, 10]⟩
def exX : Sn := ⟨⟨2, [[0, 40], [40, 0]], 1, 2000, [⟨0, 1, 0⟩], [20]⟩, [], [], 4, 1, [], [], [], [], 8⟩
theorem parse_exB : parseP exB = (exX, 0, 0) := by kernel_rfl
theorem fmt_exB : fmt exX = (exB, 0) := by kernel_rfl
theorem parse_exC : parseP exC = (snZ, 5, 5) := by kernel_rfl
theorem line_exW : lineO ⟨#[119, 101, 97, 107, 32, 49, 32, 45, 50, 32, 51, 48]⟩ = some (⟨#[119, 101, 97, 107]⟩, [1, -2, 30]) := by kernel_rfl
end Go.Proofs.YtcloigoajohppaaGreatDoor
/- The reference's parser in plain Lean: one line; it does what the program's reader does. -/
namespace Go.Proofs.YtcloigoajohppaaGreatDoor
open Go.RowKit
open Av
open Sc
set_option maxRecDepth 100000
set_option linter.unusedSimpArgs false
set_option linter.unusedVariables false

structure Pr where
  x : Sn
  at_ : Int
  nw : Bool
  sc : Bool
  sl : Bool
def formQ (w : ByteArray) : Int × Int := if w = wRoute then (3, -1) else match kdOf w with
  | some k => ((k.rank : Int), (k.count : Int))
  | none => (-1, 0)
def onceB (w : ByteArray) : Bool := decide (w = wNetwork) || decide (w = wSchedule) || decide (w = wSlots)
def laterR (q : Pr) (w : ByteArray) (pl : Int) : Bool :=
  if w = wRoute then (q.at_ == 3 && decide (0 < q.x.before.length)) || (q.at_ == 4 && decide (0 < q.x.after.length))
  else if (onceB w && decide (pl ≤ q.at_)) = true then false
  else if (decide (pl < q.at_) || (!q.nw && !decide (w = wNetwork))) = true then false
  else decide (pl ≤ 5) || q.sc
def Pr.ps (q : Pr) : Ps := ⟨⟨q.x, 0, q.nw, q.sc, q.sl⟩, none⟩
def routeR (q : Pr) (l : List Int) : Pr × Int :=
  if q.at_ = 4 then (if 1024 ≤ (lastRs q.x.after).length ∨ 1024 < l.length then (q, 8) else ({ q with x := { q.x with after := addRt l q.x.after } }, 0))
  else (if 1024 ≤ (lastRs q.x.before).length ∨ 1024 < l.length then (q, 8) else ({ q with x := { q.x with before := addRt l q.x.before } }, 0))
def kindR (k : Kd) (q : Pr) (l : List Int) : Pr × Int := (⟨(readP k q.ps l).1.R.x, (k.rank : Int), (readP k q.ps l).1.R.begun, (readP k q.ps l).1.R.sched, (readP k q.ps l).1.R.done⟩, (readP k q.ps l).2)
def stepR (q : Pr) : Option Ln → Pr × Int
  | none => (q, 3)
  | some (w, l) =>
    if (formQ w).1 < 0 ∨ (0 ≤ (formQ w).2 ∧ (l.length : Int) ≠ (formQ w).2) ∨ ((formQ w).2 < 0 ∧ l.length = 0) then (q, 3)
    else if laterR q w (formQ w).1 = false then (q, 5)
    else if w = wRoute then routeR q l else match kdOf w with
      | some k => kindR k q l
      | none => (q, 3)
structure Same (q : Pr) (p : Ps) : Prop where
  x : q.x = p.R.x
  nw : q.nw = p.R.begun
  sc : q.sc = p.R.sched
  sl : q.sl = p.R.done
  at_ : q.at_ = if p.R.begun then p.R.rank else -1
  r0 : 0 ≤ p.R.rank
  r1 : p.R.rank ≤ 10
  s5 : p.R.sched = true ↔ p.R.begun = true ∧ 5 ≤ p.R.rank
  s10 : p.R.done = true ↔ p.R.begun = true ∧ p.R.rank = 10
  fresh : p.R.begun = false → p.R.rank = 0 ∧ p.ro = none
  rb : p.ro = some false ↔ p.R.begun = true ∧ p.R.rank = 3
  ra : p.ro = some true ↔ p.R.begun = true ∧ p.R.rank = 4
  be : p.ro = some false → p.R.x.before ≠ []
  af : p.ro = some true → p.R.x.after ≠ []
theorem kd_inv {w : ByteArray} {k : Kd} (h : kdOf w = some k) : k.word = w := by
  have h9 := List.find?_some (show Kd.all.find? (fun k => decide (k.word = w)) = some k from h)
  exact of_decide_eq_true h9
theorem kd_route {w : ByteArray} {k : Kd} (h : kdOf w = some k) : w ≠ wRoute := by
  rw [← kd_inv h]
  exact (kd_word k).2
theorem readP_flags (k : Kd) (p : Ps) (l : List Int) (hl : l.length = k.count) (h0 : (readP k p l).2 = 0) :
    (readP k p l).1.R.begun = (p.R.begun || decide (k = .network)) ∧ (readP k p l).1.R.sched = (p.R.sched || decide (k = .schedule)) ∧ (readP k p l).1.R.done = (p.R.done || decide (k = .slots)) ∧ (readP k p l).1.R.rank = p.R.rank ∧
    (readP k p l).1.ro = (match k with | .before => some false | .after => some true | _ => p.ro) ∧ (k = .before → (readP k p l).1.R.x.before ≠ []) ∧ (k = .after → (readP k p l).1.R.x.after ≠ []) := by
  cases k
  all_goals (rcases l with _ | ⟨a0, _ | ⟨a1, _ | ⟨a2, _ | ⟨a3, _ | ⟨a4, _ | ⟨a5, _ | ⟨a6, l⟩⟩⟩⟩⟩⟩⟩)
  all_goals first
    | (exfalso; simp [Kd.count] at hl; done)
    | (simp only [readP] at h0 ⊢; split at h0 <;> first | (exfalso; simp at h0; done) | (simp [addRt]; done) | (rename_i hh; (first | rw [if_pos hh] | rw [if_neg hh]); simp))
    | (simp [readP])
theorem readP_ps (k : Kd) (l : List Int) (x : Sn) (b s d : Bool) (r r' : Int) (o o' : Option Bool) :
    (readP k ⟨⟨x, r, b, s, d⟩, o⟩ l).2 = (readP k ⟨⟨x, r', b, s, d⟩, o'⟩ l).2 ∧ (readP k ⟨⟨x, r, b, s, d⟩, o⟩ l).1.R.x = (readP k ⟨⟨x, r', b, s, d⟩, o'⟩ l).1.R.x ∧ (readP k ⟨⟨x, r, b, s, d⟩, o⟩ l).1.R.begun = (readP k ⟨⟨x, r', b, s, d⟩, o'⟩ l).1.R.begun ∧
    (readP k ⟨⟨x, r, b, s, d⟩, o⟩ l).1.R.sched = (readP k ⟨⟨x, r', b, s, d⟩, o'⟩ l).1.R.sched ∧ (readP k ⟨⟨x, r, b, s, d⟩, o⟩ l).1.R.done = (readP k ⟨⟨x, r', b, s, d⟩, o'⟩ l).1.R.done := by
  cases k
  all_goals (rcases l with _ | ⟨a0, _ | ⟨a1, _ | ⟨a2, _ | ⟨a3, _ | ⟨a4, _ | ⟨a5, _ | ⟨a6, l⟩⟩⟩⟩⟩⟩⟩)
  all_goals first
    | exact ⟨rfl, rfl, rfl, rfl, rfl⟩
    | (simp only [readP]; split <;> exact ⟨rfl, rfl, rfl, rfl, rfl⟩)
theorem later_comes {q : Pr} {p : Ps} (h : Same q p) (k : Kd) : laterR q k.word (k.rank : Int) = comesB p.R (k.rank : Int) := by
  have hr := (kd_word k).2
  unfold laterR comesB
  rw [if_neg hr, h.at_, h.nw, h.sc]
  generalize hpl : ((k.rank : Nat) : Int) = pl
  have h0 := h.r0
  have h1 := h.r1
  have h5 := h.s5
  have h10 := h.s10
  have hf := h.fresh
  cases hb : p.R.begun with
  | false =>
    have hs : p.R.sched = false := by
      cases hs : p.R.sched with
      | false => rfl
      | true => have := (h5.1 hs).1; rw [hb] at this; cases this
    rw [hs]
    cases k <;> simp [Kd.rank] at hpl <;> subst hpl <;> simp [Kd.word, onceB, wNetwork, wPower, wLink, wBefore, wAfter, wSchedule, wCell, wAdd, wRemove, wWeak, wOutage, wSlots]
  | true =>
    rw [hb] at h5 h10
    simp only [true_and] at h5 h10
    cases hs : p.R.sched with
    | false =>
      have h6 : p.R.rank < 5 := by
        rcases Int.lt_or_le p.R.rank 5 with h6 | h6
        · exact h6
        · have := h5.2 h6
          rw [hs] at this; cases this
      rw [Bool.eq_iff_iff]; cases k <;> simp [Kd.rank] at hpl <;> subst hpl <;> simp [Kd.word, onceB, wNetwork, wPower, wLink, wBefore, wAfter, wSchedule, wCell, wAdd, wRemove, wWeak, wOutage, wSlots] <;> omega
    | true =>
      have h6 := h5.1 hs
      cases hd : p.R.done with
      | false =>
        have h7 : p.R.rank < 10 := by
          rcases Int.lt_or_le p.R.rank 10 with h7 | h7
          · exact h7
          · have := h10.2 (by omega)
            rw [hd] at this; cases this
        rw [Bool.eq_iff_iff]; cases k <;> simp [Kd.rank] at hpl <;> subst hpl <;> simp [Kd.word, onceB, wNetwork, wPower, wLink, wBefore, wAfter, wSchedule, wCell, wAdd, wRemove, wWeak, wOutage, wSlots] <;> omega
      | true =>
        have h7 := h10.1 hd
        rw [h7]
        cases k <;> simp [Kd.rank] at hpl <;> subst hpl <;> simp [Kd.word, onceB, wNetwork, wPower, wLink, wBefore, wAfter, wSchedule, wCell, wAdd, wRemove, wWeak, wOutage, wSlots]
end Go.Proofs.YtcloigoajohppaaGreatDoor
/- The reference's parser does with one line what the program's reader does. -/
namespace Go.Proofs.YtcloigoajohppaaGreatDoor
open Go.RowKit
open Av
open Sc
set_option maxRecDepth 100000
set_option linter.unusedSimpArgs false
set_option linter.unusedVariables false

theorem formQ_kd {w : ByteArray} {k : Kd} (h : kdOf w = some k) : formQ w = ((k.rank : Int), (k.count : Int)) := by
  unfold formQ
  rw [if_neg (kd_route h), h]
theorem formQ_none {w : ByteArray} (h : kdOf w = none) (hw : w ≠ wRoute) : formQ w = (-1, 0) := by
  unfold formQ
  rw [if_neg hw, h]
theorem kd_of_route : kdOf wRoute = none := by decide
theorem comes_net {R : Rd} (h : comesB R ((Kd.network.rank : Nat) : Int) = true) : R.begun = false := by
  revert h
  unfold comesB
  simp [Kd.rank]
theorem comes_other {R : Rd} {k : Kd} (hk : k ≠ .network) (h : comesB R ((k.rank : Nat) : Int) = true) : R.begun = true ∧ R.rank ≤ (k.rank : Int) ∧ ((5 : Int) < k.rank → R.sched = true) := by
  revert h
  unfold comesB
  have h1 : ((k.rank : Nat) : Int) ≠ 0 := by cases k <;> first | exact absurd rfl hk | (simp [Kd.rank])
  have h2 : (((k.rank : Nat) : Int) == 0) = false := by simpa using h1
  rw [h2]
  intro h
  simp only [Bool.false_eq_true, if_false] at h
  split at h
  · cases h
  · rename_i h3
    simp only [Bool.or_eq_true, Bool.not_eq_true', decide_eq_true_eq, Bool.and_eq_true, not_or, not_and, Bool.not_eq_false] at h3
    refine ⟨h3.1.1, by have := h3.1.2; omega, fun h5 => h3.2 (by omega)⟩
theorem addRt_ne {r : List Int} : ∀ {l : List Rq}, l ≠ [] → addRt r l ≠ []
  | [], h => absurd rfl h
  | [q], h => by simp [addRt]
  | q :: q' :: l, h => by simp [addRt]
theorem Same.three {q : Pr} {p : Ps} (h : Same q p) : q.at_ = 3 ↔ p.ro = some false := by
  rw [h.rb, h.at_]
  cases p.R.begun <;> simp
theorem Same.four {q : Pr} {p : Ps} (h : Same q p) : q.at_ = 4 ↔ p.ro = some true := by
  rw [h.ra, h.at_]
  cases p.R.begun <;> simp
theorem later_route {q : Pr} {p : Ps} (h : Same q p) : laterR q wRoute 3 = p.ro.isSome := by
  unfold laterR
  rw [if_pos rfl]
  have h3 := h.three
  have h4 := h.four
  have hb := h.be
  have ha := h.af
  rw [← h.x] at hb ha
  cases ho : p.ro with
  | none =>
    rw [ho] at h3 h4
    have n3 : ¬ q.at_ = 3 := fun e => by cases h3.1 e
    have n4 : ¬ q.at_ = 4 := fun e => by cases h4.1 e
    simp [n3, n4]
  | some o =>
    rw [ho] at h3 h4 hb ha
    cases o with
    | false =>
      have n3 : q.at_ = 3 := h3.2 rfl
      have := List.length_pos_iff.2 (hb rfl)
      simp [n3, this]
    | true =>
      have n4 : q.at_ = 4 := h4.2 rfl
      have := List.length_pos_iff.2 (ha rfl)
      simp [n4, this]
theorem routeP_f {p : Ps} (l : List Int) (ho : p.ro = some false) : routeP p l = if 1024 < l.length ∨ 1024 ≤ (lastRs p.R.x.before).length then (p, 8) else ({ p with R := { p.R with x := { p.R.x with before := addRt l p.R.x.before } } }, 0) := by
  unfold routeP
  rw [ho]
theorem routeP_t {p : Ps} (l : List Int) (ho : p.ro = some true) : routeP p l = if 1024 < l.length ∨ 1024 ≤ (lastRs p.R.x.after).length then (p, 8) else ({ p with R := { p.R with x := { p.R.x with after := addRt l p.R.x.after } } }, 0) := by
  unfold routeP
  rw [ho]
theorem routeP_n {p : Ps} (l : List Int) (ho : p.ro = none) : routeP p l = (p, 5) := by
  unfold routeP
  rw [ho]
theorem stepP_some (p : Ps) (w : ByteArray) (l : List Int) : stepP p (some (w, l)) = if w = wRoute ∧ l ≠ [] then routeP p l else
    match kdOf w with
    | none => (p, 3)
    | some k => if l.length ≠ k.count then (p, 3) else if comesB p.R k.rank = false then (p, 5) else readP k ⟨{ p.R with rank := k.rank }, none⟩ l := rfl
theorem stepR_some (q : Pr) (w : ByteArray) (l : List Int) : stepR q (some (w, l)) = if (formQ w).1 < 0 ∨ (0 ≤ (formQ w).2 ∧ (l.length : Int) ≠ (formQ w).2) ∨ ((formQ w).2 < 0 ∧ l.length = 0) then (q, 3)
    else if laterR q w (formQ w).1 = false then (q, 5)
    else if w = wRoute then routeR q l else match kdOf w with
      | some k => kindR k q l
      | none => (q, 3) := rfl
theorem route_same {q : Pr} {p : Ps} (h : Same q p) (l : List Int) (hs : p.ro.isSome = true) : (routeR q l).2 = (routeP p l).2 ∧ ((routeP p l).2 = 0 → Same (routeR q l).1 (routeP p l).1) := by
  have h3 := h.three
  have h4 := h.four
  cases ho : p.ro with
  | none => rw [ho] at hs; cases hs
  | some o =>
    rw [ho] at h3 h4
    cases o with
    | false =>
      have n3 : q.at_ = 3 := h3.2 rfl
      have n4 : ¬ q.at_ = 4 := by omega
      rw [routeP_f l ho]
      unfold routeR
      rw [if_neg n4, h.x]
      rcases Decidable.em (1024 < l.length ∨ 1024 ≤ (lastRs p.R.x.before).length) with hc | hc
      · rw [if_pos hc, if_pos (Or.symm hc)]
        exact ⟨rfl, fun h => by simp at h⟩
      · rw [if_neg hc, if_neg (fun e => hc (Or.symm e))]
        refine ⟨rfl, fun _ => ⟨rfl, h.nw, h.sc, h.sl, h.at_, h.r0, h.r1, h.s5, h.s10, h.fresh, h.rb, h.ra, fun _ => addRt_ne (h.be ho), fun e => ?_⟩⟩
        have e' : p.ro = some true := e
        rw [ho] at e'; cases e'
    | true =>
      have n4 : q.at_ = 4 := h4.2 rfl
      rw [routeP_t l ho]
      unfold routeR
      rw [if_pos n4, h.x]
      rcases Decidable.em (1024 < l.length ∨ 1024 ≤ (lastRs p.R.x.after).length) with hc | hc
      · rw [if_pos hc, if_pos (Or.symm hc)]
        exact ⟨rfl, fun h => by simp at h⟩
      · rw [if_neg hc, if_neg (fun e => hc (Or.symm e))]
        refine ⟨rfl, fun _ => ⟨rfl, h.nw, h.sc, h.sl, h.at_, h.r0, h.r1, h.s5, h.s10, h.fresh, h.rb, h.ra, fun e => ?_, fun _ => addRt_ne (h.af ho)⟩⟩
        have e' : p.ro = some false := e
        rw [ho] at e'; cases e'
theorem kind_same {q : Pr} {p : Ps} (h : Same q p) (k : Kd) (l : List Int) (hl : l.length = k.count) (hc : comesB p.R (k.rank : Int) = true) :
    (kindR k q l).2 = (readP k ⟨{ p.R with rank := k.rank }, none⟩ l).2 ∧ ((readP k ⟨{ p.R with rank := k.rank }, none⟩ l).2 = 0 → Same (kindR k q l).1 (readP k ⟨{ p.R with rank := k.rank }, none⟩ l).1) := by
  have hq : q.ps = ⟨⟨p.R.x, 0, p.R.begun, p.R.sched, p.R.done⟩, none⟩ := by
    unfold Pr.ps; rw [h.x, h.nw, h.sc, h.sl]
  have hp : (⟨{ p.R with rank := (k.rank : Int) }, none⟩ : Ps) = ⟨⟨p.R.x, k.rank, p.R.begun, p.R.sched, p.R.done⟩, none⟩ := rfl
  obtain ⟨e1, e2, e3, e4, e5⟩ := readP_ps k l p.R.x p.R.begun p.R.sched p.R.done 0 (k.rank : Int) none none
  unfold kindR
  rw [hq, hp]
  refine ⟨e1, fun h0 => ?_⟩
  obtain ⟨f1, f2, f3, f4, f5, f6, f7⟩ := readP_flags k (⟨⟨p.R.x, k.rank, p.R.begun, p.R.sched, p.R.done⟩, none⟩ : Ps) l hl h0
  have hb : (readP k (⟨⟨p.R.x, k.rank, p.R.begun, p.R.sched, p.R.done⟩, none⟩ : Ps) l).1.R.begun = true := by
    rw [f1]
    rcases Decidable.em (k = .network) with rfl | hk
    · simp
    · rw [(comes_other hk hc).1]; rfl
  have hs : (readP k (⟨⟨p.R.x, k.rank, p.R.begun, p.R.sched, p.R.done⟩, none⟩ : Ps) l).1.R.sched = decide (5 ≤ k.rank) := by
    rw [f2]
    rcases Decidable.em (k = .network) with rfl | hk
    · have hn := comes_net hc
      have : p.R.sched = false := by
        cases hs : p.R.sched with
        | false => rfl
        | true => have := (h.s5.1 hs).1; rw [hn] at this; cases this
      show (p.R.sched || _) = _
      rw [this]; rfl
    · obtain ⟨c1, c2, c3⟩ := comes_other hk hc
      show (p.R.sched || _) = _
      rcases Nat.lt_or_ge 5 k.rank with h5 | h5
      · rw [c3 (by omega)]
        have : (5 : Nat) ≤ k.rank := by omega
        simp [this]
      · rcases Nat.lt_or_ge k.rank 5 with h6 | h6
        · have : p.R.sched = false := by
            cases hs : p.R.sched with
            | false => rfl
            | true => have := (h.s5.1 hs).2; omega
          rw [this]
          have h7 : ¬ (5 : Nat) ≤ k.rank := by omega
          have h8 : k ≠ .schedule := by rintro rfl; exact absurd h6 (by decide)
          simp [h7, h8]
        · have h8 : k = .schedule := by revert h5 h6; cases k <;> simp [Kd.rank]
          subst h8
          simp [Kd.rank]
  have hd : (readP k (⟨⟨p.R.x, k.rank, p.R.begun, p.R.sched, p.R.done⟩, none⟩ : Ps) l).1.R.done = decide (k.rank = 10) := by
    rw [f3]
    show (p.R.done || _) = _
    rcases Decidable.em (k = .slots) with rfl | hk
    · simp [Kd.rank]
    · have h7 : k.rank < 10 := by revert hk; cases k <;> simp [Kd.rank]
      have h9 : ¬ k.rank = 10 := by omega
      have : p.R.done = false := by
        cases hs : p.R.done with
        | false => rfl
        | true =>
          have hx := h.s10.1 hs
          rcases Decidable.em (k = .network) with rfl | hk2
          · have hn := comes_net hc
            rw [hn] at hx; exact absurd hx.1 (by decide)
          · obtain ⟨c1, c2, c3⟩ := comes_other hk2 hc
            omega
      rw [this]
      simp [h9, hk]
  refine ⟨e2, e3, e4, e5, ?_, ?_, ?_, ?_, ?_, ?_, ?_, ?_, ?_, ?_⟩
  · rw [hb, f4]; rfl
  · rw [f4]; exact Int.natCast_nonneg _
  · rw [f4]; show ((k.rank : Nat) : Int) ≤ 10; cases k <;> simp [Kd.rank]
  · rw [hs, hb, f4]; simp; omega
  · rw [hd, hb, f4]; simp; omega
  · intro h; rw [hb] at h; cases h
  · rw [f5, hb, f4]; cases k <;> simp [Kd.rank]
  · rw [f5, hb, f4]; cases k <;> simp [Kd.rank]
  · intro e; apply f6; revert e; rw [f5]; cases k <;> simp
  · intro e; apply f7; revert e; rw [f5]; cases k <;> simp
theorem step_same {q : Pr} {p : Ps} (h : Same q p) (o : Option Ln) : (stepR q o).2 = (stepP p o).2 ∧ ((stepP p o).2 = 0 → Same (stepR q o).1 (stepP p o).1) := by
  cases o with
  | none => exact ⟨rfl, fun h => by simp [stepP] at h⟩
  | some wl =>
    obtain ⟨w, l⟩ := wl
    rcases Decidable.em (w = wRoute) with rfl | hw
    · rw [stepR_some, stepP_some]
      have hf : formQ wRoute = (3, -1) := by decide
      rw [hf]
      cases l with
      | nil =>
        rw [if_pos (by simp), if_neg (by simp), kd_of_route]
        exact ⟨rfl, fun h => by simp at h⟩
      | cons a l =>
        rw [if_neg (by simp), if_pos (c := wRoute = wRoute ∧ a :: l ≠ []) ⟨rfl, by simp⟩]
        simp only [later_route h]
        cases ho : p.ro with
        | none =>
          rw [routeP_n _ ho]
          exact ⟨rfl, fun h => by simp at h⟩
        | some o =>
          have := route_same h (a :: l) (by rw [ho]; rfl)
          simpa using this
    · cases hk : kdOf w with
      | none =>
        rw [stepR_some, stepP_some]
        rw [formQ_none hk hw, hk]
        rw [if_pos (Or.inl (by decide)), if_neg (fun e => hw e.1)]
        exact ⟨rfl, fun h => by simp at h⟩
      | some k =>
        rw [stepR_some, stepP_some]
        rw [formQ_kd hk, hk]
        have hlt := later_comes h k
        rw [kd_inv hk] at hlt
        rw [if_neg (c := w = wRoute) hw, if_neg (c := w = wRoute ∧ l ≠ []) (fun e => hw e.1)]
        simp only [hlt]
        rcases Decidable.em (l.length = k.count) with hl | hl
        · rw [if_neg (c := _ ∨ _) (by omega), if_neg (c := l.length ≠ k.count) (by omega)]
          cases hc : comesB p.R (k.rank : Int) with
          | false => exact ⟨rfl, fun h => by simp at h⟩
          | true =>
            simp only [Bool.true_eq_false, if_false]
            exact kind_same h k l hl hc
        · rw [if_pos (c := _ ∨ _) (by omega), if_pos (c := l.length ≠ k.count) hl]
          exact ⟨rfl, fun h => by simp at h⟩
end Go.Proofs.YtcloigoajohppaaGreatDoor
/- slices.Equal. -/
namespace Go.Proofs.YtcloigoajohppaaGreatDoor
open Go.RowKit
open Av
open Sc
set_option maxRecDepth 100000
set_option linter.unusedSimpArgs false
attribute [local go_sem] Av.guardB Av.sop Av.hopx Av.hop Av.hopCall Av.hopF Av.hopB Av.evo Av.evos Av.avCells Av.loadK Av.bound Av.abin Av.aun Av.partsC Av.lfill Av.placesB Av.setAt Av.stl Av.takes Av.src Av.bxOf Av.ownOf Av.St.res Av.St.put Av.St.addBox Av.St.putOwn Av.delL Av.delS Av.look Av.lookL Av.storeSt Av.stealSt Av.St.setBox Av.keepL Av.hitB Av.snap Av.snaps Av.snapCaps Av.AV.lit Av.AV.refs Av.capRefs Av.PV.av Av.CV.av Av.startSt Av.steals Av.athen Av.ablock Av.appK Av.AllS Av.AllO Av.AllR Av.keepS Av.St.avAt Av.RetOK Av.retAll Av.retOne Av.intsOf Av.ptrB TypeDesc.isRow List.range_zero Option.some.injEq exists_eq_left' exists_eq_left exists_eq' exists_and_left exists_and_right exists_const true_and and_true and_self false_and and_false or_false false_or or_true true_or if_true if_false Bool.false_eq_true List.zipIdx_cons List.zipIdx_nil List.map_cons List.map_nil List.filter_cons List.filter_nil List.contains_cons List.contains_nil List.drop_succ_cons List.drop_zero List.take_succ_cons List.take_zero List.take_nil List.drop_nil List.length_cons List.length_nil List.cons_append List.nil_append List.append_nil List.getElem?_cons_zero List.getElem?_cons_succ List.getElem?_nil Option.bind_some Option.bind_none Option.map_some Option.map_none Option.isNone_none Option.isNone_some Option.isSome_some Option.isSome_none Bool.and_true Bool.true_and Bool.and_false Bool.false_and Bool.or_false Bool.false_or Bool.not_true Bool.not_false beq_true beq_false Bool.true_beq Bool.false_beq Loc.s.injEq Loc.b.injEq decide_true decide_false beq_self_eq_true Nat.zero_add Nat.add_zero List.getElem?_toArray List.toList_toArray List.size_toArray Value.oneCell' List.all_cons List.all_nil Value.int.injEq AV.v.injEq AV.sl.injEq AV.agg.injEq AV.ref.injEq AV.ept.injEq AV.tup.injEq Value.bool.injEq PV.v.injEq PV.sl.injEq List.isEmpty_nil List.isEmpty_cons forall_const not_true_eq_false not_false_eq_true true_implies false_implies Value.string.injEq List.length_map List.getElem?_map Int.toNat_natCast Int.natCast_nonneg List.length_append Value.cells implies_true TypeDesc.struct.injEq TypeDesc.slice.injEq TypeDesc.array.injEq List.getElem?_toArray Prod.mk.injEq and_assoc exists_false List.cons.injEq Operand.tmp.injEq ite_self AV.fnv.injEq AV.clo.injEq ne_eq eq_self Tryz.sz3 Tryz.zr3 Tryz.by3 Tryz.pl3 Tryz.is3 Tryz.underlying3 Tryz.sz4 Tryz.pl4 Tryz.is4 Tryz.underlying4 Tryz.sz9 Tryz.zr9 Tryz.underlying9 Tryz.underlying5 Tryz.underlying56 Tryz.sz24 Tryz.zr24 Tryz.by24 Tryz.underlying24 Tryz.underlying70 Tryz.underlying69 Tryz.is72 Tryz.underlying72 Tryz.zr74 Tryz.underlying74 Tryz.underlying117 Tryz.underlying182 Tryz.sz64 Tryz.zr64 Tryz.pl64 Tryz.is64 Tryz.underlying64 Tryz.sz67 Tryz.zr67 Tryz.underlying67 Tryz.sz26 Tryz.underlying26 Tryz.sz30 Tryz.underlying30 Tryz.sz126 Tryz.zr126 Tryz.underlying126 Tryz.sz79 Tryz.zr79 Tryz.pl79 Tryz.is79 Tryz.underlying79 Tryz.sz81 Tryz.zr81 Tryz.underlying81 Tryz.sz83 Tryz.zr83 Tryz.underlying83 Tryz.sz85 Tryz.zr85 Tryz.underlying85 Tryz.sz35 Tryz.zr35 Tryz.is35 Tryz.underlying35 Tryz.underlying88 Tryz.sz22 Tryz.underlying22 Tryz.sz23 Tryz.underlying23 Tryz.sz27 Tryz.underlying27 Tryz.sz28 Tryz.underlying28 Tryz.sz31 Tryz.underlying31 Tryz.sz32 Tryz.underlying32 Tryz.sz33 Tryz.underlying33 Tryz.sz65 Tryz.is65 Tryz.underlying65 Tryz.sz68 Tryz.zr68 Tryz.underlying68 Tryz.underlying46 Tryz.underlying38 Tryz.underlying94 Tryz.sz91 Tryz.underlying91 Tryz.underlying86 all_arr loc_ss arr_two arr_one ResultVar.tmp.injEq Bool.not_true Bool.not_false undef Fn.func.injEq
attribute [local go_sem] Sc.Ce.pv Sc.Ch.pv
theorem eqI_ok (a b : List Int) (ha : a.length ≤ 1000000) : FnOK Tryz.prog 19 [.sl 1 (a.map (fun x => [ip x])), .sl 1 (b.map (fun x => [ip x]))] ⟨bv (decide (a = b)), none⟩ := by
 refine fn_ok Tryz.func19 (by kernel_rfl) rfl (by rw [Tryz.ntmps19]; exact of_decide_eq_true rfl) (fun F hF => ?_)
 rw [Tryz.ntmps19] at hF
 rw [Tryz.results19]
 have hal : ((a.length : Int) != (b.length : Int)) = !decide (a.length = b.length) := by rw [Bool.eq_iff_iff]; simp; omega
 by_cases hl : a.length = b.length
 case neg =>
  have hn : decide (a.length = b.length) = false := decide_eq_false hl
  repeat (first
   | ((with_reducible first | refine sops_go ?_ | refine sops_end ?_ | refine awp_if ?_ | refine awp_ret ?_); simp only [go_sem, simprocAttr, hF, hal, hn])
   | (with_reducible first | refine awp_seq_k fun _ _ => ?_ | refine awp_region [] ?_)
   | go_step)
  rw [decide_eq_false (fun h => hl (by rw [h]))]
 have hn : decide (a.length = b.length) = true := decide_eq_true hl
 repeat (first
  | ((with_reducible first | refine sops_go ?_ | refine sops_end ?_ | refine awp_if ?_ | refine awp_skip ?_); simp only [go_sem, simprocAttr, hF, hal, hn])
  | with_reducible (first | refine awp_seq_k fun _ _ => ?_ | refine awp_region [] ?_ | refine awp_block ?_)
  | go_step)
 refine awp_loop_by (ι := {k : Nat // k ≤ a.length ∧ decide (a = b) = decide (a.drop k = b.drop k)}) (fun k σ => ⟨(13, iv (k.1 : Int)) :: keepS [0, 1, 4, 12] σ.slot, σ.box, [], σ.ext⟩) (fun k => a.length - k.1) ⟨0, by omega, rfl⟩ (sub_mk ?_) (fun R hR k => ?_)
 · simp only [go_sem, simprocAttr, hF]
   repeat' (first | rfl | refine ⟨?_, ?_⟩)
 obtain ⟨k, hk, hT⟩ := k
 dsimp only
 simp only [go_sem, simprocAttr, hF]
 by_cases hlt : k < a.length
 case neg =>
  have hd : decide ((k : Int) < (a.length : Int)) = false := decide_eq_false (by omega)
  repeat (first
   | ((with_reducible first | refine sops_go ?_ | refine sops_end ?_ | refine awp_if ?_ | refine awp_ret ?_ | refine awp_exit ?_); simp only [go_sem, simprocAttr, hF, hd])
   | (with_reducible first | refine awp_seq_k fun _ _ => ?_ | refine awp_region [] ?_)
   | go_step)
  rw [hT, List.drop_of_length_le (by omega), List.drop_of_length_le (by omega)]
  rfl
 obtain ⟨x, hxk⟩ := get_of_lt hlt
 obtain ⟨y, hyk⟩ := get_of_lt (l := b) (k := k) (by omega)
 have hd : decide ((k : Int) < (a.length : Int)) = true := decide_eq_true (by omega)
 have hw : IntKind.i64.wrap ((k : Int) + 1) = ((k + 1 : Nat) : Int) := by rw [IntKind.wrap_i64]; omega
 have hT' : decide (a = b) = ((x == y) && decide (a.drop (k + 1) = b.drop (k + 1))) := by
  rw [hT, drop_of_get hxk, drop_of_get hyk, Bool.eq_iff_iff]
  simp
 cases he : (x == y) with
 | false =>
  have hne : (x != y) = true := by rw [bne, he]; rfl
  repeat (first
   | ((with_reducible first | refine sops_go ?_ | refine headW_end ?_ | refine sops_end ?_ | refine awp_if ?_ | refine awp_skip ?_ | refine awp_ret ?_); simp only [go_sem, simprocAttr, hF, hd, hxk, hyk, he, hne])
   | ((with_reducible refine headW_go ?_); simp only [go_sem, simprocAttr, hF, hd, hxk, hyk, he, hne, hbx])
   | (with_reducible refine awp_seq_k fun _ _ => ?_)
   | (refine awp_draw' (id := 6) [] 9 (by kernel_rfl) (by kernel_rfl) rfl rfl (fun bx0 hbx => ?_); try dsimp only [List.take, List.drop])
   | with_reducible (first | refine awp_region [] ?_ | refine awp_block ?_)
   | go_step)
  rw [hT', he]
  rfl
 | true =>
  have hne : (x != y) = false := by rw [bne, he]; rfl
  repeat (first
   | ((with_reducible first | refine sops_go ?_ | refine headW_end ?_ | refine sops_end ?_ | refine awp_if ?_ | refine awp_skip ?_); simp only [go_sem, simprocAttr, hF, hd, hxk, hyk, he, hne])
   | ((with_reducible refine headW_go ?_); simp only [go_sem, simprocAttr, hF, hd, hxk, hyk, he, hne, hbx])
   | (with_reducible refine awp_seq_k fun _ _ => ?_)
   | (refine awp_draw' (id := 6) [] 9 (by kernel_rfl) (by kernel_rfl) rfl rfl (fun bx0 hbx => ?_); try dsimp only [List.take, List.drop])
   | with_reducible (first | refine awp_region [] ?_ | refine awp_block ?_)
   | go_step)
  refine ⟨⟨k + 1, by omega, by rw [hT', he, Bool.true_and]⟩, by dsimp only; omega, hR _ _ (sub_mk ?_)⟩
  simp only [go_sem, simprocAttr, hF, hw]
/- slices.Equal of routes. -/
theorem eqRt_ok (a b : List Int) (ha : a.length ≤ 1000000) : FnOK Tryz.prog 48 [.sl 1 (a.map (fun x => [ip x])), .sl 1 (b.map (fun x => [ip x]))] ⟨bv (decide (a = b)), none⟩ := by
 refine fn_ok Tryz.func48 (by kernel_rfl) rfl (by rw [Tryz.ntmps48]; exact of_decide_eq_true rfl) (fun F hF => ?_)
 rw [Tryz.ntmps48] at hF
 rw [Tryz.results48]
 have hal : ((a.length : Int) != (b.length : Int)) = !decide (a.length = b.length) := by rw [Bool.eq_iff_iff]; simp; omega
 by_cases hl : a.length = b.length
 case neg =>
  have hn : decide (a.length = b.length) = false := decide_eq_false hl
  repeat (first
   | ((with_reducible first | refine sops_go ?_ | refine sops_end ?_ | refine awp_if ?_ | refine awp_ret ?_); simp only [go_sem, simprocAttr, hF, hal, hn])
   | (with_reducible first | refine awp_seq_k fun _ _ => ?_ | refine awp_region [] ?_)
   | go_step)
  rw [decide_eq_false (fun h => hl (by rw [h]))]
 have hn : decide (a.length = b.length) = true := decide_eq_true hl
 repeat (first
  | ((with_reducible first | refine sops_go ?_ | refine sops_end ?_ | refine awp_if ?_ | refine awp_skip ?_); simp only [go_sem, simprocAttr, hF, hal, hn])
  | with_reducible (first | refine awp_seq_k fun _ _ => ?_ | refine awp_region [] ?_ | refine awp_block ?_)
  | go_step)
 refine awp_loop_by (ι := {k : Nat // k ≤ a.length ∧ decide (a = b) = decide (a.drop k = b.drop k)}) (fun k σ => ⟨(13, iv (k.1 : Int)) :: keepS [0, 1, 4, 12] σ.slot, σ.box, [], σ.ext⟩) (fun k => a.length - k.1) ⟨0, by omega, rfl⟩ (sub_mk ?_) (fun R hR k => ?_)
 · simp only [go_sem, simprocAttr, hF]
   repeat' (first | rfl | refine ⟨?_, ?_⟩)
 obtain ⟨k, hk, hT⟩ := k
 dsimp only
 simp only [go_sem, simprocAttr, hF]
 by_cases hlt : k < a.length
 case neg =>
  have hd : decide ((k : Int) < (a.length : Int)) = false := decide_eq_false (by omega)
  repeat (first
   | ((with_reducible first | refine sops_go ?_ | refine sops_end ?_ | refine awp_if ?_ | refine awp_ret ?_ | refine awp_exit ?_); simp only [go_sem, simprocAttr, hF, hd])
   | (with_reducible first | refine awp_seq_k fun _ _ => ?_ | refine awp_region [] ?_)
   | go_step)
  rw [hT, List.drop_of_length_le (by omega), List.drop_of_length_le (by omega)]
  rfl
 obtain ⟨x, hxk⟩ := get_of_lt hlt
 obtain ⟨y, hyk⟩ := get_of_lt (l := b) (k := k) (by omega)
 have hd : decide ((k : Int) < (a.length : Int)) = true := decide_eq_true (by omega)
 have hw : IntKind.i64.wrap ((k : Int) + 1) = ((k + 1 : Nat) : Int) := by rw [IntKind.wrap_i64]; omega
 have hT' : decide (a = b) = ((x == y) && decide (a.drop (k + 1) = b.drop (k + 1))) := by
  rw [hT, drop_of_get hxk, drop_of_get hyk, Bool.eq_iff_iff]
  simp
 cases he : (x == y) with
 | false =>
  have hne : (x != y) = true := by rw [bne, he]; rfl
  repeat (first
   | ((with_reducible first | refine sops_go ?_ | refine headW_end ?_ | refine sops_end ?_ | refine awp_if ?_ | refine awp_skip ?_ | refine awp_ret ?_); simp only [go_sem, simprocAttr, hF, hd, hxk, hyk, he, hne])
   | ((with_reducible refine headW_go ?_); simp only [go_sem, simprocAttr, hF, hd, hxk, hyk, he, hne, hbx])
   | (with_reducible refine awp_seq_k fun _ _ => ?_)
   | (refine awp_draw' (id := 6) [] 9 (by kernel_rfl) (by kernel_rfl) rfl rfl (fun bx0 hbx => ?_); try dsimp only [List.take, List.drop])
   | with_reducible (first | refine awp_region [] ?_ | refine awp_block ?_)
   | go_step)
  rw [hT', he]
  rfl
 | true =>
  have hne : (x != y) = false := by rw [bne, he]; rfl
  repeat (first
   | ((with_reducible first | refine sops_go ?_ | refine headW_end ?_ | refine sops_end ?_ | refine awp_if ?_ | refine awp_skip ?_); simp only [go_sem, simprocAttr, hF, hd, hxk, hyk, he, hne])
   | ((with_reducible refine headW_go ?_); simp only [go_sem, simprocAttr, hF, hd, hxk, hyk, he, hne, hbx])
   | (with_reducible refine awp_seq_k fun _ _ => ?_)
   | (refine awp_draw' (id := 6) [] 9 (by kernel_rfl) (by kernel_rfl) rfl rfl (fun bx0 hbx => ?_); try dsimp only [List.take, List.drop])
   | with_reducible (first | refine awp_region [] ?_ | refine awp_block ?_)
   | go_step)
  refine ⟨⟨k + 1, by omega, by rw [hT', he, Bool.true_and]⟩, by dsimp only; omega, hR _ _ (sub_mk ?_)⟩
  simp only [go_sem, simprocAttr, hF, hw]
/- Routes are equal. -/
theorem sameRt_ok (a b : List Int) (ha : a.length ≤ 1000000) : FnOK Tryz.prog 47 [.sl 1 (a.map (fun x => [ip x])), .sl 1 (b.map (fun x => [ip x]))] ⟨bv (decide (a = b)), none⟩ := by
 refine fn_ok Tryz.func47 (by kernel_rfl) rfl (by rw [Tryz.ntmps47]; exact of_decide_eq_true rfl) (fun F hF => ?_)
 rw [Tryz.ntmps47] at hF
 rw [Tryz.results47]
 repeat (first
  | ((with_reducible first | refine sops_go ?_ | refine sops_end ?_); simp only [go_sem, simprocAttr, hF])
  | (with_reducible first | refine awp_seq_k fun _ _ => ?_ | refine awp_region [] ?_)
  | go_step)
 refine ⟨_, eqRt_ok a b ha, ?_⟩
 simp only [go_sem, simprocAttr, hF]
 repeat (first
  | ((with_reducible first | refine sops_go ?_ | refine sops_end ?_ | refine awp_ret ?_); simp only [go_sem, simprocAttr, hF])
  | go_step)
 all_goals (try rfl)
/- slices.Equal of cells and changes. -/
theorem Tryz.it79 : Av.intT Tryz.prog 8 79 = some 5 := by kernel_rfl
theorem Tryz.eg79 : Tryz.prog.eqGuardType Tryz.prog.depth 79 = false := by kernel_rfl
theorem Tryz.it64 : Av.intT Tryz.prog 8 64 = some 6 := by kernel_rfl
theorem Tryz.eg64 : Tryz.prog.eqGuardType Tryz.prog.depth 64 = false := by kernel_rfl
theorem Tryz.it126 : Av.intT Tryz.prog 8 126 = some 3 := by kernel_rfl
theorem Tryz.eg126 : Tryz.prog.eqGuardType Tryz.prog.depth 126 = false := by kernel_rfl
theorem Tryz.it83 : Av.intT Tryz.prog 8 83 = some 5 := by kernel_rfl
theorem Tryz.eg83 : Tryz.prog.eqGuardType Tryz.prog.depth 83 = false := by kernel_rfl
theorem Tryz.it85 : Av.intT Tryz.prog 8 85 = some 3 := by kernel_rfl
theorem Tryz.eg85 : Tryz.prog.eqGuardType Tryz.prog.depth 85 = false := by kernel_rfl
attribute [local go_sem] Sc.Ce.pv Sc.Ch.pv Tryz.it79 Tryz.eg79 Tryz.it64 Tryz.eg64 Tryz.it126 Tryz.eg126 Tryz.it83 Tryz.eg83 Tryz.it85 Tryz.eg85
theorem eqCe_ok (a b : List Ce) (ha : a.length ≤ 1000000) : FnOK Tryz.prog 43 [.sl 5 (a.map Ce.pv), .sl 5 (b.map Ce.pv)] ⟨bv (decide (a = b)), none⟩ := by
 refine fn_ok Tryz.func43 (by kernel_rfl) rfl (by rw [Tryz.ntmps43]; exact of_decide_eq_true rfl) (fun F hF => ?_)
 rw [Tryz.ntmps43] at hF
 rw [Tryz.results43]
 have hal : ((a.length : Int) != (b.length : Int)) = !decide (a.length = b.length) := by rw [Bool.eq_iff_iff]; simp; omega
 by_cases hl : a.length = b.length
 case neg =>
  have hn : decide (a.length = b.length) = false := decide_eq_false hl
  repeat (first
   | ((with_reducible first | refine sops_go ?_ | refine sops_end ?_ | refine awp_if ?_ | refine awp_ret ?_); simp only [go_sem, simprocAttr, hF, hal, hn])
   | (with_reducible first | refine awp_seq_k fun _ _ => ?_ | refine awp_region [] ?_)
   | go_step)
  rw [decide_eq_false (fun h => hl (by rw [h]))]
 have hn : decide (a.length = b.length) = true := decide_eq_true hl
 repeat (first
  | ((with_reducible first | refine sops_go ?_ | refine sops_end ?_ | refine awp_if ?_ | refine awp_skip ?_); simp only [go_sem, simprocAttr, hF, hal, hn])
  | with_reducible (first | refine awp_seq_k fun _ _ => ?_ | refine awp_region [] ?_ | refine awp_block ?_)
  | go_step)
 refine awp_loop_by (ι := {k : Nat // k ≤ a.length ∧ decide (a = b) = decide (a.drop k = b.drop k)}) (fun k σ => ⟨(13, iv (k.1 : Int)) :: keepS [0, 1, 4, 12] σ.slot, σ.box, [], σ.ext⟩) (fun k => a.length - k.1) ⟨0, by omega, rfl⟩ (sub_mk ?_) (fun R hR k => ?_)
 · simp only [go_sem, simprocAttr, hF]
   repeat' (first | rfl | refine ⟨?_, ?_⟩)
 obtain ⟨k, hk, hT⟩ := k
 dsimp only
 simp only [go_sem, simprocAttr, hF]
 by_cases hlt : k < a.length
 case neg =>
  have hd : decide ((k : Int) < (a.length : Int)) = false := decide_eq_false (by omega)
  repeat (first
   | ((with_reducible first | refine sops_go ?_ | refine sops_end ?_ | refine awp_if ?_ | refine awp_ret ?_ | refine awp_exit ?_); simp only [go_sem, simprocAttr, hF, hd])
   | (with_reducible first | refine awp_seq_k fun _ _ => ?_ | refine awp_region [] ?_)
   | go_step)
  rw [hT, List.drop_of_length_le (by omega), List.drop_of_length_le (by omega)]
  rfl
 obtain ⟨x, hxk⟩ := get_of_lt hlt
 obtain ⟨y, hyk⟩ := get_of_lt (l := b) (k := k) (by omega)
 have hd : decide ((k : Int) < (a.length : Int)) = true := decide_eq_true (by omega)
 have hw : IntKind.i64.wrap ((k : Int) + 1) = ((k + 1 : Nat) : Int) := by rw [IntKind.wrap_i64]; omega
 have hT' : decide (a = b) = (([x.sl, x.of, x.fr, x.to, x.fl] == [y.sl, y.of, y.fr, y.to, y.fl]) && decide (a.drop (k + 1) = b.drop (k + 1))) := by
  rw [hT, drop_of_get hxk, drop_of_get hyk, Bool.eq_iff_iff]
  obtain ⟨x0, x1, x2, x3, x4⟩ := x
  obtain ⟨y0, y1, y2, y3, y4⟩ := y
  simp
 cases he : ([x.sl, x.of, x.fr, x.to, x.fl] == [y.sl, y.of, y.fr, y.to, y.fl]) with
 | false =>
  have hne : ([x.sl, x.of, x.fr, x.to, x.fl] != [y.sl, y.of, y.fr, y.to, y.fl]) = true := by rw [bne, he]; rfl
  repeat (first
   | ((with_reducible first | refine sops_go ?_ | refine headW_end ?_ | refine sops_end ?_ | refine awp_if ?_ | refine awp_skip ?_ | refine awp_ret ?_); simp only [go_sem, simprocAttr, hF, hd, hxk, hyk, he, hne])
   | ((with_reducible refine headW_go ?_); simp only [go_sem, simprocAttr, hF, hd, hxk, hyk, he, hne, hbx])
   | (with_reducible refine awp_seq_k fun _ _ => ?_)
   | (refine awp_draw' (id := 6) [] 9 (by kernel_rfl) (by kernel_rfl) rfl rfl (fun bx0 hbx => ?_); try dsimp only [List.take, List.drop])
   | with_reducible (first | refine awp_region [] ?_ | refine awp_block ?_)
   | go_step)
  rw [hT', he]
  rfl
 | true =>
  have hne : ([x.sl, x.of, x.fr, x.to, x.fl] != [y.sl, y.of, y.fr, y.to, y.fl]) = false := by rw [bne, he]; rfl
  repeat (first
   | ((with_reducible first | refine sops_go ?_ | refine headW_end ?_ | refine sops_end ?_ | refine awp_if ?_ | refine awp_skip ?_); simp only [go_sem, simprocAttr, hF, hd, hxk, hyk, he, hne])
   | ((with_reducible refine headW_go ?_); simp only [go_sem, simprocAttr, hF, hd, hxk, hyk, he, hne, hbx])
   | (with_reducible refine awp_seq_k fun _ _ => ?_)
   | (refine awp_draw' (id := 6) [] 9 (by kernel_rfl) (by kernel_rfl) rfl rfl (fun bx0 hbx => ?_); try dsimp only [List.take, List.drop])
   | with_reducible (first | refine awp_region [] ?_ | refine awp_block ?_)
   | go_step)
  refine ⟨⟨k + 1, by omega, by rw [hT', he, Bool.true_and]⟩, by dsimp only; omega, hR _ _ (sub_mk ?_)⟩
  simp only [go_sem, simprocAttr, hF, hw]
/- slices.EqualFunc of routes with themselves. -/
attribute [local go_sem] Sc.rsR Sc.Rq.pv
theorem eqfRt_ok (l : List (List Int)) (hl : l.length ≤ 1000000) (hy : ∀ r ∈ l, r.length ≤ 1000000) : FnOK Tryz.prog 46 [.sl 1 (rsR l), .sl 1 (rsR l), .fnv 47 []] ⟨bv true, none⟩ := by
 refine fn_ok Tryz.func46 (by kernel_rfl) rfl (by rw [Tryz.ntmps46]; exact of_decide_eq_true rfl) (fun F hF => ?_)
 rw [Tryz.ntmps46] at hF
 rw [Tryz.results46]
 have hal : ((l.length : Int) != (l.length : Int)) = false := bne_self_eq_false _
 repeat (first
  | ((with_reducible first | refine sops_go ?_ | refine sops_end ?_ | refine awp_if ?_ | refine awp_skip ?_); simp only [go_sem, simprocAttr, hF, hal])
  | with_reducible (first | refine awp_seq_k fun _ _ => ?_ | refine awp_region [] ?_ | refine awp_block ?_)
  | go_step)
 refine awp_loop_by (ι := {k : Nat // k ≤ l.length}) (fun k σ => ⟨(17, iv (k.1 : Int)) :: keepS [0, 1, 2, 15, 16] σ.slot, σ.box, [], σ.ext⟩) (fun k => l.length - k.1) ⟨0, by omega⟩ (sub_mk ?_) (fun R hR k => ?_)
 · simp only [go_sem, simprocAttr, hF]
   repeat' (first | rfl | refine ⟨?_, ?_⟩)
 obtain ⟨k, hk⟩ := k
 dsimp only
 simp only [go_sem, simprocAttr, hF]
 by_cases hlt : k < l.length
 case neg =>
  have hd : decide ((k : Int) < (l.length : Int)) = false := decide_eq_false (by omega)
  repeat (first
   | ((with_reducible first | refine sops_go ?_ | refine sops_end ?_ | refine awp_if ?_ | refine awp_ret ?_ | refine awp_exit ?_); simp only [go_sem, simprocAttr, hF, hd])
   | (with_reducible first | refine awp_seq_k fun _ _ => ?_ | refine awp_region [] ?_)
   | go_step)
  all_goals (try rfl)
 obtain ⟨d, hdk⟩ := get_of_lt hlt
 have hd : decide ((k : Int) < (l.length : Int)) = true := decide_eq_true (by omega)
 have hw : IntKind.i64.wrap ((k : Int) + 1) = ((k + 1 : Nat) : Int) := by rw [IntKind.wrap_i64]; omega
 have hsd : FnOK Tryz.prog 47 [.sl 1 (d.map (fun x => [ip x])), .sl 1 (d.map (fun x => [ip x]))] ⟨bv true, none⟩ := by
  have h := sameRt_ok d d (hy d (List.mem_of_getElem? hdk))
  rw [decide_eq_true rfl] at h
  exact h
 repeat (first
  | ((with_reducible first | refine sops_go ?_ | refine sops_end ?_ | refine awp_if ?_ | refine awp_skip ?_); simp only [go_sem, simprocAttr, hF, hd, hdk])
  | with_reducible (first | refine awp_seq_k fun _ _ => ?_ | refine awp_region [] ?_ | refine awp_block ?_)
  | go_step)
 refine ⟨_, hsd, ?_⟩
 simp only [go_sem, simprocAttr, hF]
 repeat (first
  | ((with_reducible first | refine sops_go ?_ | refine sops_end ?_ | refine awp_if ?_ | refine awp_skip ?_); simp only [go_sem, simprocAttr, hF, hd, hdk])
  | (with_reducible refine awp_region [] ?_)
  | go_step)
 refine ⟨⟨k + 1, by omega⟩, by dsimp only; omega, hR _ _ (sub_mk ?_)⟩
 simp only [go_sem, simprocAttr, hF, hw]
attribute [local go_sem] Tryz.it64 Tryz.eg64
theorem sameRq_ok (q : Rq) (h1 : q.rs.length ≤ 1000000) (h2 : ∀ r ∈ q.rs, r.length ≤ 1000000) : FnOK Tryz.prog 45 [.agg q.pv, .agg q.pv] ⟨bv true, none⟩ := by
 refine fn_ok Tryz.func45 (by kernel_rfl) rfl (by rw [Tryz.ntmps45]; exact of_decide_eq_true rfl) (fun F hF => ?_)
 rw [Tryz.ntmps45] at hF
 rw [Tryz.results45]
 have he : ([q.f.id, q.f.fr, q.f.to, q.f.pe, q.f.ph, q.f.dl] == [q.f.id, q.f.fr, q.f.to, q.f.pe, q.f.ph, q.f.dl]) = true := beq_self_eq_true _
 repeat (first
  | ((with_reducible first | refine sops_go ?_ | refine sops_end ?_); simp only [go_sem, simprocAttr, hF, he])
  | (with_reducible first | refine awp_seq_k fun _ _ => ?_ | refine awp_region [] ?_)
  | go_step)
 refine ⟨_, eqfRt_ok q.rs h1 h2, ?_⟩
 simp only [go_sem, simprocAttr, hF, he]
 repeat (first
  | ((with_reducible first | refine sops_go ?_ | refine sops_end ?_ | refine awp_ret ?_); simp only [go_sem, simprocAttr, hF, he])
  | go_step)
 all_goals (try rfl)

theorem eqfRq_ok (l : List Rq) (hl : l.length ≤ 1000000) (hy : ∀ q ∈ l, q.rs.length ≤ 1000000 ∧ ∀ r ∈ q.rs, r.length ≤ 1000000) : FnOK Tryz.prog 49 [.sl 7 (l.map Rq.pv), .sl 7 (l.map Rq.pv), .fnv 45 []] ⟨bv true, none⟩ := by
 refine fn_ok Tryz.func49 (by kernel_rfl) rfl (by rw [Tryz.ntmps49]; exact of_decide_eq_true rfl) (fun F hF => ?_)
 rw [Tryz.ntmps49] at hF
 rw [Tryz.results49]
 have hal : ((l.length : Int) != (l.length : Int)) = false := bne_self_eq_false _
 repeat (first
  | ((with_reducible first | refine sops_go ?_ | refine sops_end ?_ | refine awp_if ?_ | refine awp_skip ?_); simp only [go_sem, simprocAttr, hF, hal])
  | with_reducible (first | refine awp_seq_k fun _ _ => ?_ | refine awp_region [] ?_ | refine awp_block ?_)
  | go_step)
 refine awp_loop_by (ι := {k : Nat // k ≤ l.length}) (fun k σ => ⟨(17, iv (k.1 : Int)) :: keepS [0, 1, 2, 15, 16] σ.slot, σ.box, [], σ.ext⟩) (fun k => l.length - k.1) ⟨0, by omega⟩ (sub_mk ?_) (fun R hR k => ?_)
 · simp only [go_sem, simprocAttr, hF]
   repeat' (first | rfl | refine ⟨?_, ?_⟩)
 obtain ⟨k, hk⟩ := k
 dsimp only
 simp only [go_sem, simprocAttr, hF]
 by_cases hlt : k < l.length
 case neg =>
  have hd : decide ((k : Int) < (l.length : Int)) = false := decide_eq_false (by omega)
  repeat (first
   | ((with_reducible first | refine sops_go ?_ | refine sops_end ?_ | refine awp_if ?_ | refine awp_ret ?_ | refine awp_exit ?_); simp only [go_sem, simprocAttr, hF, hd])
   | (with_reducible first | refine awp_seq_k fun _ _ => ?_ | refine awp_region [] ?_)
   | go_step)
  all_goals (try rfl)
 obtain ⟨d, hdk⟩ := get_of_lt hlt
 have hd : decide ((k : Int) < (l.length : Int)) = true := decide_eq_true (by omega)
 have hw : IntKind.i64.wrap ((k : Int) + 1) = ((k + 1 : Nat) : Int) := by rw [IntKind.wrap_i64]; omega
 have hsd := sameRq_ok d (hy d (List.mem_of_getElem? hdk)).1 (hy d (List.mem_of_getElem? hdk)).2
 unfold Rq.pv at hsd
 repeat (first
  | ((with_reducible first | refine sops_go ?_ | refine sops_end ?_ | refine awp_if ?_ | refine awp_skip ?_); simp only [go_sem, simprocAttr, hF, hd, hdk])
  | with_reducible (first | refine awp_seq_k fun _ _ => ?_ | refine awp_region [] ?_ | refine awp_block ?_)
  | go_step)
 refine ⟨_, hsd, ?_⟩
 simp only [go_sem, simprocAttr, hF]
 repeat (first
  | ((with_reducible first | refine sops_go ?_ | refine sops_end ?_ | refine awp_if ?_ | refine awp_skip ?_); simp only [go_sem, simprocAttr, hF, hd, hdk])
  | (with_reducible refine awp_region [] ?_)
  | go_step)
 refine ⟨⟨k + 1, by omega⟩, by dsimp only; omega, hR _ _ (sub_mk ?_)⟩
 simp only [go_sem, simprocAttr, hF, hw]
/- slices.Equal of a list of changes with itself. -/
attribute [local go_sem] Sc.Ch.pv
def chV (y : Ch) : List Value := [.int .i64 y.sl, .bool y.ad, .int .i64 y.c.sl, .int .i64 y.c.of, .int .i64 y.c.fr, .int .i64 y.c.to, .int .i64 y.c.fl]
theorem eqf_self {P : Program} {d : Nat} {xs : Array Value} {w : World} : ∀ fs : List Field, (∀ f ∈ fs, ∃ v, (part f.type xs f.offset).run P w = .ok v w ∧ (Op.equalIn d f.type v v).run P w = .ok true w) → (Op.eqFields d xs xs fs).run P w = .ok true w
 | [], _ => rfl
 | f :: fs, h => by
  obtain ⟨v, h1, h2⟩ := h f List.mem_cons_self
  have h3 := eqf_self fs fun g hg => h g (List.mem_cons_of_mem _ hg)
  unfold Op.eqFields
  split
  · simp only [Sem.run_bind, h1, h2, Result.andThen_ok, Bool.not_true, Bool.false_eq_true, if_false]
    exact h3
  · exact h3
theorem eqch_run (w : World) (y : Ch) : (Op.equalIn 10000 81 (.agg (chV y).toArray) (.agg (chV y).toArray)).run Tryz.prog w = .ok true w := by
 have hu := Tryz.underlying81
 rw [run_equalIn_agg w 9999 _ _ _ (by kernel_rfl) (by kernel_rfl)]
 refine eqf_self _ fun f hf => ?_
 unfold Program.fieldsOf at hf
 rw [hu] at hf
 simp only [List.mem_cons, List.not_mem_nil, or_false] at hf
 rcases hf with rfl | rfl | rfl
 · refine ⟨_, (run_part w _ _ 1 _ _ Tryz.underlying3 (by kernel_rfl)).2 rfl _ rfl, ?_⟩
   rw [run_equalIn_int w 9998 _ .i64 .i64 _ _ Tryz.underlying3, beq_self_eq_true]
 · refine ⟨_, (run_part w _ _ 1 _ _ Tryz.underlying4 (by kernel_rfl)).2 rfl _ rfl, ?_⟩
   rw [run_equalIn_bool w 9998 _ _ _ Tryz.underlying4, beq_self_eq_true]
 · refine ⟨_, (run_part w _ _ 5 _ _ Tryz.underlying79 (by kernel_rfl)).1 rfl, ?_⟩
   have h := eq_ints (P := Tryz.prog) w 8 79 5 Tryz.it79 9999 (by decide) [y.c.sl, y.c.of, y.c.fr, y.c.to, y.c.fl] [y.c.sl, y.c.of, y.c.fr, y.c.to, y.c.fl] rfl rfl
   rw [beq_self_eq_true] at h
   unfold mkI at h
   rw [Tryz.underlying79] at h
   exact h
section
variable {n d : Nat} {σ : St} {o : Oper}
theorem handq_neqCh {bx0 : Nat → Option (List PV)} {T' : TypeId} {x y : Operand} {c : Ch} (ho : o.op = .binOp .neq 81 x y T') (hd : o.dst = some d) (hdn : d < n)
 (hx : evo (Av.look σ.slot) x = some (.agg c.pv)) (hy : evo (Av.look σ.slot) y = some (.agg c.pv)) : HandQ Tryz.prog n bx0 σ o d ⟨.v (.bool false), none, none⟩ := by
 intro F σ1 γ a w hF hr hops hb hext Q
 have h1 : ∀ y v, evo (Av.look σ.slot) y = some v → y ∈ o.op.operands.toList → evo (Av.look σ1.slot) y = some v := fun y v hy hmem => by
  cases y with
  | tmp t => exact hops t v hmem hy
  | _ => exact hy
 have e1 : a.eval x = .agg (chV c).toArray := eval_aggv (xs := chV c) hr (h1 x _ hx (by rw [ho]; simp [Op.operands]))
 have e2 : a.eval y = .agg (chV c).toArray := eval_aggv (xs := chV c) hr (h1 y _ hy (by rw [ho]; simp [Op.operands]))
 refine pure_ok hr hd (by rw [hF]; exact hdn) (u := .bool false) ?_ rfl (fun j hj => by simp [AV.refs] at hj)
 have hg : Tryz.prog.eqGuardType Tryz.prog.depth 81 = false := by kernel_rfl
 simp [execOp, ho, e1, e2, run_eqGuard_agg _ _ _ _ _ _ _ hg, run_neq_struct, eqch_run]
end

theorem eqCh_ok (l : List Ch) (hl : l.length ≤ 1000000) : FnOK Tryz.prog 44 [.sl 7 (l.map Ch.pv), .sl 7 (l.map Ch.pv)] ⟨bv true, none⟩ := by
 refine fn_ok Tryz.func44 (by kernel_rfl) rfl (by rw [Tryz.ntmps44]; exact of_decide_eq_true rfl) (fun F hF => ?_)
 rw [Tryz.ntmps44] at hF
 rw [Tryz.results44]
 have hal : ((l.length : Int) != (l.length : Int)) = false := bne_self_eq_false _
 repeat (first
  | ((with_reducible first | refine sops_go ?_ | refine sops_end ?_ | refine awp_if ?_ | refine awp_skip ?_); simp only [go_sem, simprocAttr, hF, hal])
  | with_reducible (first | refine awp_seq_k fun _ _ => ?_ | refine awp_region [1000024] ?_ | refine awp_block ?_)
  | go_step)
 refine awp_loop_by (ι := {k : Nat // k ≤ l.length}) (fun k σ => ⟨(13, iv (k.1 : Int)) :: keepS [0, 1, 4, 12] σ.slot, σ.box, [], σ.ext⟩) (fun k => l.length - k.1) ⟨0, by omega⟩ (sub_mk ?_) (fun R hR k => ?_)
 · simp only [go_sem, simprocAttr, hF]
   repeat' (first | rfl | refine ⟨?_, ?_⟩)
 obtain ⟨k, hk⟩ := k
 dsimp only
 simp only [go_sem, simprocAttr, hF]
 by_cases hlt : k < l.length
 case neg =>
  have hd : decide ((k : Int) < (l.length : Int)) = false := decide_eq_false (by omega)
  repeat (first
   | ((with_reducible first | refine sops_go ?_ | refine sops_end ?_ | refine awp_if ?_ | refine awp_ret ?_ | refine awp_exit ?_); simp only [go_sem, simprocAttr, hF, hd])
   | (with_reducible first | refine awp_seq_k fun _ _ => ?_ | refine awp_region [1000024] ?_)
   | go_step)
  all_goals (try rfl)
 obtain ⟨d, hdk⟩ := get_of_lt hlt
 have hd : decide ((k : Int) < (l.length : Int)) = true := decide_eq_true (by omega)
 have hw : IntKind.i64.wrap ((k : Int) + 1) = ((k + 1 : Nat) : Int) := by rw [IntKind.wrap_i64]; omega
 repeat (first
  | ((refine ⟨_, handq_neqCh (c := d) rfl rfl (by decide) rfl rfl, rfl, ?_⟩); simp only [go_sem, simprocAttr, hF, hbx])
  | ((with_reducible first | refine sops_go ?_ | refine headW_end ?_ | refine sops_end ?_ | refine awp_if ?_ | refine awp_skip ?_); simp only [go_sem, simprocAttr, hF, hd, hdk])
  | ((with_reducible refine headW_go ?_); simp only [go_sem, simprocAttr, hF, hd, hdk, hbx])
  | (with_reducible refine awp_seq_k fun _ _ => ?_)
  | (refine awp_draw' (id := 6) [1000024] 9 (by kernel_rfl) (by kernel_rfl) rfl rfl (fun bx0 hbx => ?_); try dsimp only [List.take, List.drop])
  | with_reducible (first | refine awp_region [1000024] ?_ | refine awp_block ?_)
  | go_step)
 refine ⟨⟨k + 1, by omega⟩, by dsimp only; omega, hR _ _ (sub_mk ?_)⟩
 simp only [go_sem, simprocAttr, hF, hw]
/- ref31.SameInts. -/
theorem sameInts_ok (a b : List Int) (ha : a.length ≤ 1000000) : FnOK Tryz.prog 91 [.sl 1 (a.map (fun x => [ip x])), .sl 1 (b.map (fun x => [ip x]))] ⟨bv (decide (a = b)), none⟩ := by
 refine fn_ok Tryz.func91 (by kernel_rfl) rfl (by rw [Tryz.ntmps91]; exact of_decide_eq_true rfl) (fun F hF => ?_)
 rw [Tryz.ntmps91] at hF
 rw [Tryz.results91]
 have hal : ((a.length : Int) != (b.length : Int)) = !decide (a.length = b.length) := by rw [Bool.eq_iff_iff]; simp; omega
 by_cases hl : a.length = b.length
 case neg =>
  have hn : decide (a.length = b.length) = false := decide_eq_false hl
  repeat (first
   | ((with_reducible first | refine sops_go ?_ | refine sops_end ?_ | refine awp_if ?_ | refine awp_ret ?_); simp only [go_sem, simprocAttr, hF, hal, hn])
   | (with_reducible first | refine awp_seq_k fun _ _ => ?_ | refine awp_region [] ?_)
   | go_step)
  rw [decide_eq_false (fun h => hl (by rw [h]))]
 have hn : decide (a.length = b.length) = true := decide_eq_true hl
 repeat (first
  | ((with_reducible first | refine sops_go ?_ | refine sops_end ?_ | refine awp_if ?_ | refine awp_skip ?_); simp only [go_sem, simprocAttr, hF, hal, hn])
  | with_reducible (first | refine awp_seq_k fun _ _ => ?_ | refine awp_region [] ?_ | refine awp_block ?_)
  | go_step)
 refine awp_loop_by (ι := {k : Nat // k ≤ a.length ∧ decide (a = b) = decide (a.drop k = b.drop k)}) (fun k σ => ⟨(5, iv (k.1 : Int)) :: keepS [0, 1, 4] σ.slot, σ.box, [], σ.ext⟩) (fun k => a.length - k.1) ⟨0, by omega, rfl⟩ (sub_mk ?_) (fun R hR k => ?_)
 · simp only [go_sem, simprocAttr, hF]
   repeat' (first | rfl | refine ⟨?_, ?_⟩)
 obtain ⟨k, hk, hT⟩ := k
 dsimp only
 simp only [go_sem, simprocAttr, hF]
 by_cases hlt : k < a.length
 case neg =>
  have hd : decide ((k : Int) < (a.length : Int)) = false := decide_eq_false (by omega)
  repeat (first
   | ((with_reducible first | refine sops_go ?_ | refine sops_end ?_ | refine awp_if ?_ | refine awp_ret ?_ | refine awp_exit ?_); simp only [go_sem, simprocAttr, hF, hd])
   | (with_reducible first | refine awp_seq_k fun _ _ => ?_ | refine awp_region [] ?_)
   | go_step)
  rw [hT, List.drop_of_length_le (by omega), List.drop_of_length_le (by omega)]
  rfl
 obtain ⟨x, hxk⟩ := get_of_lt hlt
 obtain ⟨y, hyk⟩ := get_of_lt (l := b) (k := k) (by omega)
 have hd : decide ((k : Int) < (a.length : Int)) = true := decide_eq_true (by omega)
 have hw : IntKind.i64.wrap ((k : Int) + 1) = ((k + 1 : Nat) : Int) := by rw [IntKind.wrap_i64]; omega
 have hT' : decide (a = b) = ((x == y) && decide (a.drop (k + 1) = b.drop (k + 1))) := by
  rw [hT, drop_of_get hxk, drop_of_get hyk, Bool.eq_iff_iff]
  simp
 cases he : (x == y) with
 | false =>
  have hne : (x != y) = true := by rw [bne, he]; rfl
  repeat (first
   | ((with_reducible first | refine sops_go ?_ | refine headW_end ?_ | refine sops_end ?_ | refine awp_if ?_ | refine awp_skip ?_ | refine awp_ret ?_); simp only [go_sem, simprocAttr, hF, hd, hxk, hyk, he, hne])
   | ((with_reducible refine headW_go ?_); simp only [go_sem, simprocAttr, hF, hd, hxk, hyk, he, hne, hbx])
   | (with_reducible refine awp_seq_k fun _ _ => ?_)
   | (refine awp_draw' (id := 6) [] 9 (by kernel_rfl) (by kernel_rfl) rfl rfl (fun bx0 hbx => ?_); try dsimp only [List.take, List.drop])
   | with_reducible (first | refine awp_region [] ?_ | refine awp_block ?_)
   | go_step)
  rw [hT', he]
  rfl
 | true =>
  have hne : (x != y) = false := by rw [bne, he]; rfl
  repeat (first
   | ((with_reducible first | refine sops_go ?_ | refine headW_end ?_ | refine sops_end ?_ | refine awp_if ?_ | refine awp_skip ?_); simp only [go_sem, simprocAttr, hF, hd, hxk, hyk, he, hne])
   | ((with_reducible refine headW_go ?_); simp only [go_sem, simprocAttr, hF, hd, hxk, hyk, he, hne, hbx])
   | (with_reducible refine awp_seq_k fun _ _ => ?_)
   | (refine awp_draw' (id := 6) [] 9 (by kernel_rfl) (by kernel_rfl) rfl rfl (fun bx0 hbx => ?_); try dsimp only [List.take, List.drop])
   | with_reducible (first | refine awp_region [] ?_ | refine awp_block ?_)
   | go_step)
  refine ⟨⟨k + 1, by omega, by rw [hT', he, Bool.true_and]⟩, by dsimp only; omega, hR _ _ (sub_mk ?_)⟩
  simp only [go_sem, simprocAttr, hF, hw]
/- ref58.SameLeft at equal scenarios. -/
attribute [local go_sem] Sc.rsR Sc.Wk.pv Sc.Og.pv Sc.Sn.pv Tryz.it83 Tryz.eg83 Tryz.it85 Tryz.eg85
theorem sameLeft_ok (x : Sn) (h1 : x.weak.length ≤ 1000000) (h2 : x.outs.length ≤ 1000000) : FnOK Tryz.prog 41 [.agg x.pv, .agg x.pv] ⟨bv true, none⟩ := by
 refine fn_ok Tryz.func41 (by kernel_rfl) rfl (by rw [Tryz.ntmps41]; exact of_decide_eq_true rfl) (fun F hF => ?_)
 rw [Tryz.ntmps41] at hF
 rw [Tryz.results41]
 repeat (first
  | ((with_reducible first | refine sops_go ?_ | refine sops_end ?_ | refine awp_if ?_ | refine awp_skip ?_); simp only [go_sem, simprocAttr, hF, bne_self_eq_false, List.append_eq])
  | with_reducible (first | refine awp_seq_k fun _ _ => ?_ | refine awp_region [] ?_ | refine awp_block ?_)
  | (simp only [List.append_eq, List.cons_append, List.nil_append, go_sem, simprocAttr, hF, bne_self_eq_false])
  | go_step)
 refine awp_loop_by (ι := {k : Nat // k ≤ x.weak.length}) (fun k σ => ⟨(5, iv (k.1 : Int)) :: keepS [0, 1, 2, 3, 4] σ.slot, σ.box, [], σ.ext⟩) (fun k => x.weak.length - k.1) ⟨0, by omega⟩ (sub_mk ?_) (fun R hR k => ?_)
 · simp only [go_sem, simprocAttr, hF]
   repeat' (first | rfl | refine ⟨?_, ?_⟩)
 obtain ⟨k, hk⟩ := k
 dsimp only
 simp only [go_sem, simprocAttr, hF]
 by_cases hlt : k < x.weak.length
 case neg =>
  have hd : decide ((k : Int) < (x.weak.length : Int)) = false := decide_eq_false (by omega)
  repeat (first
   | ((with_reducible first | refine sops_go ?_ | refine sops_end ?_ | refine awp_if ?_ | refine awp_exit ?_); simp only [go_sem, simprocAttr, hF, bne_self_eq_false, List.append_eq, hd])
   | with_reducible (first | refine awp_seq_k fun _ _ => ?_ | refine awp_region [] ?_ | refine awp_block ?_)
   | go_step)
  refine awp_loop_by (ι := {k : Nat // k ≤ x.outs.length}) (fun k σ => ⟨(6, iv (k.1 : Int)) :: keepS [0, 1, 2, 3, 4] σ.slot, σ.box, [], σ.ext⟩) (fun k => x.outs.length - k.1) ⟨0, by omega⟩ (sub_mk ?_) (fun R hR k => ?_)
  · simp only [go_sem, simprocAttr, hF]
    repeat' (first | rfl | refine ⟨?_, ?_⟩)
  obtain ⟨k, hk⟩ := k
  dsimp only
  simp only [go_sem, simprocAttr, hF]
  by_cases hlt : k < x.outs.length
  case neg =>
   have hd : decide ((k : Int) < (x.outs.length : Int)) = false := decide_eq_false (by omega)
   repeat (first
    | ((with_reducible first | refine sops_go ?_ | refine sops_end ?_ | refine awp_if ?_ | refine awp_ret ?_ | refine awp_exit ?_); simp only [go_sem, simprocAttr, hF, bne_self_eq_false, List.append_eq, hd])
    | (with_reducible first | refine awp_seq_k fun _ _ => ?_ | refine awp_region [] ?_)
    | go_step)
   all_goals (try rfl)
  obtain ⟨d, hdk⟩ := get_of_lt hlt
  have hd : decide ((k : Int) < (x.outs.length : Int)) = true := decide_eq_true (by omega)
  have hw : IntKind.i64.wrap ((k : Int) + 1) = ((k + 1 : Nat) : Int) := by rw [IntKind.wrap_i64]; omega
  have he : ([d.nd, d.fi, d.un] == [d.nd, d.fi, d.un]) = true := beq_self_eq_true _
  repeat (first
   | ((with_reducible first | refine sops_go ?_ | refine headW_end ?_ | refine sops_end ?_ | refine awp_if ?_ | refine awp_skip ?_); simp only [go_sem, simprocAttr, hF, bne_self_eq_false, List.append_eq, hd, hdk, he])
   | ((with_reducible refine headW_go ?_); simp only [go_sem, simprocAttr, hF, bne_self_eq_false, List.append_eq, hd, hdk, he, hbx])
   | (with_reducible refine awp_seq_k fun _ _ => ?_)
   | (refine awp_draw' (id := 11) [] 11 (by kernel_rfl) (by kernel_rfl) rfl rfl (fun bx0 hbx => ?_); try dsimp only [List.take, List.drop])
   | with_reducible (first | refine awp_region [] ?_ | refine awp_block ?_)
   | go_step)
  refine ⟨⟨k + 1, by omega⟩, by dsimp only; omega, hR _ _ (sub_mk ?_)⟩
  simp only [go_sem, simprocAttr, hF, hw]
 obtain ⟨d, hdk⟩ := get_of_lt hlt
 have hd : decide ((k : Int) < (x.weak.length : Int)) = true := decide_eq_true (by omega)
 have hw : IntKind.i64.wrap ((k : Int) + 1) = ((k + 1 : Nat) : Int) := by rw [IntKind.wrap_i64]; omega
 have he : ([d.fr, d.to, d.fi, d.un, d.re] == [d.fr, d.to, d.fi, d.un, d.re]) = true := beq_self_eq_true _
 repeat (first
  | ((with_reducible first | refine sops_go ?_ | refine headW_end ?_ | refine sops_end ?_ | refine awp_if ?_ | refine awp_skip ?_); simp only [go_sem, simprocAttr, hF, bne_self_eq_false, List.append_eq, hd, hdk, he])
  | ((with_reducible refine headW_go ?_); simp only [go_sem, simprocAttr, hF, bne_self_eq_false, List.append_eq, hd, hdk, he, hbx])
  | (with_reducible refine awp_seq_k fun _ _ => ?_)
  | (refine awp_draw' (id := 6) [] 11 (by kernel_rfl) (by kernel_rfl) rfl rfl (fun bx0 hbx => ?_); try dsimp only [List.take, List.drop])
  | with_reducible (first | refine awp_region [] ?_ | refine awp_block ?_)
  | go_step)
 refine ⟨⟨k + 1, by omega⟩, by dsimp only; omega, hR _ _ (sub_mk ?_)⟩
 simp only [go_sem, simprocAttr, hF, hw]
/- ref31.Same at equal networks. -/
attribute [local go_sem] Sc.rsR Sc.Lk.pv Sc.Nt.pv Tryz.it126 Tryz.eg126
theorem sameN_ok (n : Nt) (h1 : ∀ r ∈ n.power, r.length ≤ 1000000) (h2 : n.margin.length ≤ 1000000) (h3 : n.links.length ≤ 1000000) (h4 : n.power.length ≤ 1000000) : FnOK Tryz.prog 42 [.agg n.pv, .agg n.pv] ⟨bv true, none⟩ := by
 have hsi : ∀ r : List Int, FnOK Tryz.prog 91 [.sl 1 (r.map (fun x => [ip x])), .sl 1 (r.map (fun x => [ip x]))] ⟨bv true, none⟩ ∨ 1000000 < r.length := fun r => by
  rcases Nat.lt_or_ge 1000000 r.length with h | h
  · exact .inr h
  · have h9 := sameInts_ok r r h
    rw [decide_eq_true rfl] at h9
    exact .inl h9
 refine fn_ok Tryz.func42 (by kernel_rfl) rfl (by rw [Tryz.ntmps42]; exact of_decide_eq_true rfl) (fun F hF => ?_)
 rw [Tryz.ntmps42] at hF
 rw [Tryz.results42]
 repeat (first
  | ((with_reducible first | refine sops_go ?_ | refine sops_end ?_ | refine awp_if ?_ | refine awp_skip ?_); simp only [go_sem, simprocAttr, hF, bne_self_eq_false])
  | with_reducible (first | refine awp_seq_k fun _ _ => ?_ | refine awp_region [] ?_ | refine awp_block ?_)
  | go_step)
 refine awp_loop_by (ι := {k : Nat // k ≤ n.power.length}) (fun k σ => ⟨(5, iv (k.1 : Int)) :: keepS [0, 1, 2, 3, 4] σ.slot, σ.box, [], σ.ext⟩) (fun k => n.power.length - k.1) ⟨0, by omega⟩ (sub_mk ?_) (fun R hR k => ?_)
 · simp only [go_sem, simprocAttr, hF]
   repeat' (first | rfl | refine ⟨?_, ?_⟩)
 obtain ⟨k, hk⟩ := k
 dsimp only
 simp only [go_sem, simprocAttr, hF]
 by_cases hlt : k < n.power.length
 case neg =>
  have hd : decide ((k : Int) < (n.power.length : Int)) = false := decide_eq_false (by omega)
  repeat (first
   | ((with_reducible first | refine sops_go ?_ | refine sops_end ?_ | refine awp_if ?_ | refine awp_exit ?_); simp only [go_sem, simprocAttr, hF, bne_self_eq_false, hd])
   | with_reducible (first | refine awp_seq_k fun _ _ => ?_ | refine awp_region [] ?_ | refine awp_block ?_)
   | go_step)
  refine awp_loop_by (ι := {k : Nat // k ≤ n.links.length}) (fun k σ => ⟨(6, iv (k.1 : Int)) :: keepS [0, 1, 2, 3, 4] σ.slot, σ.box, [], σ.ext⟩) (fun k => n.links.length - k.1) ⟨0, by omega⟩ (sub_mk ?_) (fun R hR k => ?_)
  · simp only [go_sem, simprocAttr, hF]
    repeat' (first | rfl | refine ⟨?_, ?_⟩)
  obtain ⟨k, hk⟩ := k
  dsimp only
  simp only [go_sem, simprocAttr, hF]
  by_cases hlt : k < n.links.length
  case neg =>
   have hd : decide ((k : Int) < (n.links.length : Int)) = false := decide_eq_false (by omega)
   repeat (first
    | ((with_reducible first | refine sops_go ?_ | refine sops_end ?_ | refine awp_if ?_ | refine awp_exit ?_); simp only [go_sem, simprocAttr, hF, bne_self_eq_false, hd])
    | (with_reducible first | refine awp_seq_k fun _ _ => ?_ | refine awp_region [] ?_)
    | go_step)
   have hsm : FnOK Tryz.prog 91 [.sl 1 (n.margin.map (fun x => [ip x])), .sl 1 (n.margin.map (fun x => [ip x]))] ⟨bv true, none⟩ := (hsi n.margin).resolve_right (by omega)
   refine ⟨_, hsm, ?_⟩
   simp only [go_sem, simprocAttr, hF, bne_self_eq_false]
   repeat (first
    | ((with_reducible first | refine sops_go ?_ | refine sops_end ?_ | refine awp_ret ?_); simp only [go_sem, simprocAttr, hF, bne_self_eq_false])
    | go_step)
   all_goals (try rfl)
  obtain ⟨d, hdk⟩ := get_of_lt hlt
  have hd : decide ((k : Int) < (n.links.length : Int)) = true := decide_eq_true (by omega)
  have hw : IntKind.i64.wrap ((k : Int) + 1) = ((k + 1 : Nat) : Int) := by rw [IntKind.wrap_i64]; omega
  have he : ([d.fr, d.to, d.ls] == [d.fr, d.to, d.ls]) = true := beq_self_eq_true _
  repeat (first
   | ((with_reducible first | refine sops_go ?_ | refine headW_end ?_ | refine sops_end ?_ | refine awp_if ?_ | refine awp_skip ?_); simp only [go_sem, simprocAttr, hF, bne_self_eq_false, hd, hdk, he])
   | ((with_reducible refine headW_go ?_); simp only [go_sem, simprocAttr, hF, bne_self_eq_false, hd, hdk, he, hbx])
   | (with_reducible refine awp_seq_k fun _ _ => ?_)
   | (refine awp_draw' (id := 11) [] 11 (by kernel_rfl) (by kernel_rfl) rfl rfl (fun bx0 hbx => ?_); try dsimp only [List.take, List.drop])
   | with_reducible (first | refine awp_region [] ?_ | refine awp_block ?_)
   | go_step)
  refine ⟨⟨k + 1, by omega⟩, by dsimp only; omega, hR _ _ (sub_mk ?_)⟩
  simp only [go_sem, simprocAttr, hF, hw]
 obtain ⟨d, hdk⟩ := get_of_lt hlt
 have hd : decide ((k : Int) < (n.power.length : Int)) = true := decide_eq_true (by omega)
 have hw : IntKind.i64.wrap ((k : Int) + 1) = ((k + 1 : Nat) : Int) := by rw [IntKind.wrap_i64]; omega
 have hsd : FnOK Tryz.prog 91 [.sl 1 (d.map (fun x => [ip x])), .sl 1 (d.map (fun x => [ip x]))] ⟨bv true, none⟩ := (hsi d).resolve_right (by have := h1 d (List.mem_of_getElem? hdk); omega)
 repeat (first
  | ((with_reducible first | refine sops_go ?_ | refine sops_end ?_ | refine awp_if ?_ | refine awp_skip ?_); simp only [go_sem, simprocAttr, hF, bne_self_eq_false, hd, hdk])
  | ((with_reducible refine headW_go ?_); simp only [go_sem, simprocAttr, hF, bne_self_eq_false, hd, hdk, hbx])
  | (with_reducible refine awp_seq_k fun _ _ => ?_)
  | (refine awp_draw' (id := 6) [] 12 (by kernel_rfl) (by kernel_rfl) rfl rfl (fun bx0 hbx => ?_); try dsimp only [List.take, List.drop])
  | with_reducible (first | refine awp_region [] ?_ | refine awp_block ?_)
  | go_step)
 refine ⟨_, hsd, ?_⟩
 simp only [go_sem, simprocAttr, hF, bne_self_eq_false]
 repeat (first
  | ((with_reducible first | refine sops_go ?_ | refine headW_end ?_ | refine sops_end ?_ | refine awp_if ?_ | refine awp_skip ?_); simp only [go_sem, simprocAttr, hF, bne_self_eq_false, hd, hdk])
  | ((with_reducible refine headW_go ?_); simp only [go_sem, simprocAttr, hF, bne_self_eq_false, hd, hdk, hbx])
  | (with_reducible refine awp_region [] ?_)
  | go_step)
 refine ⟨⟨k + 1, by omega⟩, by dsimp only; omega, hR _ _ (sub_mk ?_)⟩
 simp only [go_sem, simprocAttr, hF, hw]
/- same at equal scenarios. -/
attribute [local go_sem] Sc.Sn.pv Sc.Nt.pv
structure SmX (x : Sn) : Prop where
 p1 : ∀ r ∈ x.net.power, r.length ≤ 1000000
 p2 : x.net.power.length ≤ 1000000
 p3 : x.net.margin.length ≤ 1000000
 p4 : x.net.links.length ≤ 1000000
 b : x.before.length ≤ 1000000
 a : x.after.length ≤ 1000000
 bq : ∀ q ∈ x.before, q.rs.length ≤ 1000000 ∧ ∀ r ∈ q.rs, r.length ≤ 1000000
 aq : ∀ q ∈ x.after, q.rs.length ≤ 1000000 ∧ ∀ r ∈ q.rs, r.length ≤ 1000000
 ce : x.cells.length ≤ 1000000
 ch : x.changes.length ≤ 1000000
 w : x.weak.length ≤ 1000000
 o : x.outs.length ≤ 1000000

theorem same_ok (x : Sn) (hx : SmX x) : FnOK Tryz.prog 15 [.agg x.pv, .agg x.pv] ⟨bv true, none⟩ := by
 have e1 := sameLeft_ok x hx.w hx.o
 have e2 := sameN_ok x.net hx.p1 hx.p3 hx.p4 hx.p2
 have e3 : FnOK Tryz.prog 43 [.sl 5 (x.cells.map Ce.pv), .sl 5 (x.cells.map Ce.pv)] ⟨bv true, none⟩ := by
  have h := eqCe_ok x.cells x.cells hx.ce
  rw [decide_eq_true rfl] at h
  exact h
 have e4 := eqCh_ok x.changes hx.ch
 have e5 := eqfRq_ok x.before hx.b hx.bq
 have e6 := eqfRq_ok x.after hx.a hx.aq
 unfold Sn.pv at e1
 unfold Nt.pv at e2
 refine fn_ok Tryz.func15 (by kernel_rfl) rfl (by rw [Tryz.ntmps15]; exact of_decide_eq_true rfl) (fun F hF => ?_)
 rw [Tryz.ntmps15] at hF
 rw [Tryz.results15]
 repeat (first
  | ((with_reducible first | refine sops_go ?_ | refine sops_end ?_); simp only [go_sem, simprocAttr, hF, bne_self_eq_false])
  | (with_reducible first | refine awp_seq_k fun _ _ => ?_ | refine awp_region [] ?_)
  | go_step)
 refine ⟨_, e1, ?_⟩
 simp only [go_sem, simprocAttr, hF, bne_self_eq_false]
 repeat ((with_reducible refine sops_go ?_; simp only [go_sem, simprocAttr, hF, bne_self_eq_false]))
 refine ⟨_, e2, ?_⟩
 simp only [go_sem, simprocAttr, hF, bne_self_eq_false]
 repeat ((with_reducible refine sops_go ?_; simp only [go_sem, simprocAttr, hF, bne_self_eq_false]))
 refine ⟨_, e3, ?_⟩
 simp only [go_sem, simprocAttr, hF, bne_self_eq_false]
 repeat ((with_reducible refine sops_go ?_; simp only [go_sem, simprocAttr, hF, bne_self_eq_false]))
 refine ⟨_, e4, ?_⟩
 simp only [go_sem, simprocAttr, hF, bne_self_eq_false]
 repeat (first
  | ((with_reducible first | refine sops_go ?_ | refine sops_end ?_ | refine awp_if ?_ | refine awp_skip ?_); simp only [go_sem, simprocAttr, hF, bne_self_eq_false])
  | (with_reducible first | refine awp_seq_k fun _ _ => ?_ | refine awp_region [] ?_)
  | go_step)
 refine ⟨_, e5, ?_⟩
 simp only [go_sem, simprocAttr, hF, bne_self_eq_false]
 repeat ((with_reducible refine sops_go ?_; simp only [go_sem, simprocAttr, hF, bne_self_eq_false]))
 refine ⟨_, e6, ?_⟩
 simp only [go_sem, simprocAttr, hF, bne_self_eq_false]
 repeat (first
  | ((with_reducible first | refine sops_go ?_ | refine sops_end ?_ | refine awp_ret ?_); simp only [go_sem, simprocAttr, hF, bne_self_eq_false])
  | go_step)
 all_goals (try rfl)
end Go.Proofs.YtcloigoajohppaaGreatDoor
/- The sizes of what Parse answers: in plain Lean. -/
namespace Go.Proofs.YtcloigoajohppaaGreatDoor
open Go.RowKit
open Av
open Sc
set_option maxRecDepth 100000
set_option linter.unusedSimpArgs false
set_option linter.unusedVariables false

theorem addRt_mem {r : List Int} : ∀ {l : List Rq} {q : Rq}, q ∈ addRt r l → q ∈ l ∨ ∃ z ∈ l, q = { z with rs := z.rs ++ [r] } ∧ z.rs = lastRs l
  | [], q, h => by cases h
  | [z], q, h => by
    rw [show addRt r [z] = [{ z with rs := z.rs ++ [r] }] from rfl] at h
    exact .inr ⟨z, List.mem_cons_self, List.mem_singleton.1 h, rfl⟩
  | z :: y :: t, q, h => by
    rw [show addRt r (z :: y :: t) = z :: addRt r (y :: t) from rfl] at h
    rcases List.mem_cons.1 h with rfl | h
    · exact .inl List.mem_cons_self
    · rcases addRt_mem h with h | ⟨u, h1, h2, h3⟩
      · exact .inl (List.mem_cons_of_mem _ h)
      · exact .inr ⟨u, List.mem_cons_of_mem _ h1, h2, h3⟩
theorem addRt_len {r : List Int} : ∀ l : List Rq, (addRt r l).length = l.length
  | [] => rfl
  | [z] => rfl
  | z :: y :: t => by
    show (addRt r (y :: t)).length + 1 = _
    rw [addRt_len (y :: t)]
    rfl
structure Bnd (x : Sn) : Prop where
  p : x.net.power.length ≤ 1024
  pr : ∀ r ∈ x.net.power, r.length ≤ 1024
  m : x.net.margin.length ≤ 1024
  l : x.net.links.length ≤ 1024
  b : x.before.length ≤ 1024
  a : x.after.length ≤ 1024
  bq : ∀ q ∈ x.before, q.rs.length ≤ 1024 ∧ ∀ r ∈ q.rs, r.length ≤ 1024
  aq : ∀ q ∈ x.after, q.rs.length ≤ 1024 ∧ ∀ r ∈ q.rs, r.length ≤ 1024
  ce : x.cells.length ≤ 1024
  ch : x.changes.length ≤ 1024
  w : x.weak.length ≤ 1024
  o : x.outs.length ≤ 1024
  lm : x.net.margin.length = x.net.links.length
theorem Bnd.sm {x : Sn} (h : Bnd x) : SmX x :=
  ⟨fun r hr => by have := h.pr r hr; omega, by have := h.p; omega, by have := h.m; omega, by have := h.l; omega, by have := h.b; omega, by have := h.a; omega,
    fun q hq => ⟨by have := (h.bq q hq).1; omega, fun r hr => by have := (h.bq q hq).2 r hr; omega⟩, fun q hq => ⟨by have := (h.aq q hq).1; omega, fun r hr => by have := (h.aq q hq).2 r hr; omega⟩,
    by have := h.ce; omega, by have := h.ch; omega, by have := h.w; omega, by have := h.o; omega⟩
theorem snoc_len {α : Type} {l : List α} (h : ¬ 1024 ≤ l.length) (x : α) : (l ++ [x]).length ≤ 1024 := by
  rw [List.length_append]
  simp only [List.length_cons, List.length_nil]
  omega
theorem snoc_rq {l : List Rq} (h : ∀ q ∈ l, q.rs.length ≤ 1024 ∧ ∀ r ∈ q.rs, r.length ≤ 1024) (f : Fw) : ∀ q ∈ l ++ [⟨f, []⟩], q.rs.length ≤ 1024 ∧ ∀ r ∈ q.rs, r.length ≤ 1024 := fun q hq => by
  rcases List.mem_append.1 hq with hq | hq
  · exact h q hq
  · rw [List.mem_singleton.1 hq]
    exact ⟨Nat.zero_le _, fun r hr => by cases hr⟩
theorem rt_rq {l : List Rq} {r : List Int} (h : ∀ q ∈ l, q.rs.length ≤ 1024 ∧ ∀ r ∈ q.rs, r.length ≤ 1024) (hr : ¬ (1024 < r.length ∨ 1024 ≤ (lastRs l).length)) : ∀ q ∈ addRt r l, q.rs.length ≤ 1024 ∧ ∀ r ∈ q.rs, r.length ≤ 1024 := fun q hq => by
  rcases addRt_mem hq with hq | ⟨z, h1, rfl, h3⟩
  · exact h q hq
  · refine ⟨?_, fun s hs => ?_⟩
    · show (z.rs ++ [r]).length ≤ 1024
      rw [h3]
      exact snoc_len (fun h => hr (.inr h)) r
    · rcases List.mem_append.1 hs with hs | hs
      · exact (h z h1).2 s hs
      · rw [List.mem_singleton.1 hs]
        omega
theorem readP_bnd (k : Kd) (p : Ps) (l : List Int) (h : Bnd p.R.x) : Bnd (readP k p l).1.R.x := by
  cases k
  all_goals (rcases l with _ | ⟨a0, _ | ⟨a1, _ | ⟨a2, _ | ⟨a3, _ | ⟨a4, _ | ⟨a5, _ | ⟨a6, l⟩⟩⟩⟩⟩⟩⟩)
  all_goals first | exact h | (simp only [readP]; first | exact { h with } | (split <;> first | exact h | (rename_i hh; first
    | exact { h with p := (by show (List.replicate a0.toNat (List.replicate a0.toNat (0 : Int))).length ≤ 1024; rw [List.length_replicate]; omega), pr := (fun r hr => by rw [List.eq_of_mem_replicate hr, List.length_replicate]; omega) }
    | exact { h with p := (by show (List.set _ _ _).length ≤ 1024; rw [List.length_set]; exact h.p), pr := (fun r hr => by
        rcases List.mem_or_eq_of_mem_set hr with hr | rfl
        · exact h.pr r hr
        · rw [List.length_set, List.getD_eq_getElem?_getD]
          cases hq : p.R.x.net.power[a0.toNat]? with
          | none => exact Nat.zero_le _
          | some z => exact h.pr z (List.mem_of_getElem? hq)) }
    | exact { h with l := snoc_len hh _, m := (by show (p.R.x.net.margin ++ [a3]).length ≤ 1024; exact snoc_len (by rw [h.lm]; exact hh) _), lm := (by show (p.R.x.net.margin ++ [a3]).length = (p.R.x.net.links ++ [(⟨a0, a1, a2⟩ : Lk)]).length; rw [List.length_append, List.length_append, h.lm]; rfl) }
    | exact { h with b := snoc_len hh _, bq := snoc_rq h.bq _ }
    | exact { h with a := snoc_len hh _, aq := snoc_rq h.aq _ }
    | exact { h with ce := snoc_len hh _ }
    | exact { h with ch := snoc_len hh _ }
    | exact { h with w := snoc_len hh _ }
    | exact { h with o := snoc_len hh _ })))
theorem stepP_bnd (p : Ps) (o : Option Ln) (h : Bnd p.R.x) : Bnd (stepP p o).1.R.x := by
  cases o with
  | none => exact h
  | some x =>
    obtain ⟨w, l⟩ := x
    unfold stepP
    simp only
    split
    · unfold routeP
      split
      · exact h
      · split
        · exact h
        · rename_i hh
          exact { h with b := (by show (addRt l p.R.x.before).length ≤ 1024; rw [addRt_len]; exact h.b), bq := rt_rq h.bq hh }
      · split
        · exact h
        · rename_i hh
          exact { h with a := (by show (addRt l p.R.x.after).length ≤ 1024; rw [addRt_len]; exact h.a), aq := rt_rq h.aq hh }
    · split
      · exact h
      · split
        · exact h
        · split
          · exact h
          · exact readP_bnd _ _ _ h
theorem fold_bnd : ∀ (ps : List ByteArray) (k : Nat) (p : Ps), Bnd p.R.x → Bnd (foldP k p ps).1.R.x
  | [], _, _, h => h
  | s :: ps, k, p, h => by
    rw [foldP_cons]
    split
    · exact fold_bnd ps (k + 1) p h
    · split
      · exact fold_bnd ps (k + 1) _ (stepP_bnd p _ h)
      · exact h
theorem bndZ : Bnd snZ := ⟨Nat.zero_le _, (fun r h => by cases h), Nat.zero_le _, Nat.zero_le _, Nat.zero_le _, Nat.zero_le _, (fun r h => by cases h), (fun r h => by cases h), Nat.zero_le _, Nat.zero_le _, Nat.zero_le _, Nat.zero_le _, rfl⟩
theorem parse_bnd (T : ByteArray) : Bnd (parseP T).1 := by
  unfold parseP
  split
  · exact bndZ
  · simp only
    split
    · exact bndZ
    · split
      · exact fold_bnd _ _ _ bndZ
      · exact bndZ
end Go.Proofs.YtcloigoajohppaaGreatDoor
/- Remarks change nothing but the numbers of lines: in plain Lean. -/
namespace Go.Proofs.YtcloigoajohppaaGreatDoor
open Go.RowKit
open Av
open Sc
set_option maxRecDepth 100000
set_option linter.unusedSimpArgs false
set_option linter.unusedVariables false

abbrev Rm := List (List (List UInt8) × List UInt8)
def Rm.pieces (M : Rm) : List (List UInt8) := M.flatMap fun x => x.1 ++ [x.2]
def Rm.base (M : Rm) : List (List UInt8) := M.map (·.2)
def Rm.more : Rm → Nat
  | [] => 0
  | x :: M => x.1.length + Rm.more M
def rmB (l : List (List UInt8)) : List UInt8 := l.flatMap fun r => r ++ [10]
def Rm.lines : Rm → List (List UInt8)
  | [] => []
  | [x] => [rmB x.1 ++ x.2]
  | x :: y :: M => (rmB x.1 ++ (x.2 ++ [10])) :: Rm.lines (y :: M)
structure Rm.Ok (M : Rm) : Prop where
  no : ∀ x ∈ M, 10 ∉ x.2
  rs : ∀ x ∈ M, ∀ r ∈ x.1, 10 ∉ r ∧ skipB (mkB r) = true
theorem Rm.Ok.tail {x : List (List UInt8) × List UInt8} {M : Rm} (h : Rm.Ok (x :: M)) : Rm.Ok M := ⟨fun y hy => h.no y (List.mem_cons_of_mem _ hy), fun y hy => h.rs y (List.mem_cons_of_mem _ hy)⟩
theorem split_rm (r : List UInt8) : ∀ (l : List (List UInt8)), (∀ x ∈ l, 10 ∉ x) → splitC 10 (rmB l ++ r) = l ++ splitC 10 r
  | [], _ => rfl
  | x :: l, h => by
    show splitC 10 ((x ++ [10] ++ rmB l) ++ r) = _
    rw [List.append_assoc, List.append_assoc, List.singleton_append, splitC_cons _ (h x List.mem_cons_self), split_rm r l fun y hy => h y (List.mem_cons_of_mem _ hy)]
    rfl
theorem Rm.split : ∀ (M : Rm), M ≠ [] → Rm.Ok M → splitC 10 M.lines.flatten = M.pieces
  | [], h, _ => absurd rfl h
  | [x], _, h => by
    show splitC 10 ((rmB x.1 ++ x.2) ++ []) = (x.1 ++ [x.2]) ++ []
    rw [List.append_nil, List.append_nil, split_rm _ _ fun r hr => (h.rs x List.mem_cons_self r hr).1, splitC_one (h.no x List.mem_cons_self)]
  | x :: y :: M, _, h => by
    show splitC 10 ((rmB x.1 ++ (x.2 ++ [10])) ++ (Rm.lines (y :: M)).flatten) = (x.1 ++ [x.2]) ++ Rm.pieces (y :: M)
    rw [List.append_assoc, List.append_assoc, List.singleton_append, split_rm _ _ fun r hr => (h.rs x List.mem_cons_self r hr).1, splitC_cons _ (h.no x List.mem_cons_self), Rm.split (y :: M) (by simp) h.tail, List.append_assoc]
    rfl
def Rm.of (ps : List (List UInt8)) : Rm := ps.map fun p => ([], p)
def Rm.put (M : Rm) (j : Nat) (r : List UInt8) : Rm := match M[j]? with
  | some x => M.set j (r :: x.1, x.2)
  | none => M
theorem lastB_pos {l : List UInt8} (h : l = [] ∨ ∃ r, l = r ++ [10]) : lastB (mkB l) = ((l.count 10 : Nat) : Int) := by
  unfold lastB
  rw [mkB_list, ByteArray.toList_eq, mkB_list]
  rw [if_pos]
  · rfl
  · rw [Bool.or_eq_true, List.isEmpty_iff]
    rcases h with h | ⟨r, h⟩
    · exact .inl h
    · refine .inr ?_
      unfold Lib.hasSuffix
      rw [List.isSuffixOf_iff_suffix]
      exact ⟨r, h.symm⟩
theorem lastB_neg {l : List UInt8} (h : ¬ (l = [] ∨ ∃ r, l = r ++ [10])) : lastB (mkB l) = ((l.count 10 : Nat) : Int) + 1 := by
  unfold lastB
  rw [mkB_list, ByteArray.toList_eq, mkB_list]
  rw [if_neg]
  · rfl
  · intro hb
    rw [Bool.or_eq_true, List.isEmpty_iff] at hb
    rcases hb with hb | hb
    · exact h (.inl hb)
    · unfold Lib.hasSuffix at hb
      rw [List.isSuffixOf_iff_suffix] at hb
      obtain ⟨r, hr⟩ := hb
      exact h (.inr ⟨r, hr.symm⟩)
theorem count_split : ∀ l : List UInt8, l.count 10 + 1 = (splitC 10 l).length
  | [] => rfl
  | b :: l => by
    have ih := count_split l
    unfold splitC
    by_cases h : b = 10
    · rw [if_pos h, h, List.count_cons_self, List.length_cons]
      omega
    · rw [if_neg h, List.count_cons_of_ne h]
      cases hs : splitC 10 l with
      | nil => exact absurd hs (splitC_ne 10 l)
      | cons q t => rw [hs] at ih; exact ih
theorem last_split : ∀ l : List UInt8, (splitC 10 l).getLastD [] = [] ↔ (l = [] ∨ ∃ r, l = r ++ [10]) := fun l => by
  rcases split_cases 10 l with h | ⟨a, r, he, h⟩
  · rw [splitC_one h]
    show l = [] ↔ _
    constructor
    · exact fun h => .inl h
    · rintro (h2 | ⟨r, h2⟩)
      · exact h2
      · rw [h2] at h
        exact absurd (by simp) h
  · subst he
    rw [splitC_cons _ h]
    have hlen : r.length < (a ++ 10 :: r).length := by simp; omega
    have ih := last_split r
    have e1 : (a :: splitC 10 r).getLastD [] = (splitC 10 r).getLastD [] := by
      cases hs : splitC 10 r with
      | nil => exact absurd hs (splitC_ne 10 r)
      | cons q t => rfl
    rw [e1, ih]
    constructor
    · rintro (rfl | ⟨q, rfl⟩)
      · exact .inr ⟨a, rfl⟩
      · exact .inr ⟨a ++ 10 :: q, by simp⟩
    · rintro (h2 | ⟨q, h2⟩)
      · simp at h2
      · rcases List.eq_nil_or_concat r with rfl | ⟨r', z, rfl⟩
        · exact .inl rfl
        · rw [List.concat_eq_append] at h2 ⊢
          refine .inr ⟨r', ?_⟩
          rw [show a ++ 10 :: (r' ++ [z]) = (a ++ 10 :: r') ++ [z] by simp] at h2
          have h3 := (List.append_inj' h2 rfl).2
          rw [h3]
termination_by l => l.length
theorem lastB_split (l : List UInt8) : lastB (mkB l) = if (splitC 10 l).getLastD [] = [] then (((splitC 10 l).length : Nat) : Int) - 1 else (((splitC 10 l).length : Nat) : Int) := by
  have hc := count_split l
  by_cases h : l = [] ∨ ∃ r, l = r ++ [10]
  · rw [lastB_pos h, if_pos ((last_split l).2 h)]
    omega
  · rw [lastB_neg h, if_neg (fun h2 => h ((last_split l).1 h2))]
    omega
end Go.Proofs.YtcloigoajohppaaGreatDoor
/- What Parse answers for a text with remarks: in plain Lean. -/
namespace Go.Proofs.YtcloigoajohppaaGreatDoor
open Go.RowKit
open Av
open Sc
set_option maxRecDepth 100000
set_option linter.unusedSimpArgs false
set_option linter.unusedVariables false

theorem parseP_fold {T : ByteArray} (h : T.size ≤ 65536) : parseP T = if (foldP 0 psZ ((splitC 10 T.data.toList).map mkB)).2.2 ≠ 0 then (snZ, ((foldP 0 psZ ((splitC 10 T.data.toList).map mkB)).2.1 : Int), (foldP 0 psZ ((splitC 10 T.data.toList).map mkB)).2.2)
    else if ((foldP 0 psZ ((splitC 10 T.data.toList).map mkB)).1.R.begun && (foldP 0 psZ ((splitC 10 T.data.toList).map mkB)).1.R.sched && (foldP 0 psZ ((splitC 10 T.data.toList).map mkB)).1.R.done) = true then ((foldP 0 psZ ((splitC 10 T.data.toList).map mkB)).1.R.x, 0, 0) else (snZ, lastB T + 1, 9) := by
  unfold parseP
  rw [if_neg (by omega), linesB_of _ _ (Nat.le_refl _)]
end Go.Proofs.YtcloigoajohppaaGreatDoor
/- The reference's Parse in plain Lean answers what the program's Parse answers. -/
namespace Go.Proofs.YtcloigoajohppaaGreatDoor
open Go.RowKit
open Av
open Sc
set_option maxRecDepth 100000
set_option linter.unusedSimpArgs false
set_option linter.unusedVariables false

def qZ : Pr := ⟨snZ, -1, false, false, false⟩
def foldR : Nat → Pr → List ByteArray → Pr × Nat × Int
  | _, q, [] => (q, 0, 0)
  | k, q, s :: l => if skipB s then foldR (k + 1) q l else if (stepR q (lineO s)).2 = 0 then foldR (k + 1) (stepR q (lineO s)).1 l else (q, k + 1, (stepR q (lineO s)).2)
def lns (l : List UInt8) : List (List UInt8) := if (splitC 10 l).getLastD [] = [] then (splitC 10 l).dropLast else splitC 10 l
def parseR (text : ByteArray) : Sn × Int × Int :=
  if 65536 < text.size then (snZ, 0, 8) else
  let r := foldR 0 qZ ((lns text.data.toList).map mkB)
  if r.2.2 ≠ 0 then (snZ, r.2.1, r.2.2)
  else if r.1.nw && r.1.sc && r.1.sl then (r.1.x, 0, 0)
  else (snZ, ((lns text.data.toList).length : Int) + 1, 9)
theorem same_zero : Same qZ psZ := by
  refine ⟨rfl, rfl, rfl, rfl, rfl, Int.le_refl 0, by decide, ?_, ?_, fun _ => ⟨rfl, rfl⟩, ?_, ?_, ?_, ?_⟩ <;> simp [psZ, rdZ]
theorem foldR_cons (k : Nat) (q : Pr) (s : ByteArray) (l : List ByteArray) : foldR k q (s :: l) = if skipB s then foldR (k + 1) q l else if (stepR q (lineO s)).2 = 0 then foldR (k + 1) (stepR q (lineO s)).1 l else (q, k + 1, (stepR q (lineO s)).2) := rfl
theorem fold_same : ∀ (L : List ByteArray) (k : Nat) {q : Pr} {p : Ps}, Same q p → (foldR k q L).2 = (foldP k p L).2 ∧ ((foldP k p L).2.2 = 0 → Same (foldR k q L).1 (foldP k p L).1)
  | [], k, q, p, h => ⟨rfl, fun _ => h⟩
  | s :: L, k, q, p, h => by
    rw [foldR_cons, foldP_cons]
    obtain ⟨h1, h2⟩ := step_same h (lineO s)
    rw [h1]
    split
    · exact fold_same L (k + 1) h
    · split
      · rename_i h0
        exact fold_same L (k + 1) (h2 h0)
      · rename_i h0
        exact ⟨rfl, fun e => absurd e h0⟩
theorem foldP_empty {e : ByteArray} (he : skipB e = true) : ∀ (L : List ByteArray) (k : Nat) (p : Ps), foldP k p (L ++ [e]) = foldP k p L
  | [], k, p => by
    rw [List.nil_append, foldP_cons, if_pos he]
    rfl
  | s :: L, k, p => by
    rw [List.cons_append, foldP_cons, foldP_cons, foldP_empty he L, foldP_empty he L]
theorem lns_or (l : List UInt8) : (splitC 10 l = lns l ∧ (splitC 10 l).getLastD [] ≠ []) ∨ (splitC 10 l = lns l ++ [[]] ∧ (splitC 10 l).getLastD [] = []) := by
  unfold lns
  split
  · rename_i h
    refine .inr ⟨?_, h⟩
    have hne := splitC_ne 10 l
    have h2 := (List.dropLast_concat_getLast hne).symm
    rw [List.getLastD_eq_getLast?, List.getLast?_eq_some_getLast hne] at h
    rw [show (splitC 10 l).getLast hne = [] from h] at h2
    exact h2
  · rename_i h
    exact .inl ⟨rfl, h⟩
theorem parse_ref (T : ByteArray) : parseR T = parseP T := by
  rcases Nat.lt_or_ge 65536 T.size with hs | hs
  · unfold parseR parseP
    rw [if_pos hs, if_pos hs]
  · rw [parseP_fold hs]
    have hT : mkB T.data.toList = T := by unfold mkB; rfl
    have hl : foldP 0 psZ ((splitC 10 T.data.toList).map mkB) = foldP 0 psZ ((lns T.data.toList).map mkB) ∧ lastB T = ((lns T.data.toList).length : Int) := by
      have h2 := lastB_split T.data.toList
      rw [hT] at h2
      rw [h2]
      rcases lns_or T.data.toList with ⟨h, h1⟩ | ⟨h, h1⟩
      · rw [if_neg h1, h]
        exact ⟨rfl, rfl⟩
      · rw [if_pos h1, h, List.map_append]
        refine ⟨foldP_empty rfl _ _ _, ?_⟩
        rw [List.length_append]
        show (((lns T.data.toList).length + 1 : Nat) : Int) - 1 = _
        omega
    rw [hl.1, hl.2]
    obtain ⟨h1, h2⟩ := fold_same ((lns T.data.toList).map mkB) 0 same_zero
    unfold parseR
    rw [if_neg (by omega)]
    simp only [h1]
    split
    · rfl
    · rename_i h0
      have h0' : (foldP 0 psZ ((lns T.data.toList).map mkB)).2.2 = 0 := Decidable.byContradiction h0
      have h3 := h2 h0'
      rw [h3.nw, h3.sc, h3.sl, h3.x]
end Go.Proofs.YtcloigoajohppaaGreatDoor
/- The reference's parser in memory. -/
namespace Go.Proofs.YtcloigoajohppaaGreatDoor
open Go.RowKit
open Av
open Sc
set_option maxRecDepth 100000
set_option linter.unusedSimpArgs false

def qvals (R : Rd) (M : RM) : List Value :=
  [.int .i64 R.x.net.nodes, M.vp, .int .i64 R.x.net.noise, .int .i64 R.x.net.thr, M.hl.V, M.hm.V, M.vb, M.va, .int .i64 R.x.len, .int .i64 R.x.offs, M.hc.V, M.hh.V, M.hw.V, M.ho.V, .int .i64 R.x.slots, .int .i64 R.rank, .bool R.begun, .bool R.sched, .bool R.done]
def pcq (b : Nat) (R : Rd) (M : RM) (tl : List Ext) : List Ext :=
  rawU b (qvals R M) :: hdE 126 3 M.hl (R.x.net.links.map Lk.pv) :: hdE 3 1 M.hm (R.x.net.margin.map fun m => [ip m]) :: hdE 79 5 M.hc (R.x.cells.map Ce.pv) ::
  hdE 81 7 M.hh (R.x.changes.map Ch.pv) :: hdE 83 5 M.hw (R.x.weak.map Wk.pv) :: hdE 85 3 M.ho (R.x.outs.map Og.pv) :: tl
def pcsQ (b : Nat) (X : RX) : List Ext := pcq b X.R X.m (fixX X ++ dynX X)
theorem pcsQ_get (b : Nat) (X : RX) (k : Nat) : (pcsQ b X)[10 + k]? = (dynX X)[k]? := by
  rw [Nat.add_comm]
  rfl
theorem pcsQ_row {b : Nat} {X : RX} {a : Nat} {z : Pz} (h : X.pw[a]? = some z) : (pcsQ b X)[10 + (X.zs.length + (X.bs.length + a))]? = some z.ext := by
  have := pcsX_row (b := b) h
  rw [pcsX_get] at this
  rw [pcsQ_get]
  exact this
theorem pcsQ_setRow {b : Nat} {X : RX} {a : Nat} {z z' : Pz} (h : X.pw[a]? = some z) (hV : z'.V = z.V) : (pcsQ b X).set (10 + (X.zs.length + (X.bs.length + a))) z'.ext = pcsQ b { X with pw := X.pw.set a z' } := by
  have h1 := congrArg List.tail (pcsX_setRow (b := b) h hV)
  rw [show 10 + (X.zs.length + (X.bs.length + a)) = (9 + (X.zs.length + (X.bs.length + a))) + 1 by omega] at h1 ⊢
  exact congrArg (rawU b (qvals X.R X.m) :: ·) h1
theorem newQ (b : Nat) (R : Rd) (M : RM) (D A B : List Ext) (N : Ext) : (N :: pcq b R M (D ++ (A ++ B))).Perm (pcq b R M (D ++ (A ++ N :: B))) := by
  have : ∀ D, pcq b R M D = (pcq b R M []) ++ D := fun D => rfl
  rw [this, this (D ++ (A ++ N :: B)), ← List.append_assoc, ← List.append_assoc, ← List.append_assoc, ← List.append_assoc]
  exact List.perm_middle.symm
theorem newQ2 (b : Nat) (R : Rd) (M : RM) (D A B B2 : List Ext) (N : Ext) : (N :: pcq b R M (D ++ (A ++ (B ++ B2)))).Perm (pcq b R M (D ++ (A ++ (B ++ (B2 ++ [N]))))) := by
  have : ∀ D, pcq b R M D = (pcq b R M []) ++ D := fun D => rfl
  rw [this, this (D ++ (A ++ (B ++ (B2 ++ [N]))))]
  simp only [← List.append_assoc]
  exact (List.perm_append_singleton N _).symm
def Pr.rd (q : Pr) : Rd := ⟨q.x, q.at_, q.nw, q.sc, q.sl⟩
structure SzQ (x : Sn) : Prop where
  ll : x.net.links.length ≤ 1024
  lc : x.cells.length ≤ 1024
  lh : x.changes.length ≤ 1024
  lw : x.weak.length ≤ 1024
  lo : x.outs.length ≤ 1024
  lb : x.before.length ≤ 1024
  la : x.after.length ≤ 1024
  rb : ∀ z ∈ x.before, z.rs.length ≤ 1024
  ra : ∀ z ∈ x.after, z.rs.length ≤ 1024
structure InvQ (R : Rd) : Prop where
  fresh : R.rank < 0 → R.x.net.nodes = 0
  late : R.x.after ≠ [] → 4 ≤ R.rank
  n0 : 0 ≤ R.x.net.nodes
  n32 : R.x.net.nodes ≤ 32
  rows : R.x.net.power.length = R.x.net.nodes.toNat
  row : ∀ r ∈ R.x.net.power, r.length = R.x.net.nodes.toNat
  lm : R.x.net.margin.length = R.x.net.links.length
  sz : SzQ R.x
structure OKQ (S : Rd) (X : RX) : Prop where
  R : X.R = S
  pw : X.pw.map Pz.row = S.x.net.power
  bs : X.bs.reverse.map Rz.rq = S.x.before
  zs : X.zs.reverse.map Rz.rq = S.x.after
  hp : X.pw ≠ [] → ∃ g, X.hp.q = some g
  hb : X.bs ≠ [] → ∃ g, X.hb.q = some g
  ha : X.zs ≠ [] → ∃ g, X.ha.q = some g
  inv : InvQ S
end Go.Proofs.YtcloigoajohppaaGreatDoor
/- The reference's numbers in plain Lean: it reads what the program reads. -/
namespace Go.Proofs.YtcloigoajohppaaGreatDoor
open Go.RowKit
open Av
open Sc
set_option maxRecDepth 100000
set_option linter.unusedSimpArgs false
set_option linter.unusedVariables false

def unS (l : List UInt8) : List UInt8 := if l.head? = some 45 then l.tail else l
def refN (l : List UInt8) : Option Int :=
  if (unS l).length < 1 ∨ 13 < (unS l).length ∨ ((unS l).head? = some 48 ∧ 1 < l.length) then none
  else match Lib.decFrom 0 (unS l) with
    | none => none
    | some n => if 1099511627776 < n then none else some (if l.head? = some 45 then -(n : Int) else (n : Int))
theorem decFrom_snoc (b : UInt8) : ∀ (l : List UInt8) (a : Nat), Lib.decFrom a (l ++ [b]) = (Lib.decFrom a l).bind fun n => (Lib.digitVal b).map fun d => n * 10 + d
  | [], a => by
    show (match Lib.digitVal b with | some d => some (a * 10 + d) | none => none) = _
    cases Lib.digitVal b <;> rfl
  | c :: l, a => by
    show (match Lib.digitVal c with | some d => Lib.decFrom (a * 10 + d) (l ++ [b]) | none => none) = (match Lib.digitVal c with | some d => Lib.decFrom (a * 10 + d) l | none => none).bind _
    cases Lib.digitVal c with
    | none => rfl
    | some d => exact decFrom_snoc b l _
theorem digit_byte {b : UInt8} {d : Nat} (h : Lib.digitVal b = some d) : d < 10 ∧ b = UInt8.ofNat (48 + d) := by
  obtain ⟨h1, h2, h3⟩ := Lib.digitVal_eq h
  refine ⟨by omega, ?_⟩
  rw [h3, show 48 + (b.toNat - 48) = b.toNat by omega]
  exact UInt8.ofNat_toNat.symm
theorem dec_snoc (n : Nat) (h : 10 ≤ n) : Lib.decDigits n = Lib.decDigits (n / 10) ++ [UInt8.ofNat (48 + n % 10)] := by
  rw [Lib.decDigits, dif_neg (by omega)]
theorem dec_unique : ∀ (k : Nat) (l : List UInt8) (n : Nat), l.length = k → l ≠ [] → Lib.decFrom 0 l = some n → (l.head? ≠ some 48 ∨ l.length = 1) → l = Lib.decDigits n ∧ (l.head? ≠ some 48 → 1 ≤ n)
  | 0, l, n, hk, hl, _, _ => absurd (List.length_eq_zero_iff.1 hk) hl
  | k + 1, l, n, hk, hl, h, h0 => by
    obtain ⟨l', b, rfl⟩ : ∃ l' b, l = l' ++ [b] := ⟨l.dropLast, l.getLast hl, (List.dropLast_concat_getLast hl).symm⟩
    rw [decFrom_snoc] at h
    cases hn : Lib.decFrom 0 l' with
    | none => rw [hn] at h; cases h
    | some m =>
      rw [hn] at h
      cases hd : Lib.digitVal b with
      | none => rw [hd] at h; cases h
      | some d =>
        rw [hd] at h
        obtain ⟨h9, rfl⟩ := digit_byte hd
        have hm : m * 10 + d = n := by simpa using h
        rw [List.length_append] at hk h0
        simp only [List.length_cons, List.length_nil] at hk h0
        cases l' with
        | nil =>
          have : m = 0 := by simpa [Lib.decFrom] using hn.symm
          subst this
          have : n = d := by omega
          subst this
          rw [Lib.decDigits_one h9]
          refine ⟨rfl, fun hh => ?_⟩
          rcases Nat.eq_zero_or_pos n with rfl | h1
          · exact absurd rfl hh
          · exact h1
        | cons c l' =>
          have hc : c ≠ 48 := by
            rcases h0 with h0 | h0
            · simpa using h0
            · simp at h0
          obtain ⟨i1, i2⟩ := dec_unique k (c :: l') m (by omega) (by simp) hn (.inl (by simpa using hc))
          have h1 := i2 (by simpa using hc)
          rw [dec_snoc n (by omega), show n / 10 = m by omega, show n % 10 = d by omega, ← i1]
          exact ⟨rfl, fun _ => by omega⟩
theorem digits_head : ∀ (k n : Nat), n ≤ k → (Lib.decDigits n).head? = some 48 → n = 0
  | k, n, hk, h => by
    rcases Nat.lt_or_ge n 10 with h1 | h1
    · rw [Lib.decDigits_one h1] at h
      have h2 : UInt8.ofNat (48 + n) = 48 := by simpa using h
      have h3 := congrArg UInt8.toNat h2
      rw [UInt8.toNat_ofNat'] at h3
      have h4 : (48 : UInt8).toNat = 48 := rfl
      rw [h4] at h3
      omega
    · cases k with
      | zero => omega
      | succ k =>
        rw [dec_snoc n h1] at h
        have hne := digits_ne (n / 10)
        have h2 : (Lib.decDigits (n / 10)).head? = some 48 := by
          cases hd : Lib.decDigits (n / 10) with
          | nil => exact absurd hd hne
          | cons c t => rw [hd] at h; simpa using h
        have := digits_head k (n / 10) (by omega) h2
        omega
theorem refN_itoa {v : Int} (h0 : -1099511627776 ≤ v) (h1 : v ≤ 1099511627776) : refN (Lib.itoa v) = some v := by
  rcases Int.lt_or_le v 0 with hv | hv
  · obtain ⟨n, rfl, hn⟩ : ∃ n : Nat, v = -(n : Int) ∧ 1 ≤ n := ⟨v.natAbs, by omega, by omega⟩
    rw [Lib.itoa_neg n hn]
    have hu : unS (45 :: Lib.decDigits n) = Lib.decDigits n := rfl
    have hl := digits_len 12 n (by omega)
    have hp := List.length_pos_iff.2 (digits_ne n)
    unfold refN
    rw [hu, decFrom_digits, if_neg (fun e => by
      rcases e with e | e | e
      · omega
      · omega
      · have := digits_head n n (Nat.le_refl _) e.1
        omega)]
    simp only []
    rw [if_neg (by omega)]
    rfl
  · obtain ⟨n, rfl⟩ : ∃ n : Nat, v = (n : Int) := ⟨v.natAbs, by omega⟩
    rw [Lib.itoa_nonneg n]
    have hh : (Lib.decDigits n).head? ≠ some 45 := by
      intro e
      cases hd : Lib.decDigits n with
      | nil => exact digits_ne n hd
      | cons c t =>
        have hb := digits_byte n c (by rw [hd]; exact List.mem_cons_self)
        rw [hd] at e
        have : c = 45 := by simpa using e
        subst this
        exact absurd hb.1 (by decide)
    have hu : unS (Lib.decDigits n) = Lib.decDigits n := by unfold unS; rw [if_neg hh]
    have hl := digits_len 12 n (by omega)
    have hp := List.length_pos_iff.2 (digits_ne n)
    unfold refN
    rw [hu, decFrom_digits, if_neg (fun e => by
      rcases e with e | e | e
      · omega
      · omega
      · have := digits_head n n (Nat.le_refl _) e.1
        subst this
        rw [Lib.decDigits_one (by decide)] at e
        exact absurd e.2 (by decide))]
    simp only []
    rw [if_neg (by omega), if_neg hh]
theorem refN_some {l : List UInt8} {v : Int} (h : refN l = some v) : l = Lib.itoa v ∧ -1099511627776 ≤ v ∧ v ≤ 1099511627776 := by
  unfold refN at h
  split at h
  · cases h
  · rename_i h0
    cases hn : Lib.decFrom 0 (unS l) with
    | none => rw [hn] at h; cases h
    | some n =>
      rw [hn] at h
      simp only [] at h
      split at h
      · cases h
      · rename_i h1
        have h2 := Option.some.inj h
        have hne : unS l ≠ [] := fun e => h0 (.inl (by rw [e]; decide))
        rcases Decidable.em (l.head? = some 45) with hs | hs
        · rw [if_pos hs] at h2
          cases l with
          | nil => cases hs
          | cons c t =>
            have : c = 45 := by simpa using hs
            subst this
            have hu : unS (45 :: t) = t := rfl
            rw [hu] at hn h0 hne
            have h48 : t.head? ≠ some 48 := fun e => h0 (.inr (.inr ⟨e, by
              have := List.length_pos_iff.2 hne
              simp only [List.length_cons]; omega⟩))
            obtain ⟨e1, e2⟩ := dec_unique _ t n rfl hne hn (.inl h48)
            have e3 := e2 h48
            rw [← h2, Lib.itoa_neg n e3, ← e1]
            exact ⟨rfl, by omega, by omega⟩
        · rw [if_neg hs] at h2
          have hu : unS l = l := by unfold unS; rw [if_neg hs]
          rw [hu] at hn h0 hne
          obtain ⟨e1, -⟩ := dec_unique _ l n rfl hne hn (by
            rcases Decidable.em (l.head? = some 48) with e | e
            · refine .inr ?_
              have := List.length_pos_iff.2 hne
              have : ¬ 1 < l.length := fun e2 => h0 (.inr (.inr ⟨e, e2⟩))
              omega
            · exact .inl e)
          rw [← h2, Lib.itoa_nonneg n, ← e1]
          exact ⟨rfl, by omega, by omega⟩
theorem refN_num (s : ByteArray) : refN s.data.toList = if (numR s).2 = true then some (numR s).1 else none := by
  have hs : mkB s.data.toList = s := by unfold mkB; rfl
  cases hr : refN s.data.toList with
  | some v =>
    obtain ⟨h1, h2, h3⟩ := refN_some hr
    have := numR_itoa h2 h3
    rw [← h1, hs] at this
    rw [this]
    rfl
  | none =>
    rw [if_neg]
    intro hn
    have key : ∃ v : Int, s.data.toList = Lib.itoa v ∧ -1099511627776 ≤ v ∧ v ≤ 1099511627776 := by
      revert hn
      unfold numR
      split
      · rename_i v hv
        intro hn
        have hn' : ((txtI v).toList == s.toList) = true ∧ (-1099511627776 ≤ v ∧ v ≤ 1099511627776) := by
          simpa [Bool.and_eq_true] using hn
        refine ⟨v, ?_, hn'.2.1, hn'.2.2⟩
        have e := eq_of_beq hn'.1
        rw [ByteArray.toList_eq, ByteArray.toList_eq] at e
        rw [← e]
        unfold txtI
        simp
      · intro hn; simp at hn
      · intro hn; simp at hn
    obtain ⟨v, h1, h2, h3⟩ := key
    rw [h1, refN_itoa h2 h3] at hr
    cases hr
end Go.Proofs.YtcloigoajohppaaGreatDoor
/- The reference's Line in plain Lean: it reads what the program reads. -/
namespace Go.Proofs.YtcloigoajohppaaGreatDoor
open Go.RowKit
open Av
open Sc
set_option maxRecDepth 100000
set_option linter.unusedSimpArgs false
set_option linter.unusedVariables false

def azB (b : UInt8) : Bool := decide (97 ≤ b.toNat) && decide (b.toNat ≤ 122)
def azL : List UInt8 := (⟨#[97, 98, 99, 100, 101, 102, 103, 104, 105, 106, 107, 108, 109, 110, 111, 112, 113, 114, 115, 116, 117, 118, 119, 120, 121, 122]⟩ : ByteArray).data.toList
theorem az_has (b : UInt8) : azL.contains b = azB b := by
  have key : ∀ n, n < 256 → azL.contains (UInt8.ofNat n) = azB (UInt8.ofNat n) := by decide
  have := key b.toNat b.toNat_lt
  rwa [UInt8.ofNat_toNat] at this
theorem drop_all (p : UInt8 → Bool) : ∀ r : List UInt8, (∀ x ∈ r.dropWhile p, p x = true) ↔ ∀ x ∈ r, p x = true
  | [] => Iff.rfl
  | a :: t => by
    rw [List.dropWhile_cons]
    cases ha : p a with
    | true => simp [ha, drop_all p t]
    | false => simp [ha]
theorem drop_nil (p : UInt8 → Bool) : ∀ r : List UInt8, r.dropWhile p = [] ↔ ∀ x ∈ r, p x = true
  | [] => by simp
  | a :: t => by
    rw [List.dropWhile_cons]
    cases ha : p a with
    | true => simp [ha, drop_nil p t]
    | false => simp [ha]
theorem trim_nil (l cs : List UInt8) : Lib.trimS l cs = [] ↔ ∀ x ∈ l, cs.contains x = true := by
  show List.dropWhile (cs.contains ·) ((l.reverse.dropWhile (cs.contains ·)).reverse) = [] ↔ _
  rw [drop_nil]
  have := drop_all (cs.contains ·) l.reverse
  simp only [List.mem_reverse] at this ⊢
  exact this
theorem bad_iff (w : List UInt8) : badW (mkB w) = (decide (w = []) || !w.all azB) := by
  unfold badW
  rw [str_eq, str_eq]
  congr 1
  · rw [Bool.eq_iff_iff, decide_eq_true_eq, decide_eq_true_eq]
    constructor
    · intro h
      have := congrArg (fun b => b.data.toList) h
      simpa [mkB] using this
    · rintro rfl; rfl
  · congr 1
    rw [Bool.eq_iff_iff, decide_eq_true_eq, List.all_eq_true]
    have h1 := trim_nil (mkB w).data.toList azL
    have h2 : (mkB w).data.toList = w := by simp [mkB]
    constructor
    · intro h x hx
      have h3 := congrArg (fun b => b.data.toList) h
      have h4 : Lib.trimS (mkB w).data.toList azL = [] := h3
      rw [h1, h2] at h4
      rw [← az_has]; exact h4 x hx
    · intro h
      have h4 : Lib.trimS (mkB w).data.toList azL = [] := by
        rw [h1, h2]; intro x hx; rw [az_has]; exact h x hx
      have h5 : (⟨(Lib.trimS (mkB w).data.toList azL).toArray⟩ : ByteArray) = ⟨#[]⟩ := by rw [h4]
      exact h5
theorem ref_some (p : List UInt8) : (refN p).isSome = (numR (mkB p)).2 ∧ ((numR (mkB p)).2 = true → (refN p).getD 0 = (numR (mkB p)).1) := by
  have h := refN_num (mkB p)
  have h2 : (mkB p).data.toList = p := by simp [mkB]
  rw [h2] at h
  rw [h]
  cases (numR (mkB p)).2 <;> simp
theorem splitC_snoc (c b : UInt8) : ∀ l : List UInt8, splitC c (l ++ [b]) = if b = c then splitC c l ++ [[]] else (splitC c l).dropLast ++ [(splitC c l).getLastD [] ++ [b]] := fun l => by
  induction l with
  | nil =>
    rcases Decidable.em (b = c) with h | h
    · simp [splitC, h]
    · simp [splitC, h]
  | cons a l ih =>
    have hne := splitC_ne c l
    rcases Decidable.em (a = c) with h | h
    · subst h
      have h1 : ∀ r, splitC a (a :: r) = [] :: splitC a r := fun r => splitC_cons (l := []) r (by simp)
      rw [List.cons_append, h1, h1, ih]
      split
      · rfl
      · cases hl : splitC a l with
        | nil => exact absurd hl hne
        | cons x t => rfl
    · have h1 : ∀ r, splitC c (a :: r) = (a :: (splitC c r).headD []) :: (splitC c r).tail := fun r => by
        cases hr : splitC c r with
        | nil => exact absurd hr (splitC_ne c r)
        | cons x t => simp [splitC, h, hr]
      rw [List.cons_append, h1, h1, ih]
      cases hl : splitC c l with
      | nil => exact absurd hl hne
      | cons x t =>
        split
        · rfl
        · cases t with
          | nil => rfl
          | cons y t => rfl
end Go.Proofs.YtcloigoajohppaaGreatDoor
/- The reference's number: the walk. -/
namespace Go.Proofs.YtcloigoajohppaaGreatDoor
open Go.RowKit
open Av
open Sc
set_option maxRecDepth 100000
set_option linter.unusedSimpArgs false
set_option linter.unusedVariables false

def refV (l : List UInt8) : Int × Bool := match refN l with
  | some v => (v, true)
  | none => (0, false)
theorem refV_none {l : List UInt8} (h : refN l = none) : refV l = (0, false) := by unfold refV; rw [h]
theorem refV_some {l : List UInt8} {v : Int} (h : refN l = some v) : refV l = (v, true) := by unfold refV; rw [h]
theorem refN_form {l : List UInt8} (h : (unS l).length < 1 ∨ 13 < (unS l).length ∨ ((unS l).head? = some 48 ∧ 1 < l.length)) : refN l = none := by
  unfold refN; rw [if_pos h]
theorem refN_bad {l : List UInt8} {k : Nat} {c : UInt8} (h : (unS l)[k]? = some c) (hc : Lib.digitVal c = none) : refN l = none := by
  unfold refN
  split
  · rfl
  · cases hn : Lib.decFrom 0 (unS l) with
    | none => rfl
    | some n =>
      obtain ⟨d, hd⟩ := Lib.digit_of_decFrom _ _ _ hn k c h
      rw [hc] at hd; cases hd
theorem refN_fin {l : List UInt8} {n : Nat} (h : ¬ ((unS l).length < 1 ∨ 13 < (unS l).length ∨ ((unS l).head? = some 48 ∧ 1 < l.length))) (hn : Lib.decFrom 0 (unS l) = some n) : refN l = if 1099511627776 < n then none else some (if l.head? = some 45 then -(n : Int) else (n : Int)) := by
  unfold refN
  rw [if_neg h, hn]
theorem digit_no {c : UInt8} (h : c.toNat < 48 ∨ 57 < c.toNat) : Lib.digitVal c = none := by
  unfold Lib.digitVal
  rw [if_neg (by omega)]
theorem digit_yes {c : UInt8} (h : 48 ≤ c.toNat ∧ c.toNat ≤ 57) : Lib.digitVal c = some (c.toNat - 48) := by
  unfold Lib.digitVal
  rw [if_pos h]
theorem refnum_any (s : ByteArray) (hs : s.size ≤ 100000) (w : World) : Calls Tryz.prog 119 #[.string s] w fun e w' => e = .returned (.tuple #[.int .i64 (refV s.data.toList).1, .bool (refV s.data.toList).2]) ∧ w' = w := by
  obtain ⟨R, hR⟩ : ∃ R, R = refV s.data.toList := ⟨_, rfl⟩
  rw [← hR]
  have HR := Lib.hid hR
  clear hR
  have hlen : s.data.toList.length = s.size := rfl
  by_cases h0 : s.size = 0
  · have e : Hid (R = (0, false)) := Lib.hid (by
      rw [HR.out]
      refine refV_none (refN_form (.inl ?_))
      have : s.data.toList = [] := List.length_eq_zero_iff.1 (by omega)
      rw [this]; decide)
    clear hlen
    go_enter Tryz.func119, Tryz.ntmps119
    go_wp2_with fail
    go_ret2
    exact ⟨by rw [e.out]; rfl, rfl⟩
  obtain ⟨c0, hc0, hd0⟩ : ∃ c0, (∀ h, s[0]'h = c0) ∧ s.data.toList.head? = some c0 := ⟨s[0]'(by omega), fun _ => rfl, by rw [List.head?_eq_getElem?, List.getElem?_eq_getElem (by omega)]; rfl⟩
  have hp : 0 < (s.size : Int) := by omega
  cases g45 : ((c0.toNat : Int) == 45) with
  | true =>
    obtain ⟨d, hd⟩ : ∃ d, d = unS s.data.toList := ⟨_, rfl⟩
    have hq : s.data.toList.head? = some 45 := by
      rw [hd0]
      have : (c0.toNat : Int) = 45 := by simpa using g45
      rw [show c0 = 45 from UInt8.toNat_inj.1 (by show c0.toNat = 45; omega)]
    have hdl : d.length + 1 = s.size := by
      rw [hd]; unfold unS; rw [if_pos hq]
      rw [List.length_tail, hlen]; omega
    have hat : ∀ (k : Nat) (h : k + 1 < s.size), d[k]? = some (s[k + 1]'h) := fun k h => by
      rw [hd]; unfold unS; rw [if_pos hq]
      rw [List.getElem?_tail, List.getElem?_eq_getElem (by omega)]
      rfl
    have HD := Lib.hid hd
    have HQ := Lib.hid hq
    have HAT := Lib.hid hat
    have HDL := Lib.hid hdl
    by_cases h1 : s.size = 1
    · have e : Hid (R = (0, false)) := Lib.hid (by
        rw [HR.out]
        exact refV_none (refN_form (.inl (by rw [← HD.out]; have := HDL.out; omega))))
      have g1 : decide ((s.size : Int) - 1 < 1) = true := decide_eq_true (by omega)
      clear hlen hd hdl hat hq hd0
      go_enter Tryz.func119, Tryz.ntmps119
      go_wp2_with fail
      go_ret2
      exact ⟨by rw [e.out]; rfl, rfl⟩
    by_cases h2 : 13 + 1 < s.size
    · have e : Hid (R = (0, false)) := Lib.hid (by
        rw [HR.out]
        exact refV_none (refN_form (.inr (.inl (by rw [← HD.out]; have := HDL.out; omega)))))
      have g1 : decide ((s.size : Int) - 1 < 1) = false := decide_eq_false (by omega)
      have g2 : decide ((s.size : Int) - 1 > 13) = true := decide_eq_true (by omega)
      clear hlen hd hdl hat hq hd0
      go_enter Tryz.func119, Tryz.ntmps119
      go_wp2_with fail
      go_ret2
      exact ⟨by rw [e.out]; rfl, rfl⟩
    have g1 : decide ((s.size : Int) - 1 < 1) = false := decide_eq_false (by omega)
    have g2 : decide ((s.size : Int) - 1 > 13) = false := decide_eq_false (by omega)
    obtain ⟨c1, hc1, hd1⟩ : ∃ c1, (∀ h, s[1]'h = c1) ∧ d[0]? = some c1 := ⟨s[1]'(by omega), fun _ => rfl, hat 0 (by omega)⟩
    have HD1 := Lib.hid hd1
    by_cases h3 : (c1.toNat : Int) = 48 ∧ 1 < s.size
    · have e : Hid (R = (0, false)) := Lib.hid (by
        rw [HR.out]
        refine refV_none (refN_form (.inr (.inr ⟨?_, by omega⟩)))
        rw [← HD.out, List.head?_eq_getElem?, HD1.out, show c1 = 48 from UInt8.toNat_inj.1 (by show c1.toNat = 48; omega)])
      have g3 : ((c1.toNat : Int) == 48) = true := by rw [h3.1]; rfl
      have g4 : decide ((s.size : Int) > 1) = true := decide_eq_true (by omega)
      clear hlen hd hdl hat hq hd0 hd1
      go_enter Tryz.func119, Tryz.ntmps119
      go_wp2_with fail
      go_ret2
      exact ⟨by rw [e.out]; rfl, rfl⟩
    have HF : Hid (¬ ((unS s.data.toList).length < 1 ∨ 13 < (unS s.data.toList).length ∨ ((unS s.data.toList).head? = some 48 ∧ 1 < s.data.toList.length))) := Lib.hid (by
      rw [← HD.out]
      rintro (h | h | ⟨h, h'⟩)
      · have := HDL.out; omega
      · have := HDL.out; omega
      · rw [List.head?_eq_getElem?, HD1.out] at h
        rw [Option.some.inj h] at h3
        exact h3 ⟨rfl, by omega⟩)
    have g3 : (((c1.toNat : Int) == 48) && decide ((s.size : Int) > 1)) = false := by
      rw [Bool.and_eq_false_iff]
      by_cases h : (c1.toNat : Int) = 48
      · exact .inr (decide_eq_false (by omega))
      · exact .inl (by simpa using h)
    clear hd hdl hat hq hd0 hd1
    cases g5 : ((c1.toNat : Int) == 48)
    all_goals rw [g5] at g3
    all_goals simp only [Bool.true_and, Bool.false_and] at g3
    all_goals (
      go_enter Tryz.func119, Tryz.ntmps119
      go_wp2_with fail
      go_loop [5, 6] (fun o i => ∃ (k a : Nat), k + 1 ≤ s.size ∧ o = .int .i64 (a : Int) ∧ i = .int .i64 (((k + 1 : Nat) : Int)) ∧ a < 10 ^ k ∧ k ≤ 13 ∧ Hid (Lib.decFrom 0 (d.take k) = some a)) (fun _ i => 100001 - (intOf i).toNat)
      case atStart => exact ⟨0, 0, by omega, rfl, rfl, by omega, by omega, Lib.hid rfl⟩
      case round =>
        obtain ⟨k, a, hk, rfl, rfl, ha, hk13, HI⟩ := hrel
        have h10 : (10 : Nat) ^ k ≤ 10 ^ 13 := Nat.pow_le_pow_right (by decide) hk13
        have h10' : (10 : Nat) ^ 13 = 10000000000000 := by decide
        by_cases hlt : k + 1 < s.size
        · have h7 : (((k + 1 : Nat) : Int)) < s.size := by omega
          obtain ⟨c, hc, hdc⟩ : ∃ c, (∀ h, s[k + 1]'h = c) ∧ d[k]? = some c := ⟨s[k + 1]'(by omega), fun _ => rfl, HAT.out k (by omega)⟩
          have HC := Lib.hid hdc
          clear hdc
          by_cases q1 : (c.toNat : Int) < 48
          · have e := Lib.hid (show R = (0, false) by rw [HR.out]; exact refV_none (refN_bad (by rw [← HD.out]; exact HC.out) (digit_no (by omega))))
            go_wp2_with fail
            go_ret2
            exact ⟨by rw [e.out]; rfl, rfl⟩
          by_cases q2 : 57 < (c.toNat : Int)
          · have e := Lib.hid (show R = (0, false) by rw [HR.out]; exact refV_none (refN_bad (by rw [← HD.out]; exact HC.out) (digit_no (by omega))))
            go_wp2_with fail
            go_ret2
            exact ⟨by rw [e.out]; rfl, rfl⟩
          have HS : Hid (Lib.decFrom 0 (d.take (k + 1)) = some (a * 10 + (c.toNat - 48))) := Lib.hid (Lib.decFrom_take d k 0 a c _ HI.out HC.out (digit_yes (by omega)))
          have q3 : k + 1 ≤ 13 := by have := HDL.out; omega
          have q4 : a * 10 + (c.toNat - 48) < 10 ^ (k + 1) := by rw [Nat.pow_succ]; omega
          have q5 : (a : Int) * 10 + ((c.toNat : Int) - 48) = ((a * 10 + (c.toNat - 48) : Nat) : Int) := by omega
          go_wp2_with fail
          exact ⟨⟨k + 1, a * 10 + (c.toNat - 48), by omega, by go_num, by go_num, q4, q3, HS⟩, by simp [intOf]; omega⟩
        · have h7 : ¬ (((k + 1 : Nat) : Int)) < s.size := by omega
          have HN : Hid (Lib.decFrom 0 (unS s.data.toList) = some a) := Lib.hid (by
            have := HI.out
            rwa [List.take_of_length_le (by have := HDL.out; omega), HD.out] at this)
          by_cases h8 : 1099511627776 < a
          · have e := Lib.hid (show R = (0, false) by rw [HR.out]; exact refV_none (by rw [refN_fin HF.out HN.out, if_pos h8]))
            have h9 : (a : Int) > 1099511627776 := by omega
            go_wp2_with fail
            go_ret2
            exact ⟨by rw [e.out]; rfl, rfl⟩
          · have e := Lib.hid (show R = (-(a : Int), true) by rw [HR.out]; exact refV_some (by rw [refN_fin HF.out HN.out, if_neg h8, if_pos HQ.out]))
            have h9 : ¬ (a : Int) > 1099511627776 := by omega
            go_wp2_with fail
            go_ret2
            exact ⟨by rw [e.out]; rfl, rfl⟩)
  | false =>
    obtain ⟨d, hd⟩ : ∃ d, d = unS s.data.toList := ⟨_, rfl⟩
    have hq : ¬ s.data.toList.head? = some 45 := by
      rw [hd0]
      intro h
      rw [Option.some.inj h] at g45
      cases g45
    have hdl : d.length + 0 = s.size := by
      rw [hd]; unfold unS; rw [if_neg hq]
      omega
    have hat : ∀ (k : Nat) (h : k < s.size), d[k]? = some (s[k]'h) := fun k h => by
      rw [hd]; unfold unS; rw [if_neg hq]
      rw [List.getElem?_eq_getElem (by omega)]
      rfl
    have HD := Lib.hid hd
    have HQ := Lib.hid hq
    have HAT := Lib.hid hat
    have HDL := Lib.hid hdl
    by_cases h2 : 13 + 0 < s.size
    · have e : Hid (R = (0, false)) := Lib.hid (by
        rw [HR.out]
        exact refV_none (refN_form (.inr (.inl (by rw [← HD.out]; have := HDL.out; omega)))))
      have g1 : decide ((s.size : Int) - 0 < 1) = false := decide_eq_false (by omega)
      have g2 : decide ((s.size : Int) - 0 > 13) = true := decide_eq_true (by omega)
      clear hlen hd hdl hat hq hd0
      go_enter Tryz.func119, Tryz.ntmps119
      go_wp2_with fail
      go_ret2
      exact ⟨by rw [e.out]; rfl, rfl⟩
    have g1 : decide ((s.size : Int) - 0 < 1) = false := decide_eq_false (by omega)
    have g2 : decide ((s.size : Int) - 0 > 13) = false := decide_eq_false (by omega)
    have hd1 : d[0]? = some c0 := by rw [hat 0 (by omega), hc0]
    have HD1 := Lib.hid hd1
    by_cases h3 : (c0.toNat : Int) = 48 ∧ 1 < s.size
    · have e : Hid (R = (0, false)) := Lib.hid (by
        rw [HR.out]
        refine refV_none (refN_form (.inr (.inr ⟨?_, by omega⟩)))
        rw [← HD.out, List.head?_eq_getElem?, HD1.out, show c0 = 48 from UInt8.toNat_inj.1 (by show c0.toNat = 48; omega)])
      have g3 : ((c0.toNat : Int) == 48) = true := by rw [h3.1]; rfl
      have g4 : decide ((s.size : Int) > 1) = true := decide_eq_true (by omega)
      clear hlen hd hdl hat hq hd0 hd1
      go_enter Tryz.func119, Tryz.ntmps119
      go_wp2_with fail
      go_ret2
      exact ⟨by rw [e.out]; rfl, rfl⟩
    have HF : Hid (¬ ((unS s.data.toList).length < 1 ∨ 13 < (unS s.data.toList).length ∨ ((unS s.data.toList).head? = some 48 ∧ 1 < s.data.toList.length))) := Lib.hid (by
      rw [← HD.out]
      rintro (h | h | ⟨h, h'⟩)
      · have := HDL.out; omega
      · have := HDL.out; omega
      · rw [List.head?_eq_getElem?, HD1.out] at h
        rw [Option.some.inj h] at h3
        exact h3 ⟨rfl, by omega⟩)
    have g3 : (((c0.toNat : Int) == 48) && decide ((s.size : Int) > 1)) = false := by
      rw [Bool.and_eq_false_iff]
      by_cases h : (c0.toNat : Int) = 48
      · exact .inr (decide_eq_false (by omega))
      · exact .inl (by simpa using h)
    clear hd hdl hat hq hd0 hd1
    cases g5 : ((c0.toNat : Int) == 48)
    all_goals rw [g5] at g3
    all_goals simp only [Bool.true_and, Bool.false_and] at g3
    all_goals (
      go_enter Tryz.func119, Tryz.ntmps119
      go_wp2_with fail
      go_loop [5, 6] (fun o i => ∃ (k a : Nat), k ≤ s.size ∧ o = .int .i64 (a : Int) ∧ i = .int .i64 (((k : Nat) : Int)) ∧ a < 10 ^ k ∧ k ≤ 13 ∧ Hid (Lib.decFrom 0 (d.take k) = some a)) (fun _ i => 100001 - (intOf i).toNat)
      case atStart => exact ⟨0, 0, by omega, rfl, rfl, by omega, by omega, Lib.hid rfl⟩
      case round =>
        obtain ⟨k, a, hk, rfl, rfl, ha, hk13, HI⟩ := hrel
        have h10 : (10 : Nat) ^ k ≤ 10 ^ 13 := Nat.pow_le_pow_right (by decide) hk13
        have h10' : (10 : Nat) ^ 13 = 10000000000000 := by decide
        by_cases hlt : k < s.size
        · have h7 : (((k : Nat) : Int)) < s.size := by omega
          obtain ⟨c, hc, hdc⟩ : ∃ c, (∀ h, s[k]'h = c) ∧ d[k]? = some c := ⟨s[k]'(by omega), fun _ => rfl, HAT.out k (by omega)⟩
          have HC := Lib.hid hdc
          clear hdc
          by_cases q1 : (c.toNat : Int) < 48
          · have e := Lib.hid (show R = (0, false) by rw [HR.out]; exact refV_none (refN_bad (by rw [← HD.out]; exact HC.out) (digit_no (by omega))))
            go_wp2_with fail
            go_ret2
            exact ⟨by rw [e.out]; rfl, rfl⟩
          by_cases q2 : 57 < (c.toNat : Int)
          · have e := Lib.hid (show R = (0, false) by rw [HR.out]; exact refV_none (refN_bad (by rw [← HD.out]; exact HC.out) (digit_no (by omega))))
            go_wp2_with fail
            go_ret2
            exact ⟨by rw [e.out]; rfl, rfl⟩
          have HS : Hid (Lib.decFrom 0 (d.take (k + 1)) = some (a * 10 + (c.toNat - 48))) := Lib.hid (Lib.decFrom_take d k 0 a c _ HI.out HC.out (digit_yes (by omega)))
          have q3 : k + 1 ≤ 13 := by have := HDL.out; omega
          have q4 : a * 10 + (c.toNat - 48) < 10 ^ (k + 1) := by rw [Nat.pow_succ]; omega
          have q5 : (a : Int) * 10 + ((c.toNat : Int) - 48) = ((a * 10 + (c.toNat - 48) : Nat) : Int) := by omega
          go_wp2_with fail
          exact ⟨⟨k + 1, a * 10 + (c.toNat - 48), by omega, by go_num, by go_num, q4, q3, HS⟩, by simp [intOf]; omega⟩
        · have h7 : ¬ (((k : Nat) : Int)) < s.size := by omega
          have HN : Hid (Lib.decFrom 0 (unS s.data.toList) = some a) := Lib.hid (by
            have := HI.out
            rwa [List.take_of_length_le (by have := HDL.out; omega), HD.out] at this)
          by_cases h8 : 1099511627776 < a
          · have e := Lib.hid (show R = (0, false) by rw [HR.out]; exact refV_none (by rw [refN_fin HF.out HN.out, if_pos h8]))
            have h9 : (a : Int) > 1099511627776 := by omega
            go_wp2_with fail
            go_ret2
            exact ⟨by rw [e.out]; rfl, rfl⟩
          · have e := Lib.hid (show R = ((a : Int), true) by rw [HR.out]; exact refV_some (by rw [refN_fin HF.out HN.out, if_neg h8, if_neg HQ.out]))
            have h9 : ¬ (a : Int) > 1099511627776 := by omega
            go_wp2_with fail
            go_ret2
            exact ⟨by rw [e.out]; rfl, rfl⟩)
theorem refnum_ok (s : ByteArray) (hs : s.size ≤ 100000) : FnOK Tryz.prog 119 [.v (.string s)] ⟨.tup [.c (ip (refV s.data.toList).1), .c (.v (.bool (refV s.data.toList).2))], none⟩ := fn_of ⟨Tryz.f119, _, Tryz.func119, by kernel_rfl, rfl⟩ fun w R hR us hus => by
  cases hus with | cons h0 _ hus =>
  cases hus
  rw [h0]
  refine (refnum_any s hs w).mono ?_
  rintro e w' ⟨rfl, rfl⟩
  exact ⟨_, rfl, Below.refl _ _, rfl, ⟨_, rfl, .cons (.c (.v _ rfl)) (.cons (.c (.v _ rfl)) .nil)⟩⟩
end Go.Proofs.YtcloigoajohppaaGreatDoor
/- A slice literal of one value is a piece. -/
namespace Go.Proofs.YtcloigoajohppaaGreatDoor
open Go.RowKit
namespace Av
section
variable {P : Program} {n d : Nat} {σ : St} {o : Oper} {K : St → Prop} {E : Ext}
theorem hand_build1 {T e : TypeId} {z v : Value} {ti : TypeInfo} (ho : o.op = .buildSlice T 1 #[(0, .const v)]) (hd : o.dst = some d) (hdn : d < n) (ht : P.underlying T = some (.slice e)) (hi : P.info? e = some ti) (hz : ti.zero = some z) (hs : ti.size = 1) (hzc : z.cells = #[z]) (hvc : v.cells = #[v]) (hone : v.oneCell' = true) (hE : σ.ext = E)
    (h : ∀ g, K (({ σ with ext := E.and (exts [rawR e 1 (some g) (.slice (some ⟨g, 0, none⟩) 1 1) [[v]]]) } : St).put d (.v (.slice (some ⟨g, 0, none⟩) 1 1)))) : Hand P n σ o K := by
  refine hand_eqE (E' := E.and (exts [])) (by rw [hE]; exact (EqE.nil_right E).symm) ?_
  refine hand_value hd hdn fun F γ a w _ hr => ?_
  have hf : Instr.fill (fun i => some (i * ti.size, ti.size)) ((Array.range (1 * ti.size)).map (z.cells[· % z.cells.size]!)) (#[(0, v)] : Array (Nat × Value)).toList = some #[v] := by
    rw [hs, hzc]
    have e1 : (Array.map (fun x => (#[z] : Array Value)[x % (#[z] : Array Value).size]!) (Array.range (1 * 1))) = #[z] := by
      apply Array.ext
      · simp
      · intro j h1 h2
        have : j = 0 := by simp at h2; exact h2
        subst this
        simp
    rw [e1]
    simp [Instr.fill, hvc]
  have hrun := run_buildSlice (P := P) w T e 1 #[(0, v)] #[v] ti z ht hi hz (by rw [hs]; decide) (by rw [hs]; decide) hf
  refine ⟨.v (.slice (some ⟨w.heap.size, 0, none⟩) 1 1), .slice (some ⟨w.heap.size, 0, none⟩) 1 1, w.alloc (.cells #[v] e), _, by
    have e2 : execOp a.eval o = (do let v ← Instr.buildSlice T 1 #[(0, v)]; pure (.value v)) := by simp [execOp, ho, Act.eval]
    rw [e2]
    simp only [Sem.run_bind, hrun, Result.andThen_ok, Sem.run_pure], turn_more (E := E) (l := []) (X := rawR e 1 (some w.heap.size) (.slice (some ⟨w.heap.size, 0, none⟩) 1 1) [[v]]) hr rfl ?_, rfl, (fun k hk => by cases hk), h w.heap.size⟩
  have hnew : (w.alloc (.cells #[v] e)).heap[w.heap.size]? = some (.cells #[v] e (0, 0)) := heap_alloc_new w _
  refine Turn.below ((Below.refl _ w).alloc (Nat.le_refl _) _) ⟨⟨1, _, rfl, Nat.zero_le _, hnew, by simp, by simp only [maxLen]; omega, by simp⟩, by simp, fun g hg j u hu => ?_⟩ (fun b hb => ?_) (fun b hb => hb.elim) (fun _ _ => trivial) (fun R _ => ⟨fun k row hk => ?_, fun k row j p hk hj => ?_⟩)
  · cases hg
    rw [cell_of_row _ _ _ _ e (0, 0) hnew]
    have e3 : [[v]].flatten = [v] := rfl
    rw [e3] at hu
    rw [← hu, List.getElem?_toArray]
  · have hb' : some w.heap.size = some b := hb
    cases hb'
    exact .inr ⟨Nat.le_refl _, by simp⟩
  · cases k with
    | zero => cases hk; rfl
    | succ k => cases hk
  · cases k with
    | zero =>
      cases hk
      cases j with
      | zero => cases hj; exact ⟨v, rfl, .v _ hone⟩
      | succ j => cases hj
    | succ k => cases hk
theorem hand_strIdx {T : TypeId} {x y : Operand} {s : ByteArray} {k : Nat} {c : UInt8} (ho : o.op = .index T x y) (hd : o.dst = some d) (hdn : d < n) (ht : P.underlying T = some .string) (hx : evo (look σ.slot) x = some (.v (.string s))) (hy : evo (look σ.slot) y = some (.v (.int .i64 (k : Int)))) (hk : s.data.toList[k]? = some c)
    (h : K (σ.put d (.v (.int .u8 (c.toNat : Int))))) : Hand P n σ o K := by
  refine hand_pure hd hdn (fun F γ a w hr => ?_) h
  have e1 := eval_raw hr hx
  have e2 := eval_raw hr hy
  have hlt : k < s.size := (List.getElem?_eq_some_iff.1 hk).1
  have hc : s[k]'hlt = c := (List.getElem?_eq_some_iff.1 hk).2
  have hrun := run_index_string (P := P) w T s .i64 (k : Int) ht
  rw [dif_pos ⟨by omega, by omega⟩] at hrun
  have e3 : s[((k : Int)).toNat]'(by omega) = c := hc
  rw [e3] at hrun
  simp only [execOp, ho, e1, e2, Sem.run_bind, hrun, Result.andThen_ok, Sem.run_pure]
theorem run_strSl {a : Act} {w : World} {T : TypeId} {x y z : Operand} {s : ByteArray} {i j : Nat} (ho : o.op = .slice T x (some y) (some z) none) (ht : P.underlying T = some .string) (e1 : a.eval x = .string s) (e2 : a.eval y = .int .i64 (i : Int)) (e3 : a.eval z = .int .i64 (j : Int)) (hij : i ≤ j) (hj : j ≤ s.size) :
    (execOp a.eval o).run P w = .ok (.value (.string (s.extract i j))) w := by
  have hrun := run_slice_string (P := P) w T s .i64 .i64 (i : Int) (j : Int) ht (by omega) (by omega) (by omega)
  rw [Int.toNat_natCast, Int.toNat_natCast] at hrun
  simp only [execOp, ho, Option.map_some, Option.map_none, e1, e2, e3, Sem.run_bind, run_sliceAt_string w T _ _ _ _ ht, hrun, Result.andThen_ok, Sem.run_pure]
theorem hand_strSl {T : TypeId} {x y z : Operand} {s : ByteArray} {i j : Nat} (ho : o.op = .slice T x (some y) (some z) none) (hd : o.dst = some d) (hdn : d < n) (ht : P.underlying T = some .string) (hx : evo (look σ.slot) x = some (.v (.string s))) (hy : evo (look σ.slot) y = some (.v (.int .i64 (i : Int)))) (hz : evo (look σ.slot) z = some (.v (.int .i64 (j : Int)))) (hij : i ≤ j) (hj : j ≤ s.size)
    (h : K (σ.put d (.v (.string (s.extract i j))))) : Hand P n σ o K :=
  hand_pure hd hdn (fun F γ a w hr => run_strSl ho ht (eval_raw hr hx) (eval_raw hr hy) (eval_raw hr hz) hij hj) h
theorem handq_strSl {bx0 : Nat → Option (List PV)} {T : TypeId} {x y z : Operand} {s : ByteArray} {i j : Nat} (ho : o.op = .slice T x (some y) (some z) none) (hd : o.dst = some d) (hdn : d < n) (ht : P.underlying T = some .string) (hx : evo (look σ.slot) x = some (.v (.string s))) (hy : evo (look σ.slot) y = some (.v (.int .i64 (i : Int)))) (hz : evo (look σ.slot) z = some (.v (.int .i64 (j : Int)))) (hij : i ≤ j) (hj : j ≤ s.size) :
    HandQ P n bx0 σ o d ⟨.v (.string (s.extract i j)), none, none⟩ := by
  intro F σ1 γ a w hF hr hops hb hext Q
  have e1 := eval_raw hr (evo_ops hops (x := x) (by rw [ho]; simp [Op.operands]) hx)
  have e2 := eval_raw hr (evo_ops hops (x := y) (by rw [ho]; simp [Op.operands]) hy)
  have e3 := eval_raw hr (evo_ops hops (x := z) (by rw [ho]; simp [Op.operands]) hz)
  exact pure_ok hr hd (by rw [hF]; exact hdn) (run_strSl ho ht e1 e2 e3 hij hj) rfl (fun j hj => by cases hj)
end
end Av
end Go.Proofs.YtcloigoajohppaaGreatDoor
/- strings.SplitAfter into a piece that can be written, strings.Join out of it: by hand. -/
namespace Go.Proofs.YtcloigoajohppaaGreatDoor
open Go.RowKit
open Av Sc
set_option maxRecDepth 100000
set_option linter.unusedSimpArgs false
set_option linter.unusedVariables false
namespace Av
section
variable {P : Program} {n d : Nat} {σ : St} {o : Oper} {K : St → Prop} {E : Ext}
end
end Av
def strV (l : List ByteArray) : List (List Value) := l.map fun p => [.string p]
theorem strV_len (l : List ByteArray) : (strV l).length = l.length := List.length_map _
section
variable {n d : Nat} {σ : St} {o : Oper} {K : St → Prop} {E : Ext} {l : List Ext}
end
end Go.Proofs.YtcloigoajohppaaGreatDoor
/- Arguments of the laws of layer 59, opened; what the listed variables are. -/
namespace Go.Proofs.YtcloigoajohppaaGreatDoor
open Go.RowKit
open Av Sc
set_option maxRecDepth 100000
set_option linter.unusedSimpArgs false
open Go.ChangeShapes Go.WideShapes Go.ChangeAt

def cellR (w : World) : Reader := fun p => w.cell? p
theorem RepL.get {R : Reader} {ps : List PV} {us : List Value} (h : RepL R ps us) : us.length = ps.length ∧ ∀ (j : Nat) (p : PV), ps[j]? = some p → ∃ u, us[j]? = some u ∧ RepP R p u := by
  induction h with
  | nil => exact ⟨rfl, fun j p h => by simp at h⟩
  | cons h t ih =>
    refine ⟨by simp [ih.1], fun j p hj => ?_⟩
    cases j with
    | zero =>
      simp only [List.getElem?_cons_zero, Option.some.injEq] at hj
      subst hj
      exact ⟨_, rfl, h⟩
    | succ j => exact ih.2 j p (by simpa using hj)
section
variable {w : World}
end
section
variable {H : Type} {enc : TypeId × Value → H} {W : World} {base : Nat} {spare : Nat → Bool} {held : Bool} {r : Reach} {b0 : Nat} {v : Value} {d : DataW H} {p : List MemPlace}
end
theorem calls_trueC {P : Program} {C : World → Prop} {f : FuncId} {args : List AV} (h : FnOKC P C f args ⟨bv true, none⟩) (W : World) (hC : C W) (us : List Value) (hus : RepAL (cellR W) args us) : Calls P f us.toArray W fun e W' => e = .returned (.bool true) ∧ Below W.heap.size W W' :=
  (h.2 W (cellR W) hC (fun _ _ h => h) us hus).mono fun e W' hq => by
    obtain ⟨u, rfl, hb, _, hr⟩ := hq
    exact ⟨by rw [show u = .bool true from hr], hb⟩
theorem handed_and {H : Type} {enc : TypeId × Value → H} {a : Assume} {C : Checked} {os : Os} {f : FuncId} {fn : Func} {s : ChangeSpec} {conds : List PathCond} {apart fresh handsOn again : Bool} {X : World → Array Value → Prop} {Y : World → Prop} (hY : ∀ w : World, w.ShapedOpen C.prog → Y w)
    (hX : ∀ (w w' : World) (args : Array Value), w.heap = w'.heap → X w args → X w' args)
    (own : ownKnob C.prog.godebug = none) (started : os.Started) (noInit : C.prog.inits.idxOf? f = none) (hfn : C.prog.funcs[f]? = some fn)
    (witness : ∃ (w : World) (tape : Tape) (i : Input), w.os = os ∧ (w.forCall tape i).Shaped C.prog ∧ i.vars = [] ∧ Input.okWide C.prog (w.forCall tape i) .any w.heap.size f i ∧
      ((s.pre enc C.prog fn conds apart (w.forCall tape i).memory i.args ∧ X (w.forCall tape i).memory i.args) ∧ sizedMet enc C.prog fn (OpenSpec.ofChange s) apart (w.forCall tape i).memory i.args) ∧ a.holds C.prog (lone (Frame.enter C.prog f i.args .normal) [] (w.forCall tape i)))
    (contract : ∀ (W : World) (base : Nat) (args : Array Value) (ds gs : List (DataW H)) (before : List MemPlace),
      (∀ (j : Nat) t v, fn.params[j]? = some t → args[j]? = some v → Value.okWide C.prog W .any base t v) →
      DataW.Whole enc C.prog fn.params.toList s.vars apart W args.toList ds gs before →
      conds.all (PathCond.test C.prog ⟨fn.params.toList, ds, s.plain.varTypes C.prog, gs⟩) = true →
      (DataW.weightsEach C.prog (fn.params.toList ++ s.plain.varTypes C.prog) (ds ++ gs)).all (· ≤ reachBytes) = true → X W args →
      Y W → Calls C.prog f args W fun e W' => ∃ v, e = .returned v ∧ s.post enc C.prog fn apart fresh handsOn again W args v W') :
    ReturnsInHanded a C os f .any (fun w args => (s.pre enc C.prog fn conds apart w args ∧ X w args) ∧ sizedMet enc C.prog fn (OpenSpec.ofChange s) apart w args) (s.post enc C.prog fn apart fresh handsOn again) := by
  refine returnsInHanded_of_calls own started noInit witness ?_
  intro w tape i _ hsh _ hok hpre _
  obtain ⟨_, _, _, fn', hfn', _, _, _, _, hval⟩ := hok
  have e : fn' = fn := Option.some.inj (hfn'.symm.trans hfn)
  subst e
  obtain ⟨⟨⟨ds, gs, before, hw, hc⟩, hx⟩, hz⟩ := hpre
  have hw' := DataW.Whole.of_heap (w' := w.forCall tape i) (by rfl) hw
  refine (contract (w.forCall tape i) w.heap.size i.args ds gs before hval hw' hc (hz.weights hw) (hX _ _ _ (by rfl) hx) (hY _ hsh)).mono fun e W' ⟨v, he, hp⟩ => ?_
  subst he
  exact ChangeSpec.post_blind hp
theorem max_shaped (w : World) (h : w.ShapedOpen Tryz.prog) : MaxC w := Tryz.lays143.s1_3 w h
theorem Tryz.laidOut : laidOutB Tryz.prog = true := by kernel_rfl
theorem Tryz.own : ownKnob Tryz.prog.godebug = none := by kernel_rfl
def laid7 : List (String × DataW Unit) := [("math/bits.deBruijn32tab", Rows.laid_math_bits_deBruijn32tab), ("math/bits.deBruijn64tab", Rows.laid_math_bits_deBruijn64tab), ("internal/strconv.uint64pow10", Rows.laid_internal_strconv_uint64pow10), ("unicode/utf8.acceptRanges", Rows.laid_unicode_utf8_acceptRanges), ("strconv.ErrRange", Rows.laid_strconv_ErrRange), ("strconv.ErrSyntax", Rows.laid_strconv_ErrSyntax), ("unicode/utf8.first", Rows.laid_unicode_utf8_first)]
theorem door_met (os : Os) (args : Array Value) : laidMetH Tryz.prog laid7 ((World.laidAll Tryz.prog os laid7).forCall (fun _ _ => 0) ⟨#[], args, []⟩).memory := by
  rw [MakeChecks.laidMetH_plain _ _ _ (by kernel_rfl)]
  exact laidMet_laidAll _ (by kernel_rfl) (by kernel_rfl)

theorem plain_of_laid {W : World} (h : laidMetH Tryz.prog laid7 W) : laidMet Tryz.prog laid7 W := by
  rw [MakeChecks.laidMetH_plain _ _ _ (by kernel_rfl)] at h
  exact h
theorem tab_of_laid {W : World} (h : laidMetH Tryz.prog laid7 W) : TabC W := by
  have h1 := laidMet.tail (laidMet.tail (plain_of_laid h))
  have e : (Rows.laid_internal_strconv_uint64pow10 : DataW Unit) = Lib.tabData .u64 Lib.pow10Tab := by kernel_rfl
  rw [e] at h1
  exact Lib.tabIs_of_head (g := 5) (t := 219) (e := 199) (n := 20) (by kernel_rfl) (by kernel_rfl) Tryz.underlying219 Tryz.underlying199 (by kernel_rfl) (by kernel_rfl) h1
theorem star : "*" ++ "errors.errorString" = "*errors.errorString" := by decide
theorem err_row (u : TypeId) (h : Tryz.prog.typeName? 3 u = some "*errors.errorString") : u = 223 :=
  typeName_ptr_named (nm := "errors.errorString") (by rw [star]; kernel_rfl) (by kernel_rfl) (by decide) u (by rw [star]; exact h)

section
variable {H : Type} {enc : TypeId × Value → H} {P : Program}
theorem post_of_below {f : Func} {s : ChangeSpec} {apart fresh handsOn again : Bool} {W W' : World} {args : Array Value} {v : Value} {ds gs : List (DataW H)} {before pa pv : List MemPlace}
    (hW : DataW.Whole enc P f.params.toList s.vars apart W args.toList ds gs before)
    (hres : ∀ (b : Nat) (sp : Nat → Bool) (hd : Bool), DataW.TrodAll enc P W' b sp hd f.resultTypes.toList (v.resultList f.resultTypes.size) (s.fn H (ds ++ gs)).results [])
    (hargs : ∀ sp : Nat → Bool, (∀ p ∈ before, sp p.block = true) → DataW.TrodAll enc P W' 0 sp true f.params.toList args.toList (s.fn H (ds ++ gs)).args pa)
    (hvars : ∀ sp : Nat → Bool, (∀ p ∈ before, sp p.block = true) → DataW.TrodVars enc P W' sp s.vars (s.fn H (ds ++ gs)).vars pv)
    (hps : before = pa ++ pv) (hb : Below W.heap.size W W')
    (hok : ∀ (j : Nat) (t : TypeId) (r : Value), f.resultTypes[j]? = some t → (v.resultList f.resultTypes.size)[j]? = some r → Value.okWide P W' .any 0 t r) :
    s.post enc P f apart fresh handsOn again W args v W' := by
  have hlt : ∀ p ∈ before, p.block < W.heap.size := fun p hp => hW.lt p hp
  have hold : ∀ p ∈ before, (fun b => decide (b < W.heap.size)) p.block = true := fun p hp => by simpa using hlt p hp
  refine ⟨ds, gs, before, [], pa, pv, hW, hres _ _ _, hargs _ hold, hvars _ hold, World.keptBut_mono (fun p hp => ⟨hp, ?_⟩) (hb.frame (· ∈ before)), fun _ => ?_⟩
  · rw [hps, List.mem_append] at hp
    exact Or.inr hp
  · obtain ⟨_, _, _, _, _, hz, hn⟩ := hW
    refine ⟨hok, _, _, ([] ++ pa) ++ pv, ⟨[] ++ pa, pv, trodAll_append (hargs _ (fun _ _ => rfl)) (hres _ _ _), hvars _ (fun _ _ => rfl), rfl, ?_, ?_⟩, ?_⟩
    · intro b off hp
      have hin : MemPlace.cell b off ∈ before := by rw [hps]; simpa using hp
      rw [hb.frozen (hlt _ hin)]
      exact hz b off hin
    · intro ha
      have := hn ha
      rw [hps] at this
      simpa using this
    · intro p hp _
      rw [hps]
      simpa using hp
end
theorem lc_of {W : World} (h : laidMetH Tryz.prog laid7 W) (hM : MaxC W) : LC W := by
  refine ⟨tab_of_laid h, ?_, hM⟩
  have h1 := laidMet.tail (laidMet.tail (laidMet.tail (laidMet.tail (plain_of_laid h))))
  obtain ⟨a0, s0, hv0, -, -, -⟩ := laid_sentinel h1 (g := 4) (ti := 117) (te := 225) (by kernel_rfl) (by kernel_rfl) Tryz.underlying117 err_row Tryz.underlying223 Tryz.underlying225 rfl rfl Tryz.underlying9 (by kernel_rfl) (by kernel_rfl)
  obtain ⟨a1, s1, hv1, -, -, -⟩ := laid_sentinel (laidMet.tail h1) (g := 3) (ti := 117) (te := 225) (by kernel_rfl) (by kernel_rfl) Tryz.underlying117 err_row Tryz.underlying223 Tryz.underlying225 rfl rfl Tryz.underlying9 (by kernel_rfl) (by kernel_rfl)
  exact ⟨⟨_, _, hv1⟩, _, _, hv0⟩
end Go.Proofs.YtcloigoajohppaaGreatDoor

/- Arguments of the laws of the node layer, opened. -/
import Derived.Test.YtepamedbbbfjkaaNodAw
import Derived.Test.YtepamedbbbfjkaaShape
namespace Go.Proofs.Ytepamedbbbfjkaa
open Go.RowKit Go.ChangeShapes Go.WideShapes Go.ChangeAt
open Nd

def Ty.i : Ty := .int .i64
def Ty.flow : Ty := .struct (.cons .i (.cons .i (.cons .i (.cons .i (.cons .i (.cons .i .nil))))))
def Ty.hold : Ty := .struct (.cons .i (.cons .i (.cons (.slice .i) .nil)))
def Ty.cell : Ty := .struct (.cons .i (.cons .i (.cons .i (.cons .i (.cons .i .nil)))))
theorem Try.fitsFlows : (Ty.slice .flow).fits Try.prog 22 = true := by kernel_rfl
theorem Try.fitsHolds : (Ty.slice .hold).fits Try.prog 23 = true := by kernel_rfl
theorem Try.fitsCell : Ty.cell.fits Try.prog 25 = true := by kernel_rfl

theorem int_of {w : World} {es : List Value} (hl : es.length = Ty.i.cells) (h : Ty.i.holds w es) : ∃ x : Int, es = irow x := by
  obtain ⟨n, h0, _⟩ := h
  exact ⟨n, h0⟩
theorem flow_of {w : World} {es : List Value} (hl : es.length = Ty.flow.cells) (h : Ty.flow.holds w es) : ∃ a : Fl, es = a.row := by
  match es, hl with
  | [c0, c1, c2, c3, c4, c5], _ =>
    simp only [Ty.flow, Ty.i, Ty.holds, Ty.cells, List.take, List.drop] at h
    obtain ⟨⟨n0, h0, _⟩, ⟨n1, h1, _⟩, ⟨n2, h2, _⟩, ⟨n3, h3, _⟩, ⟨n4, h4, _⟩, ⟨n5, h5, _⟩, _⟩ := h
    simp only [List.cons.injEq, and_true] at h0 h1 h2 h3 h4 h5
    subst h0 h1 h2 h3 h4 h5
    exact ⟨⟨n0, n1, n2, n3, n4, n5⟩, rfl⟩
/-- A holding whose list of nodes can be read. -/
structure HoIn (w : World) where
  h : Ho
  lies : LiesI w w.heap.size h.A h.ak
  len : h.ak.length ≤ maxLen
theorem hold_of {w : World} {es : List Value} (hl : es.length = Ty.hold.cells) (h : Ty.hold.holds w es) : ∃ a : HoIn w, es = a.h.row := by
  match es, hl with
  | [c0, c1, c2], _ =>
    simp only [Ty.hold, Ty.i, Ty.holds, Ty.cells, List.take, List.drop] at h
    obtain ⟨⟨n0, h0, _⟩, ⟨n1, h1, _⟩, ⟨A, n, ca, h2, hc, hm, hn, he⟩, _⟩ := h
    simp only [List.cons.injEq, and_true] at h0 h1 h2
    subst h0 h1 h2
    obtain ⟨la, hla, lA⟩ := Lies_of (f := irow) (e := Ty.i) (by decide) hn (fun es h1 h2 => int_of h1 h2) he
    refine ⟨⟨⟨n0, n1, la, A, ca⟩, lA, by dsimp only; omega⟩, ?_⟩
    show [Value.int .i64 n0, .int .i64 n1, .slice A n ca] = [.int .i64 n0, .int .i64 n1, .slice A la.length ca]
    rw [hla]
section
variable {H : Type} {enc : TypeId × Value → H} {W : World} {base : Nat} {spare : Nat → Bool} {held : Bool} {r : Reach} {b0 : Nat} {v : Value} {d : DataW H} {p : List MemPlace}
theorem open_flows (hv : Value.okWide Try.prog W r b0 22 v) (h : DataW.Trod enc Try.prog W base spare held 22 v d p) :
    ∃ (l : List Fl) (A : Option Addr) (c : Nat), v = .slice A l.length c ∧ Lies W W.heap.size 6 A (l.map Fl.row) ∧ l.length ≤ maxLen ∧ (A = none → l = []) := by
  obtain ⟨a, len, cap, rfl⟩ := okWide_slice Try.underlying22 hv
  have hh := Ty.holds_trod (τ := .slice .flow) Try.fitsFlows h
  obtain ⟨A, n, c, h1, hc, hm, hn, he⟩ := hh
  simp only [Value.cells, List.cons.injEq, and_true, Value.slice.injEq] at h1
  obtain ⟨rfl, rfl, rfl⟩ := h1
  obtain ⟨la, hla, lA⟩ := Lies_of (f := Fl.row) (e := Ty.flow) (by decide) hn (fun es h1 h2 => flow_of h1 h2) he
  exact ⟨la, _, _, by rw [hla], lA, by omega, fun h => List.eq_nil_of_length_eq_zero (by rw [hla]; exact hn h)⟩
theorem open_holds (hv : Value.okWide Try.prog W r b0 23 v) (h : DataW.Trod enc Try.prog W base spare held 23 v d p) :
    ∃ (l : List Ho) (A : Option Addr) (c : Nat), v = .slice A l.length c ∧ Lies W W.heap.size 3 A (l.map Ho.row) ∧ (∀ h ∈ l, LiesI W W.heap.size h.A h.ak ∧ h.ak.length ≤ maxLen) ∧ l.length ≤ maxLen ∧ (A = none → l = []) := by
  obtain ⟨a, len, cap, rfl⟩ := okWide_slice Try.underlying23 hv
  have hh := Ty.holds_trod (τ := .slice .hold) Try.fitsHolds h
  obtain ⟨A, n, c, h1, hc, hm, hn, he⟩ := hh
  simp only [Value.cells, List.cons.injEq, and_true, Value.slice.injEq] at h1
  obtain ⟨rfl, rfl, rfl⟩ := h1
  obtain ⟨la, hla, lA⟩ := Lies_of (f := fun x : HoIn W => x.h.row) (e := Ty.hold) (by decide) hn (fun es h1 h2 => hold_of h1 h2) he
  refine ⟨la.map HoIn.h, _, _, by rw [List.length_map, hla], by rw [List.map_map]; exact lA, fun h hh => ?_, by rw [List.length_map]; omega, fun h => List.eq_nil_of_length_eq_zero (by rw [List.length_map, hla]; exact hn h)⟩
  obtain ⟨x, _, rfl⟩ := List.mem_map.1 hh
  exact ⟨x.lies, x.len⟩
theorem open_cell (hv : Value.okWide Try.prog W r b0 25 v) (h : DataW.Trod enc Try.prog W base spare held 25 v d p) :
    ∃ (cs co cf ct cl : Int), v = .agg #[.int .i64 cs, .int .i64 co, .int .i64 cf, .int .i64 ct, .int .i64 cl] := by
  obtain ⟨cs, rfl, hsz⟩ := okWide_struct Try.underlying25 hv
  have hh := Ty.holds_trod (τ := Ty.cell) Try.fitsCell h
  obtain ⟨l⟩ := cs
  match l, hsz with
  | [c0, c1, c2, c3, c4], _ =>
    simp only [Value.cells, Ty.cell, Ty.i, Ty.holds, Ty.cells, List.take, List.drop] at hh
    obtain ⟨⟨n0, h0, _⟩, ⟨n1, h1, _⟩, ⟨n2, h2, _⟩, ⟨n3, h3, _⟩, ⟨n4, h4, _⟩, _⟩ := hh
    simp only [List.cons.injEq, and_true] at h0 h1 h2 h3 h4
    subst h0 h1 h2 h3 h4
    exact ⟨n0, n1, n2, n3, n4, rfl⟩
end

theorem Try.laidOut : laidOutB Try.prog = true := by kernel_rfl
theorem Try.own : ownKnob Try.prog.godebug = none := by kernel_rfl

section
variable {H : Type} {enc : TypeId × Value → H} {P : Program}
/-- What the row asks behind a call that only made new memory. (After the guide's small lemmas.) -/
theorem post_of_below {f : Func} {s : ChangeSpec} {apart fresh handsOn again : Bool} {W W' : World} {args : Array Value} {v : Value} {ds gs : List (DataW H)} {before pa pv : List MemPlace}
    (hW : DataW.Whole enc P f.params.toList s.vars apart W args.toList ds gs before)
    (hres : ∀ (b : Nat) (sp : Nat → Bool) (hd : Bool), DataW.TrodAll enc P W' b sp hd f.resultTypes.toList (v.resultList f.resultTypes.size) (s.fn H (ds ++ gs)).results [])
    (hargs : ∀ sp : Nat → Bool, (∀ p ∈ before, sp p.block = true) → DataW.TrodAll enc P W' 0 sp true f.params.toList args.toList (s.fn H (ds ++ gs)).args pa)
    (hvars : ∀ sp : Nat → Bool, (∀ p ∈ before, sp p.block = true) → DataW.TrodVars enc P W' sp s.vars (s.fn H (ds ++ gs)).vars pv)
    (hps : before = pa ++ pv) (hb : Below W.heap.size W W')
    (hok : ∀ (j : Nat) (t : TypeId) (r : Value), f.resultTypes[j]? = some t → (v.resultList f.resultTypes.size)[j]? = some r → Value.okWide P W' .any 0 t r) :
    s.post enc P f apart fresh handsOn again W args v W' := by
  have hlt : ∀ p ∈ before, p.block < W.heap.size := fun p hp => hW.lt p hp
  have hold : ∀ p ∈ before, (fun b => decide (b < W.heap.size)) p.block = true := fun p hp => by simpa using hlt p hp
  refine ⟨ds, gs, before, [], pa, pv, hW, hres _ _ _, hargs _ hold, hvars _ hold, World.keptBut_mono (fun p hp => ⟨hp, ?_⟩) (hb.frame (· ∈ before)), fun _ => ?_⟩
  · rw [hps, List.mem_append] at hp
    exact Or.inr hp
  · obtain ⟨_, _, _, _, _, hz, hn⟩ := hW
    refine ⟨hok, _, _, ([] ++ pa) ++ pv, ⟨[] ++ pa, pv, trodAll_append (hargs _ (fun _ _ => rfl)) (hres _ _ _), hvars _ (fun _ _ => rfl), rfl, ?_, ?_⟩, ?_⟩
    · intro b off hp
      have hin : MemPlace.cell b off ∈ before := by rw [hps]; simpa using hp
      rw [hb.frozen (hlt _ hin)]
      exact hz b off hin
    · intro ha
      have := hn ha
      rw [hps] at this
      simpa using this
    · intro p hp _
      rw [hps]
      simpa using hp
end
end Go.Proofs.Ytepamedbbbfjkaa

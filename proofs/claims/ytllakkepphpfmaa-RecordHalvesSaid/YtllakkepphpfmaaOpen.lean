/- A record that came in as an argument, opened. -/
import Derived.Test.YtllakkepphpfmaaLenc
namespace Go.Proofs.Ytllakkepphpfmaa
open Go.RowKit Go.ChangeShapes Go.WideShapes Go.ChangeAt
open Rc

def Ty.i : Ty := .int .i64
def Ty.att : Ty := .struct (.cons .i (.cons .i (.cons (.struct (.cons .i (.cons .i (.cons .i (.cons .i (.cons .i .nil)))))) (.cons .i .nil))))
def Ty.dlv : Ty := .struct (.cons .i (.cons .i (.cons .i .nil)))
def Ty.rec_ : Ty := .struct (.cons .i (.cons (.struct (.cons (.slice .att) (.cons (.slice .dlv) .nil))) .nil))
theorem Try.fitsRec : Ty.rec_.fits Try.prog 28 = true := by kernel_rfl

theorem att_of {w : World} {es : List Value} (hl : es.length = Ty.att.cells) (h : Ty.att.holds w es) : ∃ a : Att, es = a.row := by
  match es, hl with
  | [c0, c1, c2, c3, c4, c5, c6, c7], _ =>
    simp only [Ty.att, Ty.i, Ty.holds, Ty.cells, List.take, List.drop] at h
    obtain ⟨⟨n0, h0, _⟩, ⟨n1, h1, _⟩, ⟨⟨n2, h2, _⟩, ⟨n3, h3, _⟩, ⟨n4, h4, _⟩, ⟨n5, h5, _⟩, ⟨n6, h6, _⟩, _⟩, ⟨n7, h7, _⟩, _⟩ := h
    simp only [List.cons.injEq, and_true] at h0 h1 h2 h3 h4 h5 h6 h7
    subst h0 h1 h2 h3 h4 h5 h6 h7
    exact ⟨⟨n0, n1, n2, n3, n4, n5, n6, n7⟩, rfl⟩
theorem dlv_of {w : World} {es : List Value} (hl : es.length = Ty.dlv.cells) (h : Ty.dlv.holds w es) : ∃ a : Dlv, es = a.row := by
  match es, hl with
  | [c0, c1, c2], _ =>
    simp only [Ty.dlv, Ty.i, Ty.holds, Ty.cells, List.take, List.drop] at h
    obtain ⟨⟨n0, h0, _⟩, ⟨n1, h1, _⟩, ⟨n2, h2, _⟩, _⟩ := h
    simp only [List.cons.injEq, and_true] at h0 h1 h2
    subst h0 h1 h2
    exact ⟨⟨n0, n1, n2⟩, rfl⟩

theorem open_rec {H : Type} {enc : TypeId × Value → H} {W : World} {base : Nat} {spare : Nat → Bool} {held : Bool} {r : Reach} {b0 : Nat} {v : Value} {d : DataW H} {p : List MemPlace} (hv : Value.okWide Try.prog W r b0 28 v) (h : DataW.Trod enc Try.prog W base spare held 28 v d p) :
    ∃ (q : Rec) (A D : Option Addr) (ca cd : Nat), v = .agg #[.int .i64 q.slots, .slice A q.al.length ca, .slice D q.dl.length cd] ∧ RecIn W q A D ∧ (Lit.int .i64 q.slots).wf = true := by
  obtain ⟨cs, rfl, hsz⟩ := okWide_struct Try.underlying28 hv
  have hh := Ty.holds_trod (τ := Ty.rec_) Try.fitsRec h
  obtain ⟨l⟩ := cs
  match l, hsz with
  | [c0, c1, c2], _ =>
    simp only [Value.cells, Ty.rec_, Ty.i, Ty.holds, Ty.cells, List.take, List.drop] at hh
    obtain ⟨⟨n0, h0, w0⟩, ⟨⟨A, n, ca, h1, hc1, hm1, hn1, he1⟩, ⟨D, m, cd, h2, hc2, hm2, hn2, he2⟩, _⟩, _⟩ := hh
    simp only [List.cons.injEq, and_true] at h0 h1 h2
    subst h0 h1 h2
    obtain ⟨la, hla, lA⟩ := Lies_of (f := Att.row) (e := Ty.att) (by decide) hn1 (fun es h1 h2 => att_of h1 h2) he1
    obtain ⟨ld, hld, lD⟩ := Lies_of (f := Dlv.row) (e := Ty.dlv) (by decide) hn2 (fun es h1 h2 => dlv_of h1 h2) he2
    unfold maxLen at hm1 hm2
    refine ⟨⟨n0, la, ld⟩, A, D, ca, cd, by dsimp only; rw [hla, hld], ⟨lA, lD, by dsimp only; omega, by dsimp only; omega, fun h => List.eq_nil_of_length_eq_zero (by dsimp only; rw [hla]; exact hn1 h), fun h => List.eq_nil_of_length_eq_zero (by dsimp only; rw [hld]; exact hn2 h)⟩, w0⟩

theorem Try.laidOut : laidOutB Try.prog = true := by kernel_rfl
theorem Try.own : ownKnob Try.prog.godebug = none := by kernel_rfl

section
variable {H : Type} {enc : TypeId × Value → H} {P : Program}
/-- What the row asks behind a call that only made new memory. (After the guide's small lemmas.) -/
theorem post_of_below {f : Func} {s : ChangeSpec} {apart fresh handsOn again : Bool} {W W' : World} {args : Array Value} {v : Value} {ds gs : List (DataW H)} {before pa pv : List MemPlace}
    (hW : DataW.Whole enc P f.params.toList s.vars apart W args.toList ds gs before)
    (hres : ∀ (b : Nat) (sp : Nat → Bool) (hd : Bool), DataW.TrodAll enc P W' b sp hd f.resultTypes.toList (v.resultList f.resultTypes.size) (s.fn H (ds ++ gs)).results [])
    (hargs : ∀ sp : Nat → Bool, (∀ p ∈ before, sp p.block = true) → DataW.TrodAll enc P W' 0 sp true f.params.toList args.toList (s.fn H (ds ++ gs)).args pa)
    (hvars : ∀ sp : Nat → Bool, (∀ p ∈ before, sp p.block = true) → DataW.TrodVars enc P W' sp s.vars (s.fn H (ds ++ gs)).vars pv)
    (hps : before = pa ++ pv) (hb : Below W.heap.size W W')
    (hok : ∀ (j : Nat) (t : TypeId) (r : Value), f.resultTypes[j]? = some t → (v.resultList f.resultTypes.size)[j]? = some r → Value.okWide P W' .any 0 t r) :
    s.post enc P f apart fresh handsOn again W args v W' := by
  have hlt : ∀ p ∈ before, p.block < W.heap.size := fun p hp => hW.lt p hp
  have hold : ∀ p ∈ before, (fun b => decide (b < W.heap.size)) p.block = true := fun p hp => by simpa using hlt p hp
  refine ⟨ds, gs, before, [], pa, pv, hW, hres _ _ _, hargs _ hold, hvars _ hold, World.keptBut_mono (fun p hp => ⟨hp, ?_⟩) (hb.frame (· ∈ before)), fun _ => ?_⟩
  · rw [hps, List.mem_append] at hp
    exact Or.inr hp
  · obtain ⟨_, _, _, _, _, hz, hn⟩ := hW
    refine ⟨hok, _, _, ([] ++ pa) ++ pv, ⟨[] ++ pa, pv, trodAll_append (hargs _ (fun _ _ => rfl)) (hres _ _ _), hvars _ (fun _ _ => rfl), rfl, ?_, ?_⟩, ?_⟩
    · intro b off hp
      have hin : MemPlace.cell b off ∈ before := by rw [hps]; simpa using hp
      rw [hb.frozen (hlt _ hin)]
      exact hz b off hin
    · intro ha
      have := hn ha
      rw [hps] at this
      simpa using this
    · intro p hp _
      rw [hps]
      simpa using hp
end
end Go.Proofs.Ytllakkepphpfmaa

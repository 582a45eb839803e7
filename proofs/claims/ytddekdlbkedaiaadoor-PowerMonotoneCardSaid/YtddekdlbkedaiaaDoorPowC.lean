/- Arguments of the power laws: a Case, a pair of numbers. -/
import Derived.Test.YtddekdlbkedaiaaDoorPowOpen
import Derived.Test.YtddekdlbkedaiaaDoorShape
import Derived.Test.YtddekdlbkedaiaaDoorOwn
namespace Go.Proofs.YtddekdlbkedaiaaDoor
open Go.RowKit Go.ChangeShapes Go.WideShapes Go.ChangeAt

def Ty.i : Ty := .int .i64
def Ty.case_ : Ty := .struct (.cons .i (.cons .i (.cons .i (.cons (.slice .i) .nil))))
theorem Tryd.fitsCase : Ty.case_.fits Tryd.prog 35 = true := by kernel_rfl
theorem int_of {w : World} {es : List Value} (hl : es.length = Ty.i.cells) (h : Ty.i.holds w es) : ∃ x : Int, es = irow x := by
  obtain ⟨n, h0, _⟩ := h
  exact ⟨n, h0⟩
theorem open_case {H : Type} {enc : TypeId × Value → H} {W : World} {base : Nat} {spare : Nat → Bool} {held : Bool} {r : Reach} {b0 : Nat} {v : Value} {d : DataW H} {p : List MemPlace} (hv : Value.okWide Tryd.prog W r b0 35 v) (h : DataW.Trod enc Tryd.prog W base spare held 35 v d p) :
    ∃ (s t n : Int) (l : List Int) (A : Option Addr) (c : Nat), v = .agg #[.int .i64 s, .int .i64 t, .int .i64 n, .slice A l.length c] ∧ LiesI W W.heap.size A l ∧ l.length ≤ maxLen ∧ (A = none → l = []) ∧ (Lit.int .i64 s).wf = true := by
  obtain ⟨cs, rfl, hsz⟩ := okWide_struct Tryd.underlying35 hv
  have hh := Ty.holds_trod (τ := Ty.case_) Tryd.fitsCase h
  obtain ⟨l⟩ := cs
  match l, hsz with
  | [c0, c1, c2, c3], _ =>
    simp only [Value.cells, Ty.case_, Ty.i, Ty.holds, Ty.cells, List.take, List.drop] at hh
    obtain ⟨⟨n0, h0, w0⟩, ⟨n1, h1, _⟩, ⟨n2, h2, _⟩, ⟨A, n, ca, h3, hc1, hm1, hn1, he1⟩, _⟩ := hh
    simp only [List.cons.injEq, and_true] at h0 h1 h2 h3
    subst h0 h1 h2 h3
    obtain ⟨la, hla, lA⟩ := Lies_of (f := irow) (e := Ty.i) (by decide) hn1 (fun es h1 h2 => int_of h1 h2) he1
    refine ⟨n0, n1, n2, la, A, ca, by rw [hla], lA, by omega, fun h => List.eq_nil_of_length_eq_zero (by rw [hla]; exact hn1 h), w0⟩
theorem open_arr2 {H : Type} {enc : TypeId × Value → H} {W : World} {base : Nat} {spare : Nat → Bool} {held : Bool} {r : Reach} {b0 : Nat} {v : Value} {d : DataW H} {p : List MemPlace} (hv : Value.okWide Tryd.prog W r b0 29 v) (h : DataW.Trod enc Tryd.prog W base spare held 29 v d p) :
    ∃ (x y : Int), v = .agg #[.int .i64 x, .int .i64 y] := by
  have c3 : Tryd.prog.cellsOf 3 = 1 := by kernel_rfl
  have c2 : Tryd.prog.cellsOf 29 = 2 := by kernel_rfl
  simp only [Value.okWide, Tryd.underlying29] at hv
  obtain ⟨cs, rfl, hsz, _⟩ := hv
  rw [c2] at hsz
  obtain ⟨l⟩ := cs
  match l, hsz with
  | [u0, u1], _ =>
    obtain ⟨fuel, h⟩ := h
    obtain ⟨xs, m, rfl, hx, hlen, hn, hel⟩ := DataW.trod_array Tryd.underlying29 h
    have h0 := hel 0 (by decide)
    have h1 := hel 1 (by decide)
    rw [c3] at h0 h1
    match xs, hn with
    | [y0, y1], _ =>
      obtain ⟨k0, e0, _⟩ := DataW.trod_int Tryd.underlying3 (show DataW.trod _ Tryd.prog W base spare held m 3 _ = some y0 from h0)
      obtain ⟨k1, e1, _⟩ := DataW.trod_int Tryd.underlying3 (show DataW.trod _ Tryd.prog W base spare held m 3 _ = some y1 from h1)
      simp [Value.cells] at e0 e1
      subst e0 e1
      exact ⟨k0, k1, rfl⟩
end Go.Proofs.YtddekdlbkedaiaaDoor

/- The duties of NodeSends, opened. -/
import Derived.Test.YtepamedbbbfjkaaNodOp
import Derived.Test.YtepamedbbbfjkaaNodL4
namespace Go.Proofs.Ytepamedbbbfjkaa
open Go.RowKit Go.ChangeShapes Go.WideShapes Go.ChangeAt
open Nd

def Ty.duty : Ty := .struct (.cons .cell (.cons .bool (.cons .bool (.cons .i (.cons .i .nil)))))
theorem Try.fitsDuties : (Ty.slice .duty).fits Try.prog 54 = true := by kernel_rfl
theorem duty_of {w : World} {es : List Value} (hl : es.length = Ty.duty.cells) (h : Ty.duty.holds w es) : ∃ a : Du, es = a.row := by
  match es, hl with
  | [c0, c1, c2, c3, c4, c5, c6, c7, c8], _ =>
    simp only [Ty.duty, Ty.cell, Ty.i, Ty.holds, Ty.cells, List.take, List.drop] at h
    obtain ⟨⟨⟨n0, h0, _⟩, ⟨n1, h1, _⟩, ⟨n2, h2, _⟩, ⟨n3, h3, _⟩, ⟨n4, h4, _⟩, _⟩, ⟨n5, h5⟩, ⟨n6, h6⟩, ⟨n7, h7, _⟩, ⟨n8, h8, _⟩, _⟩ := h
    simp only [List.cons.injEq, and_true] at h0 h1 h2 h3 h4 h5 h6 h7 h8
    subst h0 h1 h2 h3 h4 h5 h6 h7 h8
    exact ⟨⟨n0, n1, n2, n3, n4, n5, n6, n7, n8⟩, rfl⟩
section
variable {H : Type} {enc : TypeId × Value → H} {W : World} {base : Nat} {spare : Nat → Bool} {held : Bool} {r : Reach} {b0 : Nat} {v : Value} {d : DataW H} {p : List MemPlace}
theorem open_duties (hv : Value.okWide Try.prog W r b0 54 v) (h : DataW.Trod enc Try.prog W base spare held 54 v d p) :
    ∃ (l : List Du) (A : Option Addr) (c : Nat), v = .slice A l.length c ∧ Lies W W.heap.size 9 A (l.map Du.row) ∧ l.length ≤ maxLen ∧ (A = none → l = []) := by
  obtain ⟨a, len, cap, rfl⟩ := okWide_slice Try.underlying54 hv
  have hh := Ty.holds_trod (τ := .slice .duty) Try.fitsDuties h
  obtain ⟨A, n, c, h1, hc, hm, hn, he⟩ := hh
  simp only [Value.cells, List.cons.injEq, and_true, Value.slice.injEq] at h1
  obtain ⟨rfl, rfl, rfl⟩ := h1
  obtain ⟨la, hla, lA⟩ := Lies_of (f := Du.row) (e := Ty.duty) (by decide) hn (fun es h1 h2 => duty_of h1 h2) he
  exact ⟨la, _, _, by rw [hla], lA, by omega, fun h => List.eq_nil_of_length_eq_zero (by rw [hla]; exact hn h)⟩
end
end Go.Proofs.Ytepamedbbbfjkaa

/- The events of NodeOnce, opened. -/
import Derived.Test.YtepamedbbbfjkaaNodOp
import Derived.Test.YtepamedbbbfjkaaNodL3
namespace Go.Proofs.Ytepamedbbbfjkaa
open Go.RowKit Go.ChangeShapes Go.WideShapes Go.ChangeAt
open Nd

def Ty.byte : Ty := .int .u8
def Ty.event : Ty := .struct (.cons .byte (.cons .byte (.cons .byte .nil)))
theorem Try.fitsEvents : (Ty.slice .event).fits Try.prog 48 = true := by kernel_rfl
theorem byte_of {a : Int} (h : (Lit.int .u8 a).wf = true) : 0 ≤ a ∧ a < 256 := by
  have h1 : IntKind.u8.min = 0 := by decide
  have h2 : IntKind.u8.max = 255 := by decide
  simp only [Lit.wf, Bool.and_eq_true, decide_eq_true_eq, h1, h2] at h
  omega
theorem event_of {w : World} {es : List Value} (hl : es.length = Ty.event.cells) (h : Ty.event.holds w es) : ∃ a : Ev, es = a.row := by
  match es, hl with
  | [c0, c1, c2], _ =>
    simp only [Ty.event, Ty.byte, Ty.holds, Ty.cells, List.take, List.drop] at h
    obtain ⟨⟨n0, h0, w0⟩, ⟨n1, h1, w1⟩, ⟨n2, h2, w2⟩, _⟩ := h
    simp only [List.cons.injEq, and_true] at h0 h1 h2
    subst h0 h1 h2
    exact ⟨⟨n0, n1, n2, byte_of w0, byte_of w1, byte_of w2⟩, rfl⟩
section
variable {H : Type} {enc : TypeId × Value → H} {W : World} {base : Nat} {spare : Nat → Bool} {held : Bool} {r : Reach} {b0 : Nat} {v : Value} {d : DataW H} {p : List MemPlace}
theorem open_events (hv : Value.okWide Try.prog W r b0 48 v) (h : DataW.Trod enc Try.prog W base spare held 48 v d p) :
    ∃ (l : List Ev) (A : Option Addr) (c : Nat), v = .slice A l.length c ∧ Lies W W.heap.size 3 A (l.map Ev.row) ∧ l.length ≤ maxLen ∧ (A = none → l = []) := by
  obtain ⟨a, len, cap, rfl⟩ := okWide_slice Try.underlying48 hv
  have hh := Ty.holds_trod (τ := .slice .event) Try.fitsEvents h
  obtain ⟨A, n, c, h1, hc, hm, hn, he⟩ := hh
  simp only [Value.cells, List.cons.injEq, and_true, Value.slice.injEq] at h1
  obtain ⟨rfl, rfl, rfl⟩ := h1
  obtain ⟨la, hla, lA⟩ := Lies_of (f := Ev.row) (e := Ty.event) (by decide) hn (fun es h1 h2 => event_of h1 h2) he
  exact ⟨la, _, _, by rw [hla], lA, by omega, fun h => List.eq_nil_of_length_eq_zero (by rw [hla]; exact hn h)⟩
end
end Go.Proofs.Ytepamedbbbfjkaa

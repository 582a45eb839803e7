import Derived.Test.YtkdigdnacggknaaZAvAw
/- What the laws of the monitor share. -/
namespace Go.Proofs.Ytkdigdnacggknaa
open Go.RowKit
open Nd Rc Mo
open Av
set_option maxRecDepth 100000
set_option linter.unusedSimpArgs false

theorem fewB_of {fs : List Fl} {r : Rec} (h : fewB fs r = true) : fs.length ≤ 20 ∧ r.al.length ≤ 150 ∧ r.dl.length ≤ 100 := by
  simp only [fewB, rfewB, Bool.and_eq_true, decide_eq_true_eq] at h
  omega
end Go.Proofs.Ytkdigdnacggknaa

/- Three floats are left (beside XFloat's FS_float2). -/
import Derived.Test.YtllakkepphpfmaaFloat
namespace Go.Proofs.Ytllakkepphpfmaa
open Go.RowKit

theorem FS_float3 {P : Program} {ops : Array Oper} {B n : Nat} {w : World} {fl : Nat → Option (Tmp × Obj)} {L : Array Bool → Act → List (Nat × Obj) → Prop} {f : Nat} {l l1 l2 l3 : Array Bool} {a : Act} {G : List (Nat × Obj)} (i j k : Nat) (d e s : Tmp) (ob oc od : Obj) (hr : Region.ready .any ops l = [i, j, k]) (hl1 : l.setIfInBounds i true = l1) (hl2 : l.setIfInBounds j true = l2) (hl3 : l.setIfInBounds k true = l3) (hfi : fl i = some (d, ob)) (hfj : fl j = some (e, oc)) (hfk : fl k = some (s, od)) (hin : i < n) (hjn : j < n) (hkn : k < n)
    (h1 : ∀ g, B ≤ g → (∀ g' o', (g', o') ∈ G → g ≠ g') → FS P ops B n w fl L f l1 (a.put (some d) (.pointer (some ⟨g, 0, none⟩))) ((g, ob) :: G))
    (h2 : ∀ g, B ≤ g → (∀ g' o', (g', o') ∈ G → g ≠ g') → FS P ops B n w fl L f l2 (a.put (some e) (.pointer (some ⟨g, 0, none⟩))) ((g, oc) :: G))
    (h3 : ∀ g, B ≤ g → (∀ g' o', (g', o') ∈ G → g ≠ g') → FS P ops B n w fl L f l3 (a.put (some s) (.pointer (some ⟨g, 0, none⟩))) ((g, od) :: G)) : FS P ops B n w fl L (f + 1) l a G := by
  intro inv
  refine ⟨fun h0 => (by rw [hr] at h0; cases h0), fun q hq => ?_⟩
  have hq' := hq
  rw [hr] at hq
  have hq3 : q = i ∨ q = j ∨ q = k := by simpa using hq
  rcases hq3 with rfl | rfl | rfl
  · refine ⟨hin, ?_⟩
    simp only [hfi]
    intro g hg hfr
    rw [hl1]
    exact h1 g hg hfr (by rw [← hl1]; exact inv.set hq' hin)
  · refine ⟨hjn, ?_⟩
    simp only [hfj]
    intro g hg hfr
    rw [hl2]
    exact h2 g hg hfr (by rw [← hl2]; exact inv.set hq' hjn)
  · refine ⟨hkn, ?_⟩
    simp only [hfk]
    intro g hg hfr
    rw [hl3]
    exact h3 g hg hfr (by rw [← hl3]; exact inv.set hq' hkn)

end Go.Proofs.Ytllakkepphpfmaa

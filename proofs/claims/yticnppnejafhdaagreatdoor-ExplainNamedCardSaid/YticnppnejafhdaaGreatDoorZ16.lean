import Derived.ProofKit
import Derived.LaidMore
import Derived.OpenShut
import Derived.Stop.Joined
import Derived.Below
import Derived.Test.YticnppnejafhdaaGreatDoorZ15
import Derived.Test.YticnppnejafhdaaGreatDoorRows
/- Arguments of the laws of the monitor, opened. -/
namespace Go.Proofs.YticnppnejafhdaaGreatDoor
open Go.RowKit
open Nd Rc Mo
open Av
set_option maxRecDepth 100000
set_option linter.unusedSimpArgs false
open Go.ChangeShapes Go.WideShapes Go.ChangeAt

def cellR (w : World) : Reader := fun p => w.cell? p
theorem RepL.get {R : Reader} {ps : List PV} {us : List Value} (h : RepL R ps us) : us.length = ps.length ∧ ∀ (j : Nat) (p : PV), ps[j]? = some p → ∃ u, us[j]? = some u ∧ RepP R p u := by
  induction h with
  | nil => exact ⟨rfl, fun j p h => by simp at h⟩
  | cons h t ih =>
    refine ⟨by simp [ih.1], fun j p hj => ?_⟩
    cases j with
    | zero =>
      simp only [List.getElem?_cons_zero, Option.some.injEq] at hj
      subst hj
      exact ⟨_, rfl, h⟩
    | succ j => exact ih.2 j p (by simpa using hj)
/-- A slice, read by f. -/
theorem rep_of_slice {α : Type} {f : α → List PV} {w : World} {e : Ty} {A : Option Addr} {n c : Nat} (hz : 0 < e.cells) (hnc : n ≤ c) (hnil : A = none → n = 0) (hr : ∀ es, es.length = e.cells → e.holds w es → ∃ x, RepL (cellR w) (f x) es)
    (h : ∀ a, A = some a → ∀ i, i < n → ∃ es, es.length = e.cells ∧ e.holds w es ∧ ∀ j u, es[j]? = some u → w.cell? (a.add (i * e.cells + j)) = some u) :
    ∃ l : List α, l.length = n ∧ RepP (cellR w) (.sl e.cells (l.map f)) (.slice A n c) := by
  cases A with
  | none =>
    obtain rfl := hnil rfl
    exact ⟨[], rfl, .sl e.cells [] none c (fun _ _ => undef) (fun k row hk => by simp at hk) (.inl rfl) (fun k row j p hk => by simp at hk) (Nat.zero_le _)⟩
  | some a =>
    obtain ⟨l, hl, hq⟩ := list_of (Q := fun i x => ∃ es, es.length = e.cells ∧ RepL (cellR w) (f x) es ∧ ∀ j u, es[j]? = some u → w.cell? (a.add (i * e.cells + j)) = some u) n fun i hi => by
      obtain ⟨es, h1, h2, h3⟩ := h a rfl i hi
      obtain ⟨x, hx⟩ := hr es h1 h2
      exact ⟨x, es, h1, hx, h3⟩
    refine ⟨l, hl, ?_⟩
    have hrow : ∀ (k : Nat) (row : List PV), (l.map f)[k]? = some row → row.length = e.cells ∧ ∀ (j : Nat) (p : PV), row[j]? = some p → ∃ u, w.cell? (a.add (k * e.cells + j)) = some u ∧ RepP (cellR w) p u := fun k row hk => by
      rw [List.getElem?_map] at hk
      cases hx : l[k]? with
      | none => rw [hx] at hk; cases hk
      | some x =>
        rw [hx] at hk
        obtain rfl := Option.some.inj hk
        obtain ⟨es, h1, h2, h3⟩ := hq k x hx
        obtain ⟨g1, g2⟩ := RepL.get h2
        refine ⟨by rw [← g1, h1], fun j p hj => ?_⟩
        obtain ⟨u, hu, hp⟩ := g2 j p hj
        exact ⟨u, h3 j u hu, hp⟩
    have hlen : n = (l.map f).length := by rw [List.length_map, hl]
    rw [hlen]
    refine .sl e.cells (l.map f) (some a) c (fun k j => (w.cell? (a.add (k * e.cells + j))).getD undef) (fun k row hk => (hrow k row hk).1) ?_ (fun k row j p hk hj => ?_) (by rw [← hlen]; exact hnc)
    · by_cases hn : l = []
      · exact .inl (by rw [hn]; rfl)
      · right
        have h0 : 0 < l.length := by
          rcases Nat.eq_zero_or_pos l.length with h0 | h0
          · exact absurd (List.eq_nil_of_length_eq_zero h0) hn
          · exact h0
        obtain ⟨x0, hx0⟩ := get_of_lt h0
        obtain ⟨q1, q2⟩ := hrow 0 (f x0) (by rw [List.getElem?_map, hx0]; rfl)
        obtain ⟨p0, hp0⟩ := get_of_lt (l := f x0) (k := 0) (by rw [q1]; exact hz)
        obtain ⟨u0, hu0, _⟩ := q2 0 p0 hp0
        have ha0 : a.add 0 = a := by simp [Addr.add]
        rw [show 0 * e.cells + 0 = 0 by omega, ha0] at hu0
        obtain ⟨_, hsp⟩ := cell_lt hu0
        obtain ⟨b, off, sp⟩ := a
        dsimp only at hsp
        subst hsp
        have hadd : ∀ i : Nat, (⟨b, off, none⟩ : Addr).add i = ⟨b, off + i, none⟩ := fun i => by
          unfold Addr.add
          split
          · rename_i h0; rw [h0]; rfl
          · rfl
        refine ⟨b, off, rfl, fun k row j p hk hj => ?_⟩
        obtain ⟨u, hu, _⟩ := (hrow k row hk).2 j p hj
        rw [hu]
        rw [hadd, ← Nat.add_assoc] at hu
        exact hu
    · obtain ⟨u, hu, hp⟩ := (hrow k row hk).2 j p hj
      rw [hu]; exact hp
def Ty.qi : Ty := .int .i64
def Ty.qatt : Ty := .struct (.cons .qi (.cons .qi (.cons (.struct (.cons .qi (.cons .qi (.cons .qi (.cons .qi (.cons .qi .nil)))))) (.cons .qi .nil))))
def Ty.qdlv : Ty := .struct (.cons .qi (.cons .qi (.cons .qi .nil)))
def Ty.qrec : Ty := .struct (.cons .qi (.cons (.struct (.cons (.slice .qatt) (.cons (.slice .qdlv) .nil))) .nil))
def Ty.qflow : Ty := .struct (.cons .qi (.cons .qi (.cons .qi (.cons .qi (.cons .qi (.cons .qi .nil))))))
def Ty.qnet : Ty := .struct (.cons .qi (.cons (.slice (.slice .qi)) (.cons .qi (.cons .qi (.cons (.slice .qdlv) (.cons (.slice .qi) .nil))))))
theorem Tryz.fitsQrec : Ty.qrec.fits Tryz.prog 35 = true := by kernel_rfl
theorem Tryz.fitsQnet : Ty.qnet.fits Tryz.prog 26 = true := by kernel_rfl
def Ty.qbr : Ty := .struct (.cons .qi (.cons .qi (.cons .qi (.cons .qi (.cons (.slice .qi) .nil)))))
def Ty.qex : Ty := .struct (.cons .qdlv (.cons (.slice .qbr) .nil))
theorem Tryz.fitsQflow1 : Ty.qflow.fits Tryz.prog 28 = true := by kernel_rfl
theorem Tryz.fitsQroutes : (Ty.slice (.slice .qi)).fits Tryz.prog 29 = true := by kernel_rfl
theorem Tryz.fitsQex : Ty.qex.fits Tryz.prog 42 = true := by kernel_rfl
theorem qatt_of {w : World} (es : List Value) (hl : es.length = Ty.qatt.cells) (h : Ty.qatt.holds w es) : ∃ a : Att, RepL (cellR w) a.pv es := by
  match es, hl with
  | [c0, c1, c2, c3, c4, c5, c6, c7], _ =>
    simp only [Ty.qatt, Ty.qi, Ty.holds, Ty.cells, List.take, List.drop] at h
    obtain ⟨⟨n0, h0, _⟩, ⟨n1, h1, _⟩, ⟨⟨n2, h2, _⟩, ⟨n3, h3, _⟩, ⟨n4, h4, _⟩, ⟨n5, h5, _⟩, ⟨n6, h6, _⟩, _⟩, ⟨n7, h7, _⟩, _⟩ := h
    simp only [List.cons.injEq, and_true] at h0 h1 h2 h3 h4 h5 h6 h7
    subst h0 h1 h2 h3 h4 h5 h6 h7
    exact ⟨⟨n0, n1, n2, n3, n4, n5, n6, n7⟩, .cons (.v _ rfl) (.cons (.v _ rfl) (.cons (.v _ rfl) (.cons (.v _ rfl) (.cons (.v _ rfl) (.cons (.v _ rfl) (.cons (.v _ rfl) (.cons (.v _ rfl) .nil)))))))⟩
theorem qdlv_of {w : World} (es : List Value) (hl : es.length = Ty.qdlv.cells) (h : Ty.qdlv.holds w es) : ∃ a : Dlv, RepL (cellR w) a.pv es := by
  match es, hl with
  | [c0, c1, c2], _ =>
    simp only [Ty.qdlv, Ty.qi, Ty.holds, Ty.cells, List.take, List.drop] at h
    obtain ⟨⟨n0, h0, _⟩, ⟨n1, h1, _⟩, ⟨n2, h2, _⟩, _⟩ := h
    simp only [List.cons.injEq, and_true] at h0 h1 h2
    subst h0 h1 h2
    exact ⟨⟨n0, n1, n2⟩, .cons (.v _ rfl) (.cons (.v _ rfl) (.cons (.v _ rfl) .nil))⟩
theorem qlk_of {w : World} (es : List Value) (hl : es.length = Ty.qdlv.cells) (h : Ty.qdlv.holds w es) : ∃ a : Lk, RepL (cellR w) a.pv es := by
  obtain ⟨⟨x, y, z⟩, h⟩ := qdlv_of es hl h
  exact ⟨⟨x, y, z⟩, h⟩
theorem qint_of {w : World} (es : List Value) (_hl : es.length = Ty.qi.cells) (h : Ty.qi.holds w es) : ∃ a : Int, RepL (cellR w) (irow_pv a) es := by
  obtain ⟨n, rfl, _⟩ := h
  exact ⟨n, .cons (.v _ rfl) .nil⟩
theorem qflow_of {w : World} (es : List Value) (hl : es.length = Ty.qflow.cells) (h : Ty.qflow.holds w es) : ∃ a : Fl, RepL (cellR w) a.pv es := by
  match es, hl with
  | [c0, c1, c2, c3, c4, c5], _ =>
    simp only [Ty.qflow, Ty.qi, Ty.holds, Ty.cells, List.take, List.drop] at h
    obtain ⟨⟨n0, h0, _⟩, ⟨n1, h1, _⟩, ⟨n2, h2, _⟩, ⟨n3, h3, _⟩, ⟨n4, h4, _⟩, ⟨n5, h5, _⟩, _⟩ := h
    simp only [List.cons.injEq, and_true] at h0 h1 h2 h3 h4 h5
    subst h0 h1 h2 h3 h4 h5
    exact ⟨⟨n0, n1, n2, n3, n4, n5⟩, .cons (.v _ rfl) (.cons (.v _ rfl) (.cons (.v _ rfl) (.cons (.v _ rfl) (.cons (.v _ rfl) (.cons (.v _ rfl) .nil)))))⟩
theorem qpow_of {w : World} (es : List Value) (_hl : es.length = (Ty.slice .qi).cells) (h : (Ty.slice .qi).holds w es) : ∃ a : List Int, RepL (cellR w) (prow_pv a) es := by
  obtain ⟨A, n, c, rfl, hc, hm, hn, he⟩ := h
  obtain ⟨l, _, hr⟩ := rep_of_slice (f := irow_pv) (e := Ty.qi) (by decide) hc hn qint_of he
  exact ⟨l, .cons hr .nil⟩
theorem qbr_of {w : World} (es : List Value) (hl : es.length = Ty.qbr.cells) (h : Ty.qbr.holds w es) : ∃ a : Br, RepL (cellR w) a.pv es := by
  match es, hl with
  | [c0, c1, c2, c3, c4], _ =>
    have hh' : Ty.holds w .qi [c0] ∧ Ty.holds w .qi [c1] ∧ Ty.holds w .qi [c2] ∧ Ty.holds w .qi [c3] ∧ Ty.holds w (.slice .qi) [c4] ∧ True := h
    obtain ⟨⟨n0, h0, _⟩, ⟨n1, h1, _⟩, ⟨n2, h2, _⟩, ⟨n3, h3, _⟩, ⟨A, n, c, h4, hc, hm, hn, he⟩, _⟩ := hh'
    simp only [List.cons.injEq, and_true] at h0 h1 h2 h3 h4
    subst h0 h1 h2 h3 h4
    obtain ⟨l, _, hr⟩ := rep_of_slice (f := irow_pv) (e := Ty.qi) (by decide) hc hn qint_of he
    exact ⟨⟨n0, n1, n2, n3, l⟩, .cons (.v _ rfl) (.cons (.v _ rfl) (.cons (.v _ rfl) (.cons (.v _ rfl) (.cons hr .nil))))⟩
section
variable {H : Type} {enc : TypeId × Value → H} {W : World} {base : Nat} {spare : Nat → Bool} {held : Bool} {r : Reach} {b0 : Nat} {v : Value} {d : DataW H} {p : List MemPlace}
theorem open_recP (hv : Value.okWide Tryz.prog W r b0 35 v) (h : DataW.Trod enc Tryz.prog W base spare held 35 v d p) : ∃ q : Rec, RepA (cellR W) (fun _ => 0) (.agg q.pv) v := by
  obtain ⟨cs, rfl, hsz⟩ := okWide_struct Tryz.underlying35 hv
  have hh := Ty.holds_trod (τ := Ty.qrec) Tryz.fitsQrec h
  obtain ⟨l⟩ := cs
  match l, hsz with
  | [c0, c1, c2], _ =>
    simp only [Value.cells, Ty.qrec, Ty.qi, Ty.holds, Ty.cells, List.take, List.drop] at hh
    obtain ⟨⟨n0, h0, w0⟩, ⟨⟨A, n, ca, h1, hc1, hm1, hn1, he1⟩, ⟨D, m, cd, h2, hc2, hm2, hn2, he2⟩, _⟩, _⟩ := hh
    simp only [List.cons.injEq, and_true] at h0 h1 h2
    subst h0 h1 h2
    obtain ⟨la, _, lA⟩ := rep_of_slice (f := Att.pv) (e := Ty.qatt) (by decide) hc1 hn1 qatt_of he1
    obtain ⟨ld, _, lD⟩ := rep_of_slice (f := Dlv.pv) (e := Ty.qdlv) (by decide) hc2 hn2 qdlv_of he2
    exact ⟨⟨n0, la, ld⟩, _, rfl, .cons (.v _ rfl) (.cons lA (.cons lD .nil))⟩
theorem open_netP (hv : Value.okWide Tryz.prog W r b0 26 v) (h : DataW.Trod enc Tryz.prog W base spare held 26 v d p) : ∃ q : Net, q.pow.length ≤ 9223372036854775807 ∧ RepA (cellR W) (fun _ => 0) (.agg q.pv) v := by
  obtain ⟨cs, rfl, hsz⟩ := okWide_struct Tryz.underlying26 hv
  have hh := Ty.holds_trod (τ := Ty.qnet) Tryz.fitsQnet h
  obtain ⟨l⟩ := cs
  match l, hsz with
  | [c0, c1, c2, c3, c4, c5], _ =>
    have hh' : Ty.holds W .qi [c0] ∧ Ty.holds W (.slice (.slice .qi)) [c1] ∧ Ty.holds W .qi [c2] ∧ Ty.holds W .qi [c3] ∧ Ty.holds W (.slice .qdlv) [c4] ∧ Ty.holds W (.slice .qi) [c5] ∧ True := hh
    obtain ⟨⟨n0, h0, _⟩, ⟨P, n, cp, h1, hc1, hm1, hn1, he1⟩, ⟨n2, h2, _⟩, ⟨n3, h3, _⟩, ⟨L, m, cl, h4, hc4, hm4, hn4, he4⟩, ⟨G, k, cg, h5, hc5, hm5, hn5, he5⟩, _⟩ := hh'
    simp only [List.cons.injEq, and_true] at h0 h1 h2 h3 h4 h5
    subst h0 h1 h2 h3 h4 h5
    obtain ⟨lp, ep, lP⟩ := rep_of_slice (f := prow_pv) (e := Ty.slice .qi) (by decide) hc1 hn1 qpow_of he1
    obtain ⟨ll, _, lL⟩ := rep_of_slice (f := Lk.pv) (e := Ty.qdlv) (by decide) hc4 hn4 qlk_of he4
    obtain ⟨lg, _, lG⟩ := rep_of_slice (f := irow_pv) (e := Ty.qi) (by decide) hc5 hn5 qint_of he5
    have hmx : maxLen = 9223372036854775807 := by decide
    exact ⟨⟨n0, n2, n3, lp, ll, lg⟩, (by show lp.length ≤ _; rw [ep]; omega), _, rfl, .cons (.v _ rfl) (.cons lP (.cons (.v _ rfl) (.cons (.v _ rfl) (.cons lL (.cons lG .nil)))))⟩
theorem open_flowP (hv : Value.okWide Tryz.prog W r b0 28 v) (h : DataW.Trod enc Tryz.prog W base spare held 28 v d p) : ∃ q : Fl, RepA (cellR W) (fun _ => 0) (.agg q.pv) v := by
  obtain ⟨cs, rfl, hsz⟩ := okWide_struct Tryz.underlying28 hv
  have hh := Ty.holds_trod (τ := Ty.qflow) Tryz.fitsQflow1 h
  obtain ⟨l⟩ := cs
  obtain ⟨q, hq⟩ := qflow_of l hsz hh
  exact ⟨q, l, rfl, hq⟩
theorem open_routesP (hv : Value.okWide Tryz.prog W r b0 29 v) (h : DataW.Trod enc Tryz.prog W base spare held 29 v d p) : ∃ ps : List (List Int), ps.length ≤ 9223372036854775807 ∧ RepA (cellR W) (fun _ => 0) (.sl 1 (ps.map prow_pv)) v := by
  obtain ⟨a, len, cap, rfl⟩ := okWide_slice Tryz.underlying29 hv
  have hh := Ty.holds_trod (τ := .slice (.slice .qi)) Tryz.fitsQroutes h
  obtain ⟨A, n, c, h1, hc, hm, hn, he⟩ := hh
  simp only [Value.cells, List.cons.injEq, and_true, Value.slice.injEq] at h1
  obtain ⟨rfl, rfl, rfl⟩ := h1
  obtain ⟨l, el, hr⟩ := rep_of_slice (f := prow_pv) (e := Ty.slice .qi) (by decide) hc hn qpow_of he
  have hmx : maxLen = 9223372036854775807 := by decide
  exact ⟨l, by rw [el]; omega, hr⟩
theorem open_exP (hv : Value.okWide Tryz.prog W r b0 42 v) (h : DataW.Trod enc Tryz.prog W base spare held 42 v d p) : ∃ q : Ex, q.ca.length ≤ 9223372036854775807 ∧ RepA (cellR W) (fun _ => 0) (.agg q.pv) v := by
  obtain ⟨cs, rfl, hsz⟩ := okWide_struct Tryz.underlying42 hv
  have hh := Ty.holds_trod (τ := Ty.qex) Tryz.fitsQex h
  obtain ⟨l⟩ := cs
  match l, hsz with
  | [c0, c1, c2, c3], _ =>
    have hh' : (Ty.holds W .qi [c0] ∧ Ty.holds W .qi [c1] ∧ Ty.holds W .qi [c2] ∧ True) ∧ Ty.holds W (.slice .qbr) [c3] ∧ True := hh
    obtain ⟨⟨⟨n0, h0, _⟩, ⟨n1, h1, _⟩, ⟨n2, h2, _⟩, _⟩, ⟨A, n, c, h3, hc, hm, hn, he⟩, _⟩ := hh'
    simp only [List.cons.injEq, and_true] at h0 h1 h2 h3
    subst h0 h1 h2 h3
    obtain ⟨lb, eb, lB⟩ := rep_of_slice (f := Br.pv) (e := Ty.qbr) (by decide) hc hn qbr_of he
    have hmx : maxLen = 9223372036854775807 := by decide
    exact ⟨⟨⟨n0, n1, n2⟩, lb⟩, (by show lb.length ≤ _; rw [eb]; omega), _, rfl, .cons (.v _ rfl) (.cons (.v _ rfl) (.cons (.v _ rfl) (.cons lB .nil)))⟩
end
/-- A law that returns true. -/
theorem calls_true {P : Program} {f : FuncId} {args : List AV} (h : FnOK P f args ⟨bv true, none⟩) (W : World) (us : List Value) (hus : RepAL (cellR W) args us) : Calls P f us.toArray W fun e W' => e = .returned (.bool true) ∧ Below W.heap.size W W' :=
  (h.2 W (cellR W) (fun _ _ h => h) us hus).mono fun e W' hq => by
    obtain ⟨u, rfl, hb, _, hr⟩ := hq
    exact ⟨by rw [show u = .bool true from hr], hb⟩
theorem Tryz.laidOut : laidOutB Tryz.prog = true := by kernel_rfl
theorem Tryz.own : ownKnob Tryz.prog.godebug = none := by kernel_rfl
def laid3 : List (String × DataW Unit) := [("math/bits.deBruijn32tab", Rows.laid_math_bits_deBruijn32tab), ("math/bits.deBruijn64tab", Rows.laid_math_bits_deBruijn64tab), ("internal/strconv.uint64pow10", Rows.laid_internal_strconv_uint64pow10)]
theorem door_met (os : Os) (args : Array Value) : laidMetH Tryz.prog laid3 ((World.doorLaid Tryz.prog 400 os).forCall (fun _ _ => 0) ⟨#[], args, []⟩).memory :=
  laidMetH_of_parts3 (fuel := 8) (laidMet_of_run' 8 (by kernel_rfl) (by kernel_rfl)) (by kernel_rfl) (by kernel_rfl)

section
variable {H : Type} {enc : TypeId × Value → H} {P : Program}
/-- What the row asks behind a call that only made new memory. (After the guide's small lemmas.) -/
theorem post_of_below {f : Func} {s : ChangeSpec} {apart fresh handsOn again : Bool} {W W' : World} {args : Array Value} {v : Value} {ds gs : List (DataW H)} {before pa pv : List MemPlace}
    (hW : DataW.Whole enc P f.params.toList s.vars apart W args.toList ds gs before)
    (hres : ∀ (b : Nat) (sp : Nat → Bool) (hd : Bool), DataW.TrodAll enc P W' b sp hd f.resultTypes.toList (v.resultList f.resultTypes.size) (s.fn H (ds ++ gs)).results [])
    (hargs : ∀ sp : Nat → Bool, (∀ p ∈ before, sp p.block = true) → DataW.TrodAll enc P W' 0 sp true f.params.toList args.toList (s.fn H (ds ++ gs)).args pa)
    (hvars : ∀ sp : Nat → Bool, (∀ p ∈ before, sp p.block = true) → DataW.TrodVars enc P W' sp s.vars (s.fn H (ds ++ gs)).vars pv)
    (hps : before = pa ++ pv) (hb : Below W.heap.size W W')
    (hok : ∀ (j : Nat) (t : TypeId) (r : Value), f.resultTypes[j]? = some t → (v.resultList f.resultTypes.size)[j]? = some r → Value.okWide P W' .any 0 t r) :
    s.post enc P f apart fresh handsOn again W args v W' := by
  have hlt : ∀ p ∈ before, p.block < W.heap.size := fun p hp => hW.lt p hp
  have hold : ∀ p ∈ before, (fun b => decide (b < W.heap.size)) p.block = true := fun p hp => by simpa using hlt p hp
  refine ⟨ds, gs, before, [], pa, pv, hW, hres _ _ _, hargs _ hold, hvars _ hold, World.keptBut_mono (fun p hp => ⟨hp, ?_⟩) (hb.frame (· ∈ before)), fun _ => ?_⟩
  · rw [hps, List.mem_append] at hp
    exact Or.inr hp
  · obtain ⟨_, _, _, _, _, hz, hn⟩ := hW
    refine ⟨hok, _, _, ([] ++ pa) ++ pv, ⟨[] ++ pa, pv, trodAll_append (hargs _ (fun _ _ => rfl)) (hres _ _ _), hvars _ (fun _ _ => rfl), rfl, ?_, ?_⟩, ?_⟩
    · intro b off hp
      have hin : MemPlace.cell b off ∈ before := by rw [hps]; simpa using hp
      rw [hb.frozen (hlt _ hin)]
      exact hz b off hin
    · intro ha
      have := hn ha
      rw [hps] at this
      simpa using this
    · intro p hp _
      rw [hps]
      simpa using hp
end
end Go.Proofs.YticnppnejafhdaaGreatDoor

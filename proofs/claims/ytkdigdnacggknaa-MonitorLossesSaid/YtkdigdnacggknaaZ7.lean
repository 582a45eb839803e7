import Derived.Shelf.SlSortCmp.WholeK
import Derived.Test.YtkdigdnacggknaaZ6
set_option linter.unusedVariables false
set_option linter.unusedSimpArgs false
/- Arguments of the laws of the monitor, opened. -/
namespace Go.Proofs.Ytkdigdnacggknaa
open Go.RowKit
open Nd Rc Mo
open Av
set_option maxRecDepth 100000
set_option linter.unusedSimpArgs false
open Go.ChangeShapes Go.WideShapes Go.ChangeAt

def cellR (w : World) : Reader := fun p => w.cell? p
theorem RepL.get {R : Reader} {ps : List PV} {us : List Value} (h : RepL R ps us) : us.length = ps.length ∧ ∀ (j : Nat) (p : PV), ps[j]? = some p → ∃ u, us[j]? = some u ∧ RepP R p u := by
  induction h with
  | nil => exact ⟨rfl, fun j p h => by simp at h⟩
  | cons h t ih =>
    refine ⟨by simp [ih.1], fun j p hj => ?_⟩
    cases j with
    | zero =>
      simp only [List.getElem?_cons_zero, Option.some.injEq] at hj
      subst hj
      exact ⟨_, rfl, h⟩
    | succ j => exact ih.2 j p (by simpa using hj)
/-- A slice, read by f. -/
theorem rep_of_slice {α : Type} {f : α → List PV} {w : World} {e : Ty} {A : Option Addr} {n c : Nat} (hz : 0 < e.cells) (hnc : n ≤ c) (hnil : A = none → n = 0) (hr : ∀ es, es.length = e.cells → e.holds w es → ∃ x, RepL (cellR w) (f x) es)
    (h : ∀ a, A = some a → ∀ i, i < n → ∃ es, es.length = e.cells ∧ e.holds w es ∧ ∀ j u, es[j]? = some u → w.cell? (a.add (i * e.cells + j)) = some u) :
    ∃ l : List α, l.length = n ∧ RepP (cellR w) (.sl e.cells (l.map f)) (.slice A n c) := by
  cases A with
  | none =>
    obtain rfl := hnil rfl
    exact ⟨[], rfl, .sl e.cells [] none c (fun _ _ => undef) (fun k row hk => by simp at hk) (.inl rfl) (fun k row j p hk => by simp at hk) (Nat.zero_le _)⟩
  | some a =>
    obtain ⟨l, hl, hq⟩ := list_of (Q := fun i x => ∃ es, es.length = e.cells ∧ RepL (cellR w) (f x) es ∧ ∀ j u, es[j]? = some u → w.cell? (a.add (i * e.cells + j)) = some u) n fun i hi => by
      obtain ⟨es, h1, h2, h3⟩ := h a rfl i hi
      obtain ⟨x, hx⟩ := hr es h1 h2
      exact ⟨x, es, h1, hx, h3⟩
    refine ⟨l, hl, ?_⟩
    have hrow : ∀ (k : Nat) (row : List PV), (l.map f)[k]? = some row → row.length = e.cells ∧ ∀ (j : Nat) (p : PV), row[j]? = some p → ∃ u, w.cell? (a.add (k * e.cells + j)) = some u ∧ RepP (cellR w) p u := fun k row hk => by
      rw [List.getElem?_map] at hk
      cases hx : l[k]? with
      | none => rw [hx] at hk; cases hk
      | some x =>
        rw [hx] at hk
        obtain rfl := Option.some.inj hk
        obtain ⟨es, h1, h2, h3⟩ := hq k x hx
        obtain ⟨g1, g2⟩ := RepL.get h2
        refine ⟨by rw [← g1, h1], fun j p hj => ?_⟩
        obtain ⟨u, hu, hp⟩ := g2 j p hj
        exact ⟨u, h3 j u hu, hp⟩
    have hlen : n = (l.map f).length := by rw [List.length_map, hl]
    rw [hlen]
    refine .sl e.cells (l.map f) (some a) c (fun k j => (w.cell? (a.add (k * e.cells + j))).getD undef) (fun k row hk => (hrow k row hk).1) ?_ (fun k row j p hk hj => ?_) (by rw [← hlen]; exact hnc)
    · by_cases hn : l = []
      · exact .inl (by rw [hn]; rfl)
      · right
        have h0 : 0 < l.length := by
          rcases Nat.eq_zero_or_pos l.length with h0 | h0
          · exact absurd (List.eq_nil_of_length_eq_zero h0) hn
          · exact h0
        obtain ⟨x0, hx0⟩ := get_of_lt h0
        obtain ⟨q1, q2⟩ := hrow 0 (f x0) (by rw [List.getElem?_map, hx0]; rfl)
        obtain ⟨p0, hp0⟩ := get_of_lt (l := f x0) (k := 0) (by rw [q1]; exact hz)
        obtain ⟨u0, hu0, _⟩ := q2 0 p0 hp0
        have ha0 : a.add 0 = a := by simp [Addr.add]
        rw [show 0 * e.cells + 0 = 0 by omega, ha0] at hu0
        obtain ⟨_, hsp⟩ := cell_lt hu0
        obtain ⟨b, off, sp⟩ := a
        dsimp only at hsp
        subst hsp
        have hadd : ∀ i : Nat, (⟨b, off, none⟩ : Addr).add i = ⟨b, off + i, none⟩ := fun i => by
          unfold Addr.add
          split
          · rename_i h0; rw [h0]; rfl
          · rfl
        refine ⟨b, off, rfl, fun k row j p hk hj => ?_⟩
        obtain ⟨u, hu, _⟩ := (hrow k row hk).2 j p hj
        rw [hu]
        rw [hadd, ← Nat.add_assoc] at hu
        exact hu
    · obtain ⟨u, hu, hp⟩ := (hrow k row hk).2 j p hj
      rw [hu]; exact hp
def Ty.qi : Ty := .int .i64
def Ty.qatt : Ty := .struct (.cons .qi (.cons .qi (.cons (.struct (.cons .qi (.cons .qi (.cons .qi (.cons .qi (.cons .qi .nil)))))) (.cons .qi .nil))))
def Ty.qdlv : Ty := .struct (.cons .qi (.cons .qi (.cons .qi .nil)))
def Ty.qrec : Ty := .struct (.cons .qi (.cons (.struct (.cons (.slice .qatt) (.cons (.slice .qdlv) .nil))) .nil))
def Ty.qnet : Ty := .struct (.cons .qi (.cons (.slice (.slice .qi)) (.cons .qi (.cons .qi (.cons (.slice .qdlv) (.cons (.slice .qi) .nil))))))
theorem Try.fitsQrec : Ty.qrec.fits Try.prog 28 = true := by kernel_rfl
theorem Try.fitsQnet : Ty.qnet.fits Try.prog 44 = true := by kernel_rfl
theorem qatt_of {w : World} (es : List Value) (hl : es.length = Ty.qatt.cells) (h : Ty.qatt.holds w es) : ∃ a : Att, RepL (cellR w) a.pv es := by
  match es, hl with
  | [c0, c1, c2, c3, c4, c5, c6, c7], _ =>
    simp only [Ty.qatt, Ty.qi, Ty.holds, Ty.cells, List.take, List.drop] at h
    obtain ⟨⟨n0, h0, _⟩, ⟨n1, h1, _⟩, ⟨⟨n2, h2, _⟩, ⟨n3, h3, _⟩, ⟨n4, h4, _⟩, ⟨n5, h5, _⟩, ⟨n6, h6, _⟩, _⟩, ⟨n7, h7, _⟩, _⟩ := h
    simp only [List.cons.injEq, and_true] at h0 h1 h2 h3 h4 h5 h6 h7
    subst h0 h1 h2 h3 h4 h5 h6 h7
    exact ⟨⟨n0, n1, n2, n3, n4, n5, n6, n7⟩, .cons (.v _ rfl) (.cons (.v _ rfl) (.cons (.v _ rfl) (.cons (.v _ rfl) (.cons (.v _ rfl) (.cons (.v _ rfl) (.cons (.v _ rfl) (.cons (.v _ rfl) .nil)))))))⟩
theorem qdlv_of {w : World} (es : List Value) (hl : es.length = Ty.qdlv.cells) (h : Ty.qdlv.holds w es) : ∃ a : Dlv, RepL (cellR w) a.pv es := by
  match es, hl with
  | [c0, c1, c2], _ =>
    simp only [Ty.qdlv, Ty.qi, Ty.holds, Ty.cells, List.take, List.drop] at h
    obtain ⟨⟨n0, h0, _⟩, ⟨n1, h1, _⟩, ⟨n2, h2, _⟩, _⟩ := h
    simp only [List.cons.injEq, and_true] at h0 h1 h2
    subst h0 h1 h2
    exact ⟨⟨n0, n1, n2⟩, .cons (.v _ rfl) (.cons (.v _ rfl) (.cons (.v _ rfl) .nil))⟩
theorem qlk_of {w : World} (es : List Value) (hl : es.length = Ty.qdlv.cells) (h : Ty.qdlv.holds w es) : ∃ a : Lk, RepL (cellR w) a.pv es := by
  obtain ⟨⟨x, y, z⟩, h⟩ := qdlv_of es hl h
  exact ⟨⟨x, y, z⟩, h⟩
theorem qint_of {w : World} (es : List Value) (_hl : es.length = Ty.qi.cells) (h : Ty.qi.holds w es) : ∃ a : Int, RepL (cellR w) (irow_pv a) es := by
  obtain ⟨n, rfl, _⟩ := h
  exact ⟨n, .cons (.v _ rfl) .nil⟩
theorem qpow_of {w : World} (es : List Value) (_hl : es.length = (Ty.slice .qi).cells) (h : (Ty.slice .qi).holds w es) : ∃ a : List Int, RepL (cellR w) (prow_pv a) es := by
  obtain ⟨A, n, c, rfl, hc, hm, hn, he⟩ := h
  obtain ⟨l, _, hr⟩ := rep_of_slice (f := irow_pv) (e := Ty.qi) (by decide) hc hn qint_of he
  exact ⟨l, .cons hr .nil⟩
section
variable {H : Type} {enc : TypeId × Value → H} {W : World} {base : Nat} {spare : Nat → Bool} {held : Bool} {r : Reach} {b0 : Nat} {v : Value} {d : DataW H} {p : List MemPlace}
theorem open_recP (hv : Value.okWide Try.prog W r b0 28 v) (h : DataW.Trod enc Try.prog W base spare held 28 v d p) : ∃ q : Rec, RepA (cellR W) (fun _ => 0) (.agg q.pv) v := by
  obtain ⟨cs, rfl, hsz⟩ := okWide_struct Try.underlying28 hv
  have hh := Ty.holds_trod (τ := Ty.qrec) Try.fitsQrec h
  obtain ⟨l⟩ := cs
  match l, hsz with
  | [c0, c1, c2], _ =>
    simp only [Value.cells, Ty.qrec, Ty.qi, Ty.holds, Ty.cells, List.take, List.drop] at hh
    obtain ⟨⟨n0, h0, w0⟩, ⟨⟨A, n, ca, h1, hc1, hm1, hn1, he1⟩, ⟨D, m, cd, h2, hc2, hm2, hn2, he2⟩, _⟩, _⟩ := hh
    simp only [List.cons.injEq, and_true] at h0 h1 h2
    subst h0 h1 h2
    obtain ⟨la, _, lA⟩ := rep_of_slice (f := Att.pv) (e := Ty.qatt) (by decide) hc1 hn1 qatt_of he1
    obtain ⟨ld, _, lD⟩ := rep_of_slice (f := Dlv.pv) (e := Ty.qdlv) (by decide) hc2 hn2 qdlv_of he2
    exact ⟨⟨n0, la, ld⟩, _, rfl, .cons (.v _ rfl) (.cons lA (.cons lD .nil))⟩
theorem open_netP (hv : Value.okWide Try.prog W r b0 44 v) (h : DataW.Trod enc Try.prog W base spare held 44 v d p) : ∃ q : Net, q.pow.length ≤ 9223372036854775807 ∧ RepA (cellR W) (fun _ => 0) (.agg q.pv) v := by
  obtain ⟨cs, rfl, hsz⟩ := okWide_struct Try.underlying44 hv
  have hh := Ty.holds_trod (τ := Ty.qnet) Try.fitsQnet h
  obtain ⟨l⟩ := cs
  match l, hsz with
  | [c0, c1, c2, c3, c4, c5], _ =>
    have hh' : Ty.holds W .qi [c0] ∧ Ty.holds W (.slice (.slice .qi)) [c1] ∧ Ty.holds W .qi [c2] ∧ Ty.holds W .qi [c3] ∧ Ty.holds W (.slice .qdlv) [c4] ∧ Ty.holds W (.slice .qi) [c5] ∧ True := hh
    obtain ⟨⟨n0, h0, _⟩, ⟨P, n, cp, h1, hc1, hm1, hn1, he1⟩, ⟨n2, h2, _⟩, ⟨n3, h3, _⟩, ⟨L, m, cl, h4, hc4, hm4, hn4, he4⟩, ⟨G, k, cg, h5, hc5, hm5, hn5, he5⟩, _⟩ := hh'
    simp only [List.cons.injEq, and_true] at h0 h1 h2 h3 h4 h5
    subst h0 h1 h2 h3 h4 h5
    obtain ⟨lp, ep, lP⟩ := rep_of_slice (f := prow_pv) (e := Ty.slice .qi) (by decide) hc1 hn1 qpow_of he1
    obtain ⟨ll, _, lL⟩ := rep_of_slice (f := Lk.pv) (e := Ty.qdlv) (by decide) hc4 hn4 qlk_of he4
    obtain ⟨lg, _, lG⟩ := rep_of_slice (f := irow_pv) (e := Ty.qi) (by decide) hc5 hn5 qint_of he5
    have hmx : maxLen = 9223372036854775807 := by decide
    exact ⟨⟨n0, n2, n3, lp, ll, lg⟩, (by show lp.length ≤ _; rw [ep]; omega), _, rfl, .cons (.v _ rfl) (.cons lP (.cons (.v _ rfl) (.cons (.v _ rfl) (.cons lL (.cons lG .nil)))))⟩
end
/-- A law that returns true. -/
theorem calls_true {P : Program} {f : FuncId} {args : List AV} (h : FnOK P f args ⟨bv true, none⟩) (W : World) (us : List Value) (hus : RepAL (cellR W) args us) : Calls P f us.toArray W fun e W' => e = .returned (.bool true) ∧ Below W.heap.size W W' :=
  (h.2 W (cellR W) (fun _ _ h => h) us hus).mono fun e W' hq => by
    obtain ⟨u, rfl, hb, _, hr⟩ := hq
    exact ⟨by rw [show u = .bool true from hr], hb⟩
theorem Try.laidOut : laidOutB Try.prog = true := by kernel_rfl
theorem Try.own : ownKnob Try.prog.godebug = none := by kernel_rfl
section
variable {H : Type} {enc : TypeId × Value → H} {P : Program}
/-- What the row asks behind a call that only made new memory. (After the guide's small lemmas.) -/
theorem post_of_below {f : Func} {s : ChangeSpec} {apart fresh handsOn again : Bool} {W W' : World} {args : Array Value} {v : Value} {ds gs : List (DataW H)} {before pa pv : List MemPlace}
    (hW : DataW.Whole enc P f.params.toList s.vars apart W args.toList ds gs before)
    (hres : ∀ (b : Nat) (sp : Nat → Bool) (hd : Bool), DataW.TrodAll enc P W' b sp hd f.resultTypes.toList (v.resultList f.resultTypes.size) (s.fn H (ds ++ gs)).results [])
    (hargs : ∀ sp : Nat → Bool, (∀ p ∈ before, sp p.block = true) → DataW.TrodAll enc P W' 0 sp true f.params.toList args.toList (s.fn H (ds ++ gs)).args pa)
    (hvars : ∀ sp : Nat → Bool, (∀ p ∈ before, sp p.block = true) → DataW.TrodVars enc P W' sp s.vars (s.fn H (ds ++ gs)).vars pv)
    (hps : before = pa ++ pv) (hb : Below W.heap.size W W')
    (hok : ∀ (j : Nat) (t : TypeId) (r : Value), f.resultTypes[j]? = some t → (v.resultList f.resultTypes.size)[j]? = some r → Value.okWide P W' .any 0 t r) :
    s.post enc P f apart fresh handsOn again W args v W' := by
  have hlt : ∀ p ∈ before, p.block < W.heap.size := fun p hp => hW.lt p hp
  have hold : ∀ p ∈ before, (fun b => decide (b < W.heap.size)) p.block = true := fun p hp => by simpa using hlt p hp
  refine ⟨ds, gs, before, [], pa, pv, hW, hres _ _ _, hargs _ hold, hvars _ hold, World.keptBut_mono (fun p hp => ⟨hp, ?_⟩) (hb.frame (· ∈ before)), fun _ => ?_⟩
  · rw [hps, List.mem_append] at hp
    exact Or.inr hp
  · obtain ⟨_, _, _, _, _, hz, hn⟩ := hW
    refine ⟨hok, _, _, ([] ++ pa) ++ pv, ⟨[] ++ pa, pv, trodAll_append (hargs _ (fun _ _ => rfl)) (hres _ _ _), hvars _ (fun _ _ => rfl), rfl, ?_, ?_⟩, ?_⟩
    · intro b off hp
      have hin : MemPlace.cell b off ∈ before := by rw [hps]; simpa using hp
      rw [hb.frozen (hlt _ hin)]
      exact hz b off hin
    · intro ha
      have := hn ha
      rw [hps] at this
      simpa using this
    · intro p hp _
      rw [hps]
      simpa using hp
end
end Go.Proofs.Ytkdigdnacggknaa
/- By abstract states: slices.Clone. -/
namespace Go.Proofs.Ytkdigdnacggknaa
open Go.RowKit
open Nd Rc Mo
open Av
set_option maxRecDepth 100000
set_option linter.unusedSimpArgs false
attribute [local go_sem] Av.guardB Av.sop Av.hopx Av.hop Av.hopCall Av.hopF Av.hopB Av.evo Av.evos Av.avCells Av.loadK Av.bound Av.abin Av.aun Av.partsC Av.lfill Av.placesB Av.setAt Av.stl Av.takes Av.src Av.bxOf Av.ownOf Av.St.res Av.St.put Av.St.addBox Av.St.putOwn Av.delL Av.delS Av.look Av.lookL Av.storeSt Av.stealSt Av.St.setBox Av.keepL Av.hitB Av.snap Av.snaps Av.snapCaps Av.AV.lit Av.AV.refs Av.capRefs Av.PV.av Av.CV.av Av.startSt Av.steals Av.athen Av.ablock Av.appK Av.AllS Av.AllO Av.AllR Av.keepS Av.St.avAt Av.RetOK Av.retAll Av.retOne Av.intsOf Av.ptrB Av.appB Av.appSt TypeDesc.isRow List.range_zero Option.some.injEq exists_eq_left' exists_eq_left exists_eq' exists_and_left exists_and_right exists_const true_and and_true and_self false_and and_false or_false false_or or_true true_or if_true if_false Bool.false_eq_true List.zipIdx_cons List.zipIdx_nil List.map_cons List.map_nil List.filter_cons List.filter_nil List.contains_cons List.contains_nil List.drop_succ_cons List.drop_zero List.take_succ_cons List.take_zero List.take_nil List.drop_nil List.length_cons List.length_nil List.cons_append List.nil_append List.append_nil List.getElem?_cons_zero List.getElem?_cons_succ List.getElem?_nil Option.bind_some Option.bind_none Option.map_some Option.map_none Option.isNone_none Option.isNone_some Option.isSome_some Option.isSome_none Bool.and_true Bool.true_and Bool.and_false Bool.false_and Bool.or_false Bool.false_or Bool.not_true Bool.not_false beq_true beq_false Bool.true_beq Bool.false_beq Loc.s.injEq Loc.b.injEq decide_true decide_false beq_self_eq_true Nat.zero_add Nat.add_zero List.getElem?_toArray List.toList_toArray List.size_toArray Value.oneCell' List.all_cons List.all_nil Value.int.injEq AV.v.injEq AV.sl.injEq AV.agg.injEq AV.ref.injEq AV.ept.injEq AV.tup.injEq Value.bool.injEq PV.v.injEq PV.sl.injEq List.isEmpty_nil List.isEmpty_cons forall_const not_true_eq_false not_false_eq_true true_implies false_implies Value.string.injEq List.length_map List.getElem?_map Int.toNat_natCast Int.natCast_nonneg List.length_append Value.cells implies_true TypeDesc.struct.injEq TypeDesc.slice.injEq TypeDesc.array.injEq List.getElem?_toArray Prod.mk.injEq and_assoc exists_false List.cons.injEq Operand.tmp.injEq ite_self AV.fnv.injEq AV.clo.injEq Try.sz3 Try.zr3 Try.by3 Try.pl3 Try.is3 Try.underlying3 Try.sz4 Try.zr4 Try.by4 Try.pl4 Try.is4 Try.underlying4 Try.sz32 Try.zr32 Try.by32 Try.pl32 Try.is32 Try.underlying32 Try.sz28 Try.zr28 Try.by28 Try.pl28 Try.is28 Try.underlying28 Try.sz26 Try.zr26 Try.by26 Try.pl26 Try.is26 Try.underlying26 Try.sz37 Try.zr37 Try.by37 Try.pl37 Try.is37 Try.underlying37 Try.sz68 Try.zr68 Try.by68 Try.pl68 Try.is68 Try.underlying68 Try.sz57 Try.zr57 Try.by57 Try.pl57 Try.is57 Try.underlying57 Try.sz70 Try.zr70 Try.by70 Try.pl70 Try.is70 Try.underlying70 Try.sz54 Try.zr54 Try.by54 Try.pl54 Try.is54 Try.underlying54 Try.sz66 Try.zr66 Try.by66 Try.pl66 Try.is66 Try.underlying66 Try.sz64 Try.zr64 Try.by64 Try.pl64 Try.is64 Try.underlying64 Try.sz73 Try.zr73 Try.by73 Try.pl73 Try.is73 Try.underlying73 Try.sz102 Try.zr102 Try.by102 Try.pl102 Try.is102 Try.underlying102 Try.sz105 Try.zr105 Try.by105 Try.pl105 Try.is105 Try.underlying105 Try.sz44 Try.zr44 Try.by44 Try.pl44 Try.is44 Try.underlying44 Try.sz22 Try.zr22 Try.by22 Try.pl22 Try.is22 Try.underlying22 Try.sz31 Try.zr31 Try.by31 Try.pl31 Try.is31 Try.underlying31 Try.sz23 Try.zr23 Try.by23 Try.pl23 Try.is23 Try.underlying23 Try.sz24 Try.zr24 Try.by24 Try.pl24 Try.is24 Try.underlying24 Try.sz46 Try.zr46 Try.by46 Try.pl46 Try.is46 Try.underlying46 Try.sz41 Try.zr41 Try.by41 Try.pl41 Try.is41 Try.underlying41 Try.sz42 Try.zr42 Try.by42 Try.pl42 Try.is42 Try.underlying42 Try.sz40 Try.zr40 Try.by40 Try.pl40 Try.is40 Try.underlying40 Try.it68 Try.eg68 Try.it54 Try.eg54 Try.it66 Try.eg66 Try.it57 Try.eg57 Try.it37 Try.eg37 Try.it73 Try.eg73 all_arr loc_ss loc_sb loc_bs loc_bb arr_two arr_one rg1 rg2 rg3 rg4 rg5 rg6 rg7 rg8 ResultVar.tmp.injEq Bool.not_true Bool.not_false undef Rc.Rec.pv Nd.Fl.pv Rc.Dlv.pv Rc.Att.pv Mo.Lt.pv Mo.Sv.pv
namespace Av
/-- Is a slice nil? Then it has no rows. -/
theorem hand_sliceNil {P : Program} {n d : Nat} {σ : St} {o : Oper} {K : St → Prop} {T T' e : TypeId} {x : Operand} {sz : Nat} {rows : List (List PV)} (ho : o.op = .binOp .eql T x (.const (.slice none 0 0)) T') (hd : o.dst = some d) (hdn : d < n) (hT : P.underlying T = some (.slice e)) (hx : evo (look σ.slot) x = some (.sl sz rows))
    (h : ∀ b : Bool, (b = true → rows = []) → K (σ.put d (.v (.bool b)))) : Hand P n σ o K := by
  refine hand_value hd hdn fun F γ a w _ hr => ?_
  have e1 : RepP _ (.sl sz rows) (a.eval x) := (evo_ok hr (fun _ _ _ hy => hy) hx).1
  have e3 : a.eval (.const (.slice none 0 0)) = .slice none 0 0 := rfl
  generalize hv : a.eval x = v at e1
  cases e1 with
  | sl _ _ A cap f hsz hA hf hc =>
    refine ⟨.v (.bool A.isNone), .bool A.isNone, w, σ.ext, ?_, Turn.same hr.exth (fun _ h => h) (fun _ h => .inr h), rfl, (fun k hk => by cases hk), h _ (fun hn => ?_)⟩
    · simp [execOp, ho, hv, e3, eqGuard, binOp, run_equal_slice_nil w T e A rows.length cap hT]
    · rcases hA with h0 | ⟨b, off, rfl, _⟩
      · exact h0
      · cases hn
end Av

set_option maxHeartbeats 2000000 in
theorem cloneI_ok (rows : List (List PV)) (hl : rows.length ≤ 100000000) : FnOK Try.prog 52 [.sl 1 rows] ⟨.sl 1 rows, some 3⟩ := by
  refine fn_ok Try.func52 (by kernel_rfl) rfl (by rw [Try.ntmps52]; exact of_decide_eq_true rfl) (fun F hF => ?_)
  rw [Try.ntmps52] at hF
  rw [Try.results52]
  repeat (first
    | (with_reducible (first | refine sops_go ?_ | refine headW_end ?_ | refine sops_end ?_ | refine awp_if ?_ | refine awp_skip ?_ | refine awp_ret ?_ | refine awp_exit ?_); simp only [go_sem, ↓reduceIte, Nat.reduceEqDiff, Nat.reduceLT, Nat.reduceLeDiff, Nat.reduceAdd, Nat.reduceMul, Nat.reduceSub, Nat.reduceBEq, reduceCtorEq, Int.reduceBNe, Int.reduceBEq, Int.reduceLT, Int.reduceLE, Int.reduceGT, Int.reduceGE, ne_eq, eq_self, hF])
    | with_reducible (first | refine awp_seq_k fun _ _ => ?_ | refine awp_region [1000004] ?_ | refine awp_block ?_)
    | go_step)
  refine hand_sliceNil (e := 3) rfl rfl (by decide) Try.underlying42 rfl (fun b hb => ?_)
  simp only [go_sem, ↓reduceIte, Nat.reduceEqDiff, Nat.reduceLT, Nat.reduceLeDiff, Nat.reduceAdd, Nat.reduceMul, Nat.reduceSub, Nat.reduceBEq, reduceCtorEq, Int.reduceBNe, Int.reduceBEq, Int.reduceLT, Int.reduceLE, Int.reduceGT, Int.reduceGE, ne_eq, eq_self, hF]
  cases b with
  | true =>
    obtain rfl := hb rfl
    repeat (first
      | ((refine awp_nil (c := .ret) 2 1 3 (by rw [hF]; decide) (by first | rfl | simp only [Av.look]; rfl) ?_); simp only [go_sem, ↓reduceIte, Nat.reduceEqDiff, Nat.reduceLT, Nat.reduceLeDiff, Nat.reduceAdd, Nat.reduceMul, Nat.reduceSub, Nat.reduceBEq, reduceCtorEq, Int.reduceBNe, Int.reduceBEq, Int.reduceLT, Int.reduceLE, Int.reduceGT, Int.reduceGE, ne_eq, eq_self, hF])
      | (with_reducible (first | refine sops_go ?_ | refine headW_end ?_ | refine sops_end ?_ | refine awp_if ?_ | refine awp_skip ?_ | refine awp_ret ?_ | refine awp_exit ?_); simp only [go_sem, ↓reduceIte, Nat.reduceEqDiff, Nat.reduceLT, Nat.reduceLeDiff, Nat.reduceAdd, Nat.reduceMul, Nat.reduceSub, Nat.reduceBEq, reduceCtorEq, Int.reduceBNe, Int.reduceBEq, Int.reduceLT, Int.reduceLE, Int.reduceGT, Int.reduceGE, ne_eq, eq_self, hF])
      | with_reducible (first | refine awp_seq_k fun _ _ => ?_ | refine awp_region [1000004] ?_ | refine awp_block ?_)
      | go_step)
  | false =>
    repeat (first
      | (with_reducible (first | refine sops_go ?_ | refine headW_end ?_ | refine sops_end ?_ | refine awp_if ?_ | refine awp_skip ?_ | refine awp_ret ?_ | refine awp_exit ?_); simp only [go_sem, ↓reduceIte, Nat.reduceEqDiff, Nat.reduceLT, Nat.reduceLeDiff, Nat.reduceAdd, Nat.reduceMul, Nat.reduceSub, Nat.reduceBEq, reduceCtorEq, Int.reduceBNe, Int.reduceBEq, Int.reduceLT, Int.reduceLE, Int.reduceGT, Int.reduceGE, ne_eq, eq_self, hF, hl])
      | with_reducible (first | refine awp_seq_k fun _ _ => ?_ | refine awp_region [1000004] ?_ | refine awp_block ?_)
      | go_step)
    try rfl

set_option maxHeartbeats 2000000 in
theorem cloneAt_ok (rows : List (List PV)) (hl : rows.length ≤ 100000000) : FnOK Try.prog 44 [.sl 8 rows] ⟨.sl 8 rows, some 66⟩ := by
  refine fn_ok Try.func44 (by kernel_rfl) rfl (by rw [Try.ntmps44]; exact of_decide_eq_true rfl) (fun F hF => ?_)
  rw [Try.ntmps44] at hF
  rw [Try.results44]
  repeat (first
    | (with_reducible (first | refine sops_go ?_ | refine headW_end ?_ | refine sops_end ?_ | refine awp_if ?_ | refine awp_skip ?_ | refine awp_ret ?_ | refine awp_exit ?_); simp only [go_sem, ↓reduceIte, Nat.reduceEqDiff, Nat.reduceLT, Nat.reduceLeDiff, Nat.reduceAdd, Nat.reduceMul, Nat.reduceSub, Nat.reduceBEq, reduceCtorEq, Int.reduceBNe, Int.reduceBEq, Int.reduceLT, Int.reduceLE, Int.reduceGT, Int.reduceGE, ne_eq, eq_self, hF])
    | with_reducible (first | refine awp_seq_k fun _ _ => ?_ | refine awp_region [1000004] ?_ | refine awp_block ?_)
    | go_step)
  refine hand_sliceNil (e := 66) rfl rfl (by decide) Try.underlying23 rfl (fun b hb => ?_)
  simp only [go_sem, ↓reduceIte, Nat.reduceEqDiff, Nat.reduceLT, Nat.reduceLeDiff, Nat.reduceAdd, Nat.reduceMul, Nat.reduceSub, Nat.reduceBEq, reduceCtorEq, Int.reduceBNe, Int.reduceBEq, Int.reduceLT, Int.reduceLE, Int.reduceGT, Int.reduceGE, ne_eq, eq_self, hF]
  cases b with
  | true =>
    obtain rfl := hb rfl
    repeat (first
      | ((refine awp_nil (c := .ret) 2 8 66 (by rw [hF]; decide) (by first | rfl | simp only [Av.look]; rfl) ?_); simp only [go_sem, ↓reduceIte, Nat.reduceEqDiff, Nat.reduceLT, Nat.reduceLeDiff, Nat.reduceAdd, Nat.reduceMul, Nat.reduceSub, Nat.reduceBEq, reduceCtorEq, Int.reduceBNe, Int.reduceBEq, Int.reduceLT, Int.reduceLE, Int.reduceGT, Int.reduceGE, ne_eq, eq_self, hF])
      | (with_reducible (first | refine sops_go ?_ | refine headW_end ?_ | refine sops_end ?_ | refine awp_if ?_ | refine awp_skip ?_ | refine awp_ret ?_ | refine awp_exit ?_); simp only [go_sem, ↓reduceIte, Nat.reduceEqDiff, Nat.reduceLT, Nat.reduceLeDiff, Nat.reduceAdd, Nat.reduceMul, Nat.reduceSub, Nat.reduceBEq, reduceCtorEq, Int.reduceBNe, Int.reduceBEq, Int.reduceLT, Int.reduceLE, Int.reduceGT, Int.reduceGE, ne_eq, eq_self, hF])
      | with_reducible (first | refine awp_seq_k fun _ _ => ?_ | refine awp_region [1000004] ?_ | refine awp_block ?_)
      | go_step)
  | false =>
    repeat (first
      | (with_reducible (first | refine sops_go ?_ | refine headW_end ?_ | refine sops_end ?_ | refine awp_if ?_ | refine awp_skip ?_ | refine awp_ret ?_ | refine awp_exit ?_); simp only [go_sem, ↓reduceIte, Nat.reduceEqDiff, Nat.reduceLT, Nat.reduceLeDiff, Nat.reduceAdd, Nat.reduceMul, Nat.reduceSub, Nat.reduceBEq, reduceCtorEq, Int.reduceBNe, Int.reduceBEq, Int.reduceLT, Int.reduceLE, Int.reduceGT, Int.reduceGE, ne_eq, eq_self, hF, hl])
      | with_reducible (first | refine awp_seq_k fun _ _ => ?_ | refine awp_region [1000004] ?_ | refine awp_block ?_)
      | go_step)
    try rfl

set_option maxHeartbeats 2000000 in
theorem cloneDl_ok (rows : List (List PV)) (hl : rows.length ≤ 100000000) : FnOK Try.prog 45 [.sl 3 rows] ⟨.sl 3 rows, some 54⟩ := by
  refine fn_ok Try.func45 (by kernel_rfl) rfl (by rw [Try.ntmps45]; exact of_decide_eq_true rfl) (fun F hF => ?_)
  rw [Try.ntmps45] at hF
  rw [Try.results45]
  repeat (first
    | (with_reducible (first | refine sops_go ?_ | refine headW_end ?_ | refine sops_end ?_ | refine awp_if ?_ | refine awp_skip ?_ | refine awp_ret ?_ | refine awp_exit ?_); simp only [go_sem, ↓reduceIte, Nat.reduceEqDiff, Nat.reduceLT, Nat.reduceLeDiff, Nat.reduceAdd, Nat.reduceMul, Nat.reduceSub, Nat.reduceBEq, reduceCtorEq, Int.reduceBNe, Int.reduceBEq, Int.reduceLT, Int.reduceLE, Int.reduceGT, Int.reduceGE, ne_eq, eq_self, hF])
    | with_reducible (first | refine awp_seq_k fun _ _ => ?_ | refine awp_region [1000004] ?_ | refine awp_block ?_)
    | go_step)
  refine hand_sliceNil (e := 54) rfl rfl (by decide) Try.underlying24 rfl (fun b hb => ?_)
  simp only [go_sem, ↓reduceIte, Nat.reduceEqDiff, Nat.reduceLT, Nat.reduceLeDiff, Nat.reduceAdd, Nat.reduceMul, Nat.reduceSub, Nat.reduceBEq, reduceCtorEq, Int.reduceBNe, Int.reduceBEq, Int.reduceLT, Int.reduceLE, Int.reduceGT, Int.reduceGE, ne_eq, eq_self, hF]
  cases b with
  | true =>
    obtain rfl := hb rfl
    repeat (first
      | ((refine awp_nil (c := .ret) 2 3 54 (by rw [hF]; decide) (by first | rfl | simp only [Av.look]; rfl) ?_); simp only [go_sem, ↓reduceIte, Nat.reduceEqDiff, Nat.reduceLT, Nat.reduceLeDiff, Nat.reduceAdd, Nat.reduceMul, Nat.reduceSub, Nat.reduceBEq, reduceCtorEq, Int.reduceBNe, Int.reduceBEq, Int.reduceLT, Int.reduceLE, Int.reduceGT, Int.reduceGE, ne_eq, eq_self, hF])
      | (with_reducible (first | refine sops_go ?_ | refine headW_end ?_ | refine sops_end ?_ | refine awp_if ?_ | refine awp_skip ?_ | refine awp_ret ?_ | refine awp_exit ?_); simp only [go_sem, ↓reduceIte, Nat.reduceEqDiff, Nat.reduceLT, Nat.reduceLeDiff, Nat.reduceAdd, Nat.reduceMul, Nat.reduceSub, Nat.reduceBEq, reduceCtorEq, Int.reduceBNe, Int.reduceBEq, Int.reduceLT, Int.reduceLE, Int.reduceGT, Int.reduceGE, ne_eq, eq_self, hF])
      | with_reducible (first | refine awp_seq_k fun _ _ => ?_ | refine awp_region [1000004] ?_ | refine awp_block ?_)
      | go_step)
  | false =>
    repeat (first
      | (with_reducible (first | refine sops_go ?_ | refine headW_end ?_ | refine sops_end ?_ | refine awp_if ?_ | refine awp_skip ?_ | refine awp_ret ?_ | refine awp_exit ?_); simp only [go_sem, ↓reduceIte, Nat.reduceEqDiff, Nat.reduceLT, Nat.reduceLeDiff, Nat.reduceAdd, Nat.reduceMul, Nat.reduceSub, Nat.reduceBEq, reduceCtorEq, Int.reduceBNe, Int.reduceBEq, Int.reduceLT, Int.reduceLE, Int.reduceGT, Int.reduceGE, ne_eq, eq_self, hF, hl])
      | with_reducible (first | refine awp_seq_k fun _ _ => ?_ | refine awp_region [1000004] ?_ | refine awp_block ?_)
      | go_step)
    try rfl

/- Sorts of lists of one breach or none. -/
attribute [local go_sem] Try.underlying127 Try.underlying151 Try.underlying5
set_option maxHeartbeats 2000000 in
theorem len64_0  : FnOK Try.prog 110 [.v (.int .u64 0)] ⟨iv 0, none⟩ := by
  refine fn_ok Try.func110 (by kernel_rfl) rfl (by rw [Try.ntmps110]; exact of_decide_eq_true rfl) (fun F hF => ?_)
  rw [Try.ntmps110] at hF
  rw [Try.results110]
  repeat (first
    | (with_reducible (first | refine sops_go ?_ | refine headW_end ?_ | refine sops_end ?_ | refine awp_if ?_ | refine awp_skip ?_ | refine awp_ret ?_ | refine awp_exit ?_); simp only [go_sem, ↓reduceIte, Nat.reduceEqDiff, Nat.reduceLT, Nat.reduceLeDiff, Nat.reduceAdd, Nat.reduceMul, Nat.reduceSub, Nat.reduceBEq, reduceCtorEq, Int.reduceBNe, Int.reduceBEq, Int.reduceLT, Int.reduceLE, Int.reduceGT, Int.reduceGE, ne_eq, eq_self, hF])
    | with_reducible (first | refine awp_seq_k fun _ _ => ?_ | refine awp_region [] ?_ | refine awp_block ?_)
    | go_step)
  refine ⟨Try.underlying9, 0, rfl, ?_⟩
  repeat (first
    | (with_reducible (first | refine sops_go ?_ | refine headW_end ?_ | refine sops_end ?_ | refine awp_if ?_ | refine awp_skip ?_ | refine awp_ret ?_ | refine awp_exit ?_); simp only [go_sem, ↓reduceIte, Nat.reduceEqDiff, Nat.reduceLT, Nat.reduceLeDiff, Nat.reduceAdd, Nat.reduceMul, Nat.reduceSub, Nat.reduceBEq, reduceCtorEq, Int.reduceBNe, Int.reduceBEq, Int.reduceLT, Int.reduceLE, Int.reduceGT, Int.reduceGE, ne_eq, eq_self, hF])
    | with_reducible (first | refine awp_seq_k fun _ _ => ?_ | refine awp_region [] ?_ | refine awp_block ?_)
    | go_step)
  trace_state
  try rfl

set_option maxHeartbeats 2000000 in
theorem len_0  : FnOK Try.prog 78 [.v (.int .u64 0)] ⟨iv 0, none⟩ := by
  refine fn_ok Try.func78 (by kernel_rfl) rfl (by rw [Try.ntmps78]; exact of_decide_eq_true rfl) (fun F hF => ?_)
  rw [Try.ntmps78] at hF
  rw [Try.results78]
  repeat (first
    | (with_reducible (first | refine sops_go ?_ | refine headW_end ?_ | refine sops_end ?_ | refine awp_if ?_ | refine awp_skip ?_ | refine awp_ret ?_ | refine awp_exit ?_); simp only [go_sem, ↓reduceIte, Nat.reduceEqDiff, Nat.reduceLT, Nat.reduceLeDiff, Nat.reduceAdd, Nat.reduceMul, Nat.reduceSub, Nat.reduceBEq, reduceCtorEq, Int.reduceBNe, Int.reduceBEq, Int.reduceLT, Int.reduceLE, Int.reduceGT, Int.reduceGE, ne_eq, eq_self, hF])
    | with_reducible (first | refine awp_seq_k fun _ _ => ?_ | refine awp_region [] ?_ | refine awp_block ?_)
    | go_step)
  refine ⟨_, len64_0, ?_⟩
  simp only [go_sem, ↓reduceIte, Nat.reduceEqDiff, Nat.reduceLT, Nat.reduceLeDiff, Nat.reduceAdd, Nat.reduceMul, Nat.reduceSub, Nat.reduceBEq, reduceCtorEq, Int.reduceBNe, Int.reduceBEq, Int.reduceLT, Int.reduceLE, Int.reduceGT, Int.reduceGE, ne_eq, eq_self, hF]
  repeat (first
    | (with_reducible (first | refine sops_go ?_ | refine headW_end ?_ | refine sops_end ?_ | refine awp_if ?_ | refine awp_skip ?_ | refine awp_ret ?_ | refine awp_exit ?_); simp only [go_sem, ↓reduceIte, Nat.reduceEqDiff, Nat.reduceLT, Nat.reduceLeDiff, Nat.reduceAdd, Nat.reduceMul, Nat.reduceSub, Nat.reduceBEq, reduceCtorEq, Int.reduceBNe, Int.reduceBEq, Int.reduceLT, Int.reduceLE, Int.reduceGT, Int.reduceGE, ne_eq, eq_self, hF])
    | with_reducible (first | refine awp_seq_k fun _ _ => ?_ | refine awp_region [] ?_ | refine awp_block ?_)
    | go_step)

set_option maxHeartbeats 2000000 in
theorem isort_ok (rows : List (List PV)) (n : Int) (c : FuncId) (h0 : 0 ≤ n) (h1 : n ≤ 1) : FnOK Try.prog 101 [.sl 5 rows, iv 0, iv n, .fnv c []] ⟨.tup [], none⟩ := by
  have hd : decide ((1 : Int) < n) = false := decide_eq_false (by omega)
  have hw : IntKind.i64.wrap ((0 : Int) + 1) = 1 := rfl
  refine fn_ok Try.func101 (by kernel_rfl) rfl (by rw [Try.ntmps101]; exact of_decide_eq_true rfl) (fun F hF => ?_)
  rw [Try.ntmps101] at hF
  rw [Try.results101]
  repeat (first
    | (with_reducible (first | refine sops_go ?_ | refine headW_end ?_ | refine sops_end ?_ | refine awp_if ?_ | refine awp_skip ?_ | refine awp_ret ?_ | refine awp_exit ?_); simp only [go_sem, ↓reduceIte, Nat.reduceEqDiff, Nat.reduceLT, Nat.reduceLeDiff, Nat.reduceAdd, Nat.reduceMul, Nat.reduceSub, Nat.reduceBEq, reduceCtorEq, Int.reduceBNe, Int.reduceBEq, Int.reduceLT, Int.reduceLE, Int.reduceGT, Int.reduceGE, ne_eq, eq_self, hF, hw])
    | ((with_reducible refine headW_go ?_); simp only [go_sem, ↓reduceIte, Nat.reduceEqDiff, Nat.reduceLT, Nat.reduceLeDiff, Nat.reduceAdd, Nat.reduceMul, Nat.reduceSub, Nat.reduceBEq, reduceCtorEq, Int.reduceBNe, Int.reduceBEq, Int.reduceLT, Int.reduceLE, Int.reduceGT, Int.reduceGE, ne_eq, eq_self, hF, hw, hbx])
    | with_reducible refine awp_seq_k fun _ _ => ?_
    | (refine awp_draw' (id := 4) [] 17 (by kernel_rfl) (by kernel_rfl) rfl rfl (fun bx0 hbx => ?_); try dsimp only [List.take, List.drop])
    | (refine awp_draw' (id := 6) [] 15 (by kernel_rfl) (by kernel_rfl) rfl rfl (fun bx0 hbx => ?_); try dsimp only [List.take, List.drop])
    | with_reducible (first | refine awp_region [] ?_ | refine awp_block ?_)
    | go_step)
  refine awp_loop_by (ι := {k : Nat // k ≤ 0}) (fun _ σ => ⟨keepS [0, 1, 2, 3, 8] σ.slot, [], [], σ.ext⟩) (fun _ => 0) ⟨0, Nat.le_refl _⟩ (sub_mk ?_) (fun R hR k => ?_)
  · simp only [go_sem, ↓reduceIte, Nat.reduceEqDiff, Nat.reduceLT, Nat.reduceLeDiff, Nat.reduceAdd, Nat.reduceMul, Nat.reduceSub, Nat.reduceBEq, reduceCtorEq, Int.reduceBNe, Int.reduceBEq, Int.reduceLT, Int.reduceLE, Int.reduceGT, Int.reduceGE, ne_eq, eq_self, hF]
    try trivial
  repeat (first
    | (with_reducible (first | refine sops_go ?_ | refine headW_end ?_ | refine sops_end ?_ | refine awp_if ?_ | refine awp_skip ?_ | refine awp_ret ?_ | refine awp_exit ?_); simp only [go_sem, ↓reduceIte, Nat.reduceEqDiff, Nat.reduceLT, Nat.reduceLeDiff, Nat.reduceAdd, Nat.reduceMul, Nat.reduceSub, Nat.reduceBEq, reduceCtorEq, Int.reduceBNe, Int.reduceBEq, Int.reduceLT, Int.reduceLE, Int.reduceGT, Int.reduceGE, ne_eq, eq_self, hF, hd])
    | ((with_reducible refine headW_go ?_); simp only [go_sem, ↓reduceIte, Nat.reduceEqDiff, Nat.reduceLT, Nat.reduceLeDiff, Nat.reduceAdd, Nat.reduceMul, Nat.reduceSub, Nat.reduceBEq, reduceCtorEq, Int.reduceBNe, Int.reduceBEq, Int.reduceLT, Int.reduceLE, Int.reduceGT, Int.reduceGE, ne_eq, eq_self, hF, hd, hbx])
    | with_reducible refine awp_seq_k fun _ _ => ?_
    | (refine awp_draw' (id := 4) [] 17 (by kernel_rfl) (by kernel_rfl) rfl rfl (fun bx0 hbx => ?_); try dsimp only [List.take, List.drop])
    | (refine awp_draw' (id := 6) [] 15 (by kernel_rfl) (by kernel_rfl) rfl rfl (fun bx0 hbx => ?_); try dsimp only [List.take, List.drop])
    | with_reducible (first | refine awp_region [] ?_ | refine awp_block ?_)
    | go_step)

set_option maxHeartbeats 2000000 in
theorem pdq_ok (rows : List (List PV)) (n l : Int) (c : FuncId) (h0 : 0 ≤ n) (h1 : n ≤ 1) : FnOK Try.prog 77 [.sl 5 rows, iv 0, iv n, iv l, .fnv c []] ⟨.tup [], none⟩ := by
  have hd : decide (n ≤ (12 : Int)) = true := decide_eq_true (by omega)
  have hw : IntKind.i64.wrap (n - 0) = n := by rw [IntKind.wrap_i64]; omega
  refine fn_ok Try.func77 (by kernel_rfl) rfl (by rw [Try.ntmps77]; exact of_decide_eq_true rfl) (fun F hF => ?_)
  rw [Try.ntmps77] at hF
  rw [Try.results77]
  repeat (first
    | (with_reducible (first | refine sops_go ?_ | refine headW_end ?_ | refine sops_end ?_ | refine awp_if ?_ | refine awp_skip ?_ | refine awp_ret ?_ | refine awp_exit ?_); simp only [go_sem, ↓reduceIte, Nat.reduceEqDiff, Nat.reduceLT, Nat.reduceLeDiff, Nat.reduceAdd, Nat.reduceMul, Nat.reduceSub, Nat.reduceBEq, reduceCtorEq, Int.reduceBNe, Int.reduceBEq, Int.reduceLT, Int.reduceLE, Int.reduceGT, Int.reduceGE, ne_eq, eq_self, hF, hw])
    | ((with_reducible refine headW_go ?_); simp only [go_sem, ↓reduceIte, Nat.reduceEqDiff, Nat.reduceLT, Nat.reduceLeDiff, Nat.reduceAdd, Nat.reduceMul, Nat.reduceSub, Nat.reduceBEq, reduceCtorEq, Int.reduceBNe, Int.reduceBEq, Int.reduceLT, Int.reduceLE, Int.reduceGT, Int.reduceGE, ne_eq, eq_self, hF, hw, hbx])
    | with_reducible refine awp_seq_k fun _ _ => ?_
    | (refine awp_draw' (id := 17) [] 17 (by kernel_rfl) (by kernel_rfl) rfl rfl (fun bx0 hbx => ?_); try dsimp only [List.take, List.drop])
    | with_reducible (first | refine awp_region [] ?_ | refine awp_block ?_)
    | go_step)
  refine awp_loop_by (ι := {k : Nat // k ≤ 0}) (fun _ σ => ⟨keepS [0, 1, 2, 3, 4] σ.slot, [], [], σ.ext⟩) (fun _ => 0) ⟨0, Nat.le_refl _⟩ (sub_mk ?_) (fun R hR k => ?_)
  · simp only [go_sem, ↓reduceIte, Nat.reduceEqDiff, Nat.reduceLT, Nat.reduceLeDiff, Nat.reduceAdd, Nat.reduceMul, Nat.reduceSub, Nat.reduceBEq, reduceCtorEq, Int.reduceBNe, Int.reduceBEq, Int.reduceLT, Int.reduceLE, Int.reduceGT, Int.reduceGE, ne_eq, eq_self, hF]
    try trivial
  repeat (first
    | (with_reducible (first | refine sops_go ?_ | refine headW_end ?_ | refine sops_end ?_ | refine awp_if ?_ | refine awp_skip ?_ | refine awp_ret ?_ | refine awp_exit ?_); simp only [go_sem, ↓reduceIte, Nat.reduceEqDiff, Nat.reduceLT, Nat.reduceLeDiff, Nat.reduceAdd, Nat.reduceMul, Nat.reduceSub, Nat.reduceBEq, reduceCtorEq, Int.reduceBNe, Int.reduceBEq, Int.reduceLT, Int.reduceLE, Int.reduceGT, Int.reduceGE, ne_eq, eq_self, hF, hd, hw])
    | ((with_reducible refine headW_go ?_); simp only [go_sem, ↓reduceIte, Nat.reduceEqDiff, Nat.reduceLT, Nat.reduceLeDiff, Nat.reduceAdd, Nat.reduceMul, Nat.reduceSub, Nat.reduceBEq, reduceCtorEq, Int.reduceBNe, Int.reduceBEq, Int.reduceLT, Int.reduceLE, Int.reduceGT, Int.reduceGE, ne_eq, eq_self, hF, hd, hw, hbx])
    | with_reducible refine awp_seq_k fun _ _ => ?_
    | (refine awp_draw' (id := 17) [] 17 (by kernel_rfl) (by kernel_rfl) rfl rfl (fun bx0 hbx => ?_); try dsimp only [List.take, List.drop])
    | with_reducible (first | refine awp_region [] ?_ | refine awp_block ?_)
    | go_step)
  refine ⟨_, isort_ok rows n c h0 h1, ?_⟩
  simp only [go_sem, ↓reduceIte, Nat.reduceEqDiff, Nat.reduceLT, Nat.reduceLeDiff, Nat.reduceAdd, Nat.reduceMul, Nat.reduceSub, Nat.reduceBEq, reduceCtorEq, Int.reduceBNe, Int.reduceBEq, Int.reduceLT, Int.reduceLE, Int.reduceGT, Int.reduceGE, ne_eq, eq_self, hF]
  repeat (first
    | (with_reducible (first | refine sops_go ?_ | refine headW_end ?_ | refine sops_end ?_ | refine awp_if ?_ | refine awp_skip ?_ | refine awp_ret ?_ | refine awp_exit ?_); simp only [go_sem, ↓reduceIte, Nat.reduceEqDiff, Nat.reduceLT, Nat.reduceLeDiff, Nat.reduceAdd, Nat.reduceMul, Nat.reduceSub, Nat.reduceBEq, reduceCtorEq, Int.reduceBNe, Int.reduceBEq, Int.reduceLT, Int.reduceLE, Int.reduceGT, Int.reduceGE, ne_eq, eq_self, hF])
    | ((with_reducible refine headW_go ?_); simp only [go_sem, ↓reduceIte, Nat.reduceEqDiff, Nat.reduceLT, Nat.reduceLeDiff, Nat.reduceAdd, Nat.reduceMul, Nat.reduceSub, Nat.reduceBEq, reduceCtorEq, Int.reduceBNe, Int.reduceBEq, Int.reduceLT, Int.reduceLE, Int.reduceGT, Int.reduceGE, ne_eq, eq_self, hF, hbx])
    | with_reducible refine awp_seq_k fun _ _ => ?_
    | (refine awp_draw' (id := 17) [] 17 (by kernel_rfl) (by kernel_rfl) rfl rfl (fun bx0 hbx => ?_); try dsimp only [List.take, List.drop])
    | with_reducible (first | refine awp_region [] ?_ | refine awp_block ?_)
    | go_step)

set_option maxHeartbeats 2000000 in
theorem sort0 (c : FuncId) : FnOK Try.prog 53 [.sl 5 [], .fnv c []] ⟨.tup [], none⟩ := by
  refine fn_ok Try.func53 (by kernel_rfl) rfl (by rw [Try.ntmps53]; exact of_decide_eq_true rfl) (fun F hF => ?_)
  rw [Try.ntmps53] at hF
  rw [Try.results53]
  repeat (first
    | (with_reducible (first | refine sops_go ?_ | refine headW_end ?_ | refine sops_end ?_ | refine awp_if ?_ | refine awp_skip ?_ | refine awp_ret ?_ | refine awp_exit ?_); simp only [go_sem, ↓reduceIte, Nat.reduceEqDiff, Nat.reduceLT, Nat.reduceLeDiff, Nat.reduceAdd, Nat.reduceMul, Nat.reduceSub, Nat.reduceBEq, reduceCtorEq, Int.reduceBNe, Int.reduceBEq, Int.reduceLT, Int.reduceLE, Int.reduceGT, Int.reduceGE, ne_eq, eq_self, hF])
    | with_reducible (first | refine awp_seq_k fun _ _ => ?_ | refine awp_region [] ?_ | refine awp_block ?_)
    | go_step)
  refine ⟨_, len_0, ?_⟩
  simp only [go_sem, ↓reduceIte, Nat.reduceEqDiff, Nat.reduceLT, Nat.reduceLeDiff, Nat.reduceAdd, Nat.reduceMul, Nat.reduceSub, Nat.reduceBEq, reduceCtorEq, Int.reduceBNe, Int.reduceBEq, Int.reduceLT, Int.reduceLE, Int.reduceGT, Int.reduceGE, ne_eq, eq_self, hF]
  repeat (first
    | (with_reducible (first | refine sops_go ?_ | refine headW_end ?_ | refine sops_end ?_ | refine awp_if ?_ | refine awp_skip ?_ | refine awp_ret ?_ | refine awp_exit ?_); simp only [go_sem, ↓reduceIte, Nat.reduceEqDiff, Nat.reduceLT, Nat.reduceLeDiff, Nat.reduceAdd, Nat.reduceMul, Nat.reduceSub, Nat.reduceBEq, reduceCtorEq, Int.reduceBNe, Int.reduceBEq, Int.reduceLT, Int.reduceLE, Int.reduceGT, Int.reduceGE, ne_eq, eq_self, hF])
    | with_reducible (first | refine awp_seq_k fun _ _ => ?_ | refine awp_region [] ?_ | refine awp_block ?_)
    | go_step)
  refine ⟨_, pdq_ok [] 0 0 c (by decide) (by decide), ?_⟩
  simp only [go_sem, ↓reduceIte, Nat.reduceEqDiff, Nat.reduceLT, Nat.reduceLeDiff, Nat.reduceAdd, Nat.reduceMul, Nat.reduceSub, Nat.reduceBEq, reduceCtorEq, Int.reduceBNe, Int.reduceBEq, Int.reduceLT, Int.reduceLE, Int.reduceGT, Int.reduceGE, ne_eq, eq_self, hF]
  repeat (first
    | (with_reducible (first | refine sops_go ?_ | refine headW_end ?_ | refine sops_end ?_ | refine awp_if ?_ | refine awp_skip ?_ | refine awp_ret ?_ | refine awp_exit ?_); simp only [go_sem, ↓reduceIte, Nat.reduceEqDiff, Nat.reduceLT, Nat.reduceLeDiff, Nat.reduceAdd, Nat.reduceMul, Nat.reduceSub, Nat.reduceBEq, reduceCtorEq, Int.reduceBNe, Int.reduceBEq, Int.reduceLT, Int.reduceLE, Int.reduceGT, Int.reduceGE, ne_eq, eq_self, hF])
    | with_reducible (first | refine awp_seq_k fun _ _ => ?_ | refine awp_region [] ?_ | refine awp_block ?_)
    | go_step)

end Go.Proofs.Ytkdigdnacggknaa
/- The sort of breaches, of whatever number, by hand: the library's contract over a list that the frame holds alone. -/
namespace Go.Proofs.Ytkdigdnacggknaa
open Go.RowKit
open Nd Rc Mo
open Av
open Go.Sort
set_option maxRecDepth 100000
theorem cmpI_zero {x y : Int} : cmpI x y = 0 ↔ x = y := by
  unfold cmpI; split
  · constructor <;> intro h <;> omega
  · split <;> constructor <;> intro h <;> omega
theorem cmpI_neg {x y : Int} : cmpI x y < 0 ↔ x < y := by
  unfold cmpI; split
  · constructor <;> intro h <;> omega
  · split <;> constructor <;> intro h <;> omega
theorem or_lex : ∀ {l m : List Int}, l.length = m.length → decide (orI (List.zipWith cmpI l m) < 0) = lexB l m
  | [], [], _ => rfl
  | [], _ :: _, h => by cases h
  | _ :: _, [], h => by cases h
  | x :: l, y :: m, h => by
    rw [List.zipWith_cons_cons]
    unfold orI lexB
    by_cases e : x = y
    · rw [if_pos (cmpI_zero.2 e), if_pos e]; exact or_lex (by simpa using h)
    · rw [if_neg (fun h => e (cmpI_zero.1 h)), if_neg e]
      exact decide_eq_decide.2 cmpI_neg
theorem lexB_ntrans {l m k : List Int} (h0 : l.length = m.length) (h1 : lexB l m = false) (h2 : lexB m k = false) : lexB l k = false := by
  by_cases e : l = m
  · rw [e]; exact h2
  · rw [Bool.eq_false_iff]
    intro h
    rw [lexB_trans (lexB_total h0 h1 e) h] at h2
    cases h2
def brCf (a b : Br) : Int := orI [cmpI a.fl b.fl, cmpI a.fr b.fr, cmpI a.fm b.fm, cmpI a.tt b.tt, cmpI (a.sl.headD 0) (b.sl.headD 0)]
theorem brCf_lt (a b : Br) : decide (brCf a b < 0) = a.lt b := or_lex (l := a.key) (m := b.key) rfl
theorem swo_br {α : Type} (f : α → Br) : SWO (ltOf fun i j => brCf (f i) (f j)) where
  irrefl x := by unfold ltOf; rw [brCf_lt]; exact lexB_irrefl _
  trans x y z h1 h2 := by unfold ltOf at *; rw [brCf_lt] at *; exact lexB_trans h1 h2
  ntrans x y z h1 h2 := by unfold ltOf at *; rw [brCf_lt] at *; exact lexB_ntrans (l := (f x).key) (m := (f y).key) rfl h1 h2
section
variable {α : Type} [Inhabited α]
theorem heap_sortK {w : World} {g k m : Nat} {os : Array Obj} {cur : Array Value} {e : TypeId} {fr : Nat × Nat} (enc : α → List Value) (d : Array α) (hb : w.heap[g]? = some (.cells cur e fr)) :
    (sortWorldK enc k w g 0 m d os).heap[g]? = some (.cells (putCells id 0 (flatK enc k d) cur) e fr) := by
  have hg : g < w.heap.size := (Array.getElem?_eq_some_iff.1 hb).1
  unfold sortWorldK putRowK
  rw [heap_grow_old _ _ (by simpa using hg)]
  simp [putRow, mapBlock, Sort.ahead, Array.getElem?_modify, hb, onCells]
theorem grownBy_sortK {w : World} {g k m : Nat} {os : Array Obj} (enc : α → List Value) (d : Array α) : w.grownBy (sortWorldK enc k w g 0 m d os) (some g) := by
  unfold sortWorldK putRowK
  refine ⟨rfl, rfl, rfl, by simp, fun j hj hne => ?_⟩
  rw [heap_grow_old _ _ (by simpa using hj)]
  have : g ≠ j := fun e => hne (by rw [e])
  simp [putRow, mapBlock, Sort.ahead, Array.getElem?_modify, this]
theorem put_get {cur F : Array Value} {j : Nat} (hj : j < F.size) (hs : F.size ≤ cur.size) : (putCells id 0 F cur)[j]? = some F[j]! := by
  have : j < cur.size := by omega
  simp [putCells, hj, this]
end
/-- The cells of a row of five. -/
theorem five {b : Br} {us : List Value} {R : Reader} (h : RepL R b.pv us) (hne : b.sl ≠ []) : ∃ g o n c, us = [.int .i64 b.fl, .int .i64 b.fr, .int .i64 b.fm, .int .i64 b.tt, .slice (some ⟨g, o, none⟩) (n + 1) c] ∧ R ⟨g, o, none⟩ = some (.int .i64 (b.sl.headD 0)) := by
  unfold Br.pv at h
  cases h with | cons h0 h =>
  cases h with | cons h1 h =>
  cases h with | cons h2 h =>
  cases h with | cons h3 h =>
  cases h with | cons h4 h =>
  cases h
  cases h0; cases h1; cases h2; cases h3
  generalize hp : PV.sl 1 (b.sl.map fun x => [ip x]) = p at h4
  cases h4 with
  | v => cases hp
  | sl sz rows A cap f hsz hA hf hc =>
    injection hp with e1 e2
    subst e1
    subst e2
    cases hs : b.sl with
    | nil => exact absurd hs hne
    | cons s l =>
      rw [hs] at hA hf
      rcases hA with hA | ⟨g, o, rfl, hr⟩
      · cases hA
      · have q1 := hr 0 [ip s] 0 (ip s) rfl rfl
        have q2 := hf 0 [ip s] 0 (ip s) rfl rfl
        have q3 : f 0 0 = .int .i64 s := (fun (u : Value) (h : RepP R (.v (.int .i64 s)) u) => show u = .int .i64 s by cases h; rfl) _ q2
        rw [q3] at q1
        refine ⟨g, o, l.length, cap, ?_, by simpa using q1⟩
        simp

section
variable {w : World} {R : Reader} {g m : Nat} {xs : List Value} {L : List Br}
theorem extract_all {α : Type} (a : Array α) (n : Nat) (h : a.size = n) : a.extract 0 n = a := by subst h; exact Array.extract_size
/-- Row i's cells. -/
def encB (xs : List Value) (m : Nat) (i : Fin (m + 1)) : List Value := (xs.drop (i.val * 5)).take 5
theorem encB_len (hx : xs.length = (m + 1) * 5) (i : Fin (m + 1)) : (encB xs m i).length = 5 := by
  have := i.isLt
  unfold encB; rw [List.length_take, List.length_drop, hx]; omega
theorem encB_get (i : Fin (m + 1)) {j : Nat} (hj : j < 5) : (encB xs m i)[j]? = xs[i.val * 5 + j]? := by
  unfold encB; rw [List.getElem?_take, if_pos hj, List.getElem?_drop]
def brOf (L : List Br) (hL : L.length = m + 1) (i : Fin (m + 1)) : Br := L[i.val]'(by have := i.isLt; omega)
theorem brOf_mem (hL : L.length = m + 1) (i : Fin (m + 1)) : brOf L hL i ∈ L := List.getElem_mem _
theorem pv_len (b : Br) : b.pv.length = 5 := rfl
theorem encB_rep (hL : L.length = m + 1) (hrd : RowsRd R 5 xs (L.map Br.pv)) (hx : xs.length = (m + 1) * 5) (i : Fin (m + 1)) : RepL R (brOf L hL i).pv (encB xs m i) := by
  have hk : (L.map Br.pv)[i.val]? = some (brOf L hL i).pv := by rw [List.getElem?_map, List.getElem?_eq_getElem (by have := i.isLt; omega)]; rfl
  refine RepL.of (by rw [encB_len hx, pv_len]) fun j p u hj hu => ?_
  have hj5 : j < 5 := by have := (List.getElem?_eq_some_iff.1 hj).1; rw [pv_len] at this; exact this
  obtain ⟨x, h1, h2⟩ := hrd.rd _ _ _ _ hk hj
  rw [encB_get i hj5] at hu
  rw [h1] at hu
  cases hu
  exact h2
def idxA (m : Nat) : Array (Fin (m + 1)) := Array.ofFn fun i => i
theorem idxA_size : (idxA m).size = m + 1 := by simp [idxA]
theorem idxA_get {j : Nat} (h : j < m + 1) : (idxA m)[j]! = ⟨j, h⟩ := by
  rw [getElem!_pos _ _ (by rw [idxA_size]; exact h)]; simp [idxA]
theorem idxA_map (hL : L.length = m + 1) : (idxA m).toList.map (brOf L hL) = L := by
  apply List.ext_getElem
  · simp [idxA, hL]
  · intro i h1 h2
    have e : (idxA m).toList[i]'(by rw [Array.length_toList, idxA_size]; omega) = ⟨i, by omega⟩ := by unfold idxA; rw [Array.getElem_toList, Array.getElem_ofFn]
    rw [List.getElem_map, e]
    rfl
theorem getB_of_some {l : List Value} {j : Nat} {u : Value} (h : l[j]? = some u) : l[j]! = u := by
  rw [List.getElem!_eq_getElem?_getD, h]; rfl
theorem flat_idx (hx : xs.length = (m + 1) * 5) {j : Nat} (hj : j < (m + 1) * 5) : some (flatK (encB xs m) 5 (idxA m))[j]! = xs[j]? := by
  rw [get_flatK _ _ _ _ (by rw [idxA_size]; exact hj), idxA_get (j := j / 5) (by omega)]
  have h1 : j % 5 < 5 := Nat.mod_lt _ (by decide)
  have h2 := encB_get (xs := xs) (m := m) ⟨j / 5, by omega⟩ h1
  have h3 : (⟨j / 5, by omega⟩ : Fin (m + 1)).val * 5 + j % 5 = j := by show j / 5 * 5 + j % 5 = j; omega
  rw [h3, List.getElem?_eq_getElem (l := xs) (i := j) (by omega)] at h2
  rw [getB_of_some h2, List.getElem?_eq_getElem (l := xs) (i := j) (by omega)]
theorem flatB_get (hx : xs.length = (m + 1) * 5) (d : Array (Fin (m + 1))) {k j : Nat} (hk : k < d.size) (hj : j < 5) : (flatK (encB xs m) 5 d).toList[k * 5 + j]? = xs[(d[k]!).val * 5 + j]? := by
  have hlt : k * 5 + j < d.size * 5 := by omega
  have e1 : (k * 5 + j) / 5 = k := by omega
  have e2 : (k * 5 + j) % 5 = j := by omega
  have hd := (d[k]!).isLt
  have h0 : (flatK (encB xs m) 5 d)[k * 5 + j]! = (encB xs m d[k]!)[j]! := by rw [get_flatK _ _ _ _ hlt, e1, e2]
  have h2 := encB_get (xs := xs) (m := m) d[k]! hj
  rw [List.getElem?_eq_getElem (l := xs) (by omega)] at h2
  rw [getB_of_some h2, getElem!_pos _ _ (by rw [size_flatK]; exact hlt)] at h0
  rw [Array.getElem?_toList, Array.getElem?_eq_getElem (by rw [size_flatK]; exact hlt), h0, List.getElem?_eq_getElem (by omega)]
end

set_option maxHeartbeats 2000000 in
theorem sort_any (L : List Br) (w : World) (g cap : Nat) (xs : List Value) (R : Reader) (hR : ∀ p v, R p = some v → w.cell? p = some v ∧ p.block ≠ g) (hrow : RowsOK w 70 5 (some g) (.slice (some ⟨g, 0, none⟩) L.length cap) xs L.length) (hrd : RowsRd R 5 xs (L.map Br.pv)) (hne : ∀ b ∈ L, b.sl ≠ []) (hn : L ≠ []) (hsz : L.length < 4611686018427387904) :
    Calls Try.prog 53 #[.slice (some ⟨g, 0, none⟩) L.length cap, .func (.func 54) #[] #[]] w fun e w' => e = .returned (.tuple #[]) ∧ w.grownBy w' (some g) ∧
      ∃ (L' : List Br) (xs' : List Value), L'.Perm L ∧ (L'.Pairwise fun a b => b.lt a = false) ∧ RowsOK w' 70 5 (some g) (.slice (some ⟨g, 0, none⟩) L.length cap) xs' L'.length ∧ RowsRd R 5 xs' (L'.map Br.pv) := by
  obtain ⟨m, hL⟩ : ∃ m, L.length = m + 1 := ⟨L.length - 1, by cases L with | nil => exact absurd rfl hn | cons => simp⟩
  have hx : xs.length = (m + 1) * 5 := by rw [hrow.len, hL]
  obtain ⟨cap', cur, e0, hb0, hg, hc1, hc2, hc3⟩ := hrow.own
  injection e0 with _ _ e0
  subst e0
  have hgl : g < w.heap.size := (Array.getElem?_eq_some_iff.1 hg).1
  have hfz : ∀ k, w.frozen? ⟨g, k, none⟩ = false := fun k => by simp [World.frozen?, hg]
  have hH : HoldsK (encB xs m) 5 w g 0 (idxA m) := fun j hj => by
    rw [size_flatK, idxA_size] at hj
    have h1 := flat_idx (xs := xs) (m := m) hx hj
    refine ⟨?_, by rw [Nat.zero_add]; exact hfz j⟩
    rw [Nat.zero_add]
    exact hrow.at_ g rfl j _ h1.symm
  have hone : ∀ i, ∀ v ∈ encB xs m i, v.oneCell' = true := fun i => (encB_rep hL hrd hx i).one
  have hcmp : CmpLays Try.prog 54 #[] (encB xs m) 5 (fun i j => brCf (brOf L hL i) (brOf L hL j)) g 0 (idxA m).size w := fun q os dk _ x y => by
    obtain ⟨b1, o1, n1, c1, e1, r1⟩ := five (encB_rep hL hrd hx x) (hne _ (brOf_mem hL x))
    obtain ⟨b2, o2, n2, c2, e2, r2⟩ := five (encB_rep hL hrd hx y) (hne _ (brOf_mem hL y))
    obtain ⟨s1, t1⟩ := hR _ _ r1
    obtain ⟨s2, t2⟩ := hR _ _ r2
    have hc : ∀ (p : Addr) v, w.cell? p = some v → p.block ≠ g → (sortWorldK (encB xs m) 5 w g 0 q dk os).cell? p = some v := fun p v h1 h2 =>
      (World.cell?_of_block (w := w) (a := p) ((grownBy_sortK (encB xs m) dk).block _ (World.block_lt_of_cell? w p h1) (fun e => h2 (by cases e; rfl)))).trans h1
    rw [e1, e2]
    exact brcmp_any _ _ _ _ _ _ _ _ _ _ b1 o1 n1 c1 b2 o2 n2 c2 _ (hc _ _ s1 t1) (hc _ _ s2 t2)
  have eg : ∀ args w, (callFunc 54 args).run Try.prog w = .ok (.enter 54 args) w := enters_of Try.func54 (by kernel_rfl) rfl
  have hcon := AnyQ.slices_SortFunc Try.sortBr 5 Try.isAgg70 Try.sizeOf70 (encB xs m) (encB_len hx) hone (fun i j => brCf (brOf L hL i) (brOf L hL j)) (swo_br (brOf L hL)) 54 #[] g 0 cap (idxA m) w eg hcmp hH hgl (by rw [idxA_size]; omega)
  rw [idxA_size] at hcon
  rw [hL]
  refine hcon.mono ?_
  rintro e w' ⟨rfl, d', q, os, ⟨hp1, _, hp2⟩, hs, rfl⟩
  refine ⟨rfl, grownBy_sortK _ _, d'.toList.map (brOf L hL), (flatK (encB xs m) 5 d').toList, ?_, ?_, ?_, ?_⟩
  · have h1 : d'.size = m + 1 := by rw [hp1, idxA_size]
    have h2 : d'.extract 0 (m + 1) = d' := extract_all _ _ h1
    have h3 : (idxA m).extract 0 (m + 1) = idxA m := extract_all _ _ idxA_size
    rw [h2, h3] at hp2
    have h4 := hp2.map (brOf L hL)
    rw [idxA_map hL] at h4
    exact h4
  · have h1 : d'.size = m + 1 := by rw [hp1, idxA_size]
    rw [List.pairwise_map, List.pairwise_iff_getElem]
    intro i j hi hj hij
    rw [Array.length_toList] at hi hj
    have h2 := hs i j (Nat.zero_le _) hij (by omega)
    unfold ltOf at h2
    rw [brCf_lt, getElem!_pos d' i hi, getElem!_pos d' j hj] at h2
    simpa using h2
  · have h1 : d'.size = m + 1 := by rw [hp1, idxA_size]
    have hlen : (d'.toList.map (brOf L hL)).length = m + 1 := by rw [List.length_map, Array.length_toList, h1]
    rw [hlen]
    refine ⟨?_, by rw [Array.length_toList, size_flatK, h1], fun g' hg' j u hu => ?_⟩
    · rw [hL] at hc1
      exact ⟨cap, _, rfl, hb0, heap_sortK _ _ hg, hc1, hc2, by simp [putCells, hc3]⟩
    · cases hg'
      have hj : j < (flatK (encB xs m) 5 d').size := by have := (List.getElem?_eq_some_iff.1 hu).1; rwa [Array.length_toList] at this
      rw [Array.getElem?_toList] at hu
      have hcs : (flatK (encB xs m) 5 d').size ≤ cur.size := by rw [size_flatK, h1, hc3, ← hL]; exact Nat.mul_le_mul_right _ hc1
      rw [cell_of_row _ g j _ _ (0, 0) (heap_sortK _ _ hg), put_get hj hcs, ← hu, getElem!_pos (flatK (encB xs m) 5 d') j hj, Array.getElem?_eq_getElem hj]
  · refine ⟨fun k row hk => ?_, fun k row j p hk hj => ?_⟩
    · rw [List.getElem?_map] at hk
      obtain ⟨b, _, rfl⟩ := Option.map_eq_some_iff.1 hk
      rfl
    · rw [List.getElem?_map, List.getElem?_map] at hk
      obtain ⟨b, hb, rfl⟩ := Option.map_eq_some_iff.1 hk
      obtain ⟨i, hi, rfl⟩ := Option.map_eq_some_iff.1 hb
      rw [Array.getElem?_toList] at hi
      obtain ⟨hk1, hi2⟩ := Array.getElem?_eq_some_iff.1 hi
      have hj5 : j < 5 := by have := (List.getElem?_eq_some_iff.1 hj).1; rw [pv_len] at this; exact this
      have hk2 : (L.map Br.pv)[i.val]? = some (brOf L hL i).pv := by rw [List.getElem?_map, List.getElem?_eq_getElem (by have := i.isLt; omega)]; rfl
      obtain ⟨x, h2, h3⟩ := hrd.rd _ _ _ _ hk2 hj
      refine ⟨x, ?_, h3⟩
      rw [flatB_get hx d' hk1 hj5, getElem!_pos d' k hk1, hi2]
      exact h2

section
variable {n d : Nat} {σ : Av.St} {o : Oper} {K : Av.St → Prop}
/-- The sort, by hand. -/
theorem hand_sortBr {x : Operand} {ats : Array TypeId} {E0 : Ext} {q : Option Nat} {V : Value} {xs : List Value} {L : List Br} (ho : o.op = .call { callee := .value (.func 53), args := #[x, .func 54], argTypes := ats }) (hd : o.dst = some d) (hdn : d < n)
    (hE : σ.ext = E0.and (rowsE 70 5 q V xs (L.map Br.pv))) (hx : evo (Av.look σ.slot) x = some (.v V)) (hne : ∀ b ∈ L, b.sl ≠ []) (hsz : L.length ≤ 1000000000)
    (h : ∀ (L' : List Br) (xs' : List Value), L'.Perm L → (L'.Pairwise fun a b => b.lt a = false) → K (({ σ with ext := E0.and (rowsE 70 5 q V xs' (L'.map Br.pv)) } : Av.St).put d (.tup []))) : Hand Try.prog n σ o K := by
  refine hand_call hd fun F γ a w hF hr => ?_
  have hext := hr.exth
  rw [hE] at hext
  obtain ⟨h0, hrow, hdis⟩ := hext
  have hrd := hr.extr
  rw [hE] at hrd
  have hrow : RowsOK w 70 5 q V xs (L.map Br.pv).length := hrow
  rw [List.length_map] at hrow
  have eV : a.eval x = V := eval_raw hr hx
  have hfoot : ∀ b, q = some b → F.w0.heap.size ≤ b ∧ b < w.heap.size := fun b hb => ⟨(hr.extf b (.inl (by rw [hE]; exact .inr hb))).1, (hr.extf b (.inl (by rw [hE]; exact .inr hb))).2.1⟩
  refine ⟨53, #[a.eval x, .func (.func 54) #[] #[]], ?_, ?_⟩
  · have henter : Av.Enters Try.prog 53 := ⟨Try.f53, _, Try.func53, by kernel_rfl, rfl⟩
    have hf : ∀ k, a.eval (.func k) = .func (.func k) #[] #[] := fun _ => rfl
    simp [execOp, ho, resolve, hf, Deferred.ofValue, invoke, run_callFunc henter]
  rw [eV]
  by_cases hL : L = []
  · subst hL
    have hrep : ∀ R : Reader, RepAL R [.sl 5 [], .fnv 54 []] [V, .func (.func 54) #[] #[]] := fun R => by
      have hV : RepP R (.sl 5 []) V := by
        have mk : ∀ A c, RepP R (.sl 5 []) (.slice A 0 c) := fun A c => .sl 5 [] A c (fun _ _ => undef) (fun k row hk => by simp at hk) (.inl rfl) (fun k row _ _ hk => by simp at hk) (Nat.zero_le _)
        have ho := hrow.own
        cases q with
        | none => rw [ho.1]; exact mk _ _
        | some g => obtain ⟨cap, cur, h1, _⟩ := ho; rw [h1]; exact mk _ _
      exact .cons hV rfl (.cons ⟨[], rfl, .nil⟩ rfl .nil)
    refine ((sort0 54).2 w (fun p => w.cell? p) (fun _ _ h => h) _ (hrep _)).mono ?_
    rintro e w1 ⟨u, rfl, hb, hres⟩
    have hu : u = .tuple #[] := by
      obtain ⟨_, h1⟩ := hres
      obtain ⟨us, rfl, h2⟩ := h1
      cases h2; rfl
    have hg := hr.grow hb
    refine ⟨u, _, γ, rfl, h [] xs (List.Perm.refl _) List.Pairwise.nil, ?_⟩
    have : ({ σ with ext := E0.and (rowsE 70 5 q V xs (([] : List Br).map Br.pv)) } : Av.St) = σ := by rw [← hE]
    rw [this]
    exact hg.put (by rw [hF]; exact hdn) (x := .tup []) ⟨[], hu, .nil⟩ (fun k hk => by cases hk)
  · obtain ⟨g, hq⟩ : ∃ g, q = some g := by
      cases q with
      | some g => exact ⟨g, rfl⟩
      | none =>
        have := hrow.own.2
        exact absurd (List.eq_nil_of_length_eq_zero this) hL
    subst hq
    obtain ⟨cap, hV⟩ : ∃ cap, V = .slice (some ⟨g, 0, none⟩) L.length cap := by
      obtain ⟨cap, cur, h1, _⟩ := hrow.own
      exact ⟨cap, h1⟩
    subst hV
    obtain ⟨f1, f2⟩ := hfoot g rfl
    have hR : ∀ p v, rdr F.R0 F.w0.heap.size σ γ w p = some v → w.cell? p = some v ∧ p.block ≠ g := fun p v hp => by
      refine ⟨hr.cell hp, fun e => ?_⟩
      unfold rdr at hp
      rw [if_neg (by omega), if_pos (.inr (.inr (by rw [hE]; exact .inr (by rw [e]; rfl))))] at hp
      cases hp
    refine (sort_any L w g cap xs _ hR hrow hrd.2 hne hL (by omega)).mono ?_
    rintro e w1 ⟨rfl, hgr, L', xs', hp, hs, hrow', hrd'⟩
    have hl : L'.length = L.length := hp.length_eq
    refine ⟨_, _, γ, rfl, h L' xs' hp hs, Rel.put ?_ (by rw [hF]; exact hdn) (x := .tup []) ⟨[], rfl, .nil⟩ (fun k hk => by cases hk)⟩
    refine hr.turnR ?_ fun R hRR hrdR => ?_
    · rw [hE]
      refine Turn.mute_right (Turn.right (fun b hb => (hr.extf b (by rw [hE]; exact hb.elim (fun h => .inl (.inl h)) (fun h => .inr (.inl h)))).2.1) ⟨h0, (show RowsOK w _ 5 (some g) _ xs (L.map Br.pv).length by rw [List.length_map]; exact hrow), hdis⟩ ⟨hgr.os, hgr.tape, hgr.output, hgr.size, fun k hk hn => hgr.block k hk (fun e => hn (by cases e; rfl)), ?_, fun b hb => .inl hb, fun b hb => hb.elim, fun _ h => h, fun _ _ => trivial⟩)
      show RowsOK w1 _ 5 (some g) _ xs' (L'.map Br.pv).length
      rw [List.length_map]; exact hrow'
    · rw [hE] at hrdR
      refine ⟨hrdR.1, hrd'.len, fun k row j p hk hj => ?_⟩
      obtain ⟨x, h1, h2⟩ := hrd'.rd k row j p hk hj
      exact ⟨x, h1, h2.mono hRR⟩
end
end Go.Proofs.Ytkdigdnacggknaa

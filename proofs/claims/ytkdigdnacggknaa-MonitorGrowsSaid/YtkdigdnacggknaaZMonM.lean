import Derived.Maps.OwnRows
import Derived.Maps.GroupsBeside
import Derived.Maps.OwnOps
import Derived.Maps.Views
import Derived.DeepKeys4
import Derived.WideKeyEntry
import Derived.Test.YtkdigdnacggknaaZNodP
import Derived.Test.YtkdigdnacggknaaZNod1
/- Maps of frames: to each flow and frame the slots of its deliveries; a map that the call makes. -/
namespace Go.Proofs.Ytkdigdnacggknaa
open Go.RowKit Go.WideMaps Go.Maps Go.ChangeShapes
open Go.Maps (Keyed)

theorem Try.kLaid : laidOutB Try.prog = true := by kernel_rfl
theorem Try.kRow : (93 : TypeId) < Try.prog.types.size := of_decide_eq_true (by kernel_rfl)
theorem Try.kKeyed : Keyed Try.prog 93 := Keyed.of_law (deep_law_laid Try.kLaid (m := 2) (by omega) Try.kRow (by kernel_rfl) (by rw [Try.underlying93]))
theorem pos_succ {a n : Nat} (h : a < n) : ∃ m, n = m + 1 := ⟨n - 1, by omega⟩
theorem Try.kTypes : ∃ m, Try.prog.types.size = m + 1 := pos_succ Try.kRow
theorem Try.kType : Try.prog.keyType 93 = true := by kernel_rfl
theorem Try.kCells : Try.prog.cellsOf 93 = 2 := by kernel_rfl
theorem Try.kOne : Try.prog.cellsOf 3 = 1 := by kernel_rfl
theorem Try.sZero (w : World) : (zeroValue 42).run Try.prog w = .ok (.slice none 0 0) w := by kernel_rfl

/-- A number that an int holds. -/
def Num64 (a : Int) : Prop := (Lit.int .i64 a).wf = true
theorem num64_of {a : Int} (h : -9223372036854775808 ≤ a ∧ a ≤ 9223372036854775807) : Num64 a := by
  have h1 : IntKind.i64.min = -9223372036854775808 := by decide
  have h2 : IntKind.i64.max = 9223372036854775807 := by decide
  simp only [Num64, Lit.wf, Bool.and_eq_true, decide_eq_true_eq, h1, h2]
  exact h
def frKey (a b : Int) : Lit := .string (keyBytes [.int .i64 a, .int .i64 b])
theorem keyOf_fr {a b : Int} (ha : Num64 a) (hb : Num64 b) : keyOf Try.prog 93 (.agg #[.int .i64 a, .int .i64 b]) = some (frKey a b) := by
  obtain ⟨m, hm⟩ := Try.kTypes
  unfold keyOf
  simp only [Try.underlying93]
  rw [if_pos (by simp [Try.kType, Value.formed, Try.underlying93, Try.kCells]), hm]
  unfold Program.keyLits
  simp only [Try.underlying93, Value.cells, Try.kCells]
  have h64a : (Lit.int .i64 a).wf = true := ha
  have h64b : (Lit.int .i64 b).wf = true := hb
  cases m with
  | zero => exact absurd hm (by intro h; have := Try.kRow; rw [h] at this; revert this; decide)
  | succ m => simp [Program.keyLits, Try.underlying3, Try.kOne, h64a, h64b, frKey]
theorem frKey_inj {a b c d : Int} (ha : Num64 a) (hb : Num64 b) (hc : Num64 c) (hd : Num64 d) (h : frKey a b = frKey c d) : a = c ∧ b = d := by
  have h1 := keyOf_fr ha hb
  have h2 := keyOf_fr hc hd
  rw [← h] at h2
  have := Try.kKeyed.inj h1 h2
  simpa using this

/-- How a list of numbers reads. -/
def gd (zs : List Int) : DataW Unit := if zs = [] then .nil else .slice (lits .i64 zs) []
/-- Block b is a map that holds the list G a c at the frame c of flow a. -/
def OwnsGr (w : World) (base b n : Nat) (G : Int → Int → List Int) : Prop :=
  ∃ D : DataW Unit, w.ownsGroups Try.prog 93 base 3 .i64 b n D ∧ Go.Maps.IsMap D ∧ ∀ a c, Num64 a → Num64 c → D.atKey (frKey a c) .nil = gd (G a c)
theorem OwnsGr.made (w : World) : OwnsGr (w.alloc (.map #[] 0)) (w.heap.size + 1) w.heap.size 0 (fun _ _ => []) :=
  ⟨.map [], World.ownsGroups_made w _ _ _ _, Go.Maps.isMap_empty, fun a c _ _ => by simp [DataW.atKey, gd]⟩
theorem OwnsGr.below {w w' : World} {base b n : Nat} {G : Int → Int → List Int} (h : OwnsGr w base b n G) (hb : Below w.heap.size w w') : OwnsGr w' base b n G := by
  obtain ⟨D, h1, h2⟩ := h
  exact ⟨D, h1.kept (row := none) ⟨hb.os, hb.tape, hb.output, hb.size, fun i hi _ => hb.block i hi⟩ (by simp) (fun es clock _ x _ => by cases x.val.ownBlock <;> simp), h2⟩
theorem lits_inj {zs ys : List Int} (h : lits .i64 zs = (lits .i64 ys : List (DataW Unit))) : zs = ys := by
  unfold lits at h
  exact (List.map_inj_right (fun a b hab => by cases hab; rfl)).1 h
theorem gd_row {v : Value} {zs ys : List Int} {w : World} {base : Nat} {e : TypeId} (ho : w.ownsInts base e .i64 v zs) (h : rowDatum .i64 v zs = gd ys) : zs = ys := by
  rcases ho.1.2 with ⟨rfl, h0⟩ | ⟨g, cap, cur, rfl, _⟩
  · have hz : zs = [] := List.eq_nil_of_length_eq_zero h0
    unfold gd at h
    split at h
    · rw [hz]; exact Eq.symm ‹_›
    · simp [rowDatum] at h
  · unfold gd at h
    split at h
    · simp [rowDatum] at h
    · simp only [rowDatum, DataW.slice.injEq, and_true] at h
      exact lits_inj h
theorem OwnsGr.look {w : World} {base b n : Nat} {G : Int → Int → List Int} (h : OwnsGr w base b n G) (hn : n < maxLen) {a c : Int} (ha : Num64 a) (hc : Num64 c) :
    ∃ v, (Instr.lookup 87 (.map (some b)) (.agg #[.int .i64 a, .int .i64 c]) false).run Try.prog w = .ok v w ∧ w.ownsInts base 3 .i64 v (G a c) := by
  obtain ⟨D, h1, _, h3⟩ := h
  obtain ⟨v, zs, hrun, hat, ho, _, _⟩ := h1.at Try.kKeyed Try.underlying87 (Try.sZero w) hn (keyOf_fr ha hc)
  rw [h3 a c ha hc] at hat
  have := gd_row ho hat.symm
  subst this
  exact ⟨v, hrun, ho⟩
theorem flatI_map (l : List Int) : flatI l = l.map (Value.int .i64) := by
  unfold flatI
  induction l with
  | nil => rfl
  | cons x l ih => simp [irow, ih]
end Go.Proofs.Ytkdigdnacggknaa
/- 'm[k] = append(m[k], v)' on a map of frames: the entry, the append, the store. -/
namespace Go.Proofs.Ytkdigdnacggknaa
open Go.RowKit Go.WideMaps Go.Maps Go.WideElems Go.ChangeMaps
open Go.Maps (Keyed)

theorem Try.kLaw : KeyLaw Try.prog 93 := deep_law_laid Try.kLaid (m := 2) (by omega) Try.kRow (by kernel_rfl) (by rw [Try.underlying93])

section
variable {H : Type} {P : Program} {w w' : World} {t k e : TypeId} {R : Value → Option (DataW H × List MemPlace)} {b : Nat} {es : Array MapEntry} {clock : Nat}
theorem setBlock_inj {o o' : Obj} (hb : b < w.heap.size) (h : setBlock w b o = setBlock w b o') : o = o' := by
  have h1 := congrArg (fun w : World => w.heap[b]?) h
  simpa [setBlock, hb] using h1
/-- A store into a map hangs on the map's block alone. -/
theorem update_same (K : KeyLaw P k) (ht : P.underlying t = some (.map k e)) (hb : w.heap[b]? = some (.map es clock)) (hb' : w'.heap[b]? = some (.map es clock)) (F : Fit P k R es clock)
    {key val : Value} {kl : Lit} (hkey : keyOf P k key = some kl) {o : Obj} (h : (Instr.mapUpdate t (.map (some b)) key val).run P w = .ok () (setBlock w b o)) :
    (Instr.mapUpdate t (.map (some b)) key val).run P w' = .ok () (setBlock w' b o) := by
  obtain ⟨_, _, s3⟩ := F.stamped
  have hlt : b < w.heap.size := (Array.getElem?_eq_some_iff.1 hb).1
  have none_ : ∀ (u : World), u.heap[b]? = some (.map es clock) → (Instr.findKey k key es.toList).run P u = .ok none u → (Instr.mapUpdate t (.map (some b)) key val).run P u = .ok () (setBlock u b (.map (es.push ⟨key, val, clock⟩) (clock + 1))) := fun u hu h1 => by
    simp [Instr.mapUpdate, run_underlying ht, MapKept.run_getObj_map hu, K.check u false hkey, h1, MapKept.run_setObj_map _ hu, Result.andThen, setBlock]
  have some_ : ∀ (u : World) (j : Nat) (e0 : MapEntry), u.heap[b]? = some (.map es clock) → (Instr.findKey k key es.toList).run P u = .ok (some (j, e0.val)) u → es.toList[j]? = some e0 → e0.key = key → (Instr.mapUpdate t (.map (some b)) key val).run P u = .ok () (setBlock u b (.map (es.modify j (fun e' => { e' with key := key, val := val })) clock)) := fun u j e0 hu h1 h2 h3 => by
    have hj : es[j]? = some e0 := by simpa using h2
    simp [Instr.mapUpdate, run_underlying ht, MapKept.run_getObj_map hu, K.check u false hkey, h1, hj, h3, K.stays u hkey, MapKept.run_setObj_map _ hu, Result.andThen, setBlock]
  have out : ∀ {o' : Obj}, (Instr.mapUpdate t (.map (some b)) key val).run P w = .ok () (setBlock w b o') → o' = o := fun h' => by
    rw [h] at h'
    injection h' with _ h'
    exact (setBlock_inj hlt h').symm
  rcases K.find w hkey es.toList F.keys with ⟨h1, h2⟩ | ⟨j, e0, h1, h2, h3⟩
  · rcases K.find w' hkey es.toList F.keys with ⟨h1', _⟩ | ⟨j', e0', _, h2', h3'⟩
    · rw [none_ w' hb' h1', out (none_ w hb h1)]
    · exact absurd h3' (h2 e0' (List.mem_of_getElem? h2'))
  · rcases K.find w' hkey es.toList F.keys with ⟨_, h2'⟩ | ⟨j', e0', h1', h2', h3'⟩
    · exact absurd h3 (h2' e0 (List.mem_of_getElem? h2))
    · have hjj : j = j' := by
        obtain ⟨a1, a2⟩ := List.getElem?_eq_some_iff.1 h2
        obtain ⟨b1, b2⟩ := List.getElem?_eq_some_iff.1 h2'
        have hnd := List.pairwise_iff_getElem.1 (List.nodup_iff_pairwise_ne.1 s3)
        rcases Nat.lt_trichotomy j j' with hlt | heq | hgt
        · exact (hnd j j' (by simpa using a1) (by simpa using b1) hlt (by simp [a2, b2, h3, h3'])).elim
        · exact heq
        · exact (hnd j' j (by simpa using b1) (by simpa using a1) hgt (by simp [a2, b2, h3, h3'])).elim
      subst hjj
      rw [some_ w' j e0' hb' h1' h2' h3', out (some_ w j e0 hb h1 h2 h3)]
end

/-- The list at one frame is turned. -/
def updG (G : Int → Int → List Int) (a c : Int) (zs : List Int) : Int → Int → List Int := fun x y => if x = a ∧ y = c then zs else G x y
theorem OwnsGr.entry {w : World} {base b n : Nat} {G : Int → Int → List Int} (h : OwnsGr w base b n G) (hn : n < maxLen) {a c : Int} (ha : Num64 a) (hc : Num64 c) :
    ∃ v w1 st, (Instr.mapEntry 87 (.map (some b)) (.agg #[.int .i64 a, .int .i64 c])).run Try.prog w = .ok (.tuple #[v, goInt (st : Nat)]) w1 ∧ w.grownBy w1 (some b) ∧ w1.heap.size = w.heap.size ∧ w1.ownsInts base 3 .i64 v (G a c) ∧ (G a c).length ≤ n ∧
      ∀ (w2 : World) (v' : Value) (zs' : List Int), w1.grownBy w2 v.ownBlock → w2.ownsInts base 3 .i64 v' zs' → zs' ≠ [] → zs'.length ≤ n + 1 → (v'.ownBlock = v.ownBlock ∨ ∃ g, v'.ownBlock = some g ∧ w.heap.size ≤ g) →
        ∃ w3, (Instr.entryStore 87 (.map (some b)) (goInt (st : Nat)) v').run Try.prog w2 = .ok () w3 ∧ OwnsGr w3 base b (n + 1) (updG G a c zs') ∧ w2.grownBy w3 (some b) := by
  obtain ⟨D, h1, hm, h3⟩ := h
  have hkey := keyOf_fr ha hc
  obtain ⟨v, zs, hlook, hat, hoi, hzl, hback⟩ := h1.at Try.kKeyed Try.underlying87 (Try.sZero w) hn hkey
  rw [h3 a c ha hc] at hat
  have hzs := gd_row hoi hat.symm
  subst hzs
  obtain ⟨es, clock, hb, F, hs, hD, hbb, hlen, hap⟩ := h1
  have hlt : b < w.heap.size := (Array.getElem?_eq_some_iff.1 hb).1
  obtain ⟨v0, st, es1, clock1, hent, hv0, hst⟩ := entry_then_store Try.kLaw Try.underlying87 (fun u => Try.sZero u) hb F hkey
  have hbw : ∀ (u : World) (o : Obj), b < u.heap.size → u.grownBy (setBlock u b o) (some b) := fun u o hu => ⟨rfl, rfl, rfl, by simp [setBlock], fun i _ hi => by
    have : b ≠ i := fun e => hi (by rw [e])
    simp [setBlock, this]⟩
  -- the value that the entry hands over is the look-up's
  have hv : v0 = v := by
    rcases Maps.fit_look false Try.kKeyed Try.underlying87 (Try.sZero w) hb F hkey with ⟨hrun, hno, _⟩ | ⟨e0, y, hm0, hk0, hrun, _, _, _⟩
    · have e1 : v = .slice none 0 0 := by rw [hlook] at hrun; injection hrun
      rcases hv0 with ⟨x, hx, hxk, _⟩ | ⟨_, hz⟩
      · exact absurd hxk (hno x hx)
      · rw [hz, e1]
    · have e1 : v = e0.val := by rw [hlook] at hrun; injection hrun
      rcases hv0 with ⟨x, hx, hxk, hxv⟩ | ⟨hno, _⟩
      · obtain ⟨_, _, s3⟩ := F.stamped
        obtain ⟨i, hi, hxi⟩ := List.getElem_of_mem hx
        obtain ⟨j, hj, hej⟩ := List.getElem_of_mem hm0
        have hnd := List.pairwise_iff_getElem.1 (List.nodup_iff_pairwise_ne.1 s3)
        have : i = j := by
          rcases Nat.lt_trichotomy i j with hlt | heq | hgt
          · exact (hnd i j (by simpa using hi) (by simpa using hj) hlt (by simp [hxi, hej, hxk, hk0])).elim
          · exact heq
          · exact (hnd j i (by simpa using hj) (by simpa using hi) hgt (by simp [hxi, hej, hxk, hk0])).elim
        subst this
        rw [hxv, e1, ← hxi, hej]
      · exact absurd hk0 (hno e0 hm0)
  subst hv
  have hvb : v0.ownBlock ≠ some b := fun e => by
    have := (hoi.1.lt b e).1
    omega
  refine ⟨v0, _, st, hent, hbw w _ hlt, by simp [setBlock], hoi.kept (hbw w _ hlt) (.inr hvb), hzl, fun w2 v' zs' hg ho' hne hl' hloc => ?_⟩
  have hw2b : w2.heap[b]? = some (.map es1 clock1) := by
    rw [hg.block b (by simp [setBlock]; exact hlt) (fun e => hvb e.symm)]
    simp [setBlock, hlt]
  have hlt2 : b < w2.heap.size := (Array.getElem?_eq_some_iff.1 hw2b).1
  obtain ⟨es', clock', hstore, hupd⟩ := hst w2 v' hw2b
  -- the world w2 with the old map in it
  obtain ⟨u, hu⟩ : ∃ u, u = setBlock w2 b (.map es clock) := ⟨_, rfl⟩
  have hub : u.heap[b]? = some (.map es clock) := by rw [hu]; simp [setBlock, hlt2]
  have hwu : w.grownBy u v0.ownBlock := by
    refine ⟨by rw [hu]; exact hg.os, by rw [hu]; exact hg.tape, by rw [hu]; exact hg.output, by rw [hu]; have := hg.size; simpa [setBlock] using this, fun i hi hio => ?_⟩
    by_cases hib : i = b
    · subst hib; rw [hub, hb]
    · have h5 : u.heap[i]? = w2.heap[i]? := by rw [hu]; simp [setBlock, Ne.symm hib]
      rw [h5, hg.block i (by simpa [setBlock] using hi) hio]
      simp [setBlock, Ne.symm hib]
  have huo : u.ownsInts base 3 .i64 v' zs' := by
    rw [hu]
    refine ho'.kept (hbw w2 _ hlt2) ?_
    cases hvo : v'.ownBlock with
    | none => exact .inl rfl
    | some g =>
      refine .inr (fun e => ?_)
      injection e with e
      have := (ho'.1.lt g hvo).1
      omega
  obtain ⟨u2, hrun2, hown2, hgr2⟩ := hback u v' zs' hwu huo hl' hloc
  have hupd2 := update_same Try.kLaw Try.underlying87 hb hub F hkey hupd
  rw [hrun2] at hupd2
  injection hupd2 with _ hupd2
  have hfin : u2 = setBlock w2 b (.map es' clock') := by rw [hupd2, hu]; simp [setBlock]
  rw [hfin] at hown2
  refine ⟨_, hstore, ⟨_, hown2, hm.put _ _, fun x y hx hy => ?_⟩, hbw w2 _ hlt2⟩
  have hgd : rowDatum (H := Unit) .i64 v' zs' = gd zs' := by
    unfold gd
    rw [if_neg hne]
    rcases ho'.1.2 with ⟨_, h0⟩ | ⟨g, cap, cur, rfl, _⟩
    · exact absurd (List.eq_nil_of_length_eq_zero h0) hne
    · rfl
  by_cases e : frKey x y = frKey a c
  · obtain ⟨e1, e2⟩ := frKey_inj hx hy ha hc e
    subst e1 e2
    rw [Go.Maps.atKey_put_same hm (by trivial)]
    simp [updG, hgd]
  · rw [Go.Maps.atKey_put_other e, h3 x y hx hy]
    have hne : ¬ (x = a ∧ y = c) := fun ⟨e1, e2⟩ => e (by rw [e1, e2])
    simp [updG, hne]
end Go.Proofs.Ytkdigdnacggknaa

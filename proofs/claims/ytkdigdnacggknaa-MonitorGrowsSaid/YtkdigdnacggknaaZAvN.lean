import Derived.WideMake
import Derived.Test.YtkdigdnacggknaaZAvF
/- Abstract states: maps that the frame holds besides. Generic. -/
namespace Go.Proofs.Ytkdigdnacggknaa
open Go.RowKit Go.Maps
open Go.Maps (Keyed)
namespace Av

/-- All blocks of it. -/
def Ext.all (A : Ext) (b : Nat) : Prop := A.foot b ∨ A.froz b
def Ext.and (A B : Ext) : Ext where
  foot b := A.foot b ∨ B.foot b
  froz b := A.froz b ∨ B.froz b
  holds w := A.holds w ∧ B.holds w ∧ ∀ b, A.all b → ¬ B.all b
  stable h hw := ⟨A.stable (fun b hb => h b (hb.elim (fun h => .inl (.inl h)) (fun h => .inr (.inl h)))) hw.1, B.stable (fun b hb => h b (hb.elim (fun h => .inl (.inr h)) (fun h => .inr (.inr h)))) hw.2.1, hw.2.2⟩
theorem Turn.all {A A' : Ext} {w w1 : World} (ht : Turn A w w1 A') {b : Nat} (hb : A'.all b) : A.all b ∨ (w.heap.size ≤ b ∧ b < w1.heap.size) := by
  rcases hb with hb | hb
  · exact (ht.foot b hb).elim (fun h => .inl (.inl h)) .inr
  · exact (ht.froz b hb).elim (fun h => .inl (.inl h)) (fun h => h.elim (fun h => .inl (.inr h)) .inr)
theorem Turn.left {A A' B : Ext} {w w1 : World} (hl : ∀ b, B.all b → b < w.heap.size) (hh : (A.and B).holds w) (ht : Turn A w w1 A') : Turn (A.and B) w w1 (A'.and B) := by
  obtain ⟨_, h2, h3⟩ := hh
  have hk : ∀ b, B.all b → ¬ A.foot b := fun b hb ha => h3 b (.inl ha) hb
  refine ⟨ht.os, ht.tape, ht.output, ht.size, fun k hk' hn => ht.block k hk' (fun ha => hn (.inl ha)), ⟨ht.holds, B.stable (fun b hb => ht.block b (hl b hb) (hk b hb)) h2, fun b ha hb => ?_⟩, fun b hb => ?_, fun b hb => ?_⟩
  · rcases ht.all ha with h | h
    · exact h3 b h hb
    · have := hl b hb; omega
  · rcases hb with hb | hb
    · rcases ht.foot b hb with h | h
      · exact .inl (.inl h)
      · exact .inr h
    · exact .inl (.inr hb)
  · rcases hb with hb | hb
    · rcases ht.froz b hb with h | h | h
      · exact .inl (.inl h)
      · exact .inr (.inl (.inl h))
      · exact .inr (.inr h)
    · exact .inr (.inl (.inr hb))
theorem Turn.right {A B B' : Ext} {w w1 : World} (hl : ∀ b, A.all b → b < w.heap.size) (hh : (A.and B).holds w) (ht : Turn B w w1 B') : Turn (A.and B) w w1 (A.and B') := by
  obtain ⟨h1, _, h3⟩ := hh
  have hk : ∀ b, A.all b → ¬ B.foot b := fun b ha hb => h3 b ha (.inl hb)
  refine ⟨ht.os, ht.tape, ht.output, ht.size, fun k hk' hn => ht.block k hk' (fun ha => hn (.inr ha)), ⟨A.stable (fun b hb => ht.block b (hl b hb) (hk b hb)) h1, ht.holds, fun b ha hb => ?_⟩, fun b hb => ?_, fun b hb => ?_⟩
  · rcases ht.all hb with h | h
    · exact h3 b ha h
    · have := hl b ha; omega
  · rcases hb with hb | hb
    · exact .inl (.inl hb)
    · rcases ht.foot b hb with h | h
      · exact .inl (.inr h)
      · exact .inr h
  · rcases hb with hb | hb
    · exact .inr (.inl (.inl hb))
    · rcases ht.froz b hb with h | h | h
      · exact .inl (.inr h)
      · exact .inr (.inl (.inr h))
      · exact .inr (.inr h)
/-- Something new besides. -/
theorem Turn.more {A B : Ext} {w w1 : World} (hl : ∀ b, A.all b → b < w.heap.size) (hh : A.holds w) (ht : Turn Ext.nil w w1 B) : Turn A w w1 (A.and B) := by
  have hB : ∀ b, B.all b → w.heap.size ≤ b ∧ b < w1.heap.size := fun b hb => (ht.all hb).resolve_left (fun h => h.elim (fun h => h.elim) (fun h => h.elim))
  refine ⟨ht.os, ht.tape, ht.output, ht.size, fun k hk' _ => ht.block k hk' (fun h => h.elim), ⟨A.stable (fun b hb => ht.block b (hl b hb) (fun h => h.elim)) hh, ht.holds, fun b ha hb => ?_⟩, fun b hb => ?_, fun b hb => ?_⟩
  · have := hl b ha; have := hB b hb; omega
  · rcases hb with hb | hb
    · exact .inl hb
    · exact .inr (hB b (.inl hb))
  · rcases hb with hb | hb
    · exact .inr (.inl hb)
    · exact .inr (.inr (hB b (.inr hb)))
section
variable {P : Program} {k : TypeId} {R : MReader}
theorem rep_of_ints {R : Reader} : ∀ {xs : List Value}, (∀ x ∈ xs, x.oneCell' = true) → RepL R (xs.map PV.v) xs
  | [], _ => .nil
  | _ :: _, h => .cons (.v _ (h _ List.mem_cons_self)) (rep_of_ints fun x hx => h x (List.mem_cons_of_mem _ hx))
/-- A map. -/
def mapE (P : Program) (k : TypeId) (R : MReader) (b n : Nat) (G : Value → Option (DataW Unit)) : Ext where
  foot x := x = b
  froz _ := False
  holds w := MapIs w P k R b n G
  stable h hw := hw.stable (h b (.inl rfl))
theorem Turn.mapMade (w : World) : Turn Ext.nil w (w.alloc (.map #[] 0)) (mapE P k R w.heap.size 0 fun _ => none) := by
  have hb : Below w.heap.size w (w.alloc (.map #[] 0)) := (Below.refl _ _).alloc (Nat.le_refl _) _
  exact Turn.below hb (MapIs.made w) (fun b hb => .inr (by subst hb; simp)) (fun b hb => hb.elim)
theorem Turn.grown {A B : Ext} {w w1 : World} {b : Nat} (hg : w.grownBy w1 (some b)) (hA : A.foot b) (hB : B.holds w1) (hf : ∀ x, B.foot x → A.foot x) (hz : ∀ x, B.froz x → A.foot x ∨ A.froz x) : Turn A w w1 B :=
  ⟨hg.os, hg.tape, hg.output, hg.size, fun j hj hn => hg.block j hj (fun e => hn (by cases e; exact hA)), hB, fun x hx => .inl (hf x hx), fun x hx => (hz x hx).elim .inl (fun h => .inr (.inl h))⟩
variable {n d : Nat} {σ : St} {o : Oper} {K : St → Prop}
/-- 'make' of a map. -/
theorem hand_makeMap {T : TypeId} (k : TypeId) (R : MReader) (ho : o.op = .makeMap T none) (hd : o.dst = some d) (hdn : d < n) (h : ∀ b, K (({ σ with ext := σ.ext.and (mapE P k R b 0 fun _ => none) } : St).put d (.v (.map (some b))))) : Hand P n σ o K := by
  refine hand_value hd hdn fun F γ a w _ hr => ⟨.v (.map (some w.heap.size)), .map (some w.heap.size), w.alloc (.map #[] 0), _, ?_, Turn.more (fun b hb => (hr.extf b hb).2.1) hr.exth (Turn.mapMade w), rfl, (fun k hk => by cases hk), h _⟩
  simp [execOp, ho, Instr.makeMap]
/-- The operands of a map's operation. -/
theorem eval_raw {F : Fr} {γ : Gh} {a : Act} {w : World} (hr : Rel F σ γ a w) {x : Operand} {v : Value} (h : evo (look σ.slot) x = some (.v v)) : a.eval x = v := (evo_ok hr (fun _ _ _ hy => hy) h).1
theorem eval_aggv {F : Fr} {γ : Gh} {a : Act} {w : World} (hr : Rel F σ γ a w) {x : Operand} {xs : List Value} (h : evo (look σ.slot) x = some (.agg (xs.map PV.v))) : a.eval x = .agg xs.toArray := by
  obtain ⟨us, h1, h2⟩ := (evo_ok hr (fun _ _ _ hy => hy) h).1
  rw [h1, rep_ints h2]
/-- A look-up: 'look' says how one is made in every world in which the map stands. -/
theorem hand_lookup {T e : TypeId} {m x : Operand} {c : Bool} {b nn : Nat} {G : Value → Option (DataW Unit)} {xs : List Value} {kl : Lit} {z : Value} (ho : o.op = .lookup T m x c) (hd : o.dst = some d) (hdn : d < n)
    (hm : evo (look σ.slot) m = some (.v (.map (some b)))) (hx : evo (look σ.slot) x = some (.agg (xs.map PV.v))) (hE : ∀ w, σ.ext.holds w → MapIs w P k R b nn G) (Kk : Keyed P k) (ht : P.underlying T = some (.map k e)) (hz : ∀ w, (zeroValue e).run P w = .ok z w) (hz1 : z.oneCell' = true)
    (hone : ∀ v d ps, R v = some (d, ps) → v.oneCell' = true) (hkey : keyOf P k (.agg xs.toArray) = some kl)
    (hno : G (.agg xs.toArray) = none → K (σ.put d (if c = true then .tup [.c (.v z), .c (.v (.bool false))] else .v z)))
    (hyes : ∀ v dd ps, G (.agg xs.toArray) = some dd → R v = some (dd, ps) → K (σ.put d (if c = true then .tup [.c (.v v), .c (.v (.bool true))] else .v v))) : Hand P n σ o K := by
  refine hand_value hd hdn fun F γ a w _ hr => ?_
  have e1 := eval_raw hr hm
  have e2 := eval_aggv hr hx
  have hsame : Turn σ.ext w w σ.ext := Turn.same hr.exth (fun _ h => h) (fun _ h => .inr h)
  have key : ∀ v y : Value, v.oneCell' = true → y.oneCell' = true → (Instr.lookup T (.map (some b)) (.agg xs.toArray) c).run P w = .ok (if c then .tuple #[v, y] else v) w → K (σ.put d (if c = true then .tup [.c (.v v), .c (.v y)] else .v v)) →
      ∃ X V w1 E, (execOp a.eval o).run P w = .ok (.value V) w1 ∧ Turn σ.ext w w1 E ∧ RepA (rdr F.R0 F.w0.heap.size { σ with ext := E } γ w1) γ.bx X V ∧ (∀ k ∈ X.refs, (look σ.box k).isSome) ∧ K (({ σ with ext := E } : St).put d X) := fun v y hv hy hrun hK => by
    refine ⟨_, if c then .tuple #[v, y] else v, w, σ.ext, ?_, hsame, ?_, ?_, hK⟩
    · simp [execOp, ho, e1, e2, hrun]
    · cases c with
      | false => exact rfl
      | true => exact ⟨[v, y], rfl, .cons (.c (.v _ hv)) (.cons (.c (.v _ hy)) .nil)⟩
    · cases c <;> exact fun k hk => by cases hk
  rcases (hE w hr.exth).look c Kk ht (hz w) hkey with ⟨hG, hrun⟩ | ⟨v, dd, ps, hG, hR, hrun⟩
  · exact key z (.bool false) hz1 rfl hrun (hno hG)
  · exact key v (.bool true) (hone _ _ _ hR) rfl hrun (hyes v dd ps hG hR)
/-- A store: 'hT' says where in what the frame holds the map lies. -/
theorem hand_mapUpdate {T e : TypeId} {m x v : Operand} {b nn : Nat} {G : Value → Option (DataW Unit)} {xs : List Value} {kl : Lit} {val : Value} {dd : DataW Unit} {ps : List MemPlace} {E' : Nat → (Value → Option (DataW Unit)) → Ext} (ho : o.op = .mapUpdate T m x v) (hd : o.dst = none)
    (hm : evo (look σ.slot) m = some (.v (.map (some b)))) (hx : evo (look σ.slot) x = some (.agg (xs.map PV.v))) (hv : evo (look σ.slot) v = some (.v val)) (hE : ∀ w, σ.ext.holds w → MapIs w P k R b nn G) (hn : nn < maxLen) (Kk : Keyed P k) (ht : P.underlying T = some (.map k e)) (hkey : keyOf P k (.agg xs.toArray) = some kl) (hR : R val = some (dd, ps))
    (hT : ∀ w w1 G', (∀ b, σ.ext.all b → b < w.heap.size) → σ.ext.holds w → Turn (mapE P k R b nn G) w w1 (mapE P k R b (nn + 1) G') → Turn σ.ext w w1 (E' (nn + 1) G'))
    (h : ∀ G' : Value → Option (DataW Unit), G' (.agg xs.toArray) = some dd → (∀ y, y ≠ .agg xs.toArray → G' y = G y) → K { σ with ext := E' (nn + 1) G' }) : Hand P n σ o K := by
  classical
  refine hand_skip hd fun F γ a w _ hr => ?_
  have e1 := eval_raw hr hm
  have e2 := eval_aggv hr hx
  have e3 := eval_raw hr hv
  obtain ⟨w1, hrun, h1, hg⟩ := (hE w hr.exth).put Kk ht hn hkey hR
  refine ⟨w1, _, ?_, hT w w1 _ (fun b hb => (hr.extf b hb).2.1) hr.exth (Turn.grown hg rfl h1 (fun _ hx => hx) (fun _ hx => hx.elim)), h _ (if_pos rfl) (fun y hy => if_neg hy)⟩
  simp [execOp, ho, e1, e2, e3, hrun]
/-- An iterator over a map. -/
def rangeE (P : Program) (k : TypeId) (R : MReader) (b r n : Nat) (G : Value → Option (DataW Unit)) (S : Value → Prop) (cnt : Nat) : Ext where
  foot x := x = b ∨ x = r
  froz _ := False
  holds w := RangeIs w P k R b r n G S cnt
  stable h hw := hw.stable (h b (.inl (.inl rfl))) (h r (.inl (.inr rfl)))
/-- An iterator that has just come to an entry. -/
def stepE (P : Program) (k : TypeId) (R : MReader) (b r n : Nat) (G : Value → Option (DataW Unit)) (S : Value → Prop) (cnt : Nat) (key v : Value) : Ext where
  foot x := x = b ∨ x = r
  froz _ := False
  holds w := RangeIs w P k R b r n G S cnt ∧ (Instr.entry (.pointer (some ⟨r, 0, none⟩))).run P w = .ok (.tuple #[key, v]) w
  stable h hw := ⟨hw.1.stable (h b (.inl (.inl rfl))) (h r (.inl (.inr rfl))), hw.1.entry hw.2 (h b (.inl (.inl rfl))) (h r (.inl (.inr rfl)))⟩
theorem hand_range {T e : TypeId} {m : Operand} {b nn : Nat} {G : Value → Option (DataW Unit)} {E' : Nat → Nat → Ext} (ho : o.op = .range T m) (hd : o.dst = some d) (hdn : d < n) (hm : evo (look σ.slot) m = some (.v (.map (some b)))) (hE : ∀ w, σ.ext.holds w → MapIs w P k R b nn G) (Kk : Keyed P k) (ht : P.underlying T = some (.map k e))
    (hT : ∀ w w1 r cnt, (∀ b, σ.ext.all b → b < w.heap.size) → σ.ext.holds w → Turn (mapE P k R b nn G) w w1 (rangeE P k R b r nn G (fun key => (G key).isSome = true) cnt) → Turn σ.ext w w1 (E' r cnt))
    (h : ∀ r cnt, K (({ σ with ext := E' r cnt } : St).put d (.v (.pointer (some ⟨r, 0, none⟩))))) : Hand P n σ o K := by
  refine hand_value hd hdn fun F γ a w _ hr => ?_
  have e1 := eval_raw hr hm
  obtain ⟨w1, cnt, hrun, h1, hg, hs⟩ := (hE w hr.exth).range Kk ht
  refine ⟨.v (.pointer (some ⟨w.heap.size, 0, none⟩)), _, w1, _, ?_, hT w w1 w.heap.size cnt (fun b hb => (hr.extf b hb).2.1) hr.exth ?_, rfl, (fun k hk => by cases hk), h _ _⟩
  · simp [execOp, ho, e1, hrun]
  · exact ⟨hg.os, hg.tape, hg.output, hg.size, fun j hj _ => hg.block j hj (by simp), h1, fun x hx => hx.elim (fun h => .inl h) (fun h => .inr (by omega)), fun x hx => hx.elim⟩
/-- The step of a range loop. -/
theorem hand_next {it : Operand} {b r nn cnt : Nat} {G : Value → Option (DataW Unit)} {S : Value → Prop} {E' : Nat → Value → Value → Ext} (ho : o.op = .next it false) (hd : o.dst = some d) (hdn : d < n) (hm : evo (look σ.slot) it = some (.v (.pointer (some ⟨r, 0, none⟩)))) (hE : ∀ w, σ.ext.holds w → RangeIs w P k R b r nn G S cnt) (Kk : Keyed P k)
    (hkeys : ∀ key kl, keyOf P k key = some kl → ∃ xs : List Value, key = .agg xs.toArray ∧ ∀ x ∈ xs, x.oneCell' = true) (hone : ∀ v d ps, R v = some (d, ps) → v.oneCell' = true)
    (hT : ∀ w w1 cnt' key v, (∀ b, σ.ext.all b → b < w.heap.size) → σ.ext.holds w → Turn (rangeE P k R b r nn G S cnt) w w1 (stepE P k R b r nn G (fun x => S x ∧ x ≠ key) cnt' key v) → Turn σ.ext w w1 (E' cnt' key v))
    (hno : (∀ key kl, keyOf P k key = some kl → ¬ S key) → K (σ.put d (.tup [.c (.v (.bool false))])))
    (hyes : ∀ (xs : List Value) v kl dd ps cnt', keyOf P k (.agg xs.toArray) = some kl → S (.agg xs.toArray) → R v = some (dd, ps) → G (.agg xs.toArray) = some dd → cnt' < cnt → K (({ σ with ext := E' cnt' (.agg xs.toArray) v } : St).put d (.tup [.c (.v (.bool true)), .g (xs.map PV.v), .c (.v v)]))) : Hand P n σ o K := by
  refine hand_value hd hdn fun F γ a w _ hr => ?_
  have e1 := eval_raw hr hm
  rcases (hE w hr.exth).next Kk o.type with ⟨hS, hrun⟩ | ⟨key, v, kl, dd, ps, w1, cnt', hkey, hS, hR, hG, hrun, h1, hlt, hg, hs, hen⟩
  · refine ⟨.tup [.c (.v (.bool false))], .tuple #[.bool false], w, σ.ext, ?_, Turn.same hr.exth (fun _ h => h) (fun _ h => .inr h), ⟨_, rfl, .cons (.c (.v _ rfl)) .nil⟩, (fun k hk => by cases hk), hno hS⟩
    simp [execOp, ho, e1, hrun]
  · obtain ⟨xs, rfl, hx1⟩ := hkeys key kl hkey
    refine ⟨.tup [.c (.v (.bool true)), .g (xs.map PV.v), .c (.v v)], .tuple #[.bool true, .agg xs.toArray, v], w1, _, ?_, hT w w1 cnt' _ v (fun b hb => (hr.extf b hb).2.1) hr.exth ?_, ⟨[_, _, _], rfl, .cons (.c (.v _ rfl)) (.cons (.g (rep_of_ints hx1)) (.cons (.c (.v _ (hone _ _ _ hR))) .nil))⟩, (fun k hk => by cases hk), hyes xs v kl dd ps cnt' hkey hS hR hG hlt⟩
    · simp [execOp, ho, e1, hrun]
    · exact Turn.grown hg (.inr rfl) ⟨h1, hen⟩ (fun _ hx => hx) (fun _ hx => hx.elim)
/-- The entry to which the loop has come. -/
theorem hand_entry {it : Operand} {r : Nat} {xs : List Value} {v : Value} (ho : o.op = .entry it) (hd : o.dst = some d) (hdn : d < n) (hm : evo (look σ.slot) it = some (.v (.pointer (some ⟨r, 0, none⟩)))) (hE : ∀ w, σ.ext.holds w → (Instr.entry (.pointer (some ⟨r, 0, none⟩))).run P w = .ok (.tuple #[.agg xs.toArray, v]) w)
    (hx1 : ∀ x ∈ xs, x.oneCell' = true) (hv1 : v.oneCell' = true) (h : K (σ.put d (.tup [.g (xs.map PV.v), .c (.v v)]))) : Hand P n σ o K := by
  refine hand_value hd hdn fun F γ a w _ hr => ?_
  have e1 := eval_raw hr hm
  refine ⟨.tup [.g (xs.map PV.v), .c (.v v)], .tuple #[.agg xs.toArray, v], w, σ.ext, ?_, Turn.same hr.exth (fun _ h => h) (fun _ h => .inr h), ⟨[_, _], rfl, .cons (.g (rep_of_ints hx1)) (.cons (.c (.v _ hv1)) .nil)⟩, (fun k hk => by cases hk), h⟩
  have hen := hE w hr.exth
  simp [execOp, ho, e1, hen]
/-- A slot's datum, said otherwise. -/
theorem awp_slot {F : Fr} {c : Code} {Q : AX → St → Prop} (t : Nat) (x : AV) (ht : t < F.n) (hx : ∀ γ a w, Rel F σ γ a w → RepA (rdr F.R0 F.w0.heap.size σ γ w) γ.bx x (a.tmps.getD t undef) ∧ ∀ k ∈ x.refs, (look σ.box k).isSome) (h : AWp P F c Q (σ.put t x)) : AWp P F c Q σ := fun γ a w hr => by
  obtain ⟨h1, h2⟩ := hx γ a w hr
  have := hr.put ht h1 h2
  rw [put_same (by rw [hr.size]; exact ht)] at this
  exact h _ a w this
end
end Av
end Go.Proofs.Ytkdigdnacggknaa
/- Abstract states: boxes whose names are their blocks' numbers (and a million): pointers that lie in maps. Generic. -/
namespace Go.Proofs.Ytkdigdnacggknaa
open Go.RowKit Go.Maps
open Go.Maps (Keyed)
namespace Av

def ren1 (kb g k : Nat) : Nat := if k = kb then g else k
def AV.ren (kb g : Nat) : AV → AV
  | .ref k off => .ref (ren1 kb g k) off
  | .clo f caps => .clo f (caps.map fun c => (ren1 kb g c.1, c.2))
  | x => x
/-- Box kb is called g. -/
def St.ren (σ : St) (kb g : Nat) : St := { slot := σ.slot.map fun x => (x.1, x.2.ren kb g), box := σ.box.map fun x => (ren1 kb g x.1, x.2), own := σ.own, ext := σ.ext }
def Gh.ren (γ : Gh) (kb g : Nat) : Gh := { γ with bx := fun j => if j = g then γ.bx kb else γ.bx j }
theorem look_map {α : Type} (f : α → α) : ∀ (l : List (Nat × α)) (t : Nat), look (l.map fun x => (x.1, f x.2)) t = (look l t).map f
  | [], _ => rfl
  | x :: l, t => by
    rw [List.map_cons, look_cons, look_map f l t]
    obtain ⟨k, y⟩ := x
    rw [look_cons]
    split <;> rfl
theorem look_ren {α : Type} {kb g : Nat} (hne : kb ≠ g) : ∀ {l : List (Nat × α)}, look l g = none → ∀ j, look (l.map fun x => (ren1 kb g x.1, x.2)) j = if j = g then look l kb else if j = kb then none else look l j
  | [], _, j => by simp [look]
  | (k, x) :: l, hg, j => by
    rw [look_cons] at hg
    by_cases hkg : k = g
    · rw [if_pos hkg] at hg; cases hg
    · rw [if_neg hkg] at hg
      rw [List.map_cons, look_cons, look_ren hne hg j, look_cons, look_cons]
      unfold ren1
      dsimp only
      by_cases hk : k = kb
      · subst hk
        rw [if_pos rfl, if_pos rfl]
        by_cases hj : j = g
        · subst hj; rw [if_pos rfl, if_pos rfl]
        · rw [if_neg (fun e => hj e.symm), if_neg hj, if_neg hj]
          by_cases hjk : j = k
          · rw [if_pos hjk, if_pos hjk]
          · rw [if_neg hjk, if_neg hjk, if_neg (fun e => hjk e.symm)]
      · rw [if_neg hk, if_neg hk]
        by_cases hj : j = g
        · subst hj; rw [if_neg hkg, if_pos rfl, if_pos rfl]
        · rw [if_neg hj, if_neg hj]
          by_cases hjk : j = kb
          · subst hjk; rw [if_neg hk, if_pos rfl, if_pos rfl]
          · rw [if_neg hjk, if_neg hjk]
section
variable {P : Program} {F : Fr} {σ : St} {γ : Gh} {a : Act} {w : World}
theorem ren_sl {kb g sz : Nat} {rows : List (List PV)} {x : AV} (h : x.ren kb g = .sl sz rows) : x = .sl sz rows := by
  cases x <;> first | exact h | cases h
theorem Rel.ren (h : Rel F σ γ a w) {kb g : Nat} (hk : (look σ.box kb).isSome) (hkb : kb < 1000000) (hg : γ.bx kb = g) (hno : ∀ off, lookL σ.own (.b kb off) = none) : look σ.box (g + 1000000) = none ∧ Rel F (σ.ren kb (g + 1000000)) (γ.ren kb (g + 1000000)) a w := by
  have hnone : look σ.box (g + 1000000) = none := by
    cases hq : look σ.box (g + 1000000) with
    | none => rfl
    | some cs =>
      have h1 := h.dyn (g + 1000000) (by rw [hq]; rfl) (by omega)
      have := h.boxinj kb (g + 1000000) hk (by rw [hq]; rfl) (by rw [h1, hg]; omega)
      omega
  have hne : kb ≠ g + 1000000 := by omega
  have hb := fun j => look_ren (l := σ.box) hne hnone j
  have hbx : ∀ j, look (σ.ren kb (g + 1000000)).box j = if j = g + 1000000 then look σ.box kb else if j = kb then none else look σ.box j := hb
  have hsl : ∀ t, look (σ.ren kb (g + 1000000)).slot t = (look σ.slot t).map (·.ren kb (g + 1000000)) := fun t => look_map _ _ t
  have hγ : ∀ j, (γ.ren kb (g + 1000000)).bx j = if j = g + 1000000 then γ.bx kb else γ.bx j := fun j => rfl
  have hown : ∀ L e, lookL σ.own L = some e → ∀ k off, L = .b k off → k ≠ kb ∧ k ≠ g + 1000000 := fun L e hL k off hLk => by
    subst hLk
    refine ⟨fun e' => (by subst e'; rw [hno] at hL; cases hL), fun e' => ?_⟩
    subst e'
    obtain ⟨rows, v, h1, _⟩ := h.owns _ e.1 e.2 hL
    simp [St.avAt, hnone] at h1
  have hav : ∀ L e, lookL σ.own L = some e → ∀ sz rows, (σ.ren kb (g + 1000000)).avAt L = some (.sl sz rows) ↔ σ.avAt L = some (.sl sz rows) := fun L e hL sz rows => by
    cases L with
    | s t =>
      show look (σ.ren kb (g + 1000000)).slot t = _ ↔ look σ.slot t = _
      rw [hsl]
      constructor
      · intro h1
        obtain ⟨x, h2, h3⟩ := Option.map_eq_some_iff.1 h1
        rw [h2, ren_sl h3]
      · intro h1; rw [h1]; rfl
    | b k off =>
      obtain ⟨h1, h2⟩ := hown _ e hL k off rfl
      simp only [St.avAt, hbx, if_neg h1, if_neg h2]
  have hle : ∀ p v, rdr F.R0 F.w0.heap.size σ γ w p = some v → rdr F.R0 F.w0.heap.size (σ.ren kb (g + 1000000)) (γ.ren kb (g + 1000000)) w p = some v := by
    refine rdr_le fun p v _ hm hc => ⟨fun hm' => hm ?_, hc⟩
    rcases hm' with ⟨j, cs, hj, hp⟩ | ⟨L, e, sz, rows, h1, h2, h3, h4⟩ | hx
    · rw [hbx] at hj
      rw [hγ] at hp
      by_cases hjg : j = g + 1000000
      · rw [if_pos hjg] at hj hp; exact .inl ⟨kb, cs, hj, hp⟩
      · rw [if_neg hjg] at hj hp
        by_cases hjk : j = kb
        · rw [if_pos hjk] at hj; cases hj
        · rw [if_neg hjk] at hj; exact .inl ⟨j, cs, hj, hp⟩
    · exact .inr (.inl ⟨L, e, sz, rows, h1, (hav L _ h1 sz rows).1 h2, h3, h4⟩)
    · exact .inr (.inr hx)
  have hbox : ∀ j, (look (σ.ren kb (g + 1000000)).box j).isSome → ∃ j0, (look σ.box j0).isSome ∧ look (σ.ren kb (g + 1000000)).box j = look σ.box j0 ∧ (γ.ren kb (g + 1000000)).bx j = γ.bx j0 ∧ j0 ≠ g + 1000000 ∧ j = ren1 kb (g + 1000000) j0 := fun j hj => by
    rw [hbx] at hj
    by_cases hjg : j = g + 1000000
    · exact ⟨kb, hk, by rw [hbx, if_pos hjg], by rw [hγ, if_pos hjg], hne, by rw [ren1, if_pos rfl]; exact hjg⟩
    · rw [if_neg hjg] at hj
      by_cases hjk : j = kb
      · rw [if_pos hjk] at hj; cases hj
      · rw [if_neg hjk] at hj
        exact ⟨j, hj, by rw [hbx, if_neg hjg, if_neg hjk], by rw [hγ, if_neg hjg], hjg, by rw [ren1, if_neg hjk]⟩
  have href : ∀ j, (look σ.box j).isSome → (look (σ.ren kb (g + 1000000)).box (ren1 kb (g + 1000000) j)).isSome ∧ (γ.ren kb (g + 1000000)).bx (ren1 kb (g + 1000000) j) = γ.bx j := fun j hj => by
    unfold ren1
    by_cases hjk : j = kb
    · subst hjk; rw [if_pos rfl, hbx, hγ, if_pos rfl, if_pos rfl]; exact ⟨hj, rfl⟩
    · have hjg : j ≠ g + 1000000 := fun e => by subst e; rw [hnone] at hj; cases hj
      rw [if_neg hjk, hbx, hγ, if_neg hjg, if_neg hjk, if_neg hjg]
      exact ⟨hj, rfl⟩
  refine ⟨hnone, h.defers, h.size, h.below, h.r0, fun t x hx => ?_, fun j cs hj => ?_, fun j j' hj hj' he => ?_, fun L e sz hL => ?_, h.rowinj, fun L j g' hL hj hg' => ?_, h.exth, fun b hb' => ?_, h.small, fun j hj hd => ?_⟩
  · rw [hsl] at hx
    obtain ⟨y, hy, rfl⟩ := Option.map_eq_some_iff.1 hx
    obtain ⟨h1, h2⟩ := h.slots t y hy
    cases y with
    | ref j off =>
      obtain ⟨h3, h4⟩ := href j (h2 j (by simp [AV.refs]))
      refine ⟨?_, fun k hk' => by simp [AV.ren, AV.refs] at hk'; subst hk'; exact h3⟩
      show _ = Value.pointer _
      rw [h4]; exact h1
    | clo f caps =>
      refine ⟨?_, fun k hk' => ?_⟩
      · show _ = Value.func _ _ _
        rw [show a.tmps.getD t undef = _ from h1, List.map_map]
        congr 2
        refine List.map_congr_left fun c hc => ?_
        have := (href c.1 (h2 c.1 (List.mem_map_of_mem hc))).2
        simp only [Function.comp]
        rw [this]
      · simp only [AV.ren, AV.refs, List.map_map] at hk'
        obtain ⟨c, hc, rfl⟩ := List.mem_map.1 hk'
        exact (href c.1 (h2 c.1 (List.mem_map_of_mem hc))).1
    | v x => exact ⟨h1, fun k hk' => by cases hk'⟩
    | sl sz rows => exact ⟨RepP.mono hle h1, fun k hk' => by cases hk'⟩
    | agg xs => exact ⟨RepA.mono (x := .agg xs) (bx := γ.bx) hle (fun k hk' => by cases hk') h1, fun k hk' => by cases hk'⟩
    | tup vs => exact ⟨RepA.mono (x := .tup vs) (bx := γ.bx) hle (fun k hk' => by cases hk') h1, fun k hk' => by cases hk'⟩
    | ept row => exact ⟨RepA.mono (x := .ept row) (bx := γ.bx) hle (fun k hk' => by cases hk') h1, fun k hk' => by cases hk'⟩
    | fnv f caps => exact ⟨RepA.mono (x := .fnv f caps) (bx := γ.bx) hle (fun k hk' => by cases hk') h1, fun k hk' => by cases hk'⟩
  · obtain ⟨j0, h1, h2, h3, _⟩ := hbox j (by rw [hj]; rfl)
    rw [h2] at hj
    obtain ⟨us, ty, h4, h5, h6⟩ := h.boxes j0 cs hj
    rw [h3]
    exact ⟨us, ty, h4, h5, h6.mono hle⟩
  · obtain ⟨j0, h1, _, h3, _, h5⟩ := hbox j hj
    obtain ⟨j1, h1', _, h3', _, h5'⟩ := hbox j' hj'
    rw [h3, h3'] at he
    rw [h5, h5', h.boxinj j0 j1 h1 h1' he]
  · obtain ⟨rows, v, h1, h2, h3⟩ := h.owns L e sz hL
    refine ⟨rows, v, (hav L _ hL sz rows).2 h1, ?_, h3⟩
    cases L with
    | s t => exact h2
    | b k off =>
      obtain ⟨h4, h5⟩ := hown _ _ hL k off rfl
      show w.cell? ⟨(γ.ren kb (g + 1000000)).bx k, off, none⟩ = some v
      rw [hγ, if_neg h5]; exact h2
  · obtain ⟨j0, h1, _, h3, _⟩ := hbox j hj
    rw [h3]
    exact h.rowbox L j0 g' hL h1 hg'
  · obtain ⟨h1, h2, h3, h4⟩ := h.extf b hb'
    refine ⟨h1, h2, fun j hj => ?_, h4⟩
    obtain ⟨j0, h5, _, h6, _⟩ := hbox j hj
    rw [h6]; exact h3 j0 h5
  · obtain ⟨j0, h1, _, h3, h4, h5⟩ := hbox j hj
    rw [h3]
    unfold ren1 at h5
    by_cases hjk : j0 = kb
    · rw [if_pos hjk] at h5; rw [hjk, hg, h5]; omega
    · rw [if_neg hjk] at h5; rw [h5] at hd ⊢; exact h.dyn j0 h1 hd
/-- A slice that is nil is owned. -/
theorem Rel.ownNil (h : Rel F σ γ a w) {L0 : Loc} {e0 : TypeId} {sz0 : Nat} (hav0 : σ.avAt L0 = some (.sl sz0 [])) (hval : valAt a w γ L0 = some (.slice none 0 0)) : Rel F { σ with own := (L0, (e0, sz0)) :: delL σ.own L0 } (γ.setRow L0 none) a w := by
  have hlk : ∀ L, lookL ((L0, (e0, sz0)) :: delL σ.own L0) L = if L = L0 then some (e0, sz0) else lookL σ.own L := fun L => by
    rw [lookL_cons, lookL_del]
    by_cases h1 : L = L0
    · rw [if_pos h1.symm, if_pos h1]
    · rw [if_neg (fun e => h1 e.symm), if_neg h1, if_neg h1]
  have hrw : ∀ L, (γ.setRow L0 none).rw L = if L = L0 then none else γ.rw L := fun L => rfl
  have hold : ∀ L g, (lookL ((L0, (e0, sz0)) :: delL σ.own L0) L).isSome → (γ.setRow L0 none).rw L = some g → L ≠ L0 ∧ (lookL σ.own L).isSome ∧ γ.rw L = some g := fun L g hL hg => by
    rw [hrw] at hg
    by_cases h1 : L = L0
    · rw [if_pos h1] at hg; cases hg
    · rw [if_neg h1] at hg
      rw [hlk, if_neg h1] at hL
      exact ⟨h1, hL, hg⟩
  have hle : ∀ p v, rdr F.R0 F.w0.heap.size σ γ w p = some v → rdr F.R0 F.w0.heap.size { σ with own := (L0, (e0, sz0)) :: delL σ.own L0 } (γ.setRow L0 none) w p = some v :=
    rdr_le fun p v _ hm hc => ⟨fun hm' => hm (by
      rcases hm' with hm' | ⟨L, e', sz, rows, h1, h2, h3, h4⟩ | hx
      · exact .inl hm'
      · obtain ⟨h5, h6, h7⟩ := hold L _ (by rw [show lookL _ L = _ from h1]; rfl) h3
        have h8 := h1
        dsimp only at h8
        rw [hlk, if_neg h5] at h8
        exact .inr (.inl ⟨L, e', sz, rows, h8, by cases L <;> exact h2, h7, h4⟩)
      · exact .inr (.inr hx)), hc⟩
  refine ⟨h.defers, h.size, h.below, h.r0, fun t x hx => ?_, fun k cs hk => ?_, h.boxinj, fun L e' sz hL => ?_, fun L L' g hL hL' hg hg' => ?_, fun L k g hL hk hg => ?_, h.exth, fun b hb => ?_, h.small, h.dyn⟩
  · obtain ⟨h1, h2⟩ := h.slots t x hx
    exact ⟨h1.mono hle (fun _ _ => rfl), h2⟩
  · obtain ⟨us, ty, h1, h2, h3⟩ := h.boxes k cs hk
    exact ⟨us, ty, h1, h2, h3.mono hle⟩
  · dsimp only at hL
    rw [hlk] at hL
    by_cases h1 : L = L0
    · rw [if_pos h1] at hL
      cases hL
      subst h1
      exact ⟨[], .slice none 0 0, by cases L <;> exact hav0, by cases L <;> exact hval, by rw [hrw, if_pos rfl]; exact ⟨rfl, rfl⟩⟩
    · rw [if_neg h1] at hL
      obtain ⟨rows, v, h3, h4, h5⟩ := h.owns L e' sz hL
      exact ⟨rows, v, by cases L <;> exact h3, by cases L <;> exact h4, by rw [hrw, if_neg h1]; exact h5⟩
  · obtain ⟨_, h1, h2⟩ := hold L g hL hg
    obtain ⟨_, h3, h4⟩ := hold L' g hL' hg'
    exact h.rowinj L L' g h1 h3 h2 h4
  · obtain ⟨_, h1, h2⟩ := hold L g hL hg
    exact h.rowbox L k g h1 hk h2
  · obtain ⟨h1, h2, h3, h4⟩ := h.extf b hb
    refine ⟨h1, h2, h3, fun L hL e => ?_⟩
    obtain ⟨_, h5, h6⟩ := hold L b hL e
    exact h4 L h5 h6
theorem repL_setNil {R : Reader} {sz : Nat} : ∀ {cs : List PV} {us : List Value} {off : Nat}, RepL R cs us → cs[off]? = some (.v (.slice none 0 0)) → RepL R (setAt cs off [.sl sz []]) us ∧ us[off]? = some (.slice none 0 0)
  | [], _, off, h, hx => by simp at hx
  | c :: cs, _, 0, .cons h1 h2, hx => by
    simp at hx
    subst hx
    cases h1
    refine ⟨?_, rfl⟩
    show RepL R (([] : List PV) ++ [PV.sl sz []] ++ cs) _
    exact .cons (.sl sz [] none 0 (fun _ _ => undef) (fun k row hk => by simp at hk) (.inl rfl) (fun k row _ _ hk => by simp at hk) (Nat.le_refl _)) h2
  | c :: cs, _, off + 1, .cons h1 h2, hx => by
    obtain ⟨h3, h4⟩ := repL_setNil (off := off) (sz := sz) h2 (by simpa using hx)
    refine ⟨?_, by simpa using h4⟩
    have : setAt (c :: cs) (off + 1) [PV.sl sz []] = c :: setAt cs off [PV.sl sz []] := by simp [setAt]
    rw [this]
    exact .cons h1 h3
/-- A nil slice in a box's cell is owned. -/
theorem awp_nilB {c : Code} {Q : AX → St → Prop} (k off sz : Nat) (e : TypeId) {cs : List PV} (hk : look σ.box k = some cs) (hc : cs[off]? = some (.v (.slice none 0 0)))
    (hw : AWp P F c Q { (σ.setBox k (setAt cs off [.sl sz []]) (keepL σ.own k off 1)) with own := (.b k off, (e, sz)) :: delL (keepL σ.own k off 1) (.b k off) }) : AWp P F c Q σ := fun γ a w hr => by
  obtain ⟨us, ty, h1, h2, h3⟩ := hr.boxes k cs hk
  obtain ⟨h4, h5⟩ := repL_setNil (sz := sz) h3 hc
  have hr1 := hr.rebox hk h1 h1 (fun _ _ => rfl) rfl rfl rfl rfl h4 (own' := keepL σ.own k off 1) (fun L x hL => by
    obtain ⟨g1, g2⟩ := lookL_keep hL
    refine ⟨g1, fun o ho => ⟨?_, rfl⟩⟩
    have hlt : off < cs.length := (List.getElem?_eq_some_iff.1 hc).1
    exact setAt_out (by simp; omega) (by simpa using g2 o ho))
  refine hw _ a w (hr1.ownNil (L0 := .b k off) (e0 := e) (sz0 := sz) ?_ ?_)
  · have hlt : off < cs.length := (List.getElem?_eq_some_iff.1 hc).1
    show ((look (σ.setBox k _ _).box k).bind (·[off]?)).map PV.av = _
    have : look (σ.setBox k (setAt cs off [PV.sl sz []]) (keepL σ.own k off 1)).box k = some (setAt cs off [PV.sl sz []]) := by simp [St.setBox, look_cons]
    rw [this]
    simp only [Option.bind_some]
    unfold setAt
    rw [List.append_assoc, List.getElem?_append_right (by simp; omega)]
    simp [Nat.min_eq_left (Nat.le_of_lt hlt)]
    rfl
  · show w.cell? ⟨γ.bx k, off, none⟩ = _
    rw [cell_of_row w _ off _ ty (0, 0) h1]
    simpa using h5
end
end Av
end Go.Proofs.Ytkdigdnacggknaa

import Derived.Laws.Entries
import Derived.Laws.Small
import Derived.Laws.Strings
import Derived.Laws.Concat
import Derived.Laws.Build
import Derived.Laws.Slices
import Derived.Laws.Strings2
import Derived.Laws.IdiomCopy
import Derived.Test.YticnppnejafhdaaGreatDoorZ1
/- Abstract states: what an operation without effects yields, and that the machine yields it. Generic. -/
namespace Go.Proofs.YticnppnejafhdaaGreatDoor
open Go.RowKit
namespace Av

theorem RepA.free {R : Reader} {bx bx' : Nat → Nat} {x : AV} {u : Value} (hx : x.refs = []) (h : RepA R bx x u) : RepA R bx' x u :=
  h.mono (fun _ _ hp => hp) (fun k hk => by rw [hx] at hk; cases hk)

/-- A call's result: what it is; whether the caller owns the row (elements of that type). -/
structure FRes where
  av : AV
  own : Option TypeId := none
def fresh (R : Reader) (w w' : World) (q : Option Nat) (m : Nat) : Reader := fun p => if p.block < w.heap.size then R p else if q = some p.block ∧ m ≤ p.off then none else w'.cell? p
def ResRep (R : Reader) (w w' : World) (res : FRes) (u : Value) : Prop :=
  match res.own, res.av with
  | some e, .sl sz rows => ∃ q, OwnV w' w.heap.size e sz rows.length u q ∧ RepP (fresh R w w' q (rows.length * sz)) (.sl sz rows) u
  | some _, _ => False
  | none, x => x.refs = [] ∧ RepA (fresh R w w' none 0) (fun _ => 0) x u
inductive RepAL (R : Reader) : List AV → List Value → Prop
  | nil : RepAL R [] []
  | cons {x : AV} {u : Value} {xs : List AV} {us : List Value} (h : RepA R (fun _ => 0) x u) (hr : x.refs = []) (t : RepAL R xs us) : RepAL R (x :: xs) (u :: us)
theorem RepAL.append {R : Reader} {ps qs : List AV} {us vs : List Value} (h : RepAL R ps us) (h' : RepAL R qs vs) : RepAL R (ps ++ qs) (us ++ vs) := by
  induction h with
  | nil => exact h'
  | cons h hr _ ih => exact .cons h hr ih
def Enters (P : Program) (f : FuncId) : Prop := ∃ fn c, P.funcs[f]? = some fn ∧ (fn.name == "runtime.NumGoroutine") = false ∧ fn.body = some c
/-- Called with such arguments the function returns this, and leaves what was there. -/
def FnOK (P : Program) (f : FuncId) (args : List AV) (res : FRes) : Prop :=
  Enters P f ∧ ∀ (w : World) (R : Reader), (∀ p v, R p = some v → w.cell? p = some v) → ∀ us, RepAL R args us →
    Calls P f us.toArray w fun e w' => ∃ u, e = .returned u ∧ Below w.heap.size w w' ∧ ResRep R w w' res u

structure HR where
  av : AV
  box : Option (List PV) := none
  own : Option TypeId := none
def St.res (σ : St) (d : Nat) (r : HR) : St :=
  match r.own with
  | some e => match r.av with
    | .sl sz rows => σ.putOwn d sz rows e
    | x => σ.put d x
  | none => match r.box with
    | some cs => (σ.addBox d cs).put d r.av
    | none => σ.put d r.av

def evo (g : Nat → Option AV) : Operand → Option AV
  | .tmp t => g t
  | .const v => some (.v v)
  | .func f => some (.clo f [])
  | .global _ => none
def evos (g : Nat → Option AV) : List Operand → Option (List AV)
  | [] => some []
  | x :: l => match evo g x, evos g l with
    | some v, some vs => some (v :: vs)
    | _, _ => none
def avCells : AV → Option (List PV)
  | .v u => if u.oneCell' = true then some [.v u] else none
  | .sl sz rows => some [.sl sz rows]
  | .agg xs => some xs
  | _ => none
def snapCaps (bx : Nat → Option (List PV)) : List (Nat × Nat) → Option (List (List PV))
  | [] => some []
  | c :: l => match bx c.1, snapCaps bx l with
    | some cs, some r => some (cs.drop c.2 :: r)
    | _, _ => none
/-- A datum as a callee takes it: pointers into boxes are pointers to what these hold now. -/
def snap (bx : Nat → Option (List PV)) : AV → Option AV
  | .ref k off => (bx k).map fun cs => .ept (cs.drop off)
  | .clo f caps => (snapCaps bx caps).map (.fnv f)
  | .tup _ => none
  | x => some x
def snaps (bx : Nat → Option (List PV)) : List AV → Option (List AV)
  | [] => some []
  | x :: l => match snap bx x, snaps bx l with
    | some v, some vs => some (v :: vs)
    | _, _ => none
def AV.lit : AV → Bool
  | .v _ => true
  | .tup vs => vs.all fun | .c (.v _) => true | _ => false
  | _ => false
def capRefs (g : Nat → Option AV) : List Operand → Option (List (Nat × Nat))
  | [] => some []
  | x :: l => match evo g x, capRefs g l with
    | some (.ref k off), some r => some ((k, off) :: r)
    | _, _ => none

def abin (op : BinOp) : Value → Value → Option Value
  | .int k a, .int k' b => if k = k' then (match op with
    | .add => some (.int k (k.wrap (a + b)))
    | .sub => some (.int k (k.wrap (a - b)))
    | .mul => some (.int k (k.wrap (a * b)))
    | .quo => if b = 0 then none else some (.int k (k.wrap (a.tdiv b)))
    | .rem => if b = 0 then none else some (.int k (a.tmod b))
    | .eql => some (.bool (a == b))
    | .neq => some (.bool (a != b))
    | .lss => some (.bool (decide (a < b)))
    | .leq => some (.bool (decide (a ≤ b)))
    | .gtr => some (.bool (decide (b < a)))
    | .geq => some (.bool (decide (b ≤ a)))
    | .shr => if b = 1 then some (.int k (a / 2)) else none
    | _ => none) else none
  | .string a, .string b => match op with
    | .eql => some (.bool (a.toList == b.toList))
    | .neq => some (.bool !(a.toList == b.toList))
    | .lss => some (.bool (Op.bytesLess a.toList b.toList))
    | .add => if a.size + b.size ≤ 9223372036854775807 then some (.string (a ++ b)) else none
    | _ => none
  | _, _ => none
def aun (op : UnOp) : Value → Option Value
  | .bool b => match op with
    | .not => some (.bool !b)
    | _ => none
  | .int k a => match op with
    | .neg => some (.int k (k.wrap (0 - a)))
    | _ => none
  | _ => none
def loadK (P : Program) (T : TypeId) (row : List PV) (K : HR → Prop) : Prop :=
  ∃ d n, P.underlying T = some d ∧ (P.info? T).map (·.size) = some n ∧
    if d.isRow = true then n ≤ row.length ∧ K ⟨.agg (row.take n), none, none⟩ else ∃ p, row[0]? = some p ∧ K ⟨p.av, none, none⟩
def bound (g : Nat → Option AV) (dflt : Nat) : Option Operand → Nat → Prop
  | none, n => n = dflt
  | some x, n => ∃ k i, evo g x = some (.v (.int k i)) ∧ 0 ≤ i ∧ n = i.toNat
theorem arr_of {α : Type} {a : Array α} {l : List α} (h : a.toList = l) : a = l.toArray := by rw [← h]
def hopB (P : Program) (g : Nat → Option AV) (b : Builtin) (args : Array Operand) (ats : Array TypeId) (K : HR → Prop) : Prop :=
  match b with
  | .len => ∃ x T, args.toList = [x] ∧ ats.toList = [T] ∧ ((∃ sz rows e, evo g x = some (.sl sz rows) ∧ P.underlying T = some (.slice e) ∧ K ⟨.v (.int .i64 rows.length), none, none⟩) ∨
      (∃ s, evo g x = some (.v (.string s)) ∧ P.underlying T = some .string ∧ K ⟨.v (.int .i64 s.size), none, none⟩) ∨
      (∃ A n c e, evo g x = some (.v (.slice A n c)) ∧ P.underlying T = some (.slice e) ∧ K ⟨.v (.int .i64 n), none, none⟩))
  | .max => ∃ x y k u v, args.toList = [x, y] ∧ evo g x = some (.v (.int k u)) ∧ evo g y = some (.v (.int k v)) ∧ K ⟨.v (.int k (if u < v then v else u)), none, none⟩
  | .min => ∃ x y k u v, args.toList = [x, y] ∧ evo g x = some (.v (.int k u)) ∧ evo g y = some (.v (.int k v)) ∧ K ⟨.v (.int k (if v < u then v else u)), none, none⟩
  | _ => False
def hopF (P : Program) (g : Nat → Option AV) (bx : Nat → Option (List PV)) (f : Operand) (args : Array Operand) (K : HR → Prop) : Prop :=
  ∃ fv fid caps avs avs' res, evo g f = some fv ∧ snap bx fv = some (.fnv fid caps) ∧ evos g args.toList = some avs ∧ snaps bx avs = some avs' ∧ FnOK P fid (avs' ++ caps.map AV.ept) res ∧
    (((fv :: avs).all fun x => x.refs.isEmpty) = true ∨ (res.av.lit = true ∧ res.own = none)) ∧ K ⟨res.av, none, res.own⟩
def hopCall (P : Program) (g : Nat → Option AV) (bx : Nat → Option (List PV)) (c : Call) (K : HR → Prop) : Prop :=
  match c.callee with
  | .builtin b => hopB P g b c.args c.argTypes K
  | .value f => hopF P g bx f c.args K
  | .invoke _ _ => False
/-- A pointer that is not nil. -/
def ptrB : AV → Bool
  | .ref _ _ => true
  | .ept _ => true
  | .v (.pointer (some _)) => true
  | _ => false
/-- The operation yields such a result: in slots g and boxes bx. -/
def hop (P : Program) (g : Nat → Option AV) (bx : Nat → Option (List PV)) (o : Oper) (K : HR → Prop) : Prop :=
  match o.op with
  | .move x | .assign x => ∃ v, evo g x = some v ∧ K ⟨v, none, none⟩
  | .pick c a b => ∃ t v, evo g c = some (.v (.bool t)) ∧ evo g (if t = true then a else b) = some v ∧ K ⟨v, none, none⟩
  | .box _ x => ∃ v cs d, evo g x = some v ∧ avCells v = some cs ∧ o.dst = some d ∧ bx d = none ∧ K ⟨.ref d 0, some cs, none⟩
  | .alloc T => ∃ z d, (P.info? T).map (·.zero) = some (some z) ∧ (z.cells.toList.all (·.oneCell')) = true ∧ o.dst = some d ∧ bx d = none ∧ K ⟨.ref d 0, some (z.cells.toList.map .v), none⟩
  | .load T x => match evo g x with
    | some (.ref k off) => ∃ cs, bx k = some cs ∧ loadK P T (cs.drop off) K
    | some (.ept row) => loadK P T row K
    | _ => False
  | .fieldAddr T x i => ∃ fs f n, P.underlying T = some (.struct fs) ∧ fs[i]? = some f ∧ (P.info? f.type).map (·.size) = some n ∧ 0 < n ∧ (match evo g x with
    | some (.ref k off) => K ⟨.ref k (off + f.offset), none, none⟩
    | some (.ept row) => K ⟨.ept (row.drop f.offset), none, none⟩
    | _ => False)
  | .field T x i => ∃ fs f d n xs, P.underlying T = some (.struct fs) ∧ fs[i]? = some f ∧ P.underlying f.type = some d ∧ (P.info? f.type).map (·.size) = some n ∧ evo g x = some (.agg xs) ∧
      if d.isRow = true then K ⟨.agg ((xs.drop f.offset).take n), none, none⟩ else ∃ p, xs[f.offset]? = some p ∧ K ⟨p.av, none, none⟩
  | .indexAddr T x ix => ∃ k i, evo g ix = some (.v (.int k i)) ∧ 0 ≤ i ∧ (match P.underlying T with
    | some (.slice e) => ∃ sz rows row, evo g x = some (.sl sz rows) ∧ (P.info? e).map (·.size) = some sz ∧ rows[i.toNat]? = some row ∧ K ⟨.ept row, none, none⟩
    | some (.array n e) => ∃ sz, (P.info? e).map (·.size) = some sz ∧ i < n ∧ (match evo g x with
      | some (.ref k off) => K ⟨.ref k (off + i.toNat * sz), none, none⟩
      | some (.ept row) => K ⟨.ept (row.drop (i.toNat * sz)), none, none⟩
      | _ => False)
    | _ => False)
  | .slice T x lo hi mx => mx = none ∧ match P.underlying T with
    | some (.slice e) => ∃ sz rows l h, evo g x = some (.sl sz rows) ∧ (P.info? e).map (·.size) = some sz ∧ bound g 0 lo l ∧ bound g rows.length hi h ∧ l ≤ h ∧ h ≤ rows.length ∧ K ⟨.sl sz ((rows.take h).drop l), none, none⟩
    | some .string => ∃ s l h, evo g x = some (.v (.string s)) ∧ bound g 0 lo l ∧ bound g s.size hi h ∧ l ≤ h ∧ h ≤ s.size ∧ K ⟨.v (.string (s.extract l h)), none, none⟩
    | _ => False
  | .index T x ix => ∃ k i s c, evo g ix = some (.v (.int k i)) ∧ 0 ≤ i ∧ P.underlying T = some .string ∧ evo g x = some (.v (.string s)) ∧ s.data[i.toNat]? = some c ∧ K ⟨.v (.int .u8 (c.toNat : Nat)), none, none⟩
  | .binOp op _ x y _ => ∃ u v r, evo g x = some (.v u) ∧ evo g y = some (.v v) ∧ abin op u v = some r ∧ K ⟨.v r, none, none⟩
  | .unOp op _ x => ∃ u r, evo g x = some (.v u) ∧ aun op u = some r ∧ K ⟨.v r, none, none⟩
  | .makeInterface T x => ∃ u, evo g x = some (.v u) ∧ P.concrete T = true ∧ K ⟨.v (.iface T u), none, none⟩
  | .makeFunc fn first caps => ∃ f cs, fn = .func f ∧ first = #[] ∧ capRefs g caps.toList = some cs ∧ K ⟨.clo f cs, none, none⟩
  | .extract x i => ∃ vs c, evo g x = some (.tup vs) ∧ vs[i]? = some c ∧ K ⟨c.av, none, none⟩
  | .call c => hopCall P g bx c K
  | .nilCheck x => ∃ v, evo g x = some v ∧ ptrB v = true ∧ K ⟨v, none, none⟩
  | _ => False

end Av
end Go.Proofs.YticnppnejafhdaaGreatDoor
/- Abstract states: the machine yields what an operation yields abstractly. Generic. -/
namespace Go.Proofs.YticnppnejafhdaaGreatDoor
open Go.RowKit
namespace Av

theorem Rel.cell {F : Fr} {σ : St} {γ : Gh} {a : Act} {w : World} (h : Rel F σ γ a w) {p : Addr} {v : Value} (hp : rdr F.R0 F.w0.heap.size σ γ w p = some v) : w.cell? p = some v := by
  unfold rdr at hp
  by_cases hB : p.block < F.w0.heap.size
  · rw [if_pos hB] at hp
    exact (h.below.cell hB).trans (h.r0 _ _ hp)
  · rw [if_neg hB] at hp
    by_cases hm : σ.mut γ p
    · rw [if_pos hm] at hp; cases hp
    · rw [if_neg hm] at hp; exact hp
theorem evo_ok {F : Fr} {σ : St} {γ : Gh} {a : Act} {w : World} (h : Rel F σ γ a w) {g : Nat → Option AV} {x : Operand} {v : AV} (hg : ∀ t y, x = .tmp t → g t = some y → look σ.slot t = some y) (he : evo g x = some v) :
    RepA (rdr F.R0 F.w0.heap.size σ γ w) γ.bx v (a.eval x) ∧ ∀ k ∈ v.refs, (look σ.box k).isSome := by
  cases x with
  | tmp t => exact h.slots t v (hg t v rfl he)
  | const u => cases he; exact ⟨rfl, fun k hk => by cases hk⟩
  | func f => cases he; exact ⟨rfl, fun k hk => by cases hk⟩
  | global g => cases he
section
variable {P : Program}
theorem info_some {α : Type} {f : TypeInfo → α} {T : TypeId} {x : α} (h : (P.info? T).map f = some x) : ∃ i, P.info? T = some i ∧ f i = x := by
  cases hi : P.info? T with
  | none => rw [hi] at h; cases h
  | some i => rw [hi] at h; exact ⟨i, rfl, by simpa using h⟩
theorem run_load_one (w : World) (b o : Nat) (T : TypeId) (d : TypeDesc) (v : Value) (hc : w.cell? ⟨b, o, none⟩ = some v) (hu : P.underlying T = some d) (hd : d.isRow = false) :
    (Instr.loadAt T (.pointer (some ⟨b, o, none⟩))).run P w = .ok v w := by
  have hagg : (isAgg T).run P w = .ok false w := by
    unfold isAgg
    rw [Sem.run_bind, run_underlying hu w]
    cases d <;> simp_all
  simp [Instr.loadAt, Instr.sureAddr, loadVar, Sem.run_bind, hagg, load, Sem.run, hc]
end
/-- Where the operation's value comes from. -/
def src (P : Program) (g : Nat → Option AV) (o : Oper) : Option Loc :=
  match o.op with
  | .move (.tmp s) | .assign (.tmp s) => some (.s s)
  | .load T (.tmp p) => match g p, P.underlying T with
    | some (.ref k off), some d => if d.isRow = true then none else some (.b k off)
    | _, _ => none
  | _ => none
section
variable {P : Program} {F : Fr} {σ : St} {γ : Gh} {a : Act} {w : World} {o : Oper} {Q : Exit → Act → World → Prop} {d : Nat}
/-- One operation's step. -/
def Stp (P : Program) (F : Fr) (σ : St) (γ : Gh) (a : Act) (w : World) (o : Oper) (d : Nat) (σ' : St) : Act → World → Prop := fun a' w' =>
  ∃ γ' u, a' = a.put (some d) u ∧ Below w.heap.size w w' ∧ (∀ k, (look σ.box k).isSome → γ'.bx k = γ.bx k) ∧ Rel F σ' γ' a' w' ∧
    ∀ g S, (∀ t y, Operand.tmp t ∈ o.op.operands.toList → g t = some y → look σ.slot t = some y) → src P g o = some S → valAt a w γ S = some u ∨ valAt a w γ S = none
theorem src_val (h : Rel F σ γ a w) {g : Nat → Option AV} {S : Loc} {u : Value} (hg : ∀ t y, Operand.tmp t ∈ o.op.operands.toList → g t = some y → look σ.slot t = some y) (hs : src P g o = some S) (hrun : (execOp a.eval o).run P w = .ok (.value u) w) :
    valAt a w γ S = some u ∨ valAt a w γ S = none := by
  unfold src at hs
  split at hs
  · rename_i s ho
    cases hs
    simp only [execOp, ho, Sem.run_pure, Result.ok.injEq, Next.value.injEq, and_true] at hrun
    exact .inl (by rw [← hrun]; rfl)
  · rename_i s ho
    cases hs
    simp only [execOp, ho, Sem.run_pure, Result.ok.injEq, Next.value.injEq, and_true] at hrun
    exact .inl (by rw [← hrun]; rfl)
  · rename_i T p ho
    split at hs
    · rename_i k off d0 h1 h2
      split at hs
      · cases hs
      · rename_i hrow
        cases hs
        have h3 := (h.slots p _ (hg p _ (by rw [ho]; simp [Op.operands]) h1)).1
        have h4 : a.eval (.tmp p) = .pointer (some ⟨γ.bx k, off, none⟩) := h3
        show w.cell? ⟨γ.bx k, off, none⟩ = some u ∨ w.cell? ⟨γ.bx k, off, none⟩ = none
        cases hc : w.cell? ⟨γ.bx k, off, none⟩ with
        | none => exact .inr rfl
        | some v =>
          left
          have h5 := run_load_one (P := P) w (γ.bx k) off T d0 v hc h2 (by simpa using hrow)
          simp only [execOp, ho, h4, Sem.run_bind, h5, Result.andThen_ok, Sem.run_pure, Result.ok.injEq, Next.value.injEq, and_true] at hrun
          rw [hrun]
    · cases hs
  · cases hs
theorem pure_ok (h : Rel F σ γ a w) (hd : o.dst = some d) (hdn : d < F.n) {x : AV} {u : Value} (hrun : (execOp a.eval o).run P w = .ok (.value u) w) (hx : RepA (rdr F.R0 F.w0.heap.size σ γ w) γ.bx x u) (hr : ∀ k ∈ x.refs, (look σ.box k).isSome) :
    o.wp P a w (Stp P F σ γ a w o d (σ.res d ⟨x, none, none⟩)) Q := by
  unfold Oper.wp
  rw [hrun]
  show Stp P F σ γ a w o d (σ.put d x) (a.put o.dst u) w
  rw [hd]
  exact ⟨γ, u, rfl, Below.refl _ _, fun _ _ => rfl, h.put hdn hx hr, fun g S hg hs => src_val h hg hs hrun⟩
theorem box_ok (h : Rel F σ γ a w) (hd : o.dst = some d) (hdn : d < F.n) (hb : look σ.box d = none) {cs : List PV} {us : List Value} {ty : TypeId} (hsrc : ∀ g, src P g o = none)
    (hrun : (execOp a.eval o).run P w = .ok (.value (.pointer (some ⟨w.heap.size, 0, none⟩))) (w.alloc (.cells us.toArray ty))) (hl : RepL (rdr F.R0 F.w0.heap.size σ γ w) cs us) :
    o.wp P a w (Stp P F σ γ a w o d (σ.res d ⟨.ref d 0, some cs, none⟩)) Q := by
  unfold Oper.wp
  rw [hrun]
  show Stp P F σ γ a w o d ((σ.addBox d cs).put d (.ref d 0)) (a.put o.dst _) _
  rw [hd]
  refine ⟨_, _, rfl, (Below.refl _ _).alloc (Nat.le_refl _) _, fun k hk => ?_, (h.addBox (Nat.lt_of_lt_of_le hdn h.small) hb hl ty).put hdn ?_ ?_, fun g S hg hs => by rw [hsrc g] at hs; cases hs⟩
  · have : k ≠ d := fun e => by subst e; rw [hb] at hk; cases hk
    simp [Gh.addBox, this]
  · show _ = Value.pointer (some ⟨(γ.addBox d w.heap.size).bx d, 0, none⟩)
    simp [Gh.addBox]
  · intro k hk
    simp only [AV.refs, List.mem_singleton] at hk
    subst hk
    show (look ((k, cs) :: σ.box) k).isSome
    simp [look_cons]
end
theorem avCells_ok {R : Reader} {bx : Nat → Nat} {x : AV} {u : Value} {cs : List PV} (hx : RepA R bx x u) (hc : avCells x = some cs) : RepL R cs u.cells.toList := by
  cases x with
  | v y =>
    simp only [avCells] at hc
    by_cases h1 : y.oneCell' = true
    · rw [if_pos h1] at hc
      cases hc
      rw [show u = y from hx]
      have : y.cells = #[y] := by cases y <;> first | rfl | cases h1
      rw [this]
      exact .cons (.v y h1) .nil
    · rw [if_neg h1] at hc; cases hc
  | sl sz rows =>
    cases hc
    have hx' : RepP R (.sl sz rows) u := hx
    have h1 := hx'.one
    have : u.cells = #[u] := by cases u <;> first | rfl | cases h1
    rw [this]
    exact .cons hx' .nil
  | agg xs =>
    cases hc
    obtain ⟨us, rfl, h1⟩ := hx
    simpa [Value.cells] using h1
  | tup vs => cases hc
  | ref k off => cases hc
  | ept row => cases hc
  | clo f caps => cases hc
  | fnv f caps => cases hc
section
variable {P : Program}
/-- What lies behind a pointer is loaded. -/
theorem loadK_ok {T : TypeId} {row : List PV} {K : HR → Prop} (h : loadK P T row K) : ∃ x, K ⟨x, none, none⟩ ∧ x.refs = [] ∧
    ∀ (R : Reader) (bx : Nat → Nat) (w : World) (b off : Nat) (us : List Value), RepL R row us → (∀ (i : Nat) (u : Value), us[i]? = some u → w.cell? ⟨b, off + i, none⟩ = some u) →
      ∃ v, (Instr.loadAt T (.pointer (some ⟨b, off, none⟩))).run P w = .ok v w ∧ RepA R bx x v := by
  obtain ⟨d, n, hu, hn, hk⟩ := h
  by_cases hd : d.isRow = true
  · rw [if_pos hd] at hk
    refine ⟨_, hk.2, rfl, fun R bx w b off us hr hc => ?_⟩
    have hl := hr.length
    refine ⟨.agg (us.take n).toArray, ?_, us.take n, rfl, hr.take n⟩
    refine run_loadAt_mid w b off T (us.take n) d (fun j v hv => ?_) hu hd ?_
    · rw [List.getElem?_take] at hv
      split at hv
      · exact hc j v hv
      · cases hv
    · rw [hn, List.length_take, hl, Nat.min_eq_left hk.1]
  · rw [if_neg hd] at hk
    obtain ⟨p, hp, hk⟩ := hk
    have href : p.av.refs = [] := by cases p <;> rfl
    refine ⟨_, hk, href, fun R bx w b off us hr hc => ?_⟩
    obtain ⟨u, hu0, hpu⟩ := hr.get hp
    exact ⟨u, run_load_one w b off T d u (by have := hc 0 u hu0; simpa using this) hu (by simpa using hd), hpu.av⟩
theorem run_field_at (w : World) (T : TypeId) (fs : Array Field) (f : Field) (i n b o : Nat) (hu : P.underlying T = some (.struct fs)) (hf : fs[i]? = some f) (hn : (P.info? f.type).map (·.size) = some (n + 1)) :
    (Instr.fieldAt T (.pointer (some ⟨b, o, none⟩)) i).run P w = .ok (.pointer (some ⟨b, o + f.offset, none⟩)) w := by
  obtain ⟨j, hj, hs⟩ := info_some hn
  simp [Instr.fieldAt, Sem.run_bind, run_underlying hu, hf, Instr.sureAddr, fieldPlace, sizeOf, typeInfo, hj, hs, Addr.add_lit]
theorem run_part (w : World) (T : TypeId) (d : TypeDesc) (n : Nat) (us : List Value) (off : Nat) (hu : P.underlying T = some d) (hn : (P.info? T).map (·.size) = some n) :
    (d.isRow = true → (part T us.toArray off).run P w = .ok (.agg ((us.drop off).take n).toArray) w) ∧ (d.isRow = false → ∀ v, us[off]? = some v → (part T us.toArray off).run P w = .ok v w) := by
  obtain ⟨j, hj, hs⟩ := info_some hn
  constructor
  · intro hd
    have hagg : (isAgg T).run P w = .ok true w := by
      unfold isAgg
      rw [Sem.run_bind, run_underlying hu w]
      cases d <;> simp_all
    simp [part, Sem.run_bind, hagg, sizeOf, typeInfo, hj, hs]
  · intro hd v hv
    have hagg : (isAgg T).run P w = .ok false w := by
      unfold isAgg
      rw [Sem.run_bind, run_underlying hu w]
      cases d <;> simp_all
    simp [part, Sem.run_bind, hagg, hv]
theorem abin_ok {op : BinOp} {u v r : Value} (h : abin op u v = some r) (T : TypeId) (x y : Operand) (w : World) : ((do eqGuard op T x y u v; binOp op T u v) : Sem Value).run P w = .ok r w := by
  unfold abin at h
  split at h
  · split at h
    · rename_i k a k' b hk
      subst hk
      rw [Sem.run_bind, eqGuard_at_int]
      simp only [Sem.run_pure, Result.andThen_ok]
      by_cases hs : op = .shr
      · subst hs
        dsimp only at h
        by_cases hb : b = 1
        · rw [if_pos hb] at h
          cases h
          subst hb
          have := shift_shr k k a 1 (by decide) (by cases k <;> decide)
          simp [binOp, this]
        · rw [if_neg hb] at h
          cases h
      · cases op <;> simp only [] at h <;> first
          | exact absurd rfl hs
          | (cases h; simp [binOp, Op.intArith, Op.intCmp]; done)
          | (split at h
             · cases h
             · rename_i hb; cases h; simp [binOp, Op.intDiv, hb])
          | cases h
    · cases h
  · rename_i a b
    rw [Sem.run_bind, eqGuard_at_string]
    simp only [Sem.run_pure, Result.andThen_ok]
    by_cases hs : op = .add
    · subst hs
      dsimp only at h
      by_cases hb : a.size + b.size ≤ 9223372036854775807
      · rw [if_pos hb] at h
        cases h
        exact run_string_add_sum w _ _ hb
      · rw [if_neg hb] at h
        cases h
    · cases op <;> simp only [] at h <;> first
        | exact absurd rfl hs
        | (cases h; simp [binOp, Op.stringOp]; done)
        | cases h
  · cases h
theorem aun_ok {op : UnOp} {u r : Value} (h : aun op u = some r) (w : World) : (Op.unary op u).run P w = .ok r w := by
  unfold aun at h
  split at h
  · cases op <;> simp only [] at h <;> first | (cases h; rfl) | cases h
  · cases op <;> simp only [] at h <;> first | (cases h; rfl) | cases h
  · cases h
end

end Av
end Go.Proofs.YticnppnejafhdaaGreatDoor
/- Abstract states: calls, and all operations without effects. Generic. -/
namespace Go.Proofs.YticnppnejafhdaaGreatDoor
open Go.RowKit
namespace Av

section
variable {P : Program} {F : Fr} {σ : St} {γ : Gh} {a : Act} {w : World}
theorem Rel.boxcells (h : Rel F σ γ a w) {k : Nat} {cs : List PV} (hk : look σ.box k = some cs) : ∃ us, RepL (rdr F.R0 F.w0.heap.size σ γ w) cs us ∧ ∀ (i : Nat) (u : Value), us[i]? = some u → w.cell? ⟨γ.bx k, i, none⟩ = some u := by
  obtain ⟨us, ty, h1, _, h3⟩ := h.boxes k cs hk
  refine ⟨us, h3, fun i u hu => ?_⟩
  rw [cell_of_row w _ i _ ty (0, 0) h1]
  simpa using hu
theorem Rel.snapE (h : Rel F σ γ a w) {k off : Nat} {cs : List PV} (hk : look σ.box k = some cs) : RepE (fun p => w.cell? p) (cs.drop off) (.pointer (some ⟨γ.bx k, off, none⟩)) := by
  obtain ⟨us, h1, h2⟩ := h.boxcells hk
  exact ⟨_, _, us.drop off, rfl, (h1.drop off).mono (fun _ _ hp => h.cell hp), fun i x hx => h2 _ _ (by rw [List.getElem?_drop] at hx; exact hx)⟩
theorem snapCaps_ok (h : Rel F σ γ a w) {bx : Nat → Option (List PV)} (hbx : ∀ k cs, bx k = some cs → look σ.box k = some cs) : ∀ {caps : List (Nat × Nat)} {r : List (List PV)}, snapCaps bx caps = some r →
    RepEL (fun p => w.cell? p) r (caps.map fun c => Value.pointer (some ⟨γ.bx c.1, c.2, none⟩))
  | [], r, hr => by cases hr; exact .nil
  | c :: caps, r, hr => by
    unfold snapCaps at hr
    split at hr
    · rename_i cs r' h1 h2
      cases hr
      exact .cons (h.snapE (hbx _ _ h1)) (snapCaps_ok h hbx h2)
    · cases hr
theorem snap_ok (h : Rel F σ γ a w) {bx : Nat → Option (List PV)} (hbx : ∀ k cs, bx k = some cs → look σ.box k = some cs) {x x' : AV} {u : Value} (hx : RepA (rdr F.R0 F.w0.heap.size σ γ w) γ.bx x u) (hs : snap bx x = some x') :
    x'.refs = [] ∧ RepA (fun p => w.cell? p) (fun _ => 0) x' u ∧ (x.refs = [] → RepA (rdr F.R0 F.w0.heap.size σ γ w) (fun _ => 0) x' u) := by
  have same : x.refs = [] → x' = x → x'.refs = [] ∧ RepA (fun p => w.cell? p) (fun _ => 0) x' u ∧ (x.refs = [] → RepA (rdr F.R0 F.w0.heap.size σ γ w) (fun _ => 0) x' u) := fun h1 h2 => by
    subst h2
    exact ⟨h1, hx.mono (fun _ _ hp => h.cell hp) (fun k hk => by rw [h1] at hk; cases hk), fun _ => hx.free h1⟩
  cases x with
  | v y => exact same rfl (by cases hs; rfl)
  | sl sz rows => exact same rfl (by cases hs; rfl)
  | agg xs => exact same rfl (by cases hs; rfl)
  | tup vs => cases hs
  | ref k off =>
    simp only [snap] at hs
    cases hk : bx k with
    | none => rw [hk] at hs; cases hs
    | some cs =>
      rw [hk] at hs
      cases hs
      rw [show u = _ from hx]
      exact ⟨rfl, h.snapE (hbx _ _ hk), fun h => by cases h⟩
  | ept row => exact same rfl (by cases hs; rfl)
  | clo f caps =>
    simp only [snap] at hs
    cases hk : snapCaps bx caps with
    | none => rw [hk] at hs; cases hs
    | some r =>
      rw [hk] at hs
      cases hs
      refine ⟨rfl, ⟨_, hx, snapCaps_ok h hbx hk⟩, fun h => ?_⟩
      have : caps = [] := by simpa [AV.refs] using h
      subst this
      cases hk
      exact ⟨[], hx, .nil⟩
  | fnv f caps => exact same rfl (by cases hs; rfl)
/-- Slots' data and their values. -/
inductive Reps (R : Reader) (σ : St) (bx : Nat → Nat) : List AV → List Value → Prop
  | nil : Reps R σ bx [] []
  | cons {x : AV} {u : Value} {xs : List AV} {us : List Value} (h : RepA R bx x u) (hr : ∀ k ∈ x.refs, (look σ.box k).isSome) (t : Reps R σ bx xs us) : Reps R σ bx (x :: xs) (u :: us)
theorem evos_ok (h : Rel F σ γ a w) {g : Nat → Option AV} : ∀ {l : List Operand} {vs : List AV}, (∀ t y, Operand.tmp t ∈ l → g t = some y → look σ.slot t = some y) → evos g l = some vs →
    Reps (rdr F.R0 F.w0.heap.size σ γ w) σ γ.bx vs (l.map a.eval)
  | [], vs, _, he => by cases he; exact .nil
  | x :: l, vs, hg, he => by
    unfold evos at he
    split at he
    · rename_i v vs' h1 h2
      cases he
      obtain ⟨h3, h4⟩ := evo_ok h (fun t y ht => hg t y (by rw [ht]; exact List.mem_cons_self)) h1
      exact .cons h3 h4 (evos_ok h (fun t y ht => hg t y (List.mem_cons_of_mem _ ht)) h2)
    · cases he
theorem snaps_ok (h : Rel F σ γ a w) {bx : Nat → Option (List PV)} (hbx : ∀ k cs, bx k = some cs → look σ.box k = some cs) : ∀ {vs vs' : List AV} {us : List Value}, Reps (rdr F.R0 F.w0.heap.size σ γ w) σ γ.bx vs us → snaps bx vs = some vs' →
    RepAL (fun p => w.cell? p) vs' us ∧ ((vs.all fun x => x.refs.isEmpty) = true → RepAL (rdr F.R0 F.w0.heap.size σ γ w) vs' us)
  | [], vs', us, hr, hs => by
    cases hr
    cases hs
    exact ⟨.nil, fun _ => .nil⟩
  | x :: vs, vs', us, hr, hs => by
    cases hr with
    | cons h1 h2 h3 =>
      unfold snaps at hs
      split at hs
      · rename_i v vs'' h4 h5
        cases hs
        obtain ⟨g1, g2, g3⟩ := snap_ok h hbx h1 h4
        obtain ⟨g4, g5⟩ := snaps_ok h hbx h3 h5
        refine ⟨.cons g2 g1 g4, fun hall => ?_⟩
        rw [List.all_cons, Bool.and_eq_true] at hall
        exact .cons (g3 (by simpa using hall.1)) g1 (g5 hall.2)
      · cases hs
theorem lit_any {R R' : Reader} {bx bx' : Nat → Nat} {x : AV} {u : Value} (hl : x.lit = true) (h : RepA R bx x u) : RepA R' bx' x u := by
  cases x with
  | v y => exact h
  | tup vs =>
    obtain ⟨us, e, h⟩ := h
    refine ⟨us, e, ?_⟩
    simp only [AV.lit] at hl
    clear e
    induction h with
    | nil => exact .nil
    | cons h _ ih =>
      rw [List.all_cons, Bool.and_eq_true] at hl
      refine .cons ?_ (ih hl.2)
      cases h with
      | c h => cases h with
        | v _ h => exact .c (.v _ h)
        | sl => simp at hl
      | g => simp at hl
  | sl => cases hl
  | agg => cases hl
  | ref => cases hl
  | ept => cases hl
  | clo => cases hl
  | fnv => cases hl
/-- What a call makes, as the caller may read it. -/
theorem fresh_le (h : Rel F σ γ a w) {w1 : World} (hb : Below w.heap.size w w1) : ∀ p v, fresh (rdr F.R0 F.w0.heap.size σ γ w) w w1 none 0 p = some v → rdr F.R0 F.w0.heap.size σ γ w1 p = some v := by
  intro p v hp
  unfold fresh at hp
  by_cases hlt : p.block < w.heap.size
  · rw [if_pos hlt] at hp; exact grow_le hb p v hp
  · rw [if_neg hlt, if_neg (by rintro ⟨h1, _⟩; cases h1)] at hp
    unfold rdr
    have := h.base
    rw [if_neg (by omega), if_neg ?_]
    · exact hp
    · rintro (⟨k, cs, hk, hpk⟩ | ⟨L, e, sz, rows, h1, h2, h3, h4⟩ | hx)
      · have := (h.box_lt (k := k) (by rw [hk]; rfl)).1; omega
      · have := (h.row_lt (L := L) (by rw [h1]; rfl) h3).1; omega
      · have := (h.extf _ (.inl hx)).2.1; omega
/-- A call's result goes into a slot. -/
theorem Rel.call (h : Rel F σ γ a w) {w1 : World} (hb : Below w.heap.size w w1) {d : Nat} (hd : d < F.n) {res : FRes} {u : Value} (hr : ResRep (rdr F.R0 F.w0.heap.size σ γ w) w w1 res u) :
    ∃ γ', (∀ k, γ'.bx k = γ.bx k) ∧ Rel F (σ.res d ⟨res.av, none, res.own⟩) γ' (a.put (some d) u) w1 := by
  obtain ⟨x, own⟩ := res
  cases own with
  | none =>
    obtain ⟨h1, h2⟩ := hr
    exact ⟨γ, fun _ => rfl, (h.grow hb).put hd ((h2.free h1).mono (fresh_le h hb) (fun _ _ => rfl)) (fun k hk => by rw [show x.refs = [] from h1] at hk; cases hk)⟩
  | some e =>
    cases x with
    | sl sz rows =>
      obtain ⟨q, h1, h2⟩ := hr
      refine ⟨γ.setRow (.s d) q, fun _ => rfl, ?_⟩
      have := h.row (d := d) hd (s := none) (sz := sz) (rows := rows) (e := e) (v := u) (q := q) hb.os hb.tape hb.output hb.size (fun k hk _ => hb.block k hk) (fun t ht => by cases ht)
        (fun g hg => .inl (by rw [hg] at h1; exact h1.lt.1)) (h1.low h.base) (RepP.mono (fun p v hp => ?_) h2)
      · exact this
      · unfold fresh at hp
        by_cases hlt : p.block < w.heap.size
        · rw [if_pos hlt] at hp
          rw [if_pos (by rw [hp]; rfl)]
          exact hp
        · rw [if_neg hlt] at hp
          have hnone : rdr F.R0 F.w0.heap.size σ γ w p = none := by
            cases hq : rdr F.R0 F.w0.heap.size σ γ w p with
            | none => rfl
            | some z => exact absurd (Rel.cell_lt (h.cell hq)) hlt
          rw [hnone, if_neg (by simp)]
          by_cases hqp : q = some p.block
          · by_cases hoff : rows.length * sz ≤ p.off
            · rw [if_pos ⟨hqp, hoff⟩] at hp; cases hp
            · rw [if_neg (fun e => hoff e.2)] at hp
              rw [if_pos ⟨hqp, by omega⟩]
              exact hp
          · rw [if_neg (fun e => hqp e.1)] at hp
            rw [if_neg (fun e => hqp e.1), if_neg (fun e => e.elim hlt hqp)]
            exact hp
    | v => cases hr
    | agg => cases hr
    | tup => cases hr
    | ref => cases hr
    | ept => cases hr
    | clo => cases hr
    | fnv => cases hr
theorem run_callFunc {f : FuncId} (h : Enters P f) (args : Array Value) (w : World) : (callFunc f args).run P w = .ok (.enter f args) w := by
  obtain ⟨fn, c, hf, hname, hb⟩ := h
  have h1 : fn.name ≠ "runtime.NumGoroutine" := by simpa using hname
  simp [callFunc, hf, h1, hb]
theorem RepEL.al {R : Reader} {caps : List (List PV)} {us : List Value} (h : RepEL R caps us) : RepAL R (caps.map .ept) us := by
  induction h with
  | nil => exact .nil
  | cons h _ ih => exact .cons h rfl ih
end

end Av
end Go.Proofs.YticnppnejafhdaaGreatDoor
/- Abstract states: hop is sound. Generic. -/
namespace Go.Proofs.YticnppnejafhdaaGreatDoor
open Go.RowKit
namespace Av

section
variable {P : Program} {F : Fr}
theorem capRefs_ok {σ : St} {γ : Gh} {a : Act} {w : World} (h : Rel F σ γ a w) {g : Nat → Option AV} : ∀ {l : List Operand} {cs : List (Nat × Nat)}, (∀ t y, Operand.tmp t ∈ l → g t = some y → look σ.slot t = some y) → capRefs g l = some cs →
    l.map a.eval = (cs.map fun c => Value.pointer (some ⟨γ.bx c.1, c.2, none⟩)) ∧ ∀ c ∈ cs, (look σ.box c.1).isSome
  | [], cs, _, he => by cases he; exact ⟨rfl, fun c hc => by cases hc⟩
  | x :: l, cs, hg, he => by
    unfold capRefs at he
    split at he
    · rename_i k off r h1 h2
      cases he
      obtain ⟨h3, h4⟩ := evo_ok h (fun t y ht => hg t y (by rw [ht]; exact List.mem_cons_self)) h1
      obtain ⟨h5, h6⟩ := capRefs_ok h (fun t y ht => hg t y (List.mem_cons_of_mem _ ht)) h2
      refine ⟨by rw [List.map_cons, List.map_cons, h5, show a.eval x = _ from h3], fun c hc => ?_⟩
      rcases List.mem_cons.1 hc with rfl | hc
      · exact h4 _ (by simp [AV.refs])
      · exact h6 c hc
    · cases he
theorem bound_ok {σ : St} {γ : Gh} {a : Act} {w : World} (h : Rel F σ γ a w) {g : Nat → Option AV} {x : Option Operand} {dflt n : Nat} (hg : ∀ o, x = some o → ∀ t y, o = .tmp t → g t = some y → look σ.slot t = some y) (hb : bound g dflt x n) :
    (x = none ∧ n = dflt) ∨ ∃ o k i, x = some o ∧ a.eval o = .int k i ∧ 0 ≤ i ∧ n = i.toNat := by
  cases x with
  | none => exact .inl ⟨rfl, hb⟩
  | some o =>
    obtain ⟨k, i, h1, h2, h3⟩ := hb
    exact .inr ⟨o, k, i, rfl, (evo_ok h (hg o rfl) h1).1, h2, h3⟩
theorem run_bounds (isSlice : Bool) (len cap : Nat) (lo hi : Option Value) (l h : Nat) (w : World) (hlo : (lo = none ∧ l = 0) ∨ ∃ k i, lo = some (.int k i) ∧ 0 ≤ i ∧ l = i.toNat) (hhi : (hi = none ∧ h = len) ∨ ∃ k i, hi = some (.int k i) ∧ 0 ≤ i ∧ h = i.toNat) (h1 : l ≤ h) (h2 : h ≤ cap) :
    (Instr.sliceBounds isSlice len cap lo hi none).run P w = .ok (l, h, cap) w := by
  rcases hlo with ⟨rfl, rfl⟩ | ⟨k, i, rfl, hi0, rfl⟩ <;> rcases hhi with ⟨rfl, rfl⟩ | ⟨k', j, rfl, hj0, rfl⟩
  · simp [Instr.sliceBounds]
  · simp [Instr.sliceBounds, Instr.sliceBound, asIntOf, hj0, show j ≤ (cap : Int) by omega]
  · have e1 : i ≤ ((h : Nat) : Int) := by omega
    simp [Instr.sliceBounds, Instr.sliceBound, asIntOf, hi0, e1]
  · have e1 : ¬ (max j 0 < i) := by omega
    simp [Instr.sliceBounds, Instr.sliceBound, asIntOf, hi0, hj0, show j ≤ (cap : Int) by omega, e1]
theorem rows_slice {R : Reader} {sz : Nat} {rows : List (List PV)} {u : Value} (h : RepP R (.sl sz rows) u) {l hh : Nat} (h1 : l ≤ hh) (h2 : hh ≤ rows.length) :
    ∃ A cap, u = .slice A rows.length cap ∧ rows.length ≤ cap ∧ RepP R (.sl sz ((rows.take hh).drop l)) (.slice (if cap = l then A else A.map (·.add (l * sz))) (hh - l) (cap - l)) := by
  cases h with
  | sl _ _ A cap f hsz hA hf hc =>
    refine ⟨A, cap, rfl, hc, ?_⟩
    have hlen : ((rows.take hh).drop l).length = hh - l := by simp; omega
    have hget : ∀ (k : Nat) (row : List PV), ((rows.take hh).drop l)[k]? = some row → rows[l + k]? = some row := fun k row hk => by
      rw [List.getElem?_drop, List.getElem?_take] at hk
      split at hk
      · exact hk
      · cases hk
    rw [← hlen]
    refine .sl sz _ _ _ (fun k j => f (l + k) j) (fun k row hk => hsz _ row (hget k row hk)) ?_ (fun k row j p hk hj => hf _ row j p (hget k row hk) hj) (by omega)
    rcases hA with h0 | ⟨b, off, rfl, hA⟩
    · left; rw [h0]; simp
    · by_cases he : (rows.take hh).drop l = []
      · exact .inl he
      · right
        by_cases hcl : cap = l
        · exfalso
          apply he
          apply List.eq_nil_of_length_eq_zero
          omega
        · refine ⟨b, off + l * sz, by rw [if_neg hcl, Option.map_some, Addr.add_mid], fun k row j p hk hj => ?_⟩
          have := hA (l + k) row j p (hget k row hk) hj
          rw [show off + l * sz + k * sz + j = off + (l + k) * sz + j by rw [Nat.add_mul]; omega]
          exact this

theorem RepCL.get {R : Reader} {ps : List CV} {us : List Value} (h : RepCL R ps us) : ∀ {i : Nat} {p : CV}, ps[i]? = some p → ∃ u, us[i]? = some u ∧ RepC R p u := by
  induction h with
  | nil => intro i p hp; simp at hp
  | cons h _ ih =>
    intro i p hp
    cases i with
    | zero => simp at hp; subst hp; exact ⟨_, rfl, h⟩
    | succ i => simpa using ih (by simpa using hp)
theorem call_ok {σ : St} {γ : Gh} {a : Act} {w : World} {o : Oper} {d : Nat} (h : Rel F σ γ a w) (hd : o.dst = some d) (hdn : d < F.n) {f : Operand} {args : Array Operand} {ats : Array TypeId} (ho : o.op = .call { callee := .value f, args := args, argTypes := ats })
    {g : Nat → Option AV} {bx : Nat → Option (List PV)} (hg : ∀ t y, Operand.tmp t ∈ o.op.operands.toList → g t = some y → look σ.slot t = some y) (hbx : ∀ k cs, bx k = some cs → look σ.box k = some cs)
    {fv : AV} {fid : Nat} {caps : List (List PV)} {avs avs' : List AV} {res : FRes} (h1 : evo g f = some fv) (h2 : snap bx fv = some (.fnv fid caps)) (h3 : evos g args.toList = some avs) (h4 : snaps bx avs = some avs') (h5 : FnOK P fid (avs' ++ caps.map AV.ept) res)
    (h6 : ((fv :: avs).all fun x => x.refs.isEmpty) = true ∨ (res.av.lit = true ∧ res.own = none)) (Q : Exit → Act → World → Prop) : o.wp P a w (Stp P F σ γ a w o d (σ.res d ⟨res.av, none, res.own⟩)) Q := by
  obtain ⟨henter, hcall⟩ := h5
  obtain ⟨g1, g2⟩ := evo_ok h (fun t y ht => hg t y (by rw [ho, ht]; simp [Op.operands, Call.operands])) h1
  obtain ⟨_, g3, g4⟩ := snap_ok h hbx g1 h2
  obtain ⟨us, gv, g5⟩ := g3
  have gA := evos_ok h (fun t y ht => hg t y (by rw [ho]; simp [Op.operands, Call.operands]; right; simpa using ht)) h3
  obtain ⟨g6, g7⟩ := snaps_ok h hbx gA h4
  have hrun : (execOp a.eval o).run P w = .ok (.enter fid (args.map a.eval ++ us.toArray)) w := by
    simp [execOp, ho, resolve, gv, Deferred.ofValue, invoke, run_callFunc henter]
  have hargs : args.map a.eval ++ us.toArray = (args.toList.map a.eval ++ us).toArray := by
    obtain ⟨l⟩ := args
    simp
  unfold Oper.wp
  rw [hrun, Oper.upon_enter, hargs, hd]
  by_cases hall : ((fv :: avs).all fun x => x.refs.isEmpty) = true
  · have hall' := hall
    rw [List.all_cons, Bool.and_eq_true] at hall'
    obtain ⟨us', gv', g8⟩ := g4 (by simpa using hall'.1)
    have : us' = us := by
      rw [gv] at gv'
      simpa using gv'.symm
    subst this
    refine (hcall w _ (fun p v hp => h.cell hp) _ ((g7 hall'.2).append g8.al)).mono ?_
    rintro e w1 ⟨u, rfl, hb, hr⟩
    obtain ⟨γ', hγ, hrel⟩ := h.call hb hdn hr
    exact ⟨γ', u, rfl, hb, fun k _ => hγ k, hrel, fun g S _ hs => by simp [src, ho] at hs⟩
  · obtain ⟨hl, ho'⟩ := h6.resolve_left hall
    refine (hcall w (fun p => w.cell? p) (fun _ _ hp => hp) _ (g6.append g5.al)).mono ?_
    rintro e w1 ⟨u, rfl, hb, hr⟩
    have hr' : ResRep (rdr F.R0 F.w0.heap.size σ γ w) w w1 res u := by
      obtain ⟨x, own⟩ := res
      subst ho'
      exact ⟨hr.1, lit_any hl hr.2⟩
    obtain ⟨γ', hγ, hrel⟩ := h.call hb hdn hr'
    exact ⟨γ', u, rfl, hb, fun k _ => hγ k, hrel, fun g S _ hs => by simp [src, ho] at hs⟩

/-- THE OPERATIONS. -/
theorem hop_sound {o : Oper} {K : HR → Prop} {g : Nat → Option AV} {bx : Nat → Option (List PV)} (hh : hop P g bx o K) {d : Nat} (hd : o.dst = some d) (hdn : d < F.n) :
    ∃ r, K r ∧ ∀ σ γ a w, Rel F σ γ a w → (∀ t y, Operand.tmp t ∈ o.op.operands.toList → g t = some y → look σ.slot t = some y) → (∀ k cs, bx k = some cs → look σ.box k = some cs) → (bx d = none → look σ.box d = none) →
      ∀ Q, o.wp P a w (Stp P F σ γ a w o d (σ.res d r)) Q := by
  unfold hop at hh
  split at hh
  case h_1 x ho =>
    obtain ⟨v, h1, h2⟩ := hh
    refine ⟨_, h2, fun σ γ a w h hg hbx hbd Q => ?_⟩
    obtain ⟨h3, h4⟩ := evo_ok h (fun t y ht => hg t y (by rw [ho]; simp [Op.operands, ht])) h1
    exact pure_ok h hd hdn (by simp [execOp, ho]) h3 h4
  case h_2 x ho =>
    obtain ⟨v, h1, h2⟩ := hh
    refine ⟨_, h2, fun σ γ a w h hg hbx hbd Q => ?_⟩
    obtain ⟨h3, h4⟩ := evo_ok h (fun t y ht => hg t y (by rw [ho]; simp [Op.operands, ht])) h1
    exact pure_ok h hd hdn (by simp [execOp, ho]) h3 h4
  case h_3 c x y ho =>
    obtain ⟨t, v, h0, h1, h2⟩ := hh
    refine ⟨_, h2, fun σ γ a w h hg hbx hbd Q => ?_⟩
    obtain ⟨h3, h4⟩ := evo_ok h (x := if t = true then x else y) (fun u y' ht => hg u y' (by rw [ho]; cases t <;> simp_all [Op.operands])) h1
    have h5 : a.eval c = .bool t := (evo_ok h (fun u y' ht => hg u y' (by rw [ho]; simp [Op.operands, ht])) h0).1
    refine pure_ok h hd hdn ?_ h3 h4
    simp only [execOp, ho, h5, asBool, Sem.run_bind, Sem.run_pure, Result.andThen_ok]
    cases t <;> rfl
  case h_4 T x ho =>
    obtain ⟨v, cs, d', h1, h2, h3, h4, h5⟩ := hh
    rw [hd] at h3
    cases h3
    refine ⟨_, h5, fun σ γ a w h hg hbx hbd Q => ?_⟩
    obtain ⟨h6, _⟩ := evo_ok h (fun t y ht => hg t y (by rw [ho]; simp [Op.operands, ht])) h1
    have h7 := avCells_ok h6 h2
    refine box_ok h hd hdn (hbd h4) (us := (a.eval x).cells.toList) (ty := T) (fun g => by simp [src, ho]) ?_ h7
    simp only [execOp, ho, Instr.box, newVar, newRow, newObj, Sem.run_bind, Sem.run, Sem.run_pure, Result.andThen_ok, Array.toArray_toList]
    rfl
  case h_5 T ho =>
    obtain ⟨z, d', h1, h2, h3, h4, h5⟩ := hh
    rw [hd] at h3
    cases h3
    refine ⟨_, h5, fun σ γ a w h hg hbx hbd Q => ?_⟩
    obtain ⟨i, hi, hz⟩ := info_some h1
    refine box_ok h hd hdn (hbd h4) (us := z.cells.toList) (ty := T) (fun g => by simp [src, ho]) ?_ ?_
    · simp only [execOp, ho, Instr.alloc, zeroValue, typeInfo, newVar, newRow, newObj, program, Sem.run_bind, Sem.run, Sem.run_pure, Result.andThen_ok, Array.toArray_toList, hi, hz]
      rfl
    · rw [List.all_eq_true] at h2
      refine RepL.of (by simp) fun i p u hp hu => ?_
      rw [List.getElem?_map, hu] at hp
      cases hp
      exact .v u (h2 u (List.mem_of_getElem? hu))
  case h_6 T x ho =>
    have hmem : ∀ {σ : St} {a : Act}, (∀ t y, Operand.tmp t ∈ o.op.operands.toList → g t = some y → look σ.slot t = some y) → ∀ t y, x = .tmp t → g t = some y → look σ.slot t = some y := fun hg t y ht => hg t y (by rw [ho]; simp [Op.operands, ht])
    split at hh
    · rename_i k off he
      obtain ⟨cs, h1, h2⟩ := hh
      obtain ⟨v, h3, h4, h5⟩ := loadK_ok h2
      refine ⟨_, h3, fun σ γ a w h hg hbx hbd Q => ?_⟩
      obtain ⟨h6, _⟩ := evo_ok h (hmem (a := a) hg) he
      obtain ⟨us, h7, h8⟩ := h.boxcells (hbx _ _ h1)
      obtain ⟨u, h9, h10⟩ := h5 _ γ.bx w (γ.bx k) off (us.drop off) (h7.drop off) (fun i u hu => h8 _ _ (by rw [List.getElem?_drop] at hu; exact hu))
      refine pure_ok h hd hdn ?_ h10 (fun k hk => by rw [h4] at hk; cases hk)
      simp only [execOp, ho, show a.eval x = _ from h6, Sem.run_bind, h9, Sem.run_pure, Result.andThen_ok]
    · rename_i row he
      obtain ⟨v, h3, h4, h5⟩ := loadK_ok hh
      refine ⟨_, h3, fun σ γ a w h hg hbx hbd Q => ?_⟩
      obtain ⟨h6, _⟩ := evo_ok h (hmem (a := a) hg) he
      obtain ⟨b, off, us, h7, h8, h9⟩ := h6
      obtain ⟨u, h10, h11⟩ := h5 _ γ.bx w b off us h8 (fun i u hu => h.cell (h9 i u hu))
      refine pure_ok h hd hdn ?_ h11 (fun k hk => by rw [h4] at hk; cases hk)
      simp only [execOp, ho, h7, Sem.run_bind, h10, Sem.run_pure, Result.andThen_ok]
    · cases hh
  case h_7 T x i ho =>
    obtain ⟨fs, f, n0, h1, h2, h3, h30, hh⟩ := hh
    obtain ⟨n, rfl⟩ : ∃ n, n0 = n + 1 := ⟨n0 - 1, by omega⟩
    have hmem : ∀ {σ : St} {a : Act}, (∀ t y, Operand.tmp t ∈ o.op.operands.toList → g t = some y → look σ.slot t = some y) → ∀ t y, x = .tmp t → g t = some y → look σ.slot t = some y := fun hg t y ht => hg t y (by rw [ho]; simp [Op.operands, ht])
    split at hh
    · rename_i k off he
      refine ⟨_, hh, fun σ γ a w h hg hbx hbd Q => ?_⟩
      obtain ⟨h6, h7⟩ := evo_ok h (hmem (a := a) hg) he
      refine pure_ok h hd hdn (u := .pointer (some ⟨γ.bx k, off + f.offset, none⟩)) ?_ rfl h7
      simp only [execOp, ho, show a.eval x = _ from h6, Sem.run_bind, run_field_at w T fs f i n _ _ h1 h2 h3, Sem.run_pure, Result.andThen_ok]
    · rename_i row he
      refine ⟨_, hh, fun σ γ a w h hg hbx hbd Q => ?_⟩
      obtain ⟨h6, _⟩ := evo_ok h (hmem (a := a) hg) he
      obtain ⟨b, off, us, h7, h8, h9⟩ := h6
      refine pure_ok h hd hdn (u := .pointer (some ⟨b, off + f.offset, none⟩)) ?_ ⟨b, off + f.offset, us.drop f.offset, rfl, h8.drop _, fun j y hy => ?_⟩ (fun k hk => by cases hk)
      · simp only [execOp, ho, h7, Sem.run_bind, run_field_at w T fs f i n _ _ h1 h2 h3, Sem.run_pure, Result.andThen_ok]
      · rw [List.getElem?_drop] at hy
        rw [Nat.add_assoc]
        exact h9 _ _ hy
    · cases hh
  case h_8 T x i ho =>
    obtain ⟨fs, f, dd, n, xs, h1, h2, h3, h4, h5, hh⟩ := hh
    have hev : ∀ {σ γ a w}, Rel F σ γ a w → (∀ t y, Operand.tmp t ∈ o.op.operands.toList → g t = some y → look σ.slot t = some y) → ∃ us, a.eval x = .agg us.toArray ∧ RepL (rdr F.R0 F.w0.heap.size σ γ w) xs us := fun h hg =>
      (evo_ok h (fun t y ht => hg t y (by rw [ho]; simp [Op.operands, ht])) h5).1
    by_cases hrow : dd.isRow = true
    · rw [if_pos hrow] at hh
      refine ⟨_, hh, fun σ γ a w h hg hbx hbd Q => ?_⟩
      obtain ⟨us, h6, h7⟩ := hev h hg
      refine pure_ok h hd hdn (u := .agg ((us.drop f.offset).take n).toArray) ?_ ⟨_, rfl, (h7.drop _).take n⟩ (fun k hk => by cases hk)
      simp [execOp, ho, h6, Instr.field, run_underlying h1, h2, asAgg, (run_part (P := P) w f.type dd n us f.offset h3 h4).1 hrow]
    · rw [if_neg hrow] at hh
      obtain ⟨p, h6, hh⟩ := hh
      refine ⟨_, hh, fun σ γ a w h hg hbx hbd Q => ?_⟩
      obtain ⟨us, h7, h8⟩ := hev h hg
      obtain ⟨u, h9, h10⟩ := h8.get h6
      refine pure_ok h hd hdn (u := u) ?_ h10.av (fun k hk => by cases p <;> cases hk)
      simp [execOp, ho, h7, Instr.field, run_underlying h1, h2, asAgg, (run_part (P := P) w f.type dd n us f.offset h3 h4).2 (by simpa using hrow) u h9]
  case h_9 T x ix ho =>
    obtain ⟨k, i, h1, h2, hh⟩ := hh
    have hix : ∀ {σ γ a w}, Rel F σ γ a w → (∀ t y, Operand.tmp t ∈ o.op.operands.toList → g t = some y → look σ.slot t = some y) → a.eval ix = .int k i := fun h hg =>
      (evo_ok h (fun t y ht => hg t y (by rw [ho]; simp [Op.operands, ht])) h1).1
    have hmem : ∀ {σ : St} {a : Act}, (∀ t y, Operand.tmp t ∈ o.op.operands.toList → g t = some y → look σ.slot t = some y) → ∀ t y, x = .tmp t → g t = some y → look σ.slot t = some y := fun hg t y ht => hg t y (by rw [ho]; simp [Op.operands, ht])
    split at hh
    · rename_i e hu
      obtain ⟨sz, rows, row, h3, h4, h5, hh⟩ := hh
      refine ⟨_, hh, fun σ γ a w h hg hbx hbd Q => ?_⟩
      obtain ⟨h6, _⟩ := evo_ok h (hmem (a := a) hg) h3
      have h6' : RepP _ (.sl sz rows) (a.eval x) := h6
      obtain ⟨j, hj, hs⟩ := info_some h4
      have hlt : i.toNat < rows.length := (List.getElem?_eq_some_iff.1 h5).1
      cases hv : a.eval x with
      | slice A len cap =>
        rw [hv] at h6'
        cases h6' with
        | sl _ _ _ _ f hsz hA hf hc =>
          rcases hA with h0 | ⟨b, off, rfl, hA⟩
          · rw [h0] at h5; simp at h5
          · have hrl := hsz _ _ h5
            refine pure_ok h hd hdn (u := .pointer (some ⟨b, off + i.toNat * sz, none⟩)) ?_ ⟨b, off + i.toNat * sz, (List.range row.length).map (f i.toNat), rfl, ?_, fun q y hy => ?_⟩ (fun k hk => by cases hk)
            · simp [execOp, ho, hv, hix h hg, Instr.indexAt, run_underlying hu, asIntOf, h2, show i < (rows.length : Int) by omega, sizeOf, typeInfo, hj, hs, Addr.add_lit]
            · refine RepL.of (by simp) fun q p u hp hu' => ?_
              have hq : q < row.length := (List.getElem?_eq_some_iff.1 hp).1
              simp [hq] at hu'
              subst hu'
              exact hf _ row q p h5 hp
            · have hq : q < row.length := by
                rcases Nat.lt_or_ge q row.length with h' | h'
                · exact h'
                · rw [List.getElem?_eq_none (by simpa using h')] at hy; cases hy
              simp [hq] at hy
              subst hy
              exact hA _ row q row[q] h5 (List.getElem?_eq_getElem hq)
      | bool => rw [hv] at h6'; cases h6'
      | int => rw [hv] at h6'; cases h6'
      | float => rw [hv] at h6'; cases h6'
      | complex => rw [hv] at h6'; cases h6'
      | string => rw [hv] at h6'; cases h6'
      | pointer => rw [hv] at h6'; cases h6'
      | map => rw [hv] at h6'; cases h6'
      | chan => rw [hv] at h6'; cases h6'
      | func => rw [hv] at h6'; cases h6'
      | nilFunc => rw [hv] at h6'; cases h6'
      | iface => rw [hv] at h6'; cases h6'
      | nilIface => rw [hv] at h6'; cases h6'
      | agg => rw [hv] at h6'; cases h6'
      | tuple => rw [hv] at h6'; cases h6'
    · rename_i n e hu
      obtain ⟨sz, h4, h5, hh⟩ := hh
      obtain ⟨j, hj, hs⟩ := info_some h4
      split at hh
      · rename_i k' off he
        refine ⟨_, hh, fun σ γ a w h hg hbx hbd Q => ?_⟩
        obtain ⟨h6, h7⟩ := evo_ok h (hmem (a := a) hg) he
        refine pure_ok h hd hdn (u := .pointer (some ⟨γ.bx k', off + i.toNat * sz, none⟩)) ?_ rfl h7
        simp [execOp, ho, show a.eval x = _ from h6, hix h hg, Instr.indexAt, run_underlying hu, asIntOf, Instr.sureAddr, h2, h5, sizeOf, typeInfo, hj, hs, Addr.add_lit]
      · rename_i row he
        refine ⟨_, hh, fun σ γ a w h hg hbx hbd Q => ?_⟩
        obtain ⟨h6, _⟩ := evo_ok h (hmem (a := a) hg) he
        obtain ⟨b, off, us, h7, h8, h9⟩ := h6
        refine pure_ok h hd hdn (u := .pointer (some ⟨b, off + i.toNat * sz, none⟩)) ?_ ⟨b, off + i.toNat * sz, us.drop (i.toNat * sz), rfl, h8.drop _, fun j y hy => ?_⟩ (fun k hk => by cases hk)
        · simp [execOp, ho, h7, hix h hg, Instr.indexAt, run_underlying hu, asIntOf, Instr.sureAddr, h2, h5, sizeOf, typeInfo, hj, hs, Addr.add_lit]
        · rw [List.getElem?_drop] at hy
          rw [Nat.add_assoc]
          exact h9 _ _ hy
      · cases hh
    · cases hh
  case h_10 T x lo hi mx ho =>
    obtain ⟨rfl, hh⟩ := hh
    have hmem : ∀ {σ : St} {a : Act}, (∀ t y, Operand.tmp t ∈ o.op.operands.toList → g t = some y → look σ.slot t = some y) → ∀ t y, x = .tmp t → g t = some y → look σ.slot t = some y := fun hg t y ht => hg t y (by rw [ho]; simp [Op.operands, ht])
    have hlo : ∀ {σ : St} {a : Act}, (∀ t y, Operand.tmp t ∈ o.op.operands.toList → g t = some y → look σ.slot t = some y) → ∀ z, lo = some z → ∀ t y, z = .tmp t → g t = some y → look σ.slot t = some y := fun hg z hz t y ht => hg t y (by rw [ho, hz, ht]; simp [Op.operands])
    have hhi : ∀ {σ : St} {a : Act}, (∀ t y, Operand.tmp t ∈ o.op.operands.toList → g t = some y → look σ.slot t = some y) → ∀ z, hi = some z → ∀ t y, z = .tmp t → g t = some y → look σ.slot t = some y := fun hg z hz t y ht => hg t y (by rw [ho, hz, ht]; simp [Op.operands])
    have val : ∀ {a : Act} {q : Option Operand} {n m : Nat}, ((q = none ∧ n = m) ∨ ∃ o k i, q = some o ∧ a.eval o = .int k i ∧ 0 ≤ i ∧ n = i.toNat) → (q.map a.eval = none ∧ n = m) ∨ ∃ k i, q.map a.eval = some (.int k i) ∧ 0 ≤ i ∧ n = i.toNat := fun hq => by
      rcases hq with ⟨rfl, rfl⟩ | ⟨o, k, i, rfl, h1, h2, h3⟩
      · exact .inl ⟨rfl, rfl⟩
      · exact .inr ⟨k, i, by simp [h1], h2, h3⟩
    split at hh
    · rename_i e hu
      obtain ⟨sz, rows, l, hI, h1, h2, h3, h4, h5, h6, hh⟩ := hh
      refine ⟨_, hh, fun σ γ a w h hg hbx hbd Q => ?_⟩
      obtain ⟨h7, _⟩ := evo_ok h (hmem (a := a) hg) h1
      obtain ⟨A, cap, h8, h9, h10⟩ := rows_slice h7 h5 h6
      have hb := run_bounds (P := P) true rows.length cap (lo.map a.eval) (hi.map a.eval) l hI w (val (bound_ok h (hlo (a := a) hg) h3)) (val (bound_ok h (hhi (a := a) hg) h4)) h5 (Nat.le_trans h6 h9)
      obtain ⟨j, hj, hs⟩ := info_some h2
      refine pure_ok h hd hdn (u := .slice (if cap = l then A else A.map (·.add (l * sz))) (hI - l) (cap - l)) ?_ h10 (fun k hk => by cases hk)
      simp [execOp, ho, h8, Instr.sliceAt, Instr.slice, run_underlying hu, hb, sizeOf, typeInfo, hj, hs]
    · rename_i hu
      obtain ⟨s, l, hI, h1, h3, h4, h5, h6, hh⟩ := hh
      refine ⟨_, hh, fun σ γ a w h hg hbx hbd Q => ?_⟩
      obtain ⟨h7, _⟩ := evo_ok h (hmem (a := a) hg) h1
      have hb := run_bounds (P := P) false s.size s.size (lo.map a.eval) (hi.map a.eval) l hI w (val (bound_ok h (hlo (a := a) hg) h3)) (val (bound_ok h (hhi (a := a) hg) h4)) h5 h6
      refine pure_ok h hd hdn (u := .string (s.extract l hI)) ?_ rfl (fun k hk => by cases hk)
      simp [execOp, ho, show a.eval x = _ from h7, Instr.sliceAt, Instr.slice, run_underlying hu, hb]
    · cases hh
  case h_11 T x ix ho =>
    obtain ⟨k, i, s, c, h1, h2, h3, h4, h5, hh⟩ := hh
    refine ⟨_, hh, fun σ γ a w h hg hbx hbd Q => ?_⟩
    have h6 : a.eval ix = .int k i := (evo_ok h (fun t y ht => hg t y (by rw [ho]; simp [Op.operands, ht])) h1).1
    have h7 : a.eval x = .string s := (evo_ok h (fun t y ht => hg t y (by rw [ho]; simp [Op.operands, ht])) h4).1
    refine pure_ok h hd hdn (u := .int .u8 (c.toNat : Nat)) ?_ rfl (fun k hk => by cases hk)
    have h8 : s[i.toNat]? = some c := h5
    simp [execOp, ho, h6, h7, Instr.index, run_underlying h3, asIntOf, h2, h8]
  case h_12 op T x y yT ho =>
    obtain ⟨u, v, r, h1, h2, h3, hh⟩ := hh
    refine ⟨_, hh, fun σ γ a w h hg hbx hbd Q => ?_⟩
    have h6 : a.eval x = u := (evo_ok h (fun t z ht => hg t z (by rw [ho]; simp [Op.operands, ht])) h1).1
    have h7 : a.eval y = v := (evo_ok h (fun t z ht => hg t z (by rw [ho]; simp [Op.operands, ht])) h2).1
    refine pure_ok h hd hdn (u := r) ?_ rfl (fun k hk => by cases hk)
    simp only [execOp, ho, h6, h7, Sem.run_bind (f := fun z => pure (Next.value z)), abin_ok h3, Sem.run_pure, Result.andThen_ok]
  case h_13 op T x ho =>
    obtain ⟨u, r, h1, h3, hh⟩ := hh
    refine ⟨_, hh, fun σ γ a w h hg hbx hbd Q => ?_⟩
    have h6 : a.eval x = u := (evo_ok h (fun t z ht => hg t z (by rw [ho]; simp [Op.operands, ht])) h1).1
    refine pure_ok h hd hdn (u := r) ?_ rfl (fun k hk => by cases hk)
    simp only [execOp, ho, h6, Sem.run_bind, aun_ok h3, Sem.run_pure, Result.andThen_ok]
  case h_14 T x ho =>
    obtain ⟨u, h1, h3, hh⟩ := hh
    refine ⟨_, hh, fun σ γ a w h hg hbx hbd Q => ?_⟩
    have h6 : a.eval x = u := (evo_ok h (fun t z ht => hg t z (by rw [ho]; simp [Op.operands, ht])) h1).1
    refine pure_ok h hd hdn (u := .iface T u) ?_ rfl (fun k hk => by cases hk)
    simp only [execOp, ho, h6, Sem.run_bind, run_makeInterface w T u h3, Sem.run_pure, Result.andThen_ok]
  case h_15 fn first caps ho =>
    obtain ⟨f, cs, rfl, rfl, h1, hh⟩ := hh
    refine ⟨_, hh, fun σ γ a w h hg hbx hbd Q => ?_⟩
    obtain ⟨h6, h7⟩ := capRefs_ok h (fun t y ht => hg t y (by rw [ho]; simp [Op.operands]; simpa using ht)) h1
    refine pure_ok h hd hdn (u := .func (.func f) #[] (caps.map a.eval)) ?_ ?_ ?_
    · simp [execOp, ho, Instr.makeFunc]
    · show _ = Value.func (.func f) #[] _
      rw [← h6, ← List.map_toArray, Array.toArray_toList]
    · intro k hk
      obtain ⟨c, hc, rfl⟩ := List.mem_map.1 hk
      exact h7 c hc
  case h_16 x i ho =>
    obtain ⟨vs, c, h1, h2, hh⟩ := hh
    refine ⟨_, hh, fun σ γ a w h hg hbx hbd Q => ?_⟩
    obtain ⟨⟨us, h3, h4⟩, _⟩ := evo_ok h (fun t z ht => hg t z (by rw [ho]; simp [Op.operands, ht])) h1
    have hget : ∃ u, us[i]? = some u ∧ RepC (rdr F.R0 F.w0.heap.size σ γ w) c u := by
      exact h4.get h2
    obtain ⟨u, h5, h6⟩ := hget
    refine pure_ok h hd hdn (u := u) ?_ h6.av (fun k hk => by cases c with | c p => (cases p <;> cases hk) | g => cases hk)
    simp [execOp, ho, h3, Instr.extract, h5]
  case h_17 c ho =>
    unfold hopCall at hh
    split at hh
    · rename_i b hb
      unfold hopB at hh
      obtain ⟨callee, args, ats⟩ := c
      dsimp only at hb hh
      subst hb
      split at hh
      · obtain ⟨x, T, ha, hT, hh⟩ := hh
        obtain rfl := arr_of ha
        obtain rfl := arr_of hT
        have hmem : ∀ {σ : St} {a : Act}, (∀ t y, Operand.tmp t ∈ o.op.operands.toList → g t = some y → look σ.slot t = some y) → ∀ t y, x = .tmp t → g t = some y → look σ.slot t = some y := fun hg t y ht => hg t y (by rw [ho]; simp [Op.operands, Call.operands, ht])
        rcases hh with ⟨sz, rows, e, h1, h2, hh⟩ | ⟨s, h1, h2, hh⟩ | ⟨A, n, c, e, h1, h2, hh⟩
        · refine ⟨_, hh, fun σ γ a w h hg hbx hbd Q => ?_⟩
          obtain ⟨h3, _⟩ := evo_ok h (hmem (a := a) hg) h1
          obtain ⟨A, cap, h4, _⟩ := rows_slice h3 (Nat.zero_le 0) (Nat.zero_le _)
          refine pure_ok h hd hdn (u := .int .i64 rows.length) ?_ rfl (fun k hk => by cases hk)
          simp [execOp, ho, resolve, invoke, builtin, h4, Builtin.len_, run_underlying h2, goInt]
        · refine ⟨_, hh, fun σ γ a w h hg hbx hbd Q => ?_⟩
          obtain ⟨h3, _⟩ := evo_ok h (hmem (a := a) hg) h1
          refine pure_ok h hd hdn (u := .int .i64 s.size) ?_ rfl (fun k hk => by cases hk)
          simp [execOp, ho, resolve, invoke, builtin, show a.eval x = _ from h3, Builtin.len_, run_underlying h2, goInt]
        · refine ⟨_, hh, fun σ γ a w h hg hbx hbd Q => ?_⟩
          obtain ⟨h3, _⟩ := evo_ok h (hmem (a := a) hg) h1
          refine pure_ok h hd hdn (u := .int .i64 n) ?_ rfl (fun k hk => by cases hk)
          simp [execOp, ho, resolve, invoke, builtin, show a.eval x = _ from h3, Builtin.len_, run_underlying h2, goInt]
      · obtain ⟨x, y, k, u, v, ha, h1, h2, hh⟩ := hh
        obtain rfl := arr_of ha
        refine ⟨_, hh, fun σ γ a w h hg hbx hbd Q => ?_⟩
        have h6 : a.eval x = .int k u := (evo_ok h (fun t z ht => hg t z (by rw [ho]; simp [Op.operands, Call.operands, ht])) h1).1
        have h7 : a.eval y = .int k v := (evo_ok h (fun t z ht => hg t z (by rw [ho]; simp [Op.operands, Call.operands, ht])) h2).1
        refine pure_ok h hd hdn (u := .int k (if u < v then v else u)) ?_ rfl (fun k hk => by cases hk)
        simp [execOp, ho, resolve, invoke, builtin, h6, h7, run_max_int2]
      · obtain ⟨x, y, k, u, v, ha, h1, h2, hh⟩ := hh
        obtain rfl := arr_of ha
        refine ⟨_, hh, fun σ γ a w h hg hbx hbd Q => ?_⟩
        have h6 : a.eval x = .int k u := (evo_ok h (fun t z ht => hg t z (by rw [ho]; simp [Op.operands, Call.operands, ht])) h1).1
        have h7 : a.eval y = .int k v := (evo_ok h (fun t z ht => hg t z (by rw [ho]; simp [Op.operands, Call.operands, ht])) h2).1
        refine pure_ok h hd hdn (u := .int k (if v < u then v else u)) ?_ rfl (fun k hk => by cases hk)
        simp [execOp, ho, resolve, invoke, builtin, h6, h7, run_min_int2]
      · cases hh
    · rename_i f hf
      obtain ⟨callee, args, ats⟩ := c
      dsimp only at hf hh
      subst hf
      obtain ⟨fv, fid, caps, avs, avs', res, h1, h2, h3, h4, h5, h6, hh⟩ := hh
      exact ⟨_, hh, fun σ γ a w h hg hbx hbd Q => call_ok h hd hdn ho hg hbx h1 h2 h3 h4 h5 h6 Q⟩
    · cases hh
  case h_18 x ho =>
    obtain ⟨v, h1, hp, hh⟩ := hh
    refine ⟨_, hh, fun σ γ a w h hg hbx hbd Q => ?_⟩
    obtain ⟨h3, h4⟩ := evo_ok h (fun t y ht => hg t y (by rw [ho]; simp [Op.operands, ht])) h1
    refine pure_ok h hd hdn (u := a.eval x) ?_ h3 h4
    have hptr : ∃ p, a.eval x = .pointer (some p) := by
      cases v with
      | ref k off => exact ⟨_, h3⟩
      | ept row => obtain ⟨b, off, us, e, _⟩ := h3; exact ⟨_, e⟩
      | v y =>
        cases y with
        | pointer q =>
          cases q with
          | some p => exact ⟨p, h3⟩
          | none => cases hp
        | _ => cases hp
      | _ => cases hp
    obtain ⟨p, hq⟩ := hptr
    simp [execOp, ho, hq]
  case h_19 => cases hh
end

end Av
end Go.Proofs.YticnppnejafhdaaGreatDoor
/- Abstract states: operations with effects: a store into a box, a row handed on, an append. Generic. -/
namespace Go.Proofs.YticnppnejafhdaaGreatDoor
open Go.RowKit
namespace Av

def setAt {α : Type} (l : List α) (o : Nat) (xs : List α) : List α := l.take o ++ xs ++ l.drop (o + xs.length)
theorem setAt_out {α : Type} {l : List α} {o : Nat} {xs : List α} (h : o + xs.length ≤ l.length) {i : Nat} (hi : i < o ∨ o + xs.length ≤ i) : (setAt l o xs)[i]? = l[i]? := by
  unfold setAt
  rcases hi with hi | hi
  · rw [List.append_assoc, List.getElem?_append_left (by simp; omega), List.getElem?_take, if_pos hi]
  · rw [List.getElem?_append_right (by simp; omega)]
    simp only [List.length_append, List.length_take, List.getElem?_drop]
    congr 1
    omega
theorem RepL.setAt {R : Reader} {ps qs : List PV} {us vs : List Value} (h : RepL R ps us) (h' : RepL R qs vs) (o : Nat) : RepL R (setAt ps o qs) (setAt us o vs) := by
  unfold Av.setAt
  rw [h'.length]
  exact ((h.take o).append h').append (h.drop _)
theorem setCells_block (b : Nat) (ty : TypeId) : ∀ (vs : List Value) (o : Nat) (w : World) (us : List Value), w.heap[b]? = some (.cells us.toArray ty (0, 0)) → o + vs.length ≤ us.length →
    (w.setCells b o vs).heap[b]? = some (.cells (setAt us o vs).toArray ty (0, 0))
  | [], o, w, us, h, _ => by simpa [setAt, World.setCells] using h
  | v :: vs, o, w, us, h, hl => by
    simp only [List.length_cons] at hl
    have h1 : (w.setCell ⟨b, o, none⟩ v).heap[b]? = some (.cells (us.set o v).toArray ty (0, 0)) := by
      simp only [World.setCell, Array.getElem?_modify, if_pos, h]
      simp
    rw [World.setCells, setCells_block b ty vs (o + 1) _ _ h1 (by simp; omega)]
    congr 3
    unfold setAt
    have ho : o < us.length := by omega
    rw [List.take_set, List.drop_set, List.take_succ_eq_append_getElem ho, if_pos (by omega), List.set_append_right _ _ (by simp; omega)]
    simp [Nat.min_eq_left (Nat.le_of_lt ho), Nat.add_assoc, Nat.add_comm 1]
theorem setCells_other (b : Nat) : ∀ (vs : List Value) (o : Nat) (w : World) (k : Nat), k ≠ b → (w.setCells b o vs).heap[k]? = w.heap[k]?
  | [], _, _, _, _ => rfl
  | v :: vs, o, w, k, hk => by
    rw [World.setCells, setCells_other b vs _ _ k hk, Below.heap_setCell _ _ _ _ hk]
theorem setCells_rest (b : Nat) : ∀ (vs : List Value) (o : Nat) (w : World), (w.setCells b o vs).os = w.os ∧ (w.setCells b o vs).tape = w.tape ∧ (w.setCells b o vs).output = w.output ∧ (w.setCells b o vs).heap.size = w.heap.size
  | [], _, _ => ⟨rfl, rfl, rfl, rfl⟩
  | v :: vs, o, w => by
    obtain ⟨h1, h2, h3, h4⟩ := setCells_rest b vs (o + 1) (w.setCell ⟨b, o, none⟩ v)
    exact ⟨h1, h2, h3, h4.trans (by simp [World.setCell])⟩

def St.setBox (σ : St) (k : Nat) (cs : List PV) (own : List (Loc × (TypeId × Nat))) : St := { slot := σ.slot, box := (k, cs) :: σ.box, own, ext := σ.ext }
/-- A box holds other cells. -/
theorem Rel.rebox {F : Fr} {σ : St} {γ : Gh} {a : Act} {w w1 : World} (h : Rel F σ γ a w) {k : Nat} {cs cs' : List PV} {us us' : List Value} {ty : TypeId} (hk : look σ.box k = some cs)
    (hw1 : w1.heap[γ.bx k]? = some (.cells us'.toArray ty (0, 0))) (hw : w.heap[γ.bx k]? = some (.cells us.toArray ty (0, 0))) (hoth : ∀ j, j ≠ γ.bx k → w1.heap[j]? = w.heap[j]?)
    (hos : w1.os = w.os) (htp : w1.tape = w.tape) (hou : w1.output = w.output) (hsz : w1.heap.size = w.heap.size) (hrep : RepL (rdr F.R0 F.w0.heap.size σ γ w) cs' us') {own' : List (Loc × (TypeId × Nat))}
    (ho : ∀ L x, lookL own' L = some x → lookL σ.own L = some x ∧ ∀ off, L = .b k off → cs'[off]? = cs[off]? ∧ us'[off]? = us[off]?) : Rel F (σ.setBox k cs' own') γ a w1 := by
  have hkk : (look σ.box k).isSome := by rw [hk]; rfl
  have hlb : ∀ j, look (σ.setBox k cs' own').box j = if k = j then some cs' else look σ.box j := fun j => look_cons _ _ _ _
  have hav : ∀ L x, lookL own' L = some x → (σ.setBox k cs' own').avAt L = σ.avAt L := fun L x hL => by
    cases L with
    | s t => rfl
    | b j off =>
      simp only [St.avAt, hlb]
      by_cases hj : k = j
      · subst hj
        rw [if_pos rfl, hk]
        simp only [Option.bind_some]
        rw [((ho _ _ hL).2 off rfl).1]
      · rw [if_neg hj]
  have hsome : ∀ L, (lookL own' L).isSome → (lookL σ.own L).isSome := fun L hL => by
    obtain ⟨e, he⟩ := Option.isSome_iff_exists.1 hL
    rw [(ho _ _ he).1]; rfl
  have hbox : ∀ j, (look (σ.setBox k cs' own').box j).isSome → (look σ.box j).isSome := fun j hj => by
    rw [hlb] at hj
    by_cases h1 : k = j
    · subst h1; exact hkk
    · rw [if_neg h1] at hj; exact hj
  have hle : ∀ p v, rdr F.R0 F.w0.heap.size σ γ w p = some v → rdr F.R0 F.w0.heap.size (σ.setBox k cs' own') γ w1 p = some v := by
    refine rdr_le fun p v hB hm hc => ⟨fun hm' => ?_, ?_⟩
    · rcases hm' with ⟨j, cs'', hj, hp⟩ | ⟨L, e, sz, rows, h1, h2, h3, h4⟩ | hx
      · obtain ⟨cs0, h0⟩ := Option.isSome_iff_exists.1 (hbox j (by rw [hj]; rfl))
        exact hm (.inl ⟨j, cs0, h0, hp⟩)
      · exact hm (.inr (.inl ⟨L, e, sz, rows, (ho _ _ h1).1, (hav L _ h1).symm.trans h2, h3, h4⟩))
      · exact hm (.inr (.inr hx))
    · have hne : p.block ≠ γ.bx k := fun e => hm (.inl ⟨k, cs, hk, e⟩)
      exact (World.cell?_of_block (w := w) (hoth _ hne)).trans hc
  have hrowne : ∀ L x g, lookL own' L = some x → γ.rw L = some g → w1.heap[g]? = w.heap[g]? := fun L x g hL hg =>
    hoth g (h.rowbox L k g (by rw [(ho _ _ hL).1]; rfl) hkk hg)
  refine ⟨h.defers, h.size, h.below.trans ⟨hos, htp, hou, by rw [hsz]; exact Nat.le_refl _, fun j hj => hoth j (by have := (h.box_lt hkk).2; omega)⟩, h.r0, fun t x hx => ?_, fun j cs'' hj => ?_, fun j j' hj hj' => h.boxinj j j' (hbox j hj) (hbox j' hj'), fun L e sz hL => ?_, fun L L' g hL hL' => h.rowinj L L' g (hsome L hL) (hsome L' hL'), fun L j g hL hj => h.rowbox L j g (hsome L hL) (hbox j hj), σ.ext.stable (fun b hb => hoth b (fun e => (h.extf b hb).2.2.1 k hkk e.symm)) h.exth, fun b hb => by
    obtain ⟨h1, h2, h3, h4⟩ := h.extf b hb
    exact ⟨h1, by omega, fun j hj => h3 j (hbox j hj), fun L hL => h4 L (hsome L hL)⟩, h.small, fun j hj => h.dyn j (hbox j hj), h.laid⟩
  · obtain ⟨h1, h2⟩ := h.slots t x hx
    refine ⟨h1.mono hle (fun _ _ => rfl), fun j hj => ?_⟩
    rw [hlb]
    by_cases h3 : k = j
    · rw [if_pos h3]; rfl
    · rw [if_neg h3]; exact h2 j hj
  · rw [hlb] at hj
    by_cases h1 : k = j
    · subst h1
      rw [if_pos rfl] at hj
      cases hj
      exact ⟨us', ty, hw1, (h.box_lt hkk).2, hrep.mono hle⟩
    · rw [if_neg h1] at hj
      obtain ⟨us'', ty'', h2, h3, h4⟩ := h.boxes j cs'' hj
      exact ⟨us'', ty'', (hoth _ (fun e => h1 (h.boxinj k j hkk (by rw [hj]; rfl) e.symm))).trans h2, h3, h4.mono hle⟩
  · obtain ⟨h5, h6⟩ := ho _ _ hL
    obtain ⟨rows, v, h1, h2, h3⟩ := h.owns L e sz h5
    refine ⟨rows, v, (hav L _ hL).trans h1, ?_, h3.keep fun g hg => hrowne L _ g hL hg⟩
    cases L with
    | s t => exact h2
    | b j off =>
      show w1.cell? ⟨γ.bx j, off, none⟩ = some v
      by_cases hj : k = j
      · subst hj
        have h7 := (h6 off rfl).2
        have h8 : w.cell? ⟨γ.bx k, off, none⟩ = some v := h2
        rw [cell_of_row w _ off _ ty (0, 0) hw] at h8
        rw [cell_of_row w1 _ off _ ty (0, 0) hw1]
        simp only [List.getElem?_toArray] at h8 ⊢
        rw [h7]; exact h8
      · have hjs : (look σ.box j).isSome := by
          cases hq : look σ.box j with
          | none => simp [St.avAt, hq] at h1
          | some _ => rfl
        exact (World.cell?_of_block (w := w) (a := ⟨γ.bx j, off, none⟩) (hoth _ (fun e => hj (h.boxinj k j hkk hjs e.symm)))).trans h2
def hitB (k o n : Nat) : Loc → Bool
  | .b j off => decide (j = k) && (decide (o ≤ off) && decide (off < o + n))
  | .s _ => false
theorem hit_inv {k o n : Nat} {L : Loc} (h : hitB k o n L = true) : ∃ off, L = .b k off ∧ o ≤ off ∧ off < o + n := by
  cases L with
  | s t => cases h
  | b j off =>
    simp only [hitB, Bool.and_eq_true, decide_eq_true_eq] at h
    obtain ⟨rfl, h1, h2⟩ := h
    exact ⟨off, rfl, h1, h2⟩
theorem hit_no {k o n off : Nat} (h : hitB k o n (.b k off) = false) : off < o ∨ o + n ≤ off := by
  simp only [hitB, decide_true, Bool.true_and, Bool.and_eq_false_imp, decide_eq_true_eq, decide_eq_false_iff_not] at h
  omega
/-- Of the owned rows those that do not lie in cells o to o + n of box k. -/
def keepL (l : List (Loc × (TypeId × Nat))) (k o n : Nat) : List (Loc × (TypeId × Nat)) := l.filter fun x => !hitB k o n x.1
theorem lookL_keep {l : List (Loc × (TypeId × Nat))} {k o n : Nat} : ∀ {L : Loc} {x : TypeId × Nat}, lookL (keepL l k o n) L = some x → lookL l L = some x ∧ ∀ off, L = .b k off → off < o ∨ o + n ≤ off := by
  induction l with
  | nil => intro L x h; simp [keepL, lookL] at h
  | cons y l ih =>
    intro L x h
    obtain ⟨M, y⟩ := y
    unfold keepL at ih h
    cases hM : hitB k o n M with
    | true =>
      rw [List.filter_cons_of_neg (by simp [hM])] at h
      obtain ⟨h1, h2⟩ := ih h
      obtain ⟨off, rfl, h3, h4⟩ := hit_inv hM
      refine ⟨by
        rw [lookL_cons, if_neg]
        · exact h1
        · intro e
          rcases h2 off e.symm with h5 | h5 <;> omega, h2⟩
    | false =>
      rw [List.filter_cons_of_pos (by simp [hM]), lookL_cons] at h
      by_cases he : M = L
      · rw [if_pos he] at h
        exact ⟨by rw [lookL_cons, if_pos he]; exact h, fun off hL => hit_no (by rw [← hL, ← he]; exact hM)⟩
      · rw [if_neg he] at h
        obtain ⟨h1, h2⟩ := ih h
        exact ⟨by rw [lookL_cons, if_neg he]; exact h1, h2⟩

section
variable {P : Program} {F : Fr} {σ : St} {γ : Gh} {a : Act} {w : World}
theorem Rel.store (h : Rel F σ γ a w) {k off : Nat} {cs xs : List PV} {T : TypeId} {u : Value} (hk : look σ.box k = some cs) (hxs : RepL (rdr F.R0 F.w0.heap.size σ γ w) xs u.cells.toList) (hn : (P.info? T).map (·.size) = some xs.length) (hl : off + xs.length ≤ cs.length) :
    ∃ w1, (Instr.storeAt T (.pointer (some ⟨γ.bx k, off, none⟩)) u).run P w = .ok () w1 ∧ Rel F (σ.setBox k (setAt cs off xs) (keepL σ.own k off xs.length)) γ a w1 ∧ (∀ i x, xs[i]? = some x → ∀ y, u.cells.toList[i]? = some y → w1.cell? ⟨γ.bx k, off + i, none⟩ = some y) := by
  obtain ⟨us, ty, h1, h2, h3⟩ := h.boxes k cs hk
  have hlen := h3.length
  have hxl := hxs.length
  have hsz : u.cells.size = xs.length := by rw [← hxl]; simp
  have hblk := setCells_block (γ.bx k) ty u.cells.toList off w us h1 (by omega)
  obtain ⟨r1, r2, r3, r4⟩ := setCells_rest (γ.bx k) u.cells.toList off w
  refine ⟨w.setCells (γ.bx k) off u.cells.toList, ?_, ?_, fun i x hi y hy => ?_⟩
  · obtain ⟨j, hj, hs⟩ := info_some hn
    have hst := run_storeCells_cells (P := P) (γ.bx k) off u.cells.toList 0 w (fun j hj => by
        rw [cell_of_row w _ _ _ ty (0, 0) h1]
        simp; simp at hj; omega) (fun j hj => by
        unfold World.frozen?
        rw [show (⟨γ.bx k, off + 0 + j, none⟩ : Addr).block = γ.bx k from rfl, h1]
        simp) hxs.one
    simp only [Nat.add_zero] at hst
    have hcs : u.cells.size = j.size := by rw [hs, ← hxl]; simp
    simp [Instr.storeAt, Instr.sureAddr, storeVar, sizeOf, typeInfo, hj, hcs, hst]
  · refine h.rebox hk hblk h1 (fun j hj => setCells_other _ _ _ _ j hj) r1 r2 r3 r4 (h3.setAt hxs off) (fun L x hL => ?_)
    obtain ⟨g1, g2⟩ := lookL_keep hL
    refine ⟨g1, fun o ho => ?_⟩
    have := g2 o ho
    exact ⟨setAt_out hl this, setAt_out (by omega) (by rw [hxl]; exact this)⟩
  · rw [cell_of_row _ _ _ _ ty (0, 0) hblk]
    simp only [List.getElem?_toArray]
    have hi' : i < u.cells.toList.length := (List.getElem?_eq_some_iff.1 hy).1
    unfold setAt
    have hmin : min off us.length = off := Nat.min_eq_left (by omega)
    rw [List.append_assoc, List.getElem?_append_right (by simp; omega), List.getElem?_append_left (by simp [hmin]; omega)]
    rw [← hy]
    congr 1
    simp [hmin]
/-- A row is handed on from one place to another that holds the same header. -/
theorem Rel.steal (h : Rel F σ γ a w) {S D : Loc} {e : TypeId × Nat} (hS : lookL σ.own S = some e) (hav : σ.avAt D = σ.avAt S) (hval : valAt a w γ D = valAt a w γ S) :
    Rel F { σ with own := (D, e) :: delL (delL σ.own S) D } (γ.setRow D (γ.rw S)) a w := by
  have hlk : ∀ L, lookL ((D, e) :: delL (delL σ.own S) D) L = if L = D then some e else if L = S then none else lookL σ.own L := fun L => by
    rw [lookL_cons, lookL_del, lookL_del]
    by_cases h1 : L = D
    · rw [if_pos h1.symm, if_pos h1]
    · rw [if_neg (fun e => h1 e.symm), if_neg h1, if_neg h1]
  have hrw : ∀ L, (γ.setRow D (γ.rw S)).rw L = if L = D then γ.rw S else γ.rw L := fun L => rfl
  have hSs : (lookL σ.own S).isSome := by rw [hS]; rfl
  have hmut : ∀ p, St.mut { σ with own := (D, e) :: delL (delL σ.own S) D } (γ.setRow D (γ.rw S)) p → σ.mut γ p := fun p hm => by
    rcases hm with hm | ⟨L, e', sz, rows, h1, h2, h3, h4⟩ | hx
    · exact .inl hm
    rotate_left
    · exact .inr (.inr hx)
    · have h2' : σ.avAt L = some (.sl sz rows) := by cases L <;> exact h2
      rw [hlk] at h1
      rw [hrw] at h3
      by_cases hL : L = D
      · rw [if_pos hL] at h1 h3
        cases h1
        exact .inr (.inl ⟨S, e', sz, rows, hS, by rw [← hav, ← hL]; exact h2', h3, h4⟩)
      · rw [if_neg hL] at h1 h3
        by_cases hL' : L = S
        · rw [if_pos hL'] at h1; cases h1
        · rw [if_neg hL'] at h1
          exact .inr (.inl ⟨L, e', sz, rows, h1, h2', h3, h4⟩)
  have hle : ∀ p v, rdr F.R0 F.w0.heap.size σ γ w p = some v → rdr F.R0 F.w0.heap.size { σ with own := (D, e) :: delL (delL σ.own S) D } (γ.setRow D (γ.rw S)) w p = some v :=
    rdr_le fun p v _ hm hc => ⟨fun hm' => hm (hmut p hm'), hc⟩
  -- where a place's row was owned before
  have hold : ∀ L, (lookL ((D, e) :: delL (delL σ.own S) D) L).isSome → ∃ L0, (lookL σ.own L0).isSome ∧ (γ.setRow D (γ.rw S)).rw L = γ.rw L0 ∧ ((L = D ∧ L0 = S) ∨ (L ≠ D ∧ L ≠ S ∧ L0 = L)) := fun L hL => by
    rw [hlk] at hL
    by_cases h1 : L = D
    · exact ⟨S, hSs, by rw [hrw, if_pos h1], .inl ⟨h1, rfl⟩⟩
    · rw [if_neg h1] at hL
      by_cases h2 : L = S
      · rw [if_pos h2] at hL; cases hL
      · rw [if_neg h2] at hL
        exact ⟨L, hL, by rw [hrw, if_neg h1], .inr ⟨h1, h2, rfl⟩⟩
  refine ⟨h.defers, h.size, h.below, h.r0, fun t x hx => ?_, fun k cs hk => ?_, h.boxinj, fun L e' sz hL => ?_, fun L L' g hL hL' hg hg' => ?_, fun L k g hL hk hg => ?_, h.exth, fun b hb => ?ext, h.small, h.dyn, h.laid⟩
  case ext =>
    obtain ⟨h1, h2, h3, h4⟩ := h.extf b hb
    refine ⟨h1, h2, h3, fun L hL => ?_⟩
    obtain ⟨M, m1, m2, _⟩ := hold L hL
    rw [m2]; exact h4 M m1
  · obtain ⟨h1, h2⟩ := h.slots t x hx
    exact ⟨h1.mono hle (fun _ _ => rfl), h2⟩
  · obtain ⟨us, ty, h1, h2, h3⟩ := h.boxes k cs hk
    exact ⟨us, ty, h1, h2, h3.mono hle⟩
  · have hL2 := hL
    rw [hlk] at hL2
    by_cases h1 : L = D
    · rw [if_pos h1] at hL2
      cases hL2
      obtain ⟨rows, v, h2, h3, h4⟩ := h.owns S e' sz hS
      subst h1
      exact ⟨rows, v, (show σ.avAt L = _ from hav.trans h2), hval.trans h3, by rw [hrw, if_pos rfl]; exact h4⟩
    · rw [if_neg h1] at hL2
      by_cases h2 : L = S
      · rw [if_pos h2] at hL2; cases hL2
      · rw [if_neg h2] at hL2
        obtain ⟨rows, v, h3, h4, h5⟩ := h.owns L e' sz hL2
        exact ⟨rows, v, by cases L <;> exact h3, by cases L <;> exact h4, by rw [hrw, if_neg h1]; exact h5⟩
  · obtain ⟨M, m1, m2, m3⟩ := hold L hL
    obtain ⟨M', m1', m2', m3'⟩ := hold L' hL'
    rw [m2] at hg
    rw [m2'] at hg'
    have hM := h.rowinj M M' g m1 m1' hg hg'
    rcases m3 with ⟨a1, a2⟩ | ⟨a1, a2, a3⟩ <;> rcases m3' with ⟨b1, b2⟩ | ⟨b1, b2, b3⟩
    · rw [a1, b1]
    · exact absurd (by rw [← b3, ← hM, a2]) b2
    · exact absurd (by rw [← a3, hM, b2]) a2
    · rw [← a3, ← b3, hM]
  · obtain ⟨M, m1, m2, _⟩ := hold L hL
    rw [m2] at hg
    exact h.rowbox M k g m1 hk hg
end

end Av
end Go.Proofs.YticnppnejafhdaaGreatDoor
/- Abstract states: append onto an owned row; slices and structs written out. Generic. -/
namespace Go.Proofs.YticnppnejafhdaaGreatDoor
open Go.RowKit
namespace Av

theorem rep_mk {R : Reader} {sz : Nat} {rows : List (List PV)} {zs : List Value} {A : Option Addr} {cap : Nat} (hsz : ∀ (k : Nat) (row : List PV), rows[k]? = some row → row.length = sz)
    (hz : ∀ (k : Nat) (row : List PV) (j : Nat) (p : PV), rows[k]? = some row → row[j]? = some p → ∃ x, zs[k * sz + j]? = some x ∧ RepP R p x)
    (hA : rows = [] ∨ ∃ b off, A = some ⟨b, off, none⟩ ∧ ∀ (i : Nat) (x : Value), zs[i]? = some x → i < rows.length * sz → R ⟨b, off + i, none⟩ = some x) (hc : rows.length ≤ cap) : RepP R (.sl sz rows) (.slice A rows.length cap) := by
  refine .sl sz rows A cap (fun k j => zs.getD (k * sz + j) undef) hsz ?_ (fun k row j p hk hj => ?_) hc
  · rcases hA with h | ⟨b, off, e, h⟩
    · exact .inl h
    · refine .inr ⟨b, off, e, fun k row j p hk hj => ?_⟩
      obtain ⟨x, hx, _⟩ := hz k row j p hk hj
      have h1 : k < rows.length := (List.getElem?_eq_some_iff.1 hk).1
      have h2 : j < row.length := (List.getElem?_eq_some_iff.1 hj).1
      rw [hsz k row hk] at h2
      have h3 : k * sz + j < rows.length * sz := by
        have : (k + 1) * sz ≤ rows.length * sz := Nat.mul_le_mul_right _ h1
        rw [Nat.add_mul] at this
        omega
      rw [Nat.add_assoc, List.getD_eq_getElem?_getD, hx]
      exact h _ x hx h3
  · obtain ⟨x, hx, h1⟩ := hz k row j p hk hj
    rw [List.getD_eq_getElem?_getD, hx]
    exact h1
theorem rows_flat {R : Reader} {sz : Nat} {rows : List (List PV)} {u : Value} (hs0 : 0 < sz) (h : RepP R (.sl sz rows) u) :
    ∃ (A : Option Addr) (cap : Nat) (xs : List Value), u = .slice A rows.length cap ∧ rows.length ≤ cap ∧ xs.length = rows.length * sz ∧ (∀ (k : Nat) (row : List PV), rows[k]? = some row → row.length = sz) ∧
      (∀ (k : Nat) (row : List PV) (j : Nat) (p : PV), rows[k]? = some row → row[j]? = some p → ∃ x, xs[k * sz + j]? = some x ∧ RepP R p x) ∧ (∀ x ∈ xs, x.oneCell' = true) ∧
      (rows = [] ∨ ∃ b off, A = some ⟨b, off, none⟩ ∧ ∀ (i : Nat) (x : Value), xs[i]? = some x → R ⟨b, off + i, none⟩ = some x) := by
  cases h with
  | sl _ _ A cap f hsz hA hf hc =>
    have hget : ∀ i, i < rows.length * sz → ((List.range (rows.length * sz)).map fun i => f (i / sz) (i % sz))[i]? = some (f (i / sz) (i % sz)) := fun i hi => by simp [hi]
    have hdec : ∀ k j, j < sz → (k * sz + j) / sz = k ∧ (k * sz + j) % sz = j := fun k j hj => by
      rw [Nat.mul_comm, Nat.mul_add_div hs0, Nat.mul_add_mod, Nat.div_eq_of_lt hj, Nat.mod_eq_of_lt hj]
      exact ⟨by omega, rfl⟩
    have hlt : ∀ k j, k < rows.length → j < sz → k * sz + j < rows.length * sz := fun k j h1 h2 => by
      have : (k + 1) * sz ≤ rows.length * sz := Nat.mul_le_mul_right _ h1
      rw [Nat.add_mul] at this
      omega
    have hcell : ∀ i, i < rows.length * sz → ∃ (row : List PV) (p : PV), rows[i / sz]? = some row ∧ row[i % sz]? = some p := fun i hi => by
      have h1 : i / sz < rows.length := by rw [Nat.div_lt_iff_lt_mul hs0]; exact hi
      have h2 : i % sz < rows[i / sz].length := by rw [hsz _ _ (List.getElem?_eq_getElem h1)]; exact Nat.mod_lt _ hs0
      exact ⟨_, _, List.getElem?_eq_getElem h1, List.getElem?_eq_getElem h2⟩
    refine ⟨A, cap, (List.range (rows.length * sz)).map fun i => f (i / sz) (i % sz), rfl, hc, by simp, hsz, fun k row j p hk hj => ?_, fun x hx => ?_, ?_⟩
    · have h1 : k < rows.length := (List.getElem?_eq_some_iff.1 hk).1
      have h2 : j < sz := by rw [← hsz k row hk]; exact (List.getElem?_eq_some_iff.1 hj).1
      refine ⟨f k j, ?_, hf k row j p hk hj⟩
      rw [hget _ (hlt k j h1 h2), (hdec k j h2).1, (hdec k j h2).2]
    · obtain ⟨i, hi, rfl⟩ := List.mem_map.1 hx
      obtain ⟨row, p, h1, h2⟩ := hcell i (by simpa using hi)
      exact (hf _ row _ p h1 h2).one
    · rcases hA with h | ⟨b, off, e, h⟩
      · exact .inl h
      · refine .inr ⟨b, off, e, fun i x hx => ?_⟩
        have hi : i < rows.length * sz := by
          rcases Nat.lt_or_ge i (rows.length * sz) with h' | h'
          · exact h'
          · rw [List.getElem?_eq_none (by simpa using h')] at hx; cases hx
        rw [hget i hi] at hx
        cases hx
        obtain ⟨row, p, h1, h2⟩ := hcell i hi
        have := h _ row _ p h1 h2
        rw [show off + i / sz * sz + i % sz = off + i by rw [Nat.add_assoc, Nat.div_add_mod' i sz]] at this
        exact this

/-- append: onto the row that slot s owns (or onto nothing). -/
theorem Rel.append {P : Program} {F : Fr} {σ : St} {γ : Gh} {a : Act} {w : World} (h : Rel F σ γ a w) {d : Nat} (hd : d < F.n) {T ty e : TypeId} {i : TypeInfo} {z : Value} (ht : P.underlying T = some (.slice e)) (hi : P.info? e = some i) (hz : i.zero = some z)
    (hzs : z.cells.size = i.size) (hs0 : 0 < i.size) (hby : i.bytes ≤ 1000000) {rows rows2 : List (List PV)} {u u2 : Value} {s : Option Nat}
    (hs : (s = none ∧ rows = [] ∧ u = .slice none 0 0) ∨ (∃ t, s = some t ∧ lookL σ.own (.s t) = some (e, i.size) ∧ look σ.slot t = some (.sl i.size rows) ∧ u = a.tmps.getD t undef))
    (hu2 : RepP (rdr F.R0 F.w0.heap.size σ γ w) (.sl i.size rows2) u2) (hnm : rows.length + rows2.length ≤ 100000000) :
    ∃ v w1 γ', (Builtin.append_ #[T, T] ty #[u, u2]).run P w = .ok v w1 ∧ Rel F ({ σ with own := delS σ.own s }.putOwn d i.size (rows ++ rows2) e) γ' (a.put (some d) v) w1 := by
  obtain ⟨A2, cap2, news, rfl, hc2, hl2, hsz2, hz2, h12, hA2⟩ := rows_flat hs0 hu2
  -- the row that is grown
  have hold : ∃ (q : Option Nat) (xs : List Value), OwnV w F.w0.heap.size e i.size rows.length u q ∧ xs.length = rows.length * i.size ∧ (∀ g, q = some g → ∀ (j : Nat) (x : Value), xs[j]? = some x → w.cell? ⟨g, j, none⟩ = some x) ∧ (∀ (k : Nat) (row : List PV), rows[k]? = some row → row.length = i.size) ∧
      (∀ (k : Nat) (row : List PV) (j : Nat) (p : PV), rows[k]? = some row → row[j]? = some p → ∃ x, xs[k * i.size + j]? = some x ∧ RepP (rdr F.R0 F.w0.heap.size σ γ w) p x) ∧ (∀ g, q = some g → ∃ t, s = some t ∧ γ.rw (.s t) = some g) ∧ (∀ t, s = some t → γ.rw (.s t) = q) := by
    rcases hs with ⟨rfl, rfl, rfl⟩ | ⟨t, rfl, h1, h2, rfl⟩
    · exact ⟨none, [], ⟨rfl, rfl⟩, by simp, fun g hg => (by cases hg), fun k row hk => (by simp at hk), fun k row j p hk => (by simp at hk), fun g hg => (by cases hg), fun t ht => (by cases ht)⟩
    · obtain ⟨rows', v, h3, h4, h5⟩ := h.owns _ _ _ h1
      simp only [St.avAt, h2, Option.some.injEq, AV.sl.injEq, true_and] at h3
      subst h3
      simp only [valAt, Option.some.injEq] at h4
      subst h4
      obtain ⟨A, cap, xs, h6, h7, h8, h9, h10, h11, h12⟩ := rows_flat hs0 (h.slots t _ h2).1
      refine ⟨γ.rw (.s t), xs, h5, h8, fun g hg j x hx => ?_, h9, h10, fun g hg => ⟨t, rfl, hg⟩, fun t' ht' => (by cases ht'; rfl)⟩
      rw [hg] at h5
      obtain ⟨cap', cur, h13, _⟩ := h5
      rcases h12 with h14 | ⟨b, off, h14, h15⟩
      · subst h14
        have hx0 : xs = [] := List.eq_nil_of_length_eq_zero (by rw [h8]; simp)
        rw [hx0] at hx
        simp at hx
      · rw [h6] at h13
        simp only [Value.slice.injEq] at h13
        rw [h14] at h13
        simp only [Option.some.injEq, Addr.mk.injEq] at h13
        obtain ⟨⟨rfl, rfl, _⟩, _⟩ := h13
        have := h.cell (h15 j x hx)
        rw [Nat.zero_add] at this
        exact this
  obtain ⟨q, xs, k1, k2, k3, k4, k5, k6, k7⟩ := hold
  obtain ⟨v, w1, q', r1, r2, r3, r4, r5, r6, r7, r8, r9, r10⟩ := run_append_av (P := P) w F.w0.heap.size T ty e i z ht hi hz hzs hs0 hby u rows.length xs q k1 k2 k3 A2 rows2.length cap2 news hl2 (by
    rcases hA2 with h1 | ⟨b, off, h1, h2⟩
    · exact .inl (by rw [h1]; rfl)
    · exact .inr ⟨b, off, h1, fun j x hx => h.cell (h2 j x hx)⟩) h12 hnm h.base
  have hlen : (rows ++ rows2).length = rows.length + rows2.length := List.length_append
  refine ⟨v, w1, γ.setRow (.s d) q', r1, h.row hd r7 r8 r9 r10 (fun k hk hn => r4 k hk (fun e => by obtain ⟨t, h1, h2⟩ := k6 k e; exact hn t h1 h2)) (fun t ht => ?_) (fun g hg => ?_) (by rw [hlen]; exact r2) ?_⟩
  · rcases hs with ⟨rfl, _⟩ | ⟨t', rfl, h1, h2, _⟩
    · cases ht
    · cases ht
      refine ⟨_, rows, h1, h2, Nat.mul_le_mul_right _ (by rw [hlen]; omega), fun g hg j hj => r5 g (by rw [← k7 t rfl]; exact hg) j hj⟩
  · rcases r6 with r6 | r6
    · rw [r6] at hg
      exact .inr (k6 g hg)
    · rw [r6] at hg; cases hg; exact .inl (Nat.le_refl _)
  · have hgetz : ∀ (k : Nat) (row : List PV) (j : Nat) (p : PV), (rows ++ rows2)[k]? = some row → row[j]? = some p → ∃ x, (xs ++ news)[k * i.size + j]? = some x ∧ RepP (rdr F.R0 F.w0.heap.size σ γ w) p x := fun k row j p hk hj => by
      rcases Nat.lt_or_ge k rows.length with hlt | hge
      · rw [List.getElem?_append_left hlt] at hk
        obtain ⟨x, hx, h1⟩ := k5 k row j p hk hj
        exact ⟨x, by rw [List.getElem?_append_left (List.getElem?_eq_some_iff.1 hx).1]; exact hx, h1⟩
      · rw [List.getElem?_append_right hge] at hk
        obtain ⟨x, hx, h1⟩ := hz2 _ row j p hk hj
        refine ⟨x, ?_, h1⟩
        have hge2 : xs.length ≤ k * i.size + j := by
          rw [k2]
          have := Nat.mul_le_mul_right i.size hge
          omega
        rw [List.getElem?_append_right hge2, k2]
        rw [show k * i.size + j - rows.length * i.size = (k - rows.length) * i.size + j by
          rw [Nat.sub_mul]
          have := Nat.mul_le_mul_right i.size hge
          omega]
        exact hx
    have hshape : ∃ A cap, v = .slice A (rows ++ rows2).length cap ∧ (rows ++ rows2).length ≤ cap ∧ ((rows ++ rows2) = [] ∨ ∃ g, q' = some g ∧ A = some ⟨g, 0, none⟩) := by
      cases q' with
      | none =>
        obtain ⟨h1, h2⟩ := r2
        have : rows ++ rows2 = [] := List.eq_nil_of_length_eq_zero (by rw [hlen]; exact h2)
        exact ⟨none, 0, by rw [h1, this]; rfl, by rw [this]; exact Nat.le_refl _, .inl this⟩
      | some g =>
        obtain ⟨cap, cur, h1, _, _, h2, _⟩ := r2
        exact ⟨_, cap, by rw [hlen]; exact h1, by rw [hlen]; exact h2, .inr ⟨g, rfl, rfl⟩⟩
    obtain ⟨A, cap, hv, hcap, hA⟩ := hshape
    rw [hv]
    refine rep_mk (zs := xs ++ news) (fun k row hk => ?_) (fun k row j p hk hj => ?_) ?_ hcap
    · rcases Nat.lt_or_ge k rows.length with hlt | hge
      · rw [List.getElem?_append_left hlt] at hk; exact k4 k row hk
      · rw [List.getElem?_append_right hge] at hk; exact hsz2 _ row hk
    · obtain ⟨x, hx, h1⟩ := hgetz k row j p hk hj
      refine ⟨x, hx, h1.mono fun p v hp => ?_⟩
      rw [if_pos (by rw [hp]; rfl)]
      exact hp
    · rcases hA with h1 | ⟨g, hg, hA⟩
      · exact .inl h1
      · refine .inr ⟨g, 0, hA, fun o x hx ho => ?_⟩
        rw [Nat.zero_add]
        have hx1 := r3 g hg o x hx
        by_cases hr : (rdr F.R0 F.w0.heap.size σ γ w ⟨g, o, none⟩).isSome
        · rw [if_pos hr]
          obtain ⟨y, hy⟩ := Option.isSome_iff_exists.1 hr
          have hc := h.cell hy
          have hlt := Rel.cell_lt hc
          rcases r6 with r6 | r6
          · have hq : q = some g := by rw [← r6]; exact hg
            obtain ⟨t, hts, htg⟩ := k6 g hq
            rcases hs with ⟨hn, _⟩ | ⟨t', ht', h1, h2, _⟩
            · rw [hn] at hts; cases hts
            · rw [ht'] at hts
              cases hts
              have hoff : o < rows.length * i.size := by
                rcases Nat.lt_or_ge o (rows.length * i.size) with h3 | h3
                · exact h3
                · exfalso
                  unfold rdr at hy
                  have := (h.row_lt (L := .s t) (by rw [h1]; rfl) htg).2
                  rw [if_neg (by dsimp only; omega), if_pos (.inr (.inl ⟨.s t, e, i.size, rows, h1, h2, htg, h3⟩))] at hy
                  cases hy
              have := r5 g hq o hoff
              rw [hx1, hc] at this
              rw [hy, ← this]
          · rw [r6] at hg
            cases hg
            exact absurd hlt (Nat.lt_irrefl _)
        · rw [if_neg hr, if_pos ⟨hg, ho⟩]
          exact hx1

end Av
end Go.Proofs.YticnppnejafhdaaGreatDoor

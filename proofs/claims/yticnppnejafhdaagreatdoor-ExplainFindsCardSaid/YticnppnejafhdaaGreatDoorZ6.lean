import Derived.Lib.LaidTab
import Derived.Shelf.LaysM
import Derived.Shelf.Strings.OnBuilder
import Derived.Shelf.Strconv.Itoa3
import Derived.Lib.ItoaLen
import Derived.Lib.Join
import Derived.Laws.OwnMore
import Derived.Laws.CopyRow
import Derived.WalkKit
import Derived.ProofKit
import Derived.OpenShut
import Derived.Carry
import Derived.ChangeSame
import Derived.Deep.Slices
import Derived.LaidMore
import Derived.Stop.Joined
import Derived.Below
import Derived.Test.YticnppnejafhdaaGreatDoorZ5
import Derived.Test.YticnppnejafhdaaGreatDoorProg
import Derived.Test.YticnppnejafhdaaGreatDoorRows
set_option linter.unusedVariables false
set_option linter.unusedSimpArgs false
/- Functions whose contract asks something of the world: package-level tables. Generic. -/
namespace Go.Proofs.YticnppnejafhdaaGreatDoor
open Go.RowKit
namespace Av
/-- What held of the first world. -/
def laidE (C : World → Prop) : Ext where
  foot _ := False
  froz _ := False
  holds _ := True
  stable _ _ := trivial
  laid := C
def startStC (C : World → Prop) (args : List AV) : St := { startSt args with ext := laidE C }
def FnOKC (P : Program) (C : World → Prop) (f : FuncId) (args : List AV) (res : FRes) : Prop :=
  Enters P f ∧ ∀ (w : World) (R : Reader), C w → (∀ p v, R p = some v → w.cell? p = some v) → ∀ us, RepAL R args us →
    Calls P f us.toArray w fun e w' => ∃ u, e = .returned u ∧ Below w.heap.size w w' ∧ ResRep R w w' res u
theorem FnOK.c {P : Program} {C : World → Prop} {f : FuncId} {args : List AV} {res : FRes} (h : FnOK P f args res) : FnOKC P C f args res := ⟨h.1, fun w R _ hR us hus => h.2 w R hR us hus⟩
theorem FnOKC.plain {P : Program} {f : FuncId} {args : List AV} {res : FRes} (h : FnOKC P (fun _ => True) f args res) : FnOK P f args res := ⟨h.1, fun w R hR us hus => h.2 w R trivial hR us hus⟩
section
variable {P : Program}
/-- A function, in worlds of which something holds. -/
theorem fn_okC {C : World → Prop} {f : FuncId} {fn : Func} {c : Code} {args : List AV} {res : FRes} (hf : P.funcs[f]? = some fn) (hname : (fn.name == "runtime.NumGoroutine") = false) (hb : fn.body = some c) (hn : args.length ≤ fn.ntmps ∧ fn.ntmps ≤ 1000000)
    (h : ∀ F : Fr, F.n = fn.ntmps → AWp P F c (fun x σ => (match x with | .exit _ => False | _ => True) ∧ RetOK P fn.results σ res) (startStC C args)) : FnOKC P C f args res := by
  refine ⟨⟨fn, c, hf, hname, hb⟩, fun w R hC hR us hus => calls_of_wp hf hb ?_⟩
  have hlen := hus.length
  let F : Fr := ⟨R, w, fn.ntmps⟩
  have hmut : ∀ γ p, ¬ (startStC C args).mut γ p := fun γ p => by
    rintro (⟨k, cs, h1, _⟩ | ⟨L, e, sz, rows, h1, _⟩ | h1) <;> cases h1
  let γ0 : Gh := ⟨fun _ => 0, fun _ => none⟩
  have hR0 : ∀ p v, R p = some v → rdr R w.heap.size (startStC C args) γ0 w p = some v := fun p v hp => by
    have := Rel.cell_lt (hR p v hp)
    unfold rdr
    rw [if_pos this]; exact hp
  have hrel : Rel F (startStC C args) γ0 { tmps := us.toArray ++ Array.replicate (fn.ntmps - us.toArray.size) undef, defers := [] } w := by
    refine ⟨rfl, ?_, Below.refl _ _, hR, fun t x hx => ?_, fun k cs hk => (by cases hk), fun k k' hk => (by cases hk), fun L e sz hL => (by cases hL), fun L L' g hL => (by cases hL), fun L k g hL => (by cases hL), trivial, fun b hb => hb.elim (fun (h : False) => h.elim) (fun (h : False) => h.elim), hn.2, fun k hk => (by cases hk), hC⟩
    · show _ = fn.ntmps
      simp; omega
    · have hx' : args[t]? = some x := by
        have := hx
        unfold startStC startSt at this
        rw [look_start] at this
        simpa using this
      obtain ⟨u, h1, h2, h3⟩ := hus.get hx'
      have ht : t < us.length := (List.getElem?_eq_some_iff.1 h1).1
      refine ⟨?_, fun k hk => by rw [h3] at hk; cases hk⟩
      have : (us.toArray ++ Array.replicate (fn.ntmps - us.toArray.size) undef).getD t undef = u := by
        rw [Array.getD_eq_getD_getElem?, Array.getElem?_append_left (by simpa using ht)]
        simp [h1]
      rw [this]
      exact h2.mono hR0 (fun k _ => rfl)
  refine wp_mono (h F rfl γ0 _ w hrel) ?_
  rintro e a' w' ⟨x, σ', γ', rfl, ⟨hx, hret⟩, hr'⟩
  have hbody : ∀ v, (results fn a'.tmps).run P w' = .ok v w' ∧ ResRep R w w' res v → bodyPost P fn (fun e w' => ∃ u, e = .returned u ∧ Below w.heap.size w w' ∧ ResRep R w w' res u) x.exit_ a' w' := fun v hv => by
    cases x with
    | normal => exact ⟨hr'.defers, v, hv.1, v, rfl, hr'.below, hv.2⟩
    | exit id => exact hx.elim
    | ret => exact ⟨hr'.defers, v, hv.1, v, rfl, hr'.below, hv.2⟩
  rcases hret with ⟨t, sz, rows, e, h1, h2, h3, rfl⟩ | hret
  · refine hbody (a'.tmps.getD t undef) ⟨by simp [results_eq, h1, resOne], ?_⟩
    obtain ⟨rows', v, h4, h5, h6⟩ := hr'.owns _ _ _ h3
    have h7 : look σ'.slot t = some (.sl sz rows') := h4
    rw [h2] at h7
    cases h7
    have h8 : v = a'.tmps.getD t undef := by simpa [valAt] using h5.symm
    subst h8
    refine ⟨γ'.rw (.s t), h6, RepP.mono (fun p v hp => ?_) (hr'.slots t _ h2).1⟩
    unfold fresh
    unfold rdr at hp
    by_cases hB : p.block < w.heap.size
    · rw [if_pos hB]; rw [if_pos hB] at hp; exact hp
    · rw [if_neg hB] at hp ⊢
      by_cases hm : σ'.mut γ' p
      · rw [if_pos hm] at hp; cases hp
      · rw [if_neg hm] at hp
        rw [if_neg]
        · exact hp
        · rintro ⟨h9, h10⟩
          exact hm (.inr (.inl ⟨.s t, e, sz, rows, h3, h2, h9, h10⟩))
  · obtain ⟨cs, vs, h1, h2, h3⟩ := retAll_ok hr' hret
    have hrun : (results fn a'.tmps).run P w' = .ok (if h : vs.toArray.size = 1 then vs.toArray[0] else .tuple vs.toArray) w' := by
      rw [results_eq, Array.mapM_eq_mapM_toList, Sem.run_bind, Sem.run_map, h3]
      rfl
    have hmono : ∀ {c : CV} {u : Value}, RepC (rdr R w.heap.size σ' γ' w') c u → RepA (fresh R w w' none 0) (fun _ => 0) c.av u := fun hc => (hc.mono rdr_fresh).av
    refine hbody _ ⟨hrun, ?_⟩
    subst h1
    cases h2 with
    | nil => exact ⟨rfl, [], by simp, .nil⟩
    | cons hc ht =>
      cases ht with
      | nil =>
        refine ⟨?_, by simpa using hmono hc⟩
        rename_i c _
        cases c with
        | c p => cases p <;> rfl
        | g xs => rfl
      | cons hc' ht' =>
        exact ⟨rfl, _, by simp, .cons (hc.mono rdr_fresh) (.cons (hc'.mono rdr_fresh) (ht'.mono rdr_fresh))⟩

/-- The call of such a function. -/
theorem hand_fnC {C : World → Prop} {n d fid : Nat} {σ : St} {o : Oper} {K : St → Prop} {args : Array Operand} {ats : Array TypeId} {avs avs' : List AV} {res : FRes} (hst : ∀ {w w' : World}, Below w.heap.size w w' → C w → C w') (ho : o.op = .call { callee := .value (.func fid), args := args, argTypes := ats }) (hd : o.dst = some d) (hdn : d < n) (he : σ.ext = laidE C)
    (h3 : evos (look σ.slot) args.toList = some avs) (h4 : snaps (look σ.box) avs = some avs') (h5 : FnOKC P C fid avs' res) (h6 : (avs.all fun x => x.refs.isEmpty) = true) (h : K (σ.res d ⟨res.av, none, res.own⟩)) : Hand P n σ o K := by
  refine hand_call hd fun F γ a w hF hr => ?_
  have hC0 : C F.w0 := by have := hr.laid; rw [he] at this; exact this
  have hC : C w := hst hr.below hC0
  obtain ⟨henter, hcall⟩ := h5
  have gA := evos_ok hr (fun t y _ hy => hy) h3
  obtain ⟨_, g7⟩ := snaps_ok hr (fun _ _ h => h) gA h4
  have hf : a.eval (.func fid) = .func (.func fid) #[] #[] := rfl
  refine ⟨fid, args.map a.eval, ?_, ?_⟩
  · simp [execOp, ho, resolve, hf, Deferred.ofValue, invoke, run_callFunc henter]
  · have hargs : args.map a.eval = (args.toList.map a.eval).toArray := by
      obtain ⟨l⟩ := args
      simp
    rw [hargs]
    refine (hcall w _ hC (fun p v hp => hr.cell hp) _ (g7 h6)).mono ?_
    rintro e w1 ⟨u, rfl, hb, hres⟩
    obtain ⟨γ', _, hrel⟩ := hr.call hb (by rw [hF]; exact hdn) hres
    exact ⟨u, _, γ', rfl, h, hrel⟩
end
end Av
theorem tab_below {P : Program} {w w' : World} {name : String} {k : IntKind} {zs : List Int} (hb : Below w.heap.size w w') (h : Lib.TabIs P w name k zs) : Lib.TabIs P w' name k zs := by
  unfold Lib.TabIs World.var? at h ⊢
  cases hg : P.globalNamed name with
  | none => rw [hg] at h; cases h
  | some g =>
    rw [hg] at h
    simp only [Option.bind_some] at h ⊢
    have hlt : g < w.heap.size := by
      refine Classical.byContradiction fun hn => ?_
      rw [Array.getElem?_eq_none (by omega)] at h
      cases h
    rw [hb.block g hlt]
    exact h
end Go.Proofs.YticnppnejafhdaaGreatDoor
/- The library's contracts that this claim uses, laid for its program: written by a tool of the kit. -/
namespace Go.Proofs.YticnppnejafhdaaGreatDoor
open Go.Shelf
def Tryz.lays156_ren : Go.Shelf.Ren := ⟨fun | 156 => 89 | 165 => 124 | 166 => 125 | 169 => 126 | 240 => 158 | 241 => 159 | 276 => 175 | 277 => 176 | n => n, fun | 31 => 132 | 9 => 9 | 3 => 3 | 4 => 4 | 0 => 0 | 20 => 20 | 72 => 162 | 76 => 166 | 70 => 160 | 37 => 134 | 75 => 165 | 127 => 193 | 164 => 208 | 5 => 5 | 80 => 168 | n => n, fun | n => n⟩
theorem Tryz.lays156 : Go.Proofs.Lays.n156 Tryz.prog Tryz.lays156_ren := {
  mixed := by kernel_rfl
  f156 := Tryz.func89.trans (congrArg some (by kernel_rfl))
  f165 := Tryz.func124.trans (congrArg some (by kernel_rfl))
  f166 := Tryz.func125.trans (congrArg some (by kernel_rfl))
  f169 := Tryz.func126.trans (congrArg some (by kernel_rfl))
  f240 := Tryz.func158.trans (congrArg some (by kernel_rfl))
  f241 := Tryz.func159.trans (congrArg some (by kernel_rfl))
  f276 := Tryz.func175.trans (congrArg some (by kernel_rfl))
  f277 := Tryz.func176.trans (congrArg some (by kernel_rfl))
  t0 := Tryz.underlying0
  a0 := Tryz.isAgg0
  z0 := Tryz.sizeOf0
  v0 := Tryz.zeroValue0
  t3 := Tryz.underlying3
  a3 := Tryz.isAgg3
  z3 := Tryz.sizeOf3
  v3 := Tryz.zeroValue3
  t4 := Tryz.underlying4
  a4 := Tryz.isAgg4
  z4 := Tryz.sizeOf4
  v4 := Tryz.zeroValue4
  t9 := Tryz.underlying9
  a9 := Tryz.isAgg9
  z9 := Tryz.sizeOf9
  v9 := Tryz.zeroValue9
  t20 := Tryz.underlying20
  a20 := Tryz.isAgg20
  z20 := Tryz.sizeOf20
  v20 := Tryz.zeroValue20
  t31 := Tryz.underlying132
  a31 := Tryz.isAgg132
  z31 := Tryz.sizeOf132
  v31 := Tryz.zeroValue132
  t37 := Tryz.underlying134
  a37 := Tryz.isAgg134
  z37 := Tryz.sizeOf134
  v37 := Tryz.zeroValue134
  t70 := Tryz.underlying160
  a70 := Tryz.isAgg160
  z70 := Tryz.sizeOf160
  v70 := Tryz.zeroValue160
  t72 := Tryz.underlying162
  a72 := Tryz.isAgg162
  z72 := Tryz.sizeOf162
  v72 := Tryz.zeroValue162
  t75 := Tryz.underlying165
  a75 := Tryz.isAgg165
  z75 := Tryz.sizeOf165
  v75 := Tryz.zeroValue165
  t76 := Tryz.underlying166
  a76 := Tryz.isAgg166
  z76 := Tryz.sizeOf166
  v76 := Tryz.zeroValue166
  t127 := Tryz.underlying193
  a127 := Tryz.isAgg193
  z127 := Tryz.sizeOf193
  v127 := Tryz.zeroValue193
  t164 := Tryz.underlying208
  a164 := Tryz.isAgg208
  z164 := Tryz.sizeOf208
  v164 := Tryz.zeroValue208 }
theorem Tryz.Builder_Extra_156 : Builder.Extra Tryz.prog Tryz.lays156_ren := {
  sizeBuilder := by kernel_rfl
  liesBuilder := by kernel_rfl
  t5 := Tryz.underlying5
  a5 := Tryz.isAgg5
  z5 := Tryz.sizeOf5
  v5 := Tryz.zeroValue5
  infoByte := by kernel_rfl
  cellsByte := by kernel_rfl
  sizeByte := by kernel_rfl
  neB5 := by decide }
def Tryz.lays171_ren : Go.Shelf.Ren := ⟨fun | 171 => 88 | 243 => 123 | 246 => 157 | 283 => 171 | 284 => 172 | 285 => 173 | 286 => 174 | 129 => 147 | 317 => 179 | 318 => 180 | 319 => 181 | 320 => 182 | 337 => 183 | 338 => 184 | n => n, fun | 3 => 3 | 9 => 9 | 2 => 2 | 4 => 4 | 171 => 204 | 0 => 0 | 53 => 184 | 37 => 134 | 5 => 5 | 173 => 206 | 212 => 215 | 51 => 172 | 20 => 20 | 213 => 216 | 46 => 141 | 232 => 217 | 233 => 218 | n => n, fun | 17 => 1 | 18 => 2 | 19 => 3 | n => n⟩
theorem Tryz.lays171 : Go.Proofs.Lays.n171 Tryz.prog Tryz.lays171_ren := {
  mixed := by kernel_rfl
  f129 := Tryz.func147.trans (congrArg some (by kernel_rfl))
  f171 := Tryz.func88.trans (congrArg some (by kernel_rfl))
  f243 := Tryz.func123.trans (congrArg some (by kernel_rfl))
  f246 := Tryz.func157.trans (congrArg some (by kernel_rfl))
  f283 := Tryz.func171.trans (congrArg some (by kernel_rfl))
  f284 := Tryz.func172.trans (congrArg some (by kernel_rfl))
  f285 := Tryz.func173.trans (congrArg some (by kernel_rfl))
  f286 := Tryz.func174.trans (congrArg some (by kernel_rfl))
  f317 := Tryz.func179.trans (congrArg some (by kernel_rfl))
  f318 := Tryz.func180.trans (congrArg some (by kernel_rfl))
  f319 := Tryz.func181.trans (congrArg some (by kernel_rfl))
  f320 := Tryz.func182.trans (congrArg some (by kernel_rfl))
  f337 := Tryz.func183.trans (congrArg some (by kernel_rfl))
  f338 := Tryz.func184.trans (congrArg some (by kernel_rfl))
  t0 := Tryz.underlying0
  a0 := Tryz.isAgg0
  z0 := Tryz.sizeOf0
  v0 := Tryz.zeroValue0
  t2 := Tryz.underlying2
  a2 := Tryz.isAgg2
  z2 := Tryz.sizeOf2
  v2 := Tryz.zeroValue2
  t3 := Tryz.underlying3
  a3 := Tryz.isAgg3
  z3 := Tryz.sizeOf3
  v3 := Tryz.zeroValue3
  t4 := Tryz.underlying4
  a4 := Tryz.isAgg4
  z4 := Tryz.sizeOf4
  v4 := Tryz.zeroValue4
  t5 := Tryz.underlying5
  a5 := Tryz.isAgg5
  z5 := Tryz.sizeOf5
  v5 := Tryz.zeroValue5
  t9 := Tryz.underlying9
  a9 := Tryz.isAgg9
  z9 := Tryz.sizeOf9
  v9 := Tryz.zeroValue9
  t20 := Tryz.underlying20
  a20 := Tryz.isAgg20
  z20 := Tryz.sizeOf20
  v20 := Tryz.zeroValue20
  t37 := Tryz.underlying134
  a37 := Tryz.isAgg134
  z37 := Tryz.sizeOf134
  v37 := Tryz.zeroValue134
  t46 := Tryz.underlying141
  a46 := Tryz.isAgg141
  z46 := Tryz.sizeOf141
  v46 := Tryz.zeroValue141
  t51 := Tryz.underlying172
  a51 := Tryz.isAgg172
  z51 := Tryz.sizeOf172
  v51 := Tryz.zeroValue172
  t53 := Tryz.underlying184
  a53 := Tryz.isAgg184
  z53 := Tryz.sizeOf184
  v53 := Tryz.zeroValue184
  t171 := Tryz.underlying204
  a171 := Tryz.isAgg204
  z171 := Tryz.sizeOf204
  v171 := Tryz.zeroValue204
  t173 := Tryz.underlying206
  a173 := Tryz.isAgg206
  z173 := Tryz.sizeOf206
  v173 := Tryz.zeroValue206
  t212 := Tryz.underlying215
  a212 := Tryz.isAgg215
  z212 := Tryz.sizeOf215
  v212 := Tryz.zeroValue215
  t213 := Tryz.underlying216
  a213 := Tryz.isAgg216
  z213 := Tryz.sizeOf216
  t232 := Tryz.underlying217
  a232 := Tryz.isAgg217
  z232 := Tryz.sizeOf217
  v232 := Tryz.zeroValue217
  t233 := Tryz.underlying218
  a233 := Tryz.isAgg218
  z233 := Tryz.sizeOf218
  v233 := Tryz.zeroValue218
  g17 := by kernel_rfl
  g18 := by kernel_rfl
  g19 := by kernel_rfl }
end Go.Proofs.YticnppnejafhdaaGreatDoor
/- Texts: strconv.Itoa, strings.Join, and asking an interface for its type: by abstract states. -/
namespace Go.Proofs.YticnppnejafhdaaGreatDoor
open Go.RowKit
open Nd Rc Mo
open Av
def txtI (n : Int) : ByteArray := ⟨(Lib.itoa n).toArray⟩
/-- The table of the powers of ten. -/
def TabC (w : World) : Prop := Lib.TabIs Tryz.prog w "internal/strconv.uint64pow10" .u64 Lib.pow10Tab
theorem TabC.below {w w' : World} (hb : Below w.heap.size w w') (h : TabC w) : TabC w' := tab_below hb h
theorem itoaS_ok (i : Nat) (hi : i < 100) : FnOK Tryz.prog 88 [iv (i : Int)] ⟨.v (.string (txtI (i : Int))), none⟩ := fn_of ⟨Tryz.f88, _, Tryz.func88, by kernel_rfl, rfl⟩ fun w R hR us hus => by
  cases hus with | cons h0 _ hus =>
  cases hus
  rw [h0]
  refine (Any.strconv_Itoa_small Tryz.lays171 i hi w).mono ?_
  rintro e w' ⟨rfl, rfl⟩
  exact ⟨_, rfl, Below.refl _ _, rfl, by unfold txtI; rw [Lib.itoa_nonneg]; rfl⟩
def strRow (s : ByteArray) : List PV := [.v (.string s)]
def joinT (xs : List ByteArray) (sep : ByteArray) : ByteArray := ⟨(Lib.join (xs.map (·.data.toList)) sep.data.toList).toArray⟩
theorem join_ok (xs : List ByteArray) (sep : ByteArray) (hN : xs.length ≤ 140737488355328) (hlen : (Lib.join (xs.map (·.data.toList)) sep.data.toList).length ≤ 140737488355328) :
    FnOK Tryz.prog 89 [.sl 1 (xs.map strRow), .v (.string sep)] ⟨.v (.string (joinT xs sep)), none⟩ := fn_of ⟨Tryz.f89, _, Tryz.func89, by kernel_rfl, rfl⟩ fun w R hR us hus => by
  cases hus with | cons h0 _ hus =>
  cases hus with | cons h1 _ hus =>
  cases hus
  rw [h1]
  have h0' : RepP R (.sl 1 (xs.map strRow)) _ := h0
  generalize hp : PV.sl 1 (xs.map strRow) = p at h0'
  cases h0' with
  | v => cases hp
  | sl sz rows A cap f hsz hA hf hc =>
    injection hp with hsz1 hrows
    subst hsz1
    subst hrows
    rw [List.length_map] at hc ⊢
    refine Calls.mono (R := fun e w' => e = .returned (.string (joinT xs sep)) ∧ Below w.heap.size w w') ?_ (fun e w' h2 => ⟨_, h2.1, h2.2, rfl, rfl⟩)
    have hcells : ∀ (b off : Nat), (∀ (k : Nat) (row : List PV) (j : Nat) (p : PV), (xs.map strRow)[k]? = some row → row[j]? = some p → R ⟨b, off + k * 1 + j, none⟩ = some (f k j)) → ∀ (j : Nat) x, xs[j]? = some x → w.cell? ⟨b, off + j, none⟩ = some (.string x) := fun b off h j x hx => by
      have g1 : (xs.map strRow)[j]? = some (strRow x) := by rw [List.getElem?_map, hx]; rfl
      have g2 := hR _ _ (h j _ 0 _ g1 rfl)
      have g3 := hf j _ 0 _ g1 rfl
      cases hq : f j 0 with
      | string y =>
        rw [hq] at g3 g2
        cases g3
        simpa using g2
      | _ => rw [hq] at g3; cases g3
    match xs, hA, hcells, hN, hc, hlen with
    | [], _, _, _, _, _ =>
      refine (Any.strings_Join_none Tryz.lays156 Tryz.Builder_Extra_156 A cap sep w).mono fun e w' h2 => ⟨?_, h2.2 ▸ Below.refl _ _⟩
      rw [h2.1]; rfl
    | x :: xs, hA, hcells, hN, hc, hlen =>
      rcases hA with hA | ⟨b, off, rfl, hA2⟩
      · cases hA
      · have hc1 := hcells b off hA2
        exact Any.strings_Join Tryz.lays156 Tryz.Builder_Extra_156 b off cap (x :: xs) sep w hc1 (World.block_lt_of_cell? w _ (hc1 0 x rfl)) hN hc hlen
section
variable {n d : Nat} {σ : St} {o : Oper} {K : St → Prop}
theorem hand_assert {x : Operand} {T U t : TypeId} {u z : Value} {ty : TypeDesc} (ho : o.op = .typeAssert x T U true) (hd : o.dst = some d) (hdn : d < n) (hx : evo (Av.look σ.slot) x = some (.v (.iface t u))) (hU : Tryz.prog.underlying U = some ty) (hty : ∀ ms, ty ≠ .interface ms) (hz : (Tryz.prog.info? U).map (·.zero) = some (some z)) (h1 : z.oneCell' = true) (hu1 : u.oneCell' = true)
    (h : K (σ.put d (.tup [.c (.v (if t = U then u else z)), .c (.v (.bool (decide (t = U))))]))) : Hand Tryz.prog n σ o K := by
  refine hand_value hd hdn fun F γ a w hF hr => ⟨.tup [.c (.v (if t = U then u else z)), .c (.v (.bool (decide (t = U))))], .tuple #[if t = U then u else z, .bool (decide (t = U))], w, σ.ext, ?_, Turn.same hr.exth (fun _ h => h) (fun _ h => .inr h), ⟨[_, _], rfl, .cons (.c (.v _ ?_)) (.cons (.c (.v _ rfl)) .nil)⟩, fun k hk => (by cases hk), h⟩
  · have e1 : a.eval x = .iface t u := (evo_ok hr (fun _ _ _ hy => hy) hx).1
    have hzv : (zeroValue U).run Tryz.prog w = .ok z w := by
      cases hi : Tryz.prog.info? U with
      | none => rw [hi] at hz; cases hz
      | some i =>
        rw [hi] at hz
        simp only [Option.map_some, Option.some.injEq] at hz
        simp [zeroValue, typeInfo, hi, hz]
    have hund : (underlying U).run Tryz.prog w = .ok ty w := by
      simp [underlying, hU]
    by_cases ht : t = U
    · subst ht
      simp [execOp, ho, e1, Instr.typeAssert, hund]
    · simp [execOp, ho, e1, Instr.typeAssert, hund, hzv, ht]
  · split
    · exact hu1
    · exact h1
end
end Go.Proofs.YticnppnejafhdaaGreatDoor
/- Lines: plain. -/
namespace Go.Proofs.YticnppnejafhdaaGreatDoor
open Go.RowKit
open Nd Rc Mo
open Av
set_option maxRecDepth 100000
set_option linter.unusedSimpArgs false

inductive Pt where
  | n (i : Int)
  | s (t : ByteArray)
def Pt.pv : Pt → PV
  | .n i => .v (.iface 3 (.int .i64 i))
  | .s t => .v (.iface 9 (.string t))
def Pt.row (p : Pt) : List PV := [p.pv]
def Pt.txt : Pt → ByteArray
  | .n i => txtI i
  | .s t => t
def lineT (l : List Pt) : ByteArray := joinT (l.map Pt.txt) ⟨#[32]⟩ ++ ⟨#[10]⟩
/-- The bytes that some parts take at most. -/
def lensT (l : List Pt) : Nat := (l.map fun p => p.txt.size + 1).foldr (· + ·) 0
theorem ba_size (s : ByteArray) : s.size = s.data.toList.length := (Array.length_toList (xs := s.data)).symm
theorem lens_map : ∀ (l : List Pt), Lib.lens ((l.map Pt.txt).map (·.data.toList)) + l.length = lensT l
  | [] => rfl
  | p :: l => by
    have := lens_map l
    have h := ba_size p.txt
    have e : lensT (p :: l) = p.txt.size + 1 + lensT l := rfl
    have e2 : Lib.lens (((p :: l).map Pt.txt).map (·.data.toList)) = p.txt.data.toList.length + Lib.lens ((l.map Pt.txt).map (·.data.toList)) := rfl
    rw [e, e2, List.length_cons]
    omega
theorem joinT_len (l : List Pt) : (Lib.join ((l.map Pt.txt).map (·.data.toList)) [32]).length ≤ lensT l := by
  have h := lens_map l
  cases l with
  | nil => rw [List.map_nil, List.map_nil, Lib.join_nil]; exact Nat.zero_le _
  | cons p l =>
    rw [List.map_cons, List.map_cons] at h ⊢
    rw [Lib.join_length]
    simp only [List.length_map, List.length_cons, List.length_nil] at h ⊢
    omega
theorem lineT_size (l : List Pt) : (lineT l).size ≤ lensT l + 1 := by
  have h := joinT_len l
  unfold lineT joinT
  rw [ByteArray.size_append]
  have e1 : (⟨(Lib.join ((l.map Pt.txt).map (·.data.toList)) [32]).toArray⟩ : ByteArray).size = (Lib.join ((l.map Pt.txt).map (·.data.toList)) [32]).length := List.size_toArray
  have e2 : (⟨#[10]⟩ : ByteArray).size = 1 := rfl
  have e3 : ((⟨#[32]⟩ : ByteArray).data.toList) = [32] := rfl
  rw [e3, e1, e2]
  omega
end Go.Proofs.YticnppnejafhdaaGreatDoor
/- What stands for a list may be nil where the list is empty. -/
namespace Go.Proofs.YticnppnejafhdaaGreatDoor
open Go.RowKit
open Nd Rc Mo
open Av
set_option maxRecDepth 100000
set_option linter.unusedSimpArgs false
namespace Av

/-- What stands for a list may be nil where the list is empty. -/
inductive PVLe : PV → PV → Prop
  | refl (p : PV) : PVLe p p
  | nil (sz : Nat) : PVLe (.v (.slice none 0 0)) (.sl sz [])
inductive PVsLe : List PV → List PV → Prop
  | nil : PVsLe [] []
  | cons {x y : PV} {xs ys : List PV} (h : PVLe x y) (t : PVsLe xs ys) : PVsLe (x :: xs) (y :: ys)
inductive AVLe : AV → AV → Prop
  | refl (x : AV) : AVLe x x
  | nil (sz : Nat) : AVLe (.v (.slice none 0 0)) (.sl sz [])
  | agg {xs ys : List PV} (h : PVsLe xs ys) : AVLe (.agg xs) (.agg ys)
inductive AVsLe : List AV → List AV → Prop
  | nil : AVsLe [] []
  | cons {x y : AV} {xs ys : List AV} (h : AVLe x y) (t : AVsLe xs ys) : AVsLe (x :: xs) (y :: ys)
theorem rep_nilS {R : Reader} {sz : Nat} : RepP R (.sl sz []) (.slice none 0 0) := .sl sz [] none 0 (fun _ _ => undef) (fun k row hk => by cases hk) (.inl rfl) (fun k row j p hk => by cases hk) (Nat.le_refl _)
theorem PVLe.rep {R : Reader} {x y : PV} {u : Value} (h : PVLe x y) (hr : RepP R x u) : RepP R y u := by
  cases h with
  | refl => exact hr
  | nil sz => cases hr; exact rep_nilS
theorem PVsLe.rep {R : Reader} {xs ys : List PV} (h : PVsLe xs ys) : ∀ {us : List Value}, RepL R xs us → RepL R ys us := by
  induction h with
  | nil => exact fun h => h
  | cons h t ih =>
    intro us hr
    cases hr with | cons g0 g1 => exact .cons (h.rep g0) (ih g1)
theorem AVLe.rep {R : Reader} {bx : Nat → Nat} {x y : AV} {u : Value} (h : AVLe x y) (hr : RepA R bx x u) : RepA R bx y u := by
  cases h with
  | refl => exact hr
  | nil sz => cases hr; exact rep_nilS
  | agg h =>
    obtain ⟨vs, e, hv⟩ := hr
    exact ⟨vs, e, h.rep hv⟩
theorem AVLe.refs {x y : AV} (h : AVLe x y) (hr : x.refs = []) : y.refs = [] := by
  cases h with
  | refl => exact hr
  | nil sz => rfl
  | agg h => rfl
theorem fnOK_le {P : Program} {f : FuncId} {args args' : List AV} {res : FRes} (h : FnOK P f args' res) (hl : AVsLe args args') : FnOK P f args res :=
  ⟨h.1, fun w R hR us hus => h.2 w R hR us (by
    clear h hR
    induction hl generalizing us with
    | nil => exact hus
    | cons h t ih =>
      cases hus with
      | cons g0 g1 g2 => exact .cons (h.rep g0) (h.refs g1) (ih _ g2))⟩
end Av
end Go.Proofs.YticnppnejafhdaaGreatDoor
/- Walks: DeleteFunc of package slices at attempts, with whatever closure: what is deleted is deleted in place. -/
namespace Go.Proofs.YticnppnejafhdaaGreatDoor
open Go.RowKit
open Nd Rc Mo

/-- clear(s[k:]) of a row of one's own: what lies ahead of k stays. -/
theorem run_clear_ownD {P : Program} (w : World) (t ty e : TypeId) (i : TypeInfo) (z : Value) (size : Nat) (ht : P.underlying t = some (.slice e)) (hi : P.info? e = some i) (hz : i.zero = some z) (hzs : z.cells.size = size) (hsz : 0 < size) (h1 : ∀ u ∈ z.cells.toList, u.oneCell' = true)
    (base g n cap k c : Nat) (xs : List Value) (hown : w.ownsRow base e size (.slice (some ⟨g, 0, none⟩) n cap) n xs) (hk : k < n) :
    ∃ w', (Builtin.clear_ #[t] ty #[.slice (some ⟨g, k * size, none⟩) (n - k) c]).run P w = .ok (.tuple #[]) w' ∧ w'.ownsRow base e size (.slice (some ⟨g, 0, none⟩) k cap) k (xs.take (k * size)) ∧ w.grownBy w' (some g) := by
  rcases hown.2 with ⟨h', _⟩ | ⟨g', cap', cur, h', hb, hg, hnc, hcm, hcs, htake⟩
  · simp at h'
  · simp only [Value.slice.injEq, Option.some.injEq, Addr.mk.injEq, and_true, true_and] at h'
    obtain ⟨rfl, rfl⟩ := h'
    have hzl : (Builtin.zeroCells z.cells (n - k)).toList.length = (n - k) * size := by
      rw [Array.length_toList, size_zeroCells, hzs]
    have hfit : k * size + (n - k) * size ≤ cur.size := by
      rw [hcs, ← Nat.add_mul, show k + (n - k) = n by omega]
      exact Nat.mul_le_mul_right _ hnc
    have hst := run_storeCells_at (P := P) g (k * size) e (Builtin.zeroCells z.cells (n - k)).toList 0 cur w hg (by rw [hzl]; simpa using hfit) (by
      intro v hv
      simp only [Builtin.zeroCells] at hv
      obtain ⟨j, hj, rfl⟩ := List.getElem_of_mem hv
      have hzp : 0 < z.cells.size := by rw [hzs]; exact hsz
      have hlt : j % z.cells.size < z.cells.size := Nat.mod_lt _ hzp
      simp only [Array.getElem_toList, Array.getElem_map, Array.getElem_range] at hv ⊢
      refine h1 _ ?_
      rw [getElem!_pos z.cells _ hlt]
      simp)
    simp only [Nat.add_zero] at hst
    obtain ⟨zc, hzc⟩ : ∃ zc, zc = (Builtin.zeroCells z.cells (n - k)).toList := ⟨_, rfl⟩
    rw [← hzc] at hst hzl
    obtain ⟨row, hrow⟩ : ∃ row, row = (cur.toList.take (k * size) ++ zc ++ cur.toList.drop (k * size + zc.length)).toArray := ⟨_, rfl⟩
    rw [← hrow] at hst
    refine ⟨w.setRow g row, ?_, ⟨?_, .inr ⟨g, cap, row, rfl, hb, setRow_heap w g cur row e _ hg, by omega, hcm, ?_, ?_⟩⟩, ⟨rfl, rfl, rfl, by simp [World.setRow], fun x _ hx => setRow_other w g x row (fun e => hx (by rw [e]))⟩⟩
    · obtain ⟨m, hm⟩ : ∃ m, n - k = m + 1 := ⟨n - k - 1, by omega⟩
      rw [hm] at hzc ⊢
      simp [Builtin.clear_, run_underlying ht, zeroValue, typeInfo, hi, hz, ← hzc, hst]
    · rw [List.length_take, hown.1, Nat.min_eq_left (Nat.mul_le_mul_right _ (by omega))]
    · rw [hrow]
      simp only [List.size_toArray, List.length_append, List.length_take, List.length_drop, Array.length_toList, hzl]
      rw [hcs] at hfit ⊢
      omega
    · rw [hrow, ← htake, List.take_take, Nat.min_eq_left (Nat.mul_le_mul_right _ (by omega))]
      simp only [List.append_assoc]
      rw [List.take_append_of_le_length (by rw [List.length_take, Array.length_toList]; omega), List.take_take, Nat.min_self]

theorem take_snoc_ {α : Type} {l : List α} {k : Nat} {a : α} (h : l[k]? = some a) : l.take (k + 1) = l.take k ++ [a] := by rw [List.take_add_one, h]; rfl
theorem only_of_below {a w : World} (h : Below a.heap.size a w) (row : Option Nat) : a.grownBy w row := ⟨h.os, h.tape, h.output, h.size, fun i hi _ => h.block i hi⟩

def keepP (p : Att → Bool) (l : List Att) : List Att := l.filter fun a => !p a
theorem keepP_snoc (p : Att → Bool) (l : List Att) (a : Att) : keepP p (l ++ [a]) = if p a = true then keepP p l else keepP p l ++ [a] := by
  unfold keepP
  rw [List.filter_append]
  by_cases h : p a = true <;> simp [h]
theorem idxK_spec (p : Att → Bool) : ∀ (l : List Att) (k : Int), (idxP p l k = -1 ∧ keepP p l = l) ∨ ∃ i : Nat, i < l.length ∧ idxP p l k = k + (i : Int) ∧ keepP p (l.take (i + 1)) = l.take i
  | [], k => .inl ⟨rfl, rfl⟩
  | a :: l, k => by
    simp only [idxP]
    by_cases h : p a = true
    · rw [if_pos h]
      exact .inr ⟨0, by simp, by simp, by simp [keepP, h]⟩
    · rw [if_neg h]
      rcases idxK_spec p l (k + 1) with ⟨h1, h2⟩ | ⟨i, h1, h2, h3⟩
      · refine .inl ⟨h1, ?_⟩
        unfold keepP at h2 ⊢
        rw [List.filter_cons, h2]
        simp [h]
      · refine .inr ⟨i + 1, by simp; omega, by rw [h2]; simp; omega, ?_⟩
        unfold keepP at h3 ⊢
        rw [List.take_succ_cons, List.filter_cons, h3]
        simp [h]

set_option maxRecDepth 100000 in
set_option maxHeartbeats 2000000 in
theorem indexHA_any (p : Att → Bool) (g0 : FuncId) (cb : Array Value) (l : List Att) (A : Option Addr) (c : Nat) (w : World) (eg : ∀ args w, (callFunc g0 args).run Tryz.prog w = .ok (.enter g0 args) w) (hA : LiesA w w.heap.size A l) (hl : l.length ≤ 1000000)
    (hp : ∀ W, Below w.heap.size w W → ∀ a : Att, Calls Tryz.prog g0 (#[.agg #[.int .i64 a.s, .int .i64 a.f, .int .i64 a.cs, .int .i64 a.co, .int .i64 a.cf, .int .i64 a.ct, .int .i64 a.cl, .int .i64 a.o]] ++ cb) W fun e w' => e = .returned (.bool (p a)) ∧ Below W.heap.size W w') :
    Calls Tryz.prog 51 #[.slice A l.length c, .func (.func g0) #[] cb] w fun e w' => e = .returned (.int .i64 (idxP p l 0)) ∧ Below w.heap.size w w' := by
  obtain ⟨n, hn⟩ : ∃ n, n = l.length := ⟨_, rfl⟩
  rw [← hn] at hl ⊢
  have HN := Lib.hid hn
  obtain ⟨T, hT⟩ : ∃ T, T = idxP p l 0 := ⟨_, rfl⟩
  rw [← hT]
  have HT := Lib.hid hT
  have HP := Lib.hid hp
  clear hn hT hp
  go_enter Tryz.func51, Tryz.ntmps51
  go_wp2_with fail
  go_loopw [8] (fun i wr => ∃ (k : Nat), k ≤ n ∧ i = .int .i64 k ∧ Below w.heap.size w wr ∧ Hid (T = idxP p (l.drop k) k)) (fun i _ => n - (intOf i).toNat)
  case atStart => exact ⟨0, Nat.zero_le _, rfl, Below.refl _ _, Lib.hid (by rw [HT.out]; rfl)⟩
  case round =>
    obtain ⟨k, hk, rfl, hb, hst⟩ := hrel
    by_cases hlt : k < n
    · obtain ⟨a, ha⟩ := get_of_lt (l := l) (k := k) (by rw [← HN.out]; exact hlt)
      obtain ⟨b, off, rfl, hbB, hcs⟩ := (hA.below hb).at_ ha
      obtain ⟨c0, c1, c2, c3, c4, c5, c6, c7⟩ := hcs k a ha
      have hst' : Hid (T = if p a = true then (k : Int) else idxP p (l.drop (k + 1)) ((k : Int) + 1)) := Lib.hid (by rw [hst.out, drop_of_get ha]; rfl)
      have hcall := HP.out wr hb a
      clear hcs ha hst
      cases hq : p a with
      | true =>
        rw [hq] at hcall
        have hf := Lib.hid (show T = (k : Int) by rw [hst'.out, if_pos hq])
        clear hst' hq
        go_wp2_with (go_at_fn g0; refine hcall.mono ?_; rintro e w2 ⟨rfl, hb2⟩)
        go_ret
        exact ⟨ret_int (by rw [hf.out]), hb.trans (hb2.mono hb.size)⟩
      | false =>
        rw [hq] at hcall
        have hf := Lib.hid (show T = idxP p (l.drop (k + 1)) ((k + 1 : Nat) : Int) by rw [hst'.out, if_neg (by rw [hq]; decide)]; rfl)
        clear hst' hq
        go_wp2_with (go_at_fn g0; refine hcall.mono ?_; rintro e w2 ⟨rfl, hb2⟩)
        go_roundw
        case rel => exact ⟨k + 1, by omega, by go_num, hb.trans (hb2.mono hb.size), hf⟩
        case measure => simp [intOf]; omega
    · have hf : Hid (T = -1) := Lib.hid (by rw [hst.out, List.drop_of_length_le (by rw [← HN.out]; omega)]; rfl)
      go_wp2_with fail
      go_ret
      exact ⟨ret_int (by rw [hf.out]), hb⟩

theorem flatA_set : ∀ (X : List Att) (i : Nat) (a : Att), i < X.length → (((((((((flatA X).set (i * 8) (.int .i64 a.s)).set (i * 8 + 1) (.int .i64 a.f)).set (i * 8 + 2) (.int .i64 a.cs)).set (i * 8 + 3) (.int .i64 a.co)).set (i * 8 + 4) (.int .i64 a.cf)).set (i * 8 + 5) (.int .i64 a.ct)).set (i * 8 + 6) (.int .i64 a.cl)).set (i * 8 + 7) (.int .i64 a.o)) = flatA (X.set i a)
  | [], i, a, h => by simp at h
  | x :: X, 0, a, _ => by simp [flatA, Att.row]
  | x :: X, i + 1, a, h => by
    have ih := flatA_set X i a (by simpa using h)
    have e : flatA (x :: X) = x.row ++ flatA X := by simp [flatA]
    have e2 : flatA ((x :: X).set (i + 1) a) = x.row ++ flatA (X.set i a) := by simp [flatA]
    rw [e, e2, ← ih]
    have hl : x.row.length = 8 := rfl
    have hs : ∀ (l : List Value) (j : Nat) (u : Value), (x.row ++ l).set ((i + 1) * 8 + j) u = x.row ++ l.set (i * 8 + j) u := fun l j u => by
      rw [List.set_append_right _ _ (by rw [hl]; omega), hl]
      congr 2
      omega
    have hs0 : ∀ (l : List Value) (u : Value), (x.row ++ l).set ((i + 1) * 8) u = x.row ++ l.set (i * 8) u := fun l u => by simpa using hs l 0 u
    simp only [hs0, hs]

set_option maxRecDepth 100000 in
set_option maxHeartbeats 8000000 in
theorem deleteA_any (p : Att → Bool) (g0 : FuncId) (cb : Array Value) (l : List Att) (A : Option Addr) (c base : Nat) (w : World) (eg : ∀ args w, (callFunc g0 args).run Tryz.prog w = .ok (.enter g0 args) w) (hown : w.ownsRow base 66 8 (.slice A l.length c) l.length (flatA l)) (hl : l.length ≤ 1000000) (hp : ∀ W, w.grownBy W (Value.slice A l.length c).ownBlock → ∀ a : Att, Calls Tryz.prog g0 (#[.agg #[.int .i64 a.s, .int .i64 a.f, .int .i64 a.cs, .int .i64 a.co, .int .i64 a.cf, .int .i64 a.ct, .int .i64 a.cl, .int .i64 a.o]] ++ cb) W fun e w' => e = .returned (.bool (p a)) ∧ Below W.heap.size W w') :
    Calls Tryz.prog 72 #[.slice A l.length c, .func (.func g0) #[] cb] w fun e w' => w.grownBy w' (Value.slice A l.length c).ownBlock ∧ ∃ A' c', A' = A ∧ e = .returned (.slice A' (keepP p l).length c') ∧ w'.ownsRow base 66 8 (.slice A' (keepP p l).length c') (keepP p l).length (flatA (keepP p l)) := by
  have hidx := indexHA_any p g0 cb l A c w eg (own_A hown) hl (fun W hW a => hp W (only_of_below hW _) a)
  have HX := Lib.hid hidx
  have HSP := Lib.hid (idxK_spec p l 0)
  obtain ⟨KP, hKP⟩ : ∃ KP, KP = keepP p l := ⟨_, rfl⟩
  rw [← hKP]
  obtain ⟨n, hn⟩ : ∃ n, n = l.length := ⟨_, rfl⟩
  obtain ⟨I, hI⟩ : ∃ I, I = idxP p l 0 := ⟨_, rfl⟩
  rw [← hn] at HX hown hl hp ⊢
  have HP := Lib.hid hp
  rw [← hI] at HX HSP
  have HN := Lib.hid hn
  have HKP := Lib.hid hKP
  clear hidx hn hKP hI hp
  go_enter Tryz.func72, Tryz.ntmps72
  go_wp2_with fail
  refine HX.out.mono ?_
  rintro e w1 ⟨rfl, hb1⟩
  have hown1 := own_kept (w' := w1) hown fun g cs hg h => h.below hb1 h.lt
  have hg1 := only_of_below hb1 (Value.slice A n c).ownBlock
  rcases HSP.out with ⟨e1, e2⟩ | ⟨i0, e1, e2, e3⟩
  · subst e1
    have HK2 : Hid (KP = l) := Lib.hid (by rw [HKP.out, e2])
    have HO := Lib.hid hown1
    clear e2 hown1
    go_wp2_with fail
    go_ret
    rw [HK2.out]
    have hln : l.length = n := HN.out.symm
    rw [hln]
    exact ⟨hg1, A, c, rfl, rfl, HO.out⟩
  · rw [← HN.out] at e1
    have e2' : I = (i0 : Int) := by rw [e2]; omega
    subst e2'
    have HE3 := Lib.hid e3
    clear e2 e3
    obtain ⟨g, hAg⟩ : ∃ g, A = some ⟨g, 0, none⟩ := by
      rcases hown1.2 with ⟨_, h0⟩ | ⟨g, cap, cur, hv, _⟩
      · omega
      · injection hv with hv _ _
        exact ⟨g, hv⟩
    subst hAg
    have hcap : n ≤ c ∧ c ≤ maxLen := by
      rcases hown1.2 with ⟨h0, _⟩ | ⟨g', cap, cur, hv, _, _, h1, h2, _⟩
      · cases h0
      · injection hv with _ _ hv
        subst hv
        exact ⟨h1, h2⟩
    obtain ⟨hnc, hcm⟩ := hcap
    unfold maxLen at hcm
    have hgl : g < w1.heap.size := (hown1.lt g rfl).2
    have HP2 : Hid (∀ W, w.grownBy W (some g) → ∀ a : Att, Calls Tryz.prog g0 (#[.agg #[.int .i64 a.s, .int .i64 a.f, .int .i64 a.cs, .int .i64 a.co, .int .i64 a.cf, .int .i64 a.ct, .int .i64 a.cl, .int .i64 a.o]] ++ cb) W fun e w' => e = .returned (.bool (p a)) ∧ Below W.heap.size W w') := Lib.hid HP.out
    clear HP
    simp only [Value.ownBlock] at hg1 ⊢
    obtain ⟨z0, hi, hz0, hz1, hz2⟩ := info_parts Tryz.infoAtt
    have HI := Lib.hid (And.intro hi (And.intro hz0 (And.intro hz1 hz2)))
    clear hi hz0 hz1 hz2
    obtain ⟨Rel, hRel⟩ : ∃ Rel : Nat → Nat → World → Prop, Rel = fun i j W => ∃ X : List Att, X.length = n ∧ X.take i = keepP p (l.take j) ∧ X.drop j = l.drop j ∧ W.ownsRow base 66 8 (.slice (some ⟨g, 0, none⟩) n c) n (flatA X) ∧ w.grownBy W (some g) := ⟨_, rfl⟩
    have HRel := Lib.hid hRel
    have hst0 : Rel i0 (i0 + 1) w1 := by
      rw [hRel]
      exact ⟨l, HN.out.symm, HE3.out.symm, rfl, hown1, hg1⟩
    have HOW := Lib.hid hown1
    clear hRel hown1
    have i0m : ((i0 : Int) == -1) = false := by rw [beq_eq_false_iff_ne]; omega
    go_wp2_with fail
    go_loopw [5, 6] (fun s5 s6 wr => ∃ (i j : Nat), i < j ∧ j ≤ n ∧ s5 = .int .i64 i ∧ s6 = .int .i64 j ∧ Rel i j wr) (fun _ s6 _ => n - (intOf s6).toNat)
    case atStart => exact ⟨i0, i0 + 1, by omega, by omega, rfl, by go_num, hst0⟩
    case round =>
      clear hst0
      obtain ⟨i, j, hij, hj, rfl, rfl, hrel⟩ := hrel
      rw [HRel.out] at hrel
      obtain ⟨X, hXn, hXt, hXd, hownX, hgr⟩ := hrel
      have HXN := Lib.hid hXn
      have HXT := Lib.hid hXt
      have HXD := Lib.hid hXd
      have hgw : g < wr.heap.size := (hownX.lt g rfl).2
      clear hXn hXt hXd
      by_cases hlt : j < n
      · obtain ⟨a, ha⟩ := get_of_lt (l := l) (k := j) (by rw [← HN.out]; exact hlt)
        have hXj : X[j]? = some a := by
          have h1 : (X.drop j)[0]? = (l.drop j)[0]? := by rw [HXD.out]
          simpa [List.getElem?_drop, ha] using h1
        have hlX : LiesA wr wr.heap.size (some ⟨g, 0, none⟩) X := own_A (l := X) (base := base) (n := n) (c := c) (by rw [HXN.out]; exact hownX)
        obtain ⟨b, off, eb, _, hcs⟩ := hlX.at_ hXj
        injection eb with eb
        injection eb with eb1 eb2 _
        subst eb1 eb2
        obtain ⟨c0, c1, c2, c3, c4, c5, c6, c7⟩ := hcs j a hXj
        simp only [Nat.zero_add] at c0 c1 c2 c3 c4 c5 c6 c7
        have htk : Hid (keepP p (l.take (j + 1)) = if p a = true then keepP p (l.take j) else keepP p (l.take j) ++ [a]) := Lib.hid (by rw [take_snoc_ ha]; exact keepP_snoc p _ a)
        have hdr : Hid (X.drop (j + 1) = l.drop (j + 1)) := Lib.hid (by
          have h1 := HXD.out
          rw [drop_of_get hXj, drop_of_get ha] at h1
          injection h1)
        have HOX := Lib.hid hownX
        clear hcs ha hXj hlX hownX
        go_upto_region 8 with fail
        generalize hW2 : wr.alloc _ = W2
        have ba : Blk W2 wr.heap.size 66 [.int .i64 a.s, .int .i64 a.f, .int .i64 a.cs, .int .i64 a.co, .int .i64 a.cf, .int .i64 a.ct, .int .i64 a.cl, .int .i64 a.o] := by rw [← hW2]; exact Blk.new' _ [.int .i64 a.s, .int .i64 a.f, .int .i64 a.cs, .int .i64 a.co, .int .i64 a.cf, .int .i64 a.ct, .int .i64 a.cl, .int .i64 a.o] rfl
        have hown2 : W2.ownsRow base 66 8 (.slice (some ⟨g, 0, none⟩) n c) n (flatA X) := by rw [← hW2]; exact HOX.out.alloc _
        have hw2 : Below wr.heap.size wr W2 := by rw [← hW2]; exact (Below.refl _ _).alloc (Nat.le_refl _) _
        have hcall := HP2.out W2 (hgr.trans (only_of_below hw2 (some g))) a
        have cb0 := ba.row
        unfold Row at cb0
        clear hW2 c0 c1 c2 c3 c4 c5 c6 c7 HOX
        go_wp2_with fail
        go_at_fn g0
        refine hcall.mono ?_
        rintro e w3 ⟨rfl, hb3⟩
        have hown3 := own_kept (w' := w3) hown2 fun x cs hg h => h.below hb3 h.lt
        have hgr3 : w.grownBy w3 (some g) := hgr.trans ((only_of_below hw2 (some g)).trans (only_of_below hb3 (some g)))
        have ba3 := ba.below hb3 ba.lt
        clear hown2 ba cb0 hgr
        by_cases hs : p a = true
        · rw [hs]
          have hnew : Rel i (j + 1) w3 := by
            rw [HRel.out]
            exact ⟨X, HXN.out, by rw [htk.out, if_pos hs]; exact HXT.out, hdr.out, hown3, hgr3⟩
          clear hown3 ba3 hs
          go_wp2_with fail
          go_roundw
          case rel => exact ⟨i, j + 1, by omega, by omega, rfl, by go_num, hnew⟩
          case measure => simp [intOf]; omega
        · rw [show p a = false by simpa using hs]
          have hiX : i < X.length := by rw [HXN.out]; omega
          have hst := flatA_set X i a hiX
          have o1 := hown3.stored (i * 8) (.int .i64 a.s)
          have o2 := o1.1.stored (i * 8 + 1) (.int .i64 a.f)
          have o3 := o2.1.stored (i * 8 + 2) (.int .i64 a.cs)
          have o4 := o3.1.stored (i * 8 + 3) (.int .i64 a.co)
          have o5 := o4.1.stored (i * 8 + 4) (.int .i64 a.cf)
          have o6 := o5.1.stored (i * 8 + 5) (.int .i64 a.ct)
          have o7 := o6.1.stored (i * 8 + 6) (.int .i64 a.cl)
          have o8 := o7.1.stored (i * 8 + 7) (.int .i64 a.o)
          have hnew : Rel (i + 1) (j + 1) ((((((((w3.setCell ⟨g, i * 8, none⟩ (.int .i64 a.s)).setCell ⟨g, i * 8 + 1, none⟩ (.int .i64 a.f)).setCell ⟨g, i * 8 + 2, none⟩ (.int .i64 a.cs)).setCell ⟨g, i * 8 + 3, none⟩ (.int .i64 a.co)).setCell ⟨g, i * 8 + 4, none⟩ (.int .i64 a.cf)).setCell ⟨g, i * 8 + 5, none⟩ (.int .i64 a.ct)).setCell ⟨g, i * 8 + 6, none⟩ (.int .i64 a.cl)).setCell ⟨g, i * 8 + 7, none⟩ (.int .i64 a.o)) := by
            rw [HRel.out]
            refine ⟨X.set i a, by simp [HXN.out], ?_, ?_, by rw [← hst]; exact o8.1, ((((((((hgr3.trans o1.2).trans o2.2).trans o3.2).trans o4.2).trans o5.2).trans o6.2).trans o7.2).trans o8.2)⟩
            · have hget : (X.set i a)[i]? = some a := by simp [hiX]
              rw [take_snoc_ hget, htk.out, if_neg hs, ← HXT.out, List.take_set_of_le (Nat.le_refl _)]
            · rw [List.drop_set_of_lt (by omega)]
              exact hdr.out
          have HNEW := Lib.hid hnew
          have lX3 : LiesA w3 w3.heap.size (some ⟨g, 0, none⟩) X := own_A (l := X) (base := base) (n := n) (c := c) (by rw [HXN.out]; exact hown3)
          obtain ⟨x, hx⟩ := get_of_lt hiX
          obtain ⟨b, off, eb, _, hcs⟩ := lX3.at_ hx
          injection eb with eb
          injection eb with eb1 eb2 _
          subst eb1 eb2
          obtain ⟨c0, c1, c2, c3, c4, c5, c6, c7⟩ := hcs i x hx
          simp only [Nat.zero_add] at c0 c1 c2 c3 c4 c5 c6 c7
          have fz : ∀ k, w3.frozen? ⟨g, k, none⟩ = false := by
            rcases hown3.2 with ⟨h0, _⟩ | ⟨g', cap, cur, hv, _, hh, _⟩
            · cases h0
            · injection hv with hv _ _
              injection hv with hv
              injection hv with hv _ _
              subst hv
              intro k
              simp [World.frozen?, hh]
          have cb3 := ba3.row
          unfold Row at cb3
          have hgne : ¬ wr.heap.size = g := by omega
          have hgne' : ¬ g = wr.heap.size := by omega
          have hic : i < n := by omega
          clear hst o1 o2 o3 o4 o5 o6 o7 o8 hnew hown3 ba3 hs lX3 hx hcs hgr3
          go_wp2_with fail
          go_roundw
          case rel => exact ⟨i + 1, j + 1, by omega, by omega, by go_num, by go_num, HNEW.out⟩
          case measure => simp [intOf]; omega
      · have hje : j = n := by omega
        subst hje
        obtain ⟨w4, hrun, ho4, hg4⟩ := run_clear_ownD (P := Tryz.prog) wr 30 0 66 z0 (.agg #[.int .i64 0, .int .i64 0, .int .i64 0, .int .i64 0, .int .i64 0, .int .i64 0, .int .i64 0, .int .i64 0]) 8 Tryz.underlying30 HI.out.1 HI.out.2.1 rfl (by decide) (by intro u hu; simp [Value.cells] at hu; subst hu; rfl) base g j c i (c - i) (flatA X) hownX hij
        have hci : ¬ c = i := by omega
        have hkl : Hid (KP = X.take i) := Lib.hid (by rw [HKP.out, HXT.out, List.take_of_length_le (by rw [HN.out]; exact Nat.le_refl _)])
        have hlen : Hid (KP.length = i) := Lib.hid (by rw [hkl.out, List.length_take, HXN.out]; omega)
        have hflat : Hid ((flatA X).take (i * 8) = flatA KP) := Lib.hid (by
          have h1 : flatA X = flatA (X.take i) ++ flatA (X.drop i) := by
            unfold flatA
            rw [← List.flatMap_append, List.take_append_drop]
          have h2 : (flatA (X.take i)).length = i * 8 := by
            have h := flat_len (f := Att.row) row_len_A (X.take i)
            rw [List.length_take, HXN.out, Nat.min_eq_left (by omega)] at h
            exact h
          rw [hkl.out, h1, List.take_append_of_le_length (by rw [h2]; exact Nat.le_refl _), List.take_of_length_le (by rw [h2]; exact Nat.le_refl _)])
        have HRUN := Lib.hid hrun
        have HO4 := Lib.hid ho4
        have HG4 := Lib.hid (hgr.trans hg4)
        clear hrun ho4 hg4 hownX
        go_wp2_with fail
        rename_i hK
        rw [HRUN.out]
        simp only [Result.andThen_ok, Oper.upon_value]
        refine hK _ _ ?_
        go_wp2_with fail
        go_ret
        refine ⟨HG4.out, some ⟨g, 0, none⟩, c, rfl, by rw [hlen.out]; rfl, ?_⟩
        rw [hlen.out, ← hflat.out]
        exact HO4.out

end Go.Proofs.YticnppnejafhdaaGreatDoor
/- Abstract states: a list that the frame holds alone, and what DeleteFunc makes of it in place: by hand. -/
namespace Go.Proofs.YticnppnejafhdaaGreatDoor
open Go.RowKit
open Nd Rc Mo
open Av
namespace Av
/-- A row in memory, read. -/
theorem own_repR {R : Reader} {w : World} {base : Nat} {e : TypeId} {sz : Nat} {v : Value} {xs : List (List Value)} (h : w.ownsRow base e sz v xs.length xs.flatten) (hl : ∀ row ∈ xs, row.length = sz) (h1 : ∀ row ∈ xs, ∀ x ∈ row, x.oneCell' = true)
    (hR : ∀ g, v.ownBlock = some g → ∀ (p : Addr) x, p.block = g → w.cell? p = some x → R p = some x) : RepP R (.sl sz (xs.map fun row => row.map PV.v)) v := by
  have hz : ∀ (k : Nat) (row : List PV) (j : Nat) (p : PV), (xs.map fun row => row.map PV.v)[k]? = some row → row[j]? = some p → ∃ x, xs.flatten[k * sz + j]? = some x ∧ RepP R p x := fun k row j p hk hj => by
    rw [List.getElem?_map] at hk
    cases hx : xs[k]? with
    | none => rw [hx] at hk; cases hk
    | some r =>
      rw [hx] at hk
      simp only [Option.map_some, Option.some.injEq] at hk
      subst hk
      rw [List.getElem?_map] at hj
      cases hy : r[j]? with
      | none => rw [hy] at hj; cases hj
      | some y =>
        rw [hy] at hj
        simp only [Option.map_some, Option.some.injEq] at hj
        subst hj
        exact ⟨y, flatten_get hl hx hy, .v y (h1 r (List.mem_of_getElem? hx) y (List.mem_of_getElem? hy))⟩
  have hsz : ∀ (k : Nat) (row : List PV), (xs.map fun row => row.map PV.v)[k]? = some row → row.length = sz := fun k row hk => by
    rw [List.getElem?_map] at hk
    cases hx : xs[k]? with
    | none => rw [hx] at hk; cases hk
    | some r =>
      rw [hx] at hk
      simp only [Option.map_some, Option.some.injEq] at hk
      subst hk
      rw [List.length_map]
      exact hl r (List.mem_of_getElem? hx)
  have hmk : ∀ {A : Option Addr} {cap : Nat}, (xs = [] ∨ ∃ b off, A = some ⟨b, off, none⟩ ∧ ∀ (i : Nat) (x : Value), xs.flatten[i]? = some x → i < xs.length * sz → R ⟨b, off + i, none⟩ = some x) → xs.length ≤ cap → RepP R (.sl sz (xs.map fun row => row.map PV.v)) (.slice A xs.length cap) := fun {A cap} hA hc => by
    have := rep_mk (R := R) (A := A) (cap := cap) (zs := xs.flatten) hsz hz (by
      rcases hA with h2 | ⟨b, off, h2, h3⟩
      · left; rw [h2]; rfl
      · exact .inr ⟨b, off, h2, fun i x hx hi => h3 i x hx (by simpa using hi)⟩) (by simpa using hc)
    simpa using this
  obtain ⟨_, h2⟩ := h
  rcases h2 with ⟨rfl, hn⟩ | ⟨g, cap, cur, rfl, hb, hg, hnc, hcm, hcs, htake⟩
  · have hx : xs = [] := List.eq_nil_of_length_eq_zero hn
    subst hx
    exact hmk (A := none) (cap := 0) (.inl rfl) (Nat.le_refl _)
  · refine hmk (.inr ⟨g, 0, rfl, fun i x hx hi => hR g rfl _ _ rfl ?_⟩) hnc
    rw [Nat.zero_add, cell_of_row w g i cur e (0, 0) hg]
    rw [← htake, List.getElem?_take, if_pos hi] at hx
    rw [← Array.getElem?_toList]
    exact hx
/-- A list that nothing else reads. -/
def ownE (e : TypeId) (sz : Nat) (V : Value) (n : Nat) (xs : List Value) : Ext where
  foot b := V.ownBlock = some b
  froz _ := False
  holds w := w.ownsRow 0 e sz V n xs
  stable h hw := own_kept hw fun g _ hg hb => (h g (.inl hg)).trans hb
theorem own_low {w : World} {base : Nat} {e : TypeId} {sz : Nat} {v : Value} {n : Nat} {xs : List Value} (h : w.ownsRow base e sz v n xs) : w.ownsRow 0 e sz v n xs := by
  obtain ⟨h1, h2⟩ := h
  refine ⟨h1, ?_⟩
  rcases h2 with h2 | ⟨g, cap, cur, e1, _, h2⟩
  · exact .inl h2
  · exact .inr ⟨g, cap, cur, e1, Nat.zero_le _, h2⟩
section
variable {n d : Nat} {σ : St} {o : Oper} {K : St → Prop}
/-- The attempts of a frame, as a list that nothing else reads. -/
theorem hand_attempts {x y z : Operand} {ats : Array TypeId} (r : Rec) (fl fr : Int) (hla : r.al.length ≤ 1000000) (ho : o.op = .call { callee := .value (.func 73), args := #[x, y, z], argTypes := ats }) (hd : o.dst = some d) (hdn : d < n)
    (hx : evo (look σ.slot) x = some (.agg r.pv)) (hy : evo (look σ.slot) y = some (iv fl)) (hz : evo (look σ.slot) z = some (iv fr))
    (h : ∀ V, K (({ σ with ext := σ.ext.and (ownE 66 8 V (ofFrame r.al fl fr).length (flatA (ofFrame r.al fl fr))) } : St).put d (.v V))) : Hand Tryz.prog n σ o K := by
  refine hand_call hd fun F γ a w hF hr => ?_
  obtain ⟨A, D, ca, cd, e1, hA, _⟩ := rec_rep (fun p v hp => hr.cell hp) (evo_ok hr (fun _ _ _ hy => hy) hx).1
  have e2 : a.eval y = .int .i64 fl := (evo_ok hr (fun _ _ _ hy => hy) hy).1
  have e3 : a.eval z = .int .i64 fr := (evo_ok hr (fun _ _ _ hy => hy) hz).1
  refine ⟨73, #[a.eval x, a.eval y, a.eval z], ?_, ?_⟩
  · have henter : Enters Tryz.prog 73 := ⟨Tryz.f73, _, Tryz.func73, by kernel_rfl, rfl⟩
    have hf : a.eval (.func 73) = .func (.func 73) #[] #[] := rfl
    simp [execOp, ho, resolve, hf, Deferred.ofValue, invoke, run_callFunc henter]
  rw [e1, e2, e3]
  refine (attempts2_any r A D ca cd fl fr w hA hla).mono ?_
  rintro e w1 ⟨hb, va, rfl, hown⟩
  have hlow := own_low hown
  refine ⟨va, _, γ, rfl, h va, (hr.turn (Turn.more (fun b hb => (hr.extf b hb).2.1) hr.exth (Turn.below (E := ownE 66 8 va (ofFrame r.al fl fr).length (flatA (ofFrame r.al fl fr))) hb hlow (fun b hb' => .inr ?_) (fun b (hf : False) => hf.elim)))).put (by rw [hF]; exact hdn) rfl (fun k hk => by cases hk)⟩
  rcases hown.2 with ⟨rfl, _⟩ | ⟨g, cap, cur, rfl, hg, hh, _⟩
  · cases hb'
  · simp only [ownE, Value.ownBlock, Option.some.injEq] at hb'
    subst hb'
    exact ⟨hg, (Array.getElem?_eq_some_iff.1 hh).1⟩
/-- DeleteFunc of a list that nothing else reads, with a closure of two numbers. -/
theorem hand_delete {x y : Operand} {ats : Array TypeId} {fid k1 k2 : Nat} {V : Value} {l : List Att} {m1 m2 : Int} (p : Att → Bool) (E0 : Ext) (ho : o.op = .call { callee := .value (.func 72), args := #[x, y], argTypes := ats }) (hd : o.dst = some d) (hdn : d < n)
    (hE : σ.ext = E0.and (ownE 66 8 V l.length (flatA l))) (hx : evo (look σ.slot) x = some (.v V)) (hy : evo (look σ.slot) y = some (.clo fid [(k1, 0), (k2, 0)])) (hb1 : look σ.box k1 = some [ip m1]) (hb2 : look σ.box k2 = some [ip m2]) (hl : l.length ≤ 1000000)
    (hcl : ∀ a : Att, FnOK Tryz.prog fid [.agg a.pv, .ept [ip m1], .ept [ip m2]] ⟨bv (p a), none⟩)
    (h : K (({ σ with ext := E0 } : St).put d (.sl 8 ((keepP p l).map Att.pv)))) : Hand Tryz.prog n σ o K := by
  refine hand_call hd fun F γ a w hF hr => ?_
  have e1 : a.eval x = V := (evo_ok hr (fun _ _ _ hy => hy) hx).1
  have e2 : a.eval y = .func (.func fid) #[] #[.pointer (some ⟨γ.bx k1, 0, none⟩), .pointer (some ⟨γ.bx k2, 0, none⟩)] := (evo_ok hr (fun _ _ _ hy => hy) hy).1
  refine ⟨72, #[a.eval x, a.eval y], ?_, ?_⟩
  · have henter : Enters Tryz.prog 72 := ⟨Tryz.f72, _, Tryz.func72, by kernel_rfl, rfl⟩
    have hf : a.eval (.func 72) = .func (.func 72) #[] #[] := rfl
    simp [execOp, ho, resolve, hf, Deferred.ofValue, invoke, run_callFunc henter]
  have hext := hr.exth
  rw [hE] at hext
  obtain ⟨hh0, hown, hdis⟩ := hext
  have hfoot : ∀ b, V.ownBlock = some b → F.w0.heap.size ≤ b ∧ b < w.heap.size ∧ (∀ k, (look σ.box k).isSome → γ.bx k ≠ b) ∧ (∀ L, (lookL σ.own L).isSome → γ.rw L ≠ some b) := fun b hb => hr.extf b (.inl (by rw [hE]; exact .inr hb))
  obtain ⟨A, c, hV⟩ : ∃ A c, V = .slice A l.length c := by
    rcases hown.2 with ⟨h1, h2⟩ | ⟨g, cap, cur, h1, _⟩
    · exact ⟨none, 0, by rw [h1, h2]⟩
    · exact ⟨_, _, h1⟩
  have hcell : ∀ k m, look σ.box k = some [ip m] → (look σ.box k).isSome ∧ γ.bx k < w.heap.size ∧ w.cell? ⟨γ.bx k, 0, none⟩ = some (.int .i64 m) := fun k m hk => by
    obtain ⟨us, ty, h1, _, h3⟩ := hr.boxes k _ hk
    cases h3 with | cons h3 h4 =>
    cases h4
    cases h3
    refine ⟨by rw [hk]; rfl, (Array.getElem?_eq_some_iff.1 h1).1, ?_⟩
    rw [cell_of_row w _ 0 _ ty (0, 0) h1]
    rfl
  obtain ⟨s1, l1, c1⟩ := hcell k1 m1 hb1
  obtain ⟨s2, l2, c2⟩ := hcell k2 m2 hb2
  rw [e1, e2, hV]
  rw [hV] at hown hfoot hdis
  refine (deleteA_any p fid _ l A c 0 w (fun args w => run_callFunc (hcl ⟨0, 0, 0, 0, 0, 0, 0, 0⟩).1 args w) hown hl (fun W hW x => ?_)).mono ?_
  · have hne : ∀ k, (look σ.box k).isSome → some (γ.bx k) ≠ (Value.slice A l.length c).ownBlock := fun k hk h => (hfoot _ h.symm).2.2.1 k hk rfl
    have hk1 : W.cell? ⟨γ.bx k1, 0, none⟩ = some (.int .i64 m1) := (World.cell?_of_block (hW.block _ l1 (hne k1 s1))).trans c1
    have hk2 : W.cell? ⟨γ.bx k2, 0, none⟩ = some (.int .i64 m2) := (World.cell?_of_block (hW.block _ l2 (hne k2 s2))).trans c2
    have hept : ∀ k m, W.cell? ⟨γ.bx k, 0, none⟩ = some (.int .i64 m) → RepA (fun q => W.cell? q) (fun _ => 0) (.ept [ip m]) (.pointer (some ⟨γ.bx k, 0, none⟩)) := fun k m hk => ⟨_, 0, [.int .i64 m], rfl, .cons (.v _ rfl) .nil, fun i x hx => by
      cases i with
      | zero => simp at hx; subst hx; exact hk
      | succ i => simp at hx⟩
    have := (hcl x).2 W (fun q => W.cell? q) (fun _ _ h => h) [.agg #[.int .i64 x.s, .int .i64 x.f, .int .i64 x.cs, .int .i64 x.co, .int .i64 x.cf, .int .i64 x.ct, .int .i64 x.cl, .int .i64 x.o], .pointer (some ⟨γ.bx k1, 0, none⟩), .pointer (some ⟨γ.bx k2, 0, none⟩)]
      (.cons ⟨_, rfl, rep_of_ints (xs := [.int .i64 x.s, .int .i64 x.f, .int .i64 x.cs, .int .i64 x.co, .int .i64 x.cf, .int .i64 x.ct, .int .i64 x.cl, .int .i64 x.o]) (by intro u hu; simp at hu; rcases hu with rfl | rfl | rfl | rfl | rfl | rfl | rfl | rfl <;> rfl)⟩ rfl (.cons (hept k1 m1 hk1) rfl (.cons (hept k2 m2 hk2) rfl .nil)))
    refine this.mono ?_
    rintro e w' ⟨u, rfl, hb, hres⟩
    exact ⟨by rw [show u = .bool (p x) from hres.2], hb⟩
  · rintro e w1 ⟨hg, A', c', hA', rfl, hown'⟩
    subst hA'
    have hturn : Turn σ.ext w w1 E0 := by
      refine ⟨hg.os, hg.tape, hg.output, hg.size, fun k hk hn => hg.block k hk (fun h => hn (by rw [hE, hV]; exact .inr h.symm)), E0.stable (fun b hb => ?_) hh0, fun b hb => .inl (by rw [hE]; exact .inl hb), fun b hb => .inr (.inl (by rw [hE]; exact .inl hb)), fun w0 h => by rw [hE] at h; exact h.1⟩
      have hlt := (hr.extf b (by rw [hE]; exact hb.elim (fun h => .inl (.inl h)) (fun h => .inr (.inl h)))).2.1
      exact hg.block b hlt (fun h => hdis b hb (.inl h.symm))
    refine ⟨_, _, γ, rfl, h, (hr.turn hturn).put (by rw [hF]; exact hdn) ?_ (fun k hk => by cases hk)⟩
    have hlen : (keepP p l).length = ((keepP p l).map Att.row).length := (List.length_map _).symm
    have hfl : flatA (keepP p l) = ((keepP p l).map Att.row).flatten := by unfold flatA; rw [List.flatMap_def]
    rw [hlen, hfl] at hown'
    rw [hlen, att_pv]
    refine own_repR hown' (fun row hr => by obtain ⟨x, _, rfl⟩ := List.mem_map.1 hr; rfl) (fun row hr x hx => by obtain ⟨y, _, rfl⟩ := List.mem_map.1 hr; simp only [Att.row, List.mem_cons, List.not_mem_nil, or_false] at hx; rcases hx with rfl | rfl | rfl | rfl | rfl | rfl | rfl | rfl <;> rfl) (fun g hgb q x hq hc => ?_)
    have hgb' : (Value.slice A' l.length c).ownBlock = some g := by cases A' with | none => cases hgb | some b => exact hgb
    obtain ⟨f1, f2, f3, f4⟩ := hfoot g hgb'
    unfold rdr
    rw [if_neg (by omega), if_neg]
    · exact hc
    · rintro (⟨k, cs, hk, hpk⟩ | ⟨L, e, sz, rows, q1, q2, q3, q4⟩ | hx)
      · exact f3 k (by rw [show look σ.box k = some cs from hk]; rfl) (by rw [← hpk, hq])
      · exact f4 L (by rw [show lookL σ.own L = some (e, sz) from q1]; rfl) (by rw [q3, hq])
      · exact hdis g (.inl (by rw [← hq]; exact hx)) (.inl hgb')
end
end Av
end Go.Proofs.YticnppnejafhdaaGreatDoor
/- Slots of a frame, for whatever frame can be recorded. -/
namespace Go.Proofs.YticnppnejafhdaaGreatDoor
open Go.RowKit
open Nd Rc Mo
open Av
set_option maxRecDepth 100000
set_option linter.unusedSimpArgs false

set_option maxHeartbeats 1000000 in
theorem releaseW_any (f : Fl) (n : Int) (hf : fault f = 0) (h0 : 0 ≤ n) (h1 : n ≤ 1048576) (w : World) :
    Calls Tryz.prog 106 #[.agg #[.int .i64 f.id, .int .i64 f.fr, .int .i64 f.tn, .int .i64 f.pe, .int .i64 f.ph, .int .i64 f.dl], .int .i64 n] w fun e w' => e = .returned (.tuple #[.int .i64 (rel f n), .int .i64 0]) ∧ Below w.heap.size w w' := by
  have con := fun W => alone_any f W
  rw [hf] at con
  obtain ⟨_, _, _, hp, hq, hdl, _⟩ := fault_zero hf
  have hm0 : 0 ≤ n * f.pe := Int.mul_nonneg h0 (by omega)
  have hm1 : n * f.pe ≤ 1048576 * f.pe := Int.mul_le_mul_of_nonneg_right h1 (by omega)
  unfold rel
  obtain ⟨m, hmm⟩ : ∃ m, m = n * f.pe := ⟨_, rfl⟩
  have hw1 : IntKind.i64.wrap (n * f.pe) = m := by rw [← hmm, IntKind.wrap_i64]; omega
  rw [← hmm] at hm0 hm1 ⊢
  have hw2 : IntKind.i64.wrap (f.ph + m) = f.ph + m := by rw [IntKind.wrap_i64]; omega
  have d0 : decide (n < 0) = false := decide_eq_false (by omega)
  have d1 : decide (1099511627776 < n) = false := decide_eq_false (by omega)
  have d2 : decide (1099511627776 < f.ph + m) = false := decide_eq_false (by omega)
  clear hf
  obtain ⟨id, fr, tn, pe, ph, dl⟩ := f
  dsimp only at *
  have HMM := Lib.hid hmm.symm
  have Con := Lib.hid con
  clear con hmm
  go_enter Tryz.func106, Tryz.ntmps106
  go_wp2_with (first | (go_at_call 152; (with_reducible refine (Con.out _).mono ?_); rintro e w2 ⟨rfl, hb2⟩; have r2 := (Row.new w [.int .i64 id, .int .i64 fr, .int .i64 tn, .int .i64 pe, .int .i64 ph, .int .i64 dl] 28).below hb2 (by simp); unfold Row at r2) | fail)
  go_ret2
  exact ⟨by first | rfl | (rw [HMM.out]; done) | simp [HMM.out], ((Below.refl _ _).alloc (Nat.le_refl _) _).trans (hb2.mono (by simp))⟩

set_option maxHeartbeats 1000000 in
theorem WindowW_any (f : Fl) (n : Int) (hf : fault f = 0) (h0 : 0 ≤ n) (h1 : n ≤ 1048576) (w : World) :
    Calls Tryz.prog 70 #[.agg #[.int .i64 f.id, .int .i64 f.fr, .int .i64 f.tn, .int .i64 f.pe, .int .i64 f.ph, .int .i64 f.dl], .int .i64 n] w fun e w' => e = .returned (.tuple #[.int .i64 (rel f n), .int .i64 (rel f n + f.pe - 1), .int .i64 0]) ∧ Below w.heap.size w w' := by
  have con := fun W => releaseW_any f n hf h0 h1 W
  obtain ⟨_, _, _, hp, hq, hdl, _⟩ := fault_zero hf
  have hm0 : 0 ≤ n * f.pe := Int.mul_nonneg h0 (by omega)
  have hm1 : n * f.pe ≤ 1048576 * f.pe := Int.mul_le_mul_of_nonneg_right h1 (by omega)
  unfold rel at con ⊢
  generalize hmm : n * f.pe = m at *
  clear hmm
  clear hf
  obtain ⟨id, fr, tn, pe, ph, dl⟩ := f
  dsimp only at *
  have Con := Lib.hid con
  clear con
  have hw1 : IntKind.i64.wrap (ph + m + pe - 1) = ph + m + pe - 1 := by rw [IntKind.wrap_i64]; omega
  have hw2 : IntKind.i64.wrap (ph + m + pe) = ph + m + pe := by rw [IntKind.wrap_i64]; omega
  go_enter Tryz.func70, Tryz.ntmps70
  go_wp2_with (first | (go_at_call 106; (with_reducible refine (Con.out _).mono ?_); rintro e w2 ⟨rfl, hb2⟩; have r2 := (Row.new w [.int .i64 id, .int .i64 fr, .int .i64 tn, .int .i64 pe, .int .i64 ph, .int .i64 dl] 28).below hb2 (by simp); unfold Row at r2) | fail)
  go_quiet (fail)
  go_wp2_with fail
  go_ret3
  exact ⟨rfl, below_drewN (((Below.refl _ _).alloc (Nat.le_refl _) _).trans (hb2.mono (by simp))) _⟩

set_option maxHeartbeats 1000000 in
theorem DueW_any (f : Fl) (n : Int) (hf : fault f = 0) (h0 : 0 ≤ n) (h1 : n ≤ 1048576) (w : World) :
    Calls Tryz.prog 71 #[.agg #[.int .i64 f.id, .int .i64 f.fr, .int .i64 f.tn, .int .i64 f.pe, .int .i64 f.ph, .int .i64 f.dl], .int .i64 n] w fun e w' => e = .returned (.tuple #[.int .i64 (rel f n + f.dl - 1), .int .i64 0]) ∧ Below w.heap.size w w' := by
  have con := fun W => releaseW_any f n hf h0 h1 W
  obtain ⟨_, _, _, hp, hq, hdl, _⟩ := fault_zero hf
  have hm0 : 0 ≤ n * f.pe := Int.mul_nonneg h0 (by omega)
  have hm1 : n * f.pe ≤ 1048576 * f.pe := Int.mul_le_mul_of_nonneg_right h1 (by omega)
  unfold rel at con ⊢
  generalize hmm : n * f.pe = m at *
  clear hmm
  clear hf
  obtain ⟨id, fr, tn, pe, ph, dl⟩ := f
  dsimp only at *
  have Con := Lib.hid con
  clear con
  have hw1 : IntKind.i64.wrap (ph + m + dl - 1) = ph + m + dl - 1 := by rw [IntKind.wrap_i64]; omega
  have hw2 : IntKind.i64.wrap (ph + m + dl) = ph + m + dl := by rw [IntKind.wrap_i64]; omega
  go_enter Tryz.func71, Tryz.ntmps71
  go_wp2_with (first | (go_at_call 106; (with_reducible refine (Con.out _).mono ?_); rintro e w2 ⟨rfl, hb2⟩; have r2 := (Row.new w [.int .i64 id, .int .i64 fr, .int .i64 tn, .int .i64 pe, .int .i64 ph, .int .i64 dl] 28).below hb2 (by simp); unfold Row at r2) | fail)
  go_ret2
  exact ⟨rfl, ((Below.refl _ _).alloc (Nat.le_refl _) _).trans (hb2.mono (by simp))⟩

set_option maxHeartbeats 1000000 in
theorem rrelW_any (f : Fl) (n : Int) (hf : fault f = 0) (h0 : 0 ≤ n) (h1 : n ≤ 1048576) (w : World) :
    Calls Tryz.prog 79 #[.agg #[.int .i64 f.id, .int .i64 f.fr, .int .i64 f.tn, .int .i64 f.pe, .int .i64 f.ph, .int .i64 f.dl], .int .i64 n] w fun e w' => e = .returned (.int .i64 (rel f n)) ∧ Below w.heap.size w w' := by
  obtain ⟨_, _, _, hp, hq, hdl, _⟩ := fault_zero hf
  have hm0 : 0 ≤ n * f.pe := Int.mul_nonneg h0 (by omega)
  have hm1 : n * f.pe ≤ 1048576 * f.pe := Int.mul_le_mul_of_nonneg_right h1 (by omega)
  unfold rel
  obtain ⟨m, hmm⟩ : ∃ m, m = n * f.pe := ⟨_, rfl⟩
  have hw1 : IntKind.i64.wrap (n * f.pe) = m := by rw [← hmm, IntKind.wrap_i64]; omega
  rw [← hmm] at hm0 hm1 ⊢
  have hw2 : IntKind.i64.wrap (f.ph + m) = f.ph + m := by rw [IntKind.wrap_i64]; omega
  clear hf
  obtain ⟨id, fr, tn, pe, ph, dl⟩ := f
  dsimp only at *
  have HMM := Lib.hid hmm.symm
  clear hmm
  go_enter Tryz.func79, Tryz.ntmps79
  go_wp2_with fail
  go_ret
  exact ⟨by first | rfl | (rw [HMM.out]; done) | simp [HMM.out], by first | exact (Below.refl _ _).alloc (Nat.le_refl _) _ | exact Below.refl _ _⟩

theorem window_okW (f : Fl) (n : Int) (hf : fault f = 0) (h0n : 0 ≤ n) (h1n : n ≤ 1048576) : FnOK Tryz.prog 70 [.agg f.pv, iv n] ⟨.tup [.c (ip (rel f n)), .c (ip (rel f n + f.pe - 1)), .c (ip 0)], none⟩ := fn_of ⟨Tryz.f70, _, Tryz.func70, by kernel_rfl, rfl⟩ fun w R hR us hus => by
  cases hus with | cons h0 _ hus =>
  cases hus with | cons h1 _ hus =>
  cases hus
  rw [fl_rep h0, h1]
  refine (WindowW_any f n hf h0n h1n w).mono ?_
  rintro e w' ⟨rfl, hb⟩
  exact ⟨_, rfl, hb, rfl, _, rfl, .cons (.c (.v _ rfl)) (.cons (.c (.v _ rfl)) (.cons (.c (.v _ rfl)) .nil))⟩

theorem due_okW (f : Fl) (n : Int) (hf : fault f = 0) (h0n : 0 ≤ n) (h1n : n ≤ 1048576) : FnOK Tryz.prog 71 [.agg f.pv, iv n] ⟨.tup [.c (ip (rel f n + f.dl - 1)), .c (ip 0)], none⟩ := fn_of ⟨Tryz.f71, _, Tryz.func71, by kernel_rfl, rfl⟩ fun w R hR us hus => by
  cases hus with | cons h0 _ hus =>
  cases hus with | cons h1 _ hus =>
  cases hus
  rw [fl_rep h0, h1]
  refine (DueW_any f n hf h0n h1n w).mono ?_
  rintro e w' ⟨rfl, hb⟩
  exact ⟨_, rfl, hb, res_vv rfl rfl⟩

theorem rrel_okW (f : Fl) (n : Int) (hf : fault f = 0) (h0n : 0 ≤ n) (h1n : n ≤ 1048576) : FnOK Tryz.prog 79 [.agg f.pv, iv n] ⟨iv (rel f n), none⟩ := fn_of ⟨Tryz.f79, _, Tryz.func79, by kernel_rfl, rfl⟩ fun w R hR us hus => by
  cases hus with | cons h0 _ hus =>
  cases hus with | cons h1 _ hus =>
  cases hus
  rw [fl_rep h0, h1]
  refine (rrelW_any f n hf h0n h1n w).mono ?_
  rintro e w' ⟨rfl, hb⟩
  exact ⟨_, rfl, hb, res_v⟩
end Go.Proofs.YticnppnejafhdaaGreatDoor
/- Walk: Losses of package record, with its closure. -/
namespace Go.Proofs.YticnppnejafhdaaGreatDoor
open Go.RowKit
open Rc

/-- The values vs are slices that own the runs out, each in a block below R. -/
def Runs (w : World) (B R : Nat) (vs : List Value) (out : List (List Int)) : Prop :=
  vs.length = out.length ∧ ∀ (i : Nat) (v : Value) (l : List Int), vs[i]? = some v → out[i]? = some l → w.ownsRow B 3 1 v l.length (l.map (Value.int .i64)) ∧ ∀ g, v.ownBlock = some g → g < R

theorem Runs.kept {w w' : World} {B R R' : Nat} {vs : List Value} {out : List (List Int)} (h : Runs w B R vs out) (hR : R ≤ R') (hk : ∀ g cs, B ≤ g → g < R → Blk w g 3 cs → Blk w' g 3 cs) : Runs w' B R' vs out :=
  ⟨h.1, fun i v l hv hl => by
    obtain ⟨h1, h2⟩ := h.2 i v l hv hl
    exact ⟨own_kept h1 fun g cs hg hb => hk g cs (h1.lt g hg).1 (h2 g hg) hb, fun g hg => Nat.lt_of_lt_of_le (h2 g hg) hR⟩⟩
theorem Runs.nil (w : World) (B R : Nat) : Runs w B R [] [] := ⟨rfl, fun i v l hv => by simp at hv⟩
end Go.Proofs.YticnppnejafhdaaGreatDoor
/- Walk: Attempts of the reference. -/
namespace Go.Proofs.YticnppnejafhdaaGreatDoor
open Go.RowKit
open Rc

set_option maxRecDepth 100000 in
set_option maxHeartbeats 8000000 in
theorem rattempts_any (r : Rec) (A D : Option Addr) (ca cd : Nat) (flow frame : Int) (w : World) (hA : LiesA w w.heap.size A r.al) (hla : r.al.length ≤ 1000000) :
    Calls Tryz.prog 80 #[.agg #[.int .i64 r.slots, .slice A r.al.length ca, .slice D r.dl.length cd], .int .i64 flow, .int .i64 frame] w fun e w' => Below w.heap.size w w' ∧ ∃ va, e = .returned va ∧ w'.ownsRow w.heap.size 66 8 va (ofFrame r.al flow frame).length (flatA (ofFrame r.al flow frame)) := by
  obtain ⟨slots, al, dl⟩ := r
  dsimp only at *
  obtain ⟨na, hna⟩ : ∃ n, n = al.length := ⟨_, rfl⟩
  obtain ⟨nd, hnd⟩ : ∃ n, n = dl.length := ⟨_, rfl⟩
  rw [← hna, ← hnd]
  rw [← hna] at hla
  have HA := Lib.hid hna
  clear hna hnd
  obtain ⟨F, hF⟩ : ∃ F, F = ofFrame al flow frame := ⟨_, rfl⟩
  rw [← hF]
  have HF := Lib.hid hF
  clear hF
  obtain ⟨i0, hi, hz0, hz1, hz2⟩ := info_parts Tryz.infoAtt
  go_enter Tryz.func80, Tryz.ntmps80
  go_wp2_with fail
  generalize hW0 : World.alloc _ _ = W0
  have bR : Blk W0 w.heap.size 35 [.int .i64 slots, .slice A na ca, .slice D nd cd] := by rw [← hW0]; exact Blk.new' _ [.int .i64 slots, .slice A na ca, .slice D nd cd] rfl
  have hb0 : Below w.heap.size w W0 := by rw [← hW0]; exact (Below.refl _ _).alloc (Nat.le_refl _) _
  clear hW0
  obtain ⟨N, hN⟩ : ∃ N, N = w.heap.size := ⟨_, rfl⟩
  rw [← hN] at bR hb0 ⊢
  have hA' : LiesA w N A al := by rw [hN]; exact hA
  have HN := Lib.hid hN
  clear hN hA
  go_loopw [7, 8] (fun s7 i wr => ∃ (k : Nat) (acc : List Att) (va : Value), va = s7 ∧ Blk wr N 35 [.int .i64 slots, .slice A na ca, .slice D nd cd] ∧ k ≤ na ∧ i = .int .i64 k ∧ acc.length ≤ k ∧ wr.ownsRow (N + 1) 66 8 va acc.length (flatA acc) ∧ Below N w wr ∧ N + 1 ≤ wr.heap.size ∧ Hid (F = acc ++ ofFrame (al.drop k) flow frame)) (fun _ i _ => na - (intOf i).toNat)
  case atStart => exact ⟨0, [], _, rfl, bR, Nat.zero_le _, rfl, Nat.le_refl _, World.ownsRow_nil _ _ _ _, hb0, bR.lt, Lib.hid (by rw [HF.out]; simp)⟩
  case round =>
    obtain ⟨k, acc, va, rfl, bR2, hk, rfl, hal, hown, hb, hMw, hst⟩ := hrel
    have cR := bR2.row
    unfold Row at cR
    by_cases hlt : k < na
    · obtain ⟨a, ha⟩ := get_of_lt (l := al) (k := k) (by rw [← HA.out]; exact hlt)
      obtain ⟨b, off, rfl, hbB, hcs⟩ := (hA'.below hb).at_ ha
      obtain ⟨c0, c1, c2, c3, c4, c5, c6, c7⟩ := hcs k a ha
      have hd := Lib.hid (drop_of_get ha)
      have hvl : ∀ g, va.ownBlock = some g → N + 1 ≤ g ∧ g < wr.heap.size := hown.lt
      have HV := Lib.hid hvl
      clear hcs ha hvl
      go_upto_region 6 with fail
      generalize hW1 : wr.alloc _ = W1
      have ba : Blk W1 wr.heap.size 66 [.int .i64 a.s, .int .i64 a.f, .int .i64 a.cs, .int .i64 a.co, .int .i64 a.cf, .int .i64 a.ct, .int .i64 a.cl, .int .i64 a.o] := by rw [← hW1]; exact Blk.new' _ [.int .i64 a.s, .int .i64 a.f, .int .i64 a.cs, .int .i64 a.co, .int .i64 a.cf, .int .i64 a.ct, .int .i64 a.cl, .int .i64 a.o] rfl
      have hb1 : Below N w W1 := by rw [← hW1]; exact hb.alloc (by omega) _
      have hsz : wr.heap.size + 1 ≤ W1.heap.size := by rw [← hW1]; simp
      have hown1 : W1.ownsRow (N + 1) 66 8 va acc.length (flatA acc) := by rw [← hW1]; exact hown.alloc _
      have bR3 : Blk W1 N 35 [.int .i64 slots, .slice (some ⟨b, off, none⟩) na ca, .slice D nd cd] := by rw [← hW1]; exact bR2.alloc _
      have ca' := ba.row
      unfold Row at ca'
      clear cR bR2 hW1 c0 c1 c2 c3 c4 c5 c6 c7 hown
      by_cases hm : a.cl = flow ∧ a.f = frame
      · obtain ⟨h1, h2⟩ := hm
        have e1 : (a.cl == flow) = true := by simp [h1]
        have e2 : (a.f == frame) = true := by simp [h2]
        have hst' : Hid (F = (acc ++ [a]) ++ ofFrame (al.drop (k + 1)) flow frame) := Lib.hid (by rw [hst.out, hd.out]; simp [ofFrame, h1, h2])
        have HO := Lib.hid hown1
        clear hown1 hst h1 h2
        go_wp2_with (at_builtin; refine wpList_append_own_at _ rfl (.tmp 35) (.tmp 37) 30 rfl (N + 1) 66 i0 (.agg #[.int .i64 0, .int .i64 0, .int .i64 0, .int .i64 0, .int .i64 0, .int .i64 0, .int .i64 0, .int .i64 0]) 8 64 Tryz.underlying30 hi hz0 hz1 hz2 rfl (by decide) va acc.length (flatA acc) rfl (HO.out.alloc _) ⟨W1.heap.size, 0, none⟩ 1 1 [.int .i64 a.s, .int .i64 a.f, .int .i64 a.cs, .int .i64 a.co, .int .i64 a.cf, .int .i64 a.ct, .int .i64 a.cl, .int .i64 a.o] rfl rfl ?e0 ?e1 ?e2 ?e3 ?e4 ?_)
        case e0 => exact (Blk.new' 66 [.int .i64 a.s, .int .i64 a.f, .int .i64 a.cs, .int .i64 a.co, .int .i64 a.cf, .int .i64 a.ct, .int .i64 a.cl, .int .i64 a.o] rfl).news
        case e1 => exact ints_one (l := [a.s, a.f, a.cs, a.co, a.cf, a.ct, a.cl, a.o])
        case e2 => unfold maxLen; omega
        case e3 => omega
        case e4 => simp; omega
        intro v3 w3 ho3 hg3 hnil3 hat3
        clear hnil3 hat3
        have hb3 : Below N w w3 := (hb1.alloc (by omega) _).grown hg3 (by simp; omega) (by intro g hg; have := HV.out g hg; omega)
        have hz3 : N + 1 ≤ w3.heap.size := by have := hg3.size; simp at this; omega
        have bR4 : Blk w3 N 35 [.int .i64 slots, .slice (some ⟨b, off, none⟩) na ca, .slice D nd cd] := (bR3.alloc _).grown_ hg3 (by intro e; have := HV.out _ e.symm; omega)
        have O3 : w3.ownsRow (N + 1) 66 8 v3 (acc ++ [a]).length (flatA (acc ++ [a])) := by simpa [flatA, Att.row] using ho3
        obtain ⟨A3, c3, hv3⟩ := own_form ho3
        clear ho3 hg3 HO
        subst hv3
        go_wp2_with fail
        go_roundw
        case rel => exact ⟨k + 1, acc ++ [a], _, rfl, bR4, by omega, by go_num, by simp; omega, O3, hb3, hz3, hst'⟩
        case measure => simp [intOf]; omega
      · have hst' : Hid (F = acc ++ ofFrame (al.drop (k + 1)) flow frame) := Lib.hid (by
          rw [hst.out, hd.out]
          have : (a.cl == flow && a.f == frame) = false := by
            rw [Bool.eq_false_iff]
            intro h
            simp at h
            exact hm h
          simp only [ofFrame, List.filter_cons, this, Bool.false_eq_true, if_false])
        clear hst
        by_cases h1 : a.cl = flow
        · have h2 : ¬ a.f = frame := fun h => hm ⟨h1, h⟩
          have e1 : (a.cl == flow) = true := by simp [h1]
          have e2 : (a.f == frame) = false := by simp [h2]
          go_wp2_with fail
          go_roundw
          case rel => exact ⟨k + 1, acc, _, rfl, bR3, by omega, by go_num, by omega, hown1, hb1, by omega, hst'⟩
          case measure => simp [intOf]; omega
        · have e1 : (a.cl == flow) = false := by simp [h1]
          go_wp2_with fail
          go_roundw
          case rel => exact ⟨k + 1, acc, _, rfl, bR3, by omega, by go_num, by omega, hown1, hb1, by omega, hst'⟩
          case measure => simp [intOf]; omega
    · have hst' : Hid (F = acc) := Lib.hid (by rw [hst.out, List.drop_of_length_le (by rw [← HA.out]; omega)]; simp [ofFrame])
      obtain ⟨A3, c3, hv3⟩ := own_form hown
      have HO := Lib.hid hown
      clear hst hown
      subst hv3
      go_wp2_with fail
      go_ret
      exact ⟨by rw [← HN.out]; exact hb, _, rfl, by rw [hst'.out, ← HN.out]; exact own_weak HO.out (by omega)⟩

end Go.Proofs.YticnppnejafhdaaGreatDoor
/- What an argument's reading says of its cells, for types made of integers, bools, strings, structs and slices. Generic: no program's numbers. -/
namespace Go.Proofs.YticnppnejafhdaaGreatDoor
open Go.RowKit Go.ChangeShapes Go.WideShapes Go.Deep

/-- Shapes of types; the fields of a struct by 'nil' and 'cons'. -/
inductive Ty where
  | int (k : IntKind)
  | bool
  | str
  | slice (e : Ty)
  | struct (l : Ty)
  | nil
  | cons (a l : Ty)

def Ty.cells : Ty → Nat
  | .int _ | .bool | .str | .slice _ => 1
  | .struct l => l.cells
  | .nil => 0
  | .cons a l => a.cells + l.cells

mutual
def Ty.fits (P : Program) : Ty → TypeId → Bool
  | .int k, t => match P.underlying t with
    | some (.int k') => decide (k = k')
    | _ => false
  | .bool, t => match P.underlying t with
    | some .bool => true
    | _ => false
  | .str, t => match P.underlying t with
    | some .string => true
    | _ => false
  | .slice e, t => match P.underlying t with
    | some (.slice u) => e.fits P u && P.cellsOf u == e.cells
    | _ => false
  | .struct l, t => match P.underlying t with
    | some (.struct fs) => l.fitsF P fs.toList 0
    | _ => false
  | .nil, _ => false
  | .cons _ _, _ => false
def Ty.fitsF (P : Program) : Ty → List Field → Nat → Bool
  | .nil, [], _ => true
  | .cons a l, f :: fs, off => f.offset == off && (P.cellsOf f.type == a.cells && (a.fits P f.type && l.fitsF P fs (off + a.cells)))
  | _, _, _ => false
end

/-- The cells cs hold a value of that shape. -/
def Ty.holds (w : World) : Ty → List Value → Prop
  | .int k, cs => ∃ n, cs = [.int k n] ∧ (Lit.int k n).wf = true
  | .bool, cs => ∃ b, cs = [.bool b]
  | .str, cs => ∃ s : ByteArray, cs = [.string s] ∧ s.size ≤ maxLen
  | .slice e, cs => ∃ A n c, cs = [.slice A n c] ∧ n ≤ c ∧ c ≤ maxLen ∧ (A = none → n = 0) ∧ ∀ a, A = some a → ∀ i, i < n → ∃ es, es.length = e.cells ∧ e.holds w es ∧ ∀ j u, es[j]? = some u → w.cell? (a.add (i * e.cells + j)) = some u
  | .struct l, cs => l.holds w cs
  | .nil, _ => True
  | .cons a l, cs => a.holds w (cs.take a.cells) ∧ l.holds w (cs.drop a.cells)

section
variable {H : Type} {enc : TypeId × Value → H} {P : Program} {w : World} {base : Nat} {spare : Nat → Bool} {held : Bool}

theorem add_add_ (a : Addr) (i j : Nat) : (a.add i).add j = a.add (i + j) := (Go.Deep.add_add a i j)

mutual
theorem Ty.holds_of : ∀ (τ : Ty) (t : TypeId) (fuel : Nat) (cs : List Value) (x : DataW H × List MemPlace), τ.fits P t = true → DataW.trod enc P w base spare held fuel t cs = some x → τ.holds w cs
  | .int k, t, fuel, cs, x, hf, h => by
    simp only [Ty.fits] at hf
    split at hf
    · rename_i k' hu
      obtain rfl : k = k' := by simpa using hf
      obtain ⟨n, e, _, hw⟩ := DataW.trod_int hu h
      exact ⟨n, e, hw⟩
    · cases hf
  | .bool, t, fuel, cs, x, hf, h => by
    simp only [Ty.fits] at hf
    split at hf
    · rename_i hu
      obtain ⟨n, e, _⟩ := DataW.trod_bool hu h
      exact ⟨n, e⟩
    · cases hf
  | .str, t, fuel, cs, x, hf, h => by
    simp only [Ty.fits] at hf
    split at hf
    · rename_i hu
      obtain ⟨n, e, _, hl⟩ := DataW.trod_string hu h
      exact ⟨n, e, hl⟩
    · cases hf
  | .slice e, t, fuel, cs, x, hf, h => by
    simp only [Ty.fits] at hf
    split at hf
    · rename_i u hu
      simp only [Bool.and_eq_true, beq_iff_eq] at hf
      obtain ⟨hfe, hce⟩ := hf
      rcases open_slice hu h with ⟨rfl, _⟩ | ⟨a, len, cap, m, n, D, Pl, rfl, hb, hl, hm, hmm, _, hel⟩
      · exact ⟨none, 0, 0, rfl, Nat.le_refl _, Nat.zero_le _, fun _ => rfl, fun a ha => by cases ha⟩
      · refine ⟨some a, len, cap, rfl, hl, hm, fun h0 => (by cases h0), fun a' ha i hi => ?_⟩
        cases ha
        have him : i < m := by rw [hmm]; split <;> omega
        obtain ⟨cs', hc, ht⟩ := hel i him
        rw [hce] at hc
        obtain ⟨_, hlen, hat⟩ := World.cells?_some hc
        refine ⟨cs', hlen, Ty.holds_of e u n cs' _ hfe ht, fun j v hv => ?_⟩
        have hj : j < e.cells := by rw [← hlen]; exact (List.getElem?_eq_some_iff.1 hv).1
        have := hat j hj
        rw [add_add_] at this
        rw [this, hv]
    · cases hf
  | .struct l, t, fuel, cs, x, hf, h => by
    simp only [Ty.fits] at hf
    split at hf
    · rename_i fs hu
      obtain ⟨xs, n, _, _, _, hlen, hff⟩ := DataW.trod_struct hu h
      have := Ty.holds_ofF l fs.toList 0 cs n hf (fun f hm => by
        obtain ⟨i, hi, e⟩ := List.getElem_of_mem hm
        have hi' : i < fs.size := by simpa using hi
        have h1 : fs[i]? = some f := by rw [Array.getElem?_eq_getElem hi']; simpa using e
        have h2 := hff i f h1
        rw [List.getElem?_eq_getElem (by omega)] at h2
        exact ⟨_, h2⟩)
      simpa [Ty.holds] using this
    · cases hf
  | .nil, _, _, _, _, hf, _ => by simp [Ty.fits] at hf
  | .cons _ _, _, _, _, _, hf, _ => by simp [Ty.fits] at hf
theorem Ty.holds_ofF : ∀ (l : Ty) (fs : List Field) (off : Nat) (cs : List Value) (n : Nat), l.fitsF P fs off = true → (∀ f ∈ fs, ∃ y, DataW.trod enc P w base spare held n f.type ((cs.drop f.offset).take (P.cellsOf f.type)) = some y) → l.holds w (cs.drop off)
  | .nil, _, _, _, _, _, _ => by simp [Ty.holds]
  | .cons a l, [], _, _, _, hf, _ => by simp [Ty.fitsF] at hf
  | .cons a l, f :: fs, off, cs, n, hf, h => by
    simp only [Ty.fitsF, Bool.and_eq_true, beq_iff_eq] at hf
    obtain ⟨h1, h2, h3, h4⟩ := hf
    obtain ⟨y, hy⟩ := h f List.mem_cons_self
    rw [h1, h2] at hy
    refine ⟨Ty.holds_of a f.type n _ _ h3 hy, ?_⟩
    rw [List.drop_drop]
    exact Ty.holds_ofF l fs (off + a.cells) cs n h4 fun g hg => h g (List.mem_cons_of_mem _ hg)
  | .int _, _, _, _, _, hf, _ => by simp [Ty.fitsF] at hf
  | .bool, _, _, _, _, hf, _ => by simp [Ty.fitsF] at hf
  | .str, _, _, _, _, hf, _ => by simp [Ty.fitsF] at hf
  | .slice _, _, _, _, _, hf, _ => by simp [Ty.fitsF] at hf
  | .struct _, _, _, _, _, hf, _ => by simp [Ty.fitsF] at hf
end

theorem Ty.holds_trod {τ : Ty} {t : TypeId} {v : Value} {d : DataW H} {p : List MemPlace} (hf : τ.fits P t = true) (h : DataW.Trod enc P w base spare held t v d p) : τ.holds w v.cells.toList := by
  obtain ⟨fuel, h⟩ := h
  exact Ty.holds_of τ t fuel _ _ hf h
end

theorem cell_lt {w : World} {a : Addr} {u : Value} (h : w.cell? a = some u) : a.block < w.heap.size ∧ a.spot = none := by
  unfold World.cell? at h
  split at h
  · rename_i c t fr hh
    refine ⟨?_, ?_⟩
    · rcases Nat.lt_or_ge a.block w.heap.size with h' | h'
      · exact h'
      · rw [Array.getElem?_eq_none h'] at hh; cases hh
    · split at h
      · cases h
      · rename_i hs
        cases hsp : a.spot with
        | none => rfl
        | some s => rw [hsp] at hs; simp at hs
  · cases h

/-- A list out of what is known of each index. -/
theorem list_of {α : Type} {Q : Nat → α → Prop} : ∀ (n : Nat), (∀ i, i < n → ∃ x, Q i x) → ∃ l : List α, l.length = n ∧ ∀ i x, l[i]? = some x → Q i x
  | 0, _ => ⟨[], rfl, fun i x h => by simp at h⟩
  | n + 1, h => by
    obtain ⟨l, hl, hq⟩ := list_of n fun i hi => h i (by omega)
    obtain ⟨x, hx⟩ := h n (by omega)
    refine ⟨l ++ [x], by simp [hl], fun i y hy => ?_⟩
    rcases Nat.lt_or_ge i n with hi | hi
    · rw [List.getElem?_append_left (by omega)] at hy
      exact hq i y hy
    · rw [List.getElem?_append_right (by omega)] at hy
      obtain rfl : i = n := by
        rcases Nat.lt_or_ge (i - l.length) 1 with h1 | h1
        · omega
        · rw [List.getElem?_eq_none (by simpa using h1)] at hy; cases hy
      rw [hl, Nat.sub_self] at hy
      simp at hy
      subst hy
      exact hx

end Go.Proofs.YticnppnejafhdaaGreatDoor
/- Arguments of the laws of the monitor, opened. -/
namespace Go.Proofs.YticnppnejafhdaaGreatDoor
open Go.RowKit
open Nd Rc Mo
open Av
set_option maxRecDepth 100000
set_option linter.unusedSimpArgs false
open Go.ChangeShapes Go.WideShapes Go.ChangeAt

def cellR (w : World) : Reader := fun p => w.cell? p
theorem RepL.get {R : Reader} {ps : List PV} {us : List Value} (h : RepL R ps us) : us.length = ps.length ∧ ∀ (j : Nat) (p : PV), ps[j]? = some p → ∃ u, us[j]? = some u ∧ RepP R p u := by
  induction h with
  | nil => exact ⟨rfl, fun j p h => by simp at h⟩
  | cons h t ih =>
    refine ⟨by simp [ih.1], fun j p hj => ?_⟩
    cases j with
    | zero =>
      simp only [List.getElem?_cons_zero, Option.some.injEq] at hj
      subst hj
      exact ⟨_, rfl, h⟩
    | succ j => exact ih.2 j p (by simpa using hj)
/-- A slice, read by f. -/
theorem rep_of_slice {α : Type} {f : α → List PV} {w : World} {e : Ty} {A : Option Addr} {n c : Nat} (hz : 0 < e.cells) (hnc : n ≤ c) (hnil : A = none → n = 0) (hr : ∀ es, es.length = e.cells → e.holds w es → ∃ x, RepL (cellR w) (f x) es)
    (h : ∀ a, A = some a → ∀ i, i < n → ∃ es, es.length = e.cells ∧ e.holds w es ∧ ∀ j u, es[j]? = some u → w.cell? (a.add (i * e.cells + j)) = some u) :
    ∃ l : List α, l.length = n ∧ RepP (cellR w) (.sl e.cells (l.map f)) (.slice A n c) := by
  cases A with
  | none =>
    obtain rfl := hnil rfl
    exact ⟨[], rfl, .sl e.cells [] none c (fun _ _ => undef) (fun k row hk => by simp at hk) (.inl rfl) (fun k row j p hk => by simp at hk) (Nat.zero_le _)⟩
  | some a =>
    obtain ⟨l, hl, hq⟩ := list_of (Q := fun i x => ∃ es, es.length = e.cells ∧ RepL (cellR w) (f x) es ∧ ∀ j u, es[j]? = some u → w.cell? (a.add (i * e.cells + j)) = some u) n fun i hi => by
      obtain ⟨es, h1, h2, h3⟩ := h a rfl i hi
      obtain ⟨x, hx⟩ := hr es h1 h2
      exact ⟨x, es, h1, hx, h3⟩
    refine ⟨l, hl, ?_⟩
    have hrow : ∀ (k : Nat) (row : List PV), (l.map f)[k]? = some row → row.length = e.cells ∧ ∀ (j : Nat) (p : PV), row[j]? = some p → ∃ u, w.cell? (a.add (k * e.cells + j)) = some u ∧ RepP (cellR w) p u := fun k row hk => by
      rw [List.getElem?_map] at hk
      cases hx : l[k]? with
      | none => rw [hx] at hk; cases hk
      | some x =>
        rw [hx] at hk
        obtain rfl := Option.some.inj hk
        obtain ⟨es, h1, h2, h3⟩ := hq k x hx
        obtain ⟨g1, g2⟩ := RepL.get h2
        refine ⟨by rw [← g1, h1], fun j p hj => ?_⟩
        obtain ⟨u, hu, hp⟩ := g2 j p hj
        exact ⟨u, h3 j u hu, hp⟩
    have hlen : n = (l.map f).length := by rw [List.length_map, hl]
    rw [hlen]
    refine .sl e.cells (l.map f) (some a) c (fun k j => (w.cell? (a.add (k * e.cells + j))).getD undef) (fun k row hk => (hrow k row hk).1) ?_ (fun k row j p hk hj => ?_) (by rw [← hlen]; exact hnc)
    · by_cases hn : l = []
      · exact .inl (by rw [hn]; rfl)
      · right
        have h0 : 0 < l.length := by
          rcases Nat.eq_zero_or_pos l.length with h0 | h0
          · exact absurd (List.eq_nil_of_length_eq_zero h0) hn
          · exact h0
        obtain ⟨x0, hx0⟩ := get_of_lt h0
        obtain ⟨q1, q2⟩ := hrow 0 (f x0) (by rw [List.getElem?_map, hx0]; rfl)
        obtain ⟨p0, hp0⟩ := get_of_lt (l := f x0) (k := 0) (by rw [q1]; exact hz)
        obtain ⟨u0, hu0, _⟩ := q2 0 p0 hp0
        have ha0 : a.add 0 = a := by simp [Addr.add]
        rw [show 0 * e.cells + 0 = 0 by omega, ha0] at hu0
        obtain ⟨_, hsp⟩ := cell_lt hu0
        obtain ⟨b, off, sp⟩ := a
        dsimp only at hsp
        subst hsp
        have hadd : ∀ i : Nat, (⟨b, off, none⟩ : Addr).add i = ⟨b, off + i, none⟩ := fun i => by
          unfold Addr.add
          split
          · rename_i h0; rw [h0]; rfl
          · rfl
        refine ⟨b, off, rfl, fun k row j p hk hj => ?_⟩
        obtain ⟨u, hu, _⟩ := (hrow k row hk).2 j p hj
        rw [hu]
        rw [hadd, ← Nat.add_assoc] at hu
        exact hu
    · obtain ⟨u, hu, hp⟩ := (hrow k row hk).2 j p hj
      rw [hu]; exact hp
def Ty.qi : Ty := .int .i64
def Ty.qatt : Ty := .struct (.cons .qi (.cons .qi (.cons (.struct (.cons .qi (.cons .qi (.cons .qi (.cons .qi (.cons .qi .nil)))))) (.cons .qi .nil))))
def Ty.qdlv : Ty := .struct (.cons .qi (.cons .qi (.cons .qi .nil)))
def Ty.qrec : Ty := .struct (.cons .qi (.cons (.struct (.cons (.slice .qatt) (.cons (.slice .qdlv) .nil))) .nil))
def Ty.qflow : Ty := .struct (.cons .qi (.cons .qi (.cons .qi (.cons .qi (.cons .qi (.cons .qi .nil))))))
def Ty.qnet : Ty := .struct (.cons .qi (.cons (.slice (.slice .qi)) (.cons .qi (.cons .qi (.cons (.slice .qdlv) (.cons (.slice .qi) .nil))))))
theorem Tryz.fitsQrec : Ty.qrec.fits Tryz.prog 35 = true := by kernel_rfl
theorem Tryz.fitsQnet : Ty.qnet.fits Tryz.prog 26 = true := by kernel_rfl
theorem Tryz.fitsQflow1 : Ty.qflow.fits Tryz.prog 28 = true := by kernel_rfl
theorem Tryz.fitsQroutes : (Ty.slice (.slice .qi)).fits Tryz.prog 29 = true := by kernel_rfl
theorem qatt_of {w : World} (es : List Value) (hl : es.length = Ty.qatt.cells) (h : Ty.qatt.holds w es) : ∃ a : Att, RepL (cellR w) a.pv es := by
  match es, hl with
  | [c0, c1, c2, c3, c4, c5, c6, c7], _ =>
    simp only [Ty.qatt, Ty.qi, Ty.holds, Ty.cells, List.take, List.drop] at h
    obtain ⟨⟨n0, h0, _⟩, ⟨n1, h1, _⟩, ⟨⟨n2, h2, _⟩, ⟨n3, h3, _⟩, ⟨n4, h4, _⟩, ⟨n5, h5, _⟩, ⟨n6, h6, _⟩, _⟩, ⟨n7, h7, _⟩, _⟩ := h
    simp only [List.cons.injEq, and_true] at h0 h1 h2 h3 h4 h5 h6 h7
    subst h0 h1 h2 h3 h4 h5 h6 h7
    exact ⟨⟨n0, n1, n2, n3, n4, n5, n6, n7⟩, .cons (.v _ rfl) (.cons (.v _ rfl) (.cons (.v _ rfl) (.cons (.v _ rfl) (.cons (.v _ rfl) (.cons (.v _ rfl) (.cons (.v _ rfl) (.cons (.v _ rfl) .nil)))))))⟩
theorem qdlv_of {w : World} (es : List Value) (hl : es.length = Ty.qdlv.cells) (h : Ty.qdlv.holds w es) : ∃ a : Dlv, RepL (cellR w) a.pv es := by
  match es, hl with
  | [c0, c1, c2], _ =>
    simp only [Ty.qdlv, Ty.qi, Ty.holds, Ty.cells, List.take, List.drop] at h
    obtain ⟨⟨n0, h0, _⟩, ⟨n1, h1, _⟩, ⟨n2, h2, _⟩, _⟩ := h
    simp only [List.cons.injEq, and_true] at h0 h1 h2
    subst h0 h1 h2
    exact ⟨⟨n0, n1, n2⟩, .cons (.v _ rfl) (.cons (.v _ rfl) (.cons (.v _ rfl) .nil))⟩
theorem qlk_of {w : World} (es : List Value) (hl : es.length = Ty.qdlv.cells) (h : Ty.qdlv.holds w es) : ∃ a : Lk, RepL (cellR w) a.pv es := by
  obtain ⟨⟨x, y, z⟩, h⟩ := qdlv_of es hl h
  exact ⟨⟨x, y, z⟩, h⟩
theorem qint_of {w : World} (es : List Value) (_hl : es.length = Ty.qi.cells) (h : Ty.qi.holds w es) : ∃ a : Int, RepL (cellR w) (irow_pv a) es := by
  obtain ⟨n, rfl, _⟩ := h
  exact ⟨n, .cons (.v _ rfl) .nil⟩
theorem qflow_of {w : World} (es : List Value) (hl : es.length = Ty.qflow.cells) (h : Ty.qflow.holds w es) : ∃ a : Fl, RepL (cellR w) a.pv es := by
  match es, hl with
  | [c0, c1, c2, c3, c4, c5], _ =>
    simp only [Ty.qflow, Ty.qi, Ty.holds, Ty.cells, List.take, List.drop] at h
    obtain ⟨⟨n0, h0, _⟩, ⟨n1, h1, _⟩, ⟨n2, h2, _⟩, ⟨n3, h3, _⟩, ⟨n4, h4, _⟩, ⟨n5, h5, _⟩, _⟩ := h
    simp only [List.cons.injEq, and_true] at h0 h1 h2 h3 h4 h5
    subst h0 h1 h2 h3 h4 h5
    exact ⟨⟨n0, n1, n2, n3, n4, n5⟩, .cons (.v _ rfl) (.cons (.v _ rfl) (.cons (.v _ rfl) (.cons (.v _ rfl) (.cons (.v _ rfl) (.cons (.v _ rfl) .nil)))))⟩
theorem qpow_of {w : World} (es : List Value) (_hl : es.length = (Ty.slice .qi).cells) (h : (Ty.slice .qi).holds w es) : ∃ a : List Int, RepL (cellR w) (prow_pv a) es := by
  obtain ⟨A, n, c, rfl, hc, hm, hn, he⟩ := h
  obtain ⟨l, _, hr⟩ := rep_of_slice (f := irow_pv) (e := Ty.qi) (by decide) hc hn qint_of he
  exact ⟨l, .cons hr .nil⟩
section
variable {H : Type} {enc : TypeId × Value → H} {W : World} {base : Nat} {spare : Nat → Bool} {held : Bool} {r : Reach} {b0 : Nat} {v : Value} {d : DataW H} {p : List MemPlace}
theorem open_recP (hv : Value.okWide Tryz.prog W r b0 35 v) (h : DataW.Trod enc Tryz.prog W base spare held 35 v d p) : ∃ q : Rec, RepA (cellR W) (fun _ => 0) (.agg q.pv) v := by
  obtain ⟨cs, rfl, hsz⟩ := okWide_struct Tryz.underlying35 hv
  have hh := Ty.holds_trod (τ := Ty.qrec) Tryz.fitsQrec h
  obtain ⟨l⟩ := cs
  match l, hsz with
  | [c0, c1, c2], _ =>
    simp only [Value.cells, Ty.qrec, Ty.qi, Ty.holds, Ty.cells, List.take, List.drop] at hh
    obtain ⟨⟨n0, h0, w0⟩, ⟨⟨A, n, ca, h1, hc1, hm1, hn1, he1⟩, ⟨D, m, cd, h2, hc2, hm2, hn2, he2⟩, _⟩, _⟩ := hh
    simp only [List.cons.injEq, and_true] at h0 h1 h2
    subst h0 h1 h2
    obtain ⟨la, _, lA⟩ := rep_of_slice (f := Att.pv) (e := Ty.qatt) (by decide) hc1 hn1 qatt_of he1
    obtain ⟨ld, _, lD⟩ := rep_of_slice (f := Dlv.pv) (e := Ty.qdlv) (by decide) hc2 hn2 qdlv_of he2
    exact ⟨⟨n0, la, ld⟩, _, rfl, .cons (.v _ rfl) (.cons lA (.cons lD .nil))⟩
theorem open_netP (hv : Value.okWide Tryz.prog W r b0 26 v) (h : DataW.Trod enc Tryz.prog W base spare held 26 v d p) : ∃ q : Net, q.pow.length ≤ 9223372036854775807 ∧ RepA (cellR W) (fun _ => 0) (.agg q.pv) v := by
  obtain ⟨cs, rfl, hsz⟩ := okWide_struct Tryz.underlying26 hv
  have hh := Ty.holds_trod (τ := Ty.qnet) Tryz.fitsQnet h
  obtain ⟨l⟩ := cs
  match l, hsz with
  | [c0, c1, c2, c3, c4, c5], _ =>
    have hh' : Ty.holds W .qi [c0] ∧ Ty.holds W (.slice (.slice .qi)) [c1] ∧ Ty.holds W .qi [c2] ∧ Ty.holds W .qi [c3] ∧ Ty.holds W (.slice .qdlv) [c4] ∧ Ty.holds W (.slice .qi) [c5] ∧ True := hh
    obtain ⟨⟨n0, h0, _⟩, ⟨P, n, cp, h1, hc1, hm1, hn1, he1⟩, ⟨n2, h2, _⟩, ⟨n3, h3, _⟩, ⟨L, m, cl, h4, hc4, hm4, hn4, he4⟩, ⟨G, k, cg, h5, hc5, hm5, hn5, he5⟩, _⟩ := hh'
    simp only [List.cons.injEq, and_true] at h0 h1 h2 h3 h4 h5
    subst h0 h1 h2 h3 h4 h5
    obtain ⟨lp, ep, lP⟩ := rep_of_slice (f := prow_pv) (e := Ty.slice .qi) (by decide) hc1 hn1 qpow_of he1
    obtain ⟨ll, _, lL⟩ := rep_of_slice (f := Lk.pv) (e := Ty.qdlv) (by decide) hc4 hn4 qlk_of he4
    obtain ⟨lg, _, lG⟩ := rep_of_slice (f := irow_pv) (e := Ty.qi) (by decide) hc5 hn5 qint_of he5
    have hmx : maxLen = 9223372036854775807 := by decide
    exact ⟨⟨n0, n2, n3, lp, ll, lg⟩, (by show lp.length ≤ _; rw [ep]; omega), _, rfl, .cons (.v _ rfl) (.cons lP (.cons (.v _ rfl) (.cons (.v _ rfl) (.cons lL (.cons lG .nil)))))⟩
theorem open_flowP (hv : Value.okWide Tryz.prog W r b0 28 v) (h : DataW.Trod enc Tryz.prog W base spare held 28 v d p) : ∃ q : Fl, RepA (cellR W) (fun _ => 0) (.agg q.pv) v := by
  obtain ⟨cs, rfl, hsz⟩ := okWide_struct Tryz.underlying28 hv
  have hh := Ty.holds_trod (τ := Ty.qflow) Tryz.fitsQflow1 h
  obtain ⟨l⟩ := cs
  obtain ⟨q, hq⟩ := qflow_of l hsz hh
  exact ⟨q, l, rfl, hq⟩
theorem open_routesP (hv : Value.okWide Tryz.prog W r b0 29 v) (h : DataW.Trod enc Tryz.prog W base spare held 29 v d p) : ∃ ps : List (List Int), ps.length ≤ 9223372036854775807 ∧ RepA (cellR W) (fun _ => 0) (.sl 1 (ps.map prow_pv)) v := by
  obtain ⟨a, len, cap, rfl⟩ := okWide_slice Tryz.underlying29 hv
  have hh := Ty.holds_trod (τ := .slice (.slice .qi)) Tryz.fitsQroutes h
  obtain ⟨A, n, c, h1, hc, hm, hn, he⟩ := hh
  simp only [Value.cells, List.cons.injEq, and_true, Value.slice.injEq] at h1
  obtain ⟨rfl, rfl, rfl⟩ := h1
  obtain ⟨l, el, hr⟩ := rep_of_slice (f := prow_pv) (e := Ty.slice .qi) (by decide) hc hn qpow_of he
  have hmx : maxLen = 9223372036854775807 := by decide
  exact ⟨l, by rw [el]; omega, hr⟩
end
/-- A law that returns true. -/
theorem calls_true {P : Program} {f : FuncId} {args : List AV} (h : FnOK P f args ⟨bv true, none⟩) (W : World) (us : List Value) (hus : RepAL (cellR W) args us) : Calls P f us.toArray W fun e W' => e = .returned (.bool true) ∧ Below W.heap.size W W' :=
  (h.2 W (cellR W) (fun _ _ h => h) us hus).mono fun e W' hq => by
    obtain ⟨u, rfl, hb, _, hr⟩ := hq
    exact ⟨by rw [show u = .bool true from hr], hb⟩
theorem Tryz.laidOut : laidOutB Tryz.prog = true := by kernel_rfl
theorem Tryz.own : ownKnob Tryz.prog.godebug = none := by kernel_rfl
def laid3 : List (String × DataW Unit) := [("math/bits.deBruijn32tab", Rows.laid_math_bits_deBruijn32tab), ("math/bits.deBruijn64tab", Rows.laid_math_bits_deBruijn64tab), ("internal/strconv.uint64pow10", Rows.laid_internal_strconv_uint64pow10)]
theorem door_met (os : Os) (args : Array Value) : laidMetH Tryz.prog laid3 ((World.doorLaid Tryz.prog 400 os).forCall (fun _ _ => 0) ⟨#[], args, []⟩).memory :=
  laidMetH_of_parts3 (fuel := 8) (laidMet_of_run' 8 (by kernel_rfl) (by kernel_rfl)) (by kernel_rfl) (by kernel_rfl)

section
variable {H : Type} {enc : TypeId × Value → H} {P : Program}
/-- What the row asks behind a call that only made new memory. (After the guide's small lemmas.) -/
theorem post_of_below {f : Func} {s : ChangeSpec} {apart fresh handsOn again : Bool} {W W' : World} {args : Array Value} {v : Value} {ds gs : List (DataW H)} {before pa pv : List MemPlace}
    (hW : DataW.Whole enc P f.params.toList s.vars apart W args.toList ds gs before)
    (hres : ∀ (b : Nat) (sp : Nat → Bool) (hd : Bool), DataW.TrodAll enc P W' b sp hd f.resultTypes.toList (v.resultList f.resultTypes.size) (s.fn H (ds ++ gs)).results [])
    (hargs : ∀ sp : Nat → Bool, (∀ p ∈ before, sp p.block = true) → DataW.TrodAll enc P W' 0 sp true f.params.toList args.toList (s.fn H (ds ++ gs)).args pa)
    (hvars : ∀ sp : Nat → Bool, (∀ p ∈ before, sp p.block = true) → DataW.TrodVars enc P W' sp s.vars (s.fn H (ds ++ gs)).vars pv)
    (hps : before = pa ++ pv) (hb : Below W.heap.size W W')
    (hok : ∀ (j : Nat) (t : TypeId) (r : Value), f.resultTypes[j]? = some t → (v.resultList f.resultTypes.size)[j]? = some r → Value.okWide P W' .any 0 t r) :
    s.post enc P f apart fresh handsOn again W args v W' := by
  have hlt : ∀ p ∈ before, p.block < W.heap.size := fun p hp => hW.lt p hp
  have hold : ∀ p ∈ before, (fun b => decide (b < W.heap.size)) p.block = true := fun p hp => by simpa using hlt p hp
  refine ⟨ds, gs, before, [], pa, pv, hW, hres _ _ _, hargs _ hold, hvars _ hold, World.keptBut_mono (fun p hp => ⟨hp, ?_⟩) (hb.frame (· ∈ before)), fun _ => ?_⟩
  · rw [hps, List.mem_append] at hp
    exact Or.inr hp
  · obtain ⟨_, _, _, _, _, hz, hn⟩ := hW
    refine ⟨hok, _, _, ([] ++ pa) ++ pv, ⟨[] ++ pa, pv, trodAll_append (hargs _ (fun _ _ => rfl)) (hres _ _ _), hvars _ (fun _ _ => rfl), rfl, ?_, ?_⟩, ?_⟩
    · intro b off hp
      have hin : MemPlace.cell b off ∈ before := by rw [hps]; simpa using hp
      rw [hb.frozen (hlt _ hin)]
      exact hz b off hin
    · intro ha
      have := hn ha
      rw [hps] at this
      simpa using this
    · intro p hp _
      rw [hps]
      simpa using hp
end
end Go.Proofs.YticnppnejafhdaaGreatDoor
/- How links are compared, by abstract states. -/
namespace Go.Proofs.YticnppnejafhdaaGreatDoor
open Go.RowKit
open Nd Rc Mo
open Av
set_option maxRecDepth 100000
set_option linter.unusedSimpArgs false
attribute [local go_sem] Av.guardB Av.sop Av.hopx Av.hop Av.hopCall Av.hopF Av.hopB Av.evo Av.evos Av.avCells Av.loadK Av.bound Av.abin Av.aun Av.partsC Av.lfill Av.placesB Av.setAt Av.stl Av.takes Av.src Av.bxOf Av.ownOf Av.St.res Av.St.put Av.St.addBox Av.St.putOwn Av.delL Av.delS Av.look Av.lookL Av.storeSt Av.stealSt Av.St.setBox Av.keepL Av.hitB Av.snap Av.snaps Av.snapCaps Av.AV.lit Av.AV.refs Av.capRefs Av.PV.av Av.CV.av Av.startSt Av.steals Av.athen Av.ablock Av.appK Av.AllS Av.AllO Av.AllR Av.keepS Av.St.avAt Av.RetOK Av.retAll Av.retOne Av.intsOf Av.ptrB TypeDesc.isRow List.range_zero Option.some.injEq exists_eq_left' exists_eq_left exists_eq' exists_and_left exists_and_right exists_const true_and and_true and_self false_and and_false or_false false_or or_true true_or if_true if_false Bool.false_eq_true List.zipIdx_cons List.zipIdx_nil List.map_cons List.map_nil List.filter_cons List.filter_nil List.contains_cons List.contains_nil List.drop_succ_cons List.drop_zero List.take_succ_cons List.take_zero List.take_nil List.drop_nil List.length_cons List.length_nil List.cons_append List.nil_append List.append_nil List.getElem?_cons_zero List.getElem?_cons_succ List.getElem?_nil Option.bind_some Option.bind_none Option.map_some Option.map_none Option.isNone_none Option.isNone_some Option.isSome_some Option.isSome_none Bool.and_true Bool.true_and Bool.and_false Bool.false_and Bool.or_false Bool.false_or Bool.not_true Bool.not_false beq_true beq_false Bool.true_beq Bool.false_beq Loc.s.injEq Loc.b.injEq decide_true decide_false beq_self_eq_true Nat.zero_add Nat.add_zero List.getElem?_toArray List.toList_toArray List.size_toArray Value.oneCell' List.all_cons List.all_nil Value.int.injEq AV.v.injEq AV.sl.injEq AV.agg.injEq AV.ref.injEq AV.ept.injEq AV.tup.injEq Value.bool.injEq PV.v.injEq PV.sl.injEq List.isEmpty_nil List.isEmpty_cons forall_const not_true_eq_false not_false_eq_true true_implies false_implies Value.string.injEq List.length_map List.getElem?_map Int.toNat_natCast Int.natCast_nonneg List.length_append Value.cells implies_true TypeDesc.struct.injEq TypeDesc.slice.injEq TypeDesc.array.injEq List.getElem?_toArray Prod.mk.injEq and_assoc exists_false List.cons.injEq Operand.tmp.injEq ite_self AV.fnv.injEq AV.clo.injEq ne_eq eq_self Tryz.sz3 Tryz.zr3 Tryz.by3 Tryz.pl3 Tryz.is3 Tryz.underlying3 Tryz.sz4 Tryz.zr4 Tryz.by4 Tryz.pl4 Tryz.is4 Tryz.underlying4 Tryz.sz43 Tryz.zr43 Tryz.by43 Tryz.pl43 Tryz.is43 Tryz.underlying43 Tryz.sz35 Tryz.zr35 Tryz.by35 Tryz.pl35 Tryz.is35 Tryz.underlying35 Tryz.sz33 Tryz.zr33 Tryz.by33 Tryz.pl33 Tryz.is33 Tryz.underlying33 Tryz.sz28 Tryz.zr28 Tryz.by28 Tryz.pl28 Tryz.is28 Tryz.underlying28 Tryz.sz39 Tryz.zr39 Tryz.by39 Tryz.pl39 Tryz.is39 Tryz.underlying39 Tryz.sz57 Tryz.zr57 Tryz.by57 Tryz.pl57 Tryz.is57 Tryz.underlying57 Tryz.sz137 Tryz.zr137 Tryz.by137 Tryz.pl137 Tryz.is137 Tryz.underlying137 Tryz.sz66 Tryz.zr66 Tryz.by66 Tryz.pl66 Tryz.is66 Tryz.underlying66 Tryz.sz64 Tryz.zr64 Tryz.by64 Tryz.pl64 Tryz.is64 Tryz.underlying64 Tryz.sz60 Tryz.zr60 Tryz.by60 Tryz.pl60 Tryz.is60 Tryz.underlying60 Tryz.sz100 Tryz.zr100 Tryz.by100 Tryz.pl100 Tryz.is100 Tryz.underlying100 Tryz.sz103 Tryz.zr103 Tryz.by103 Tryz.pl103 Tryz.is103 Tryz.underlying103 Tryz.sz26 Tryz.zr26 Tryz.by26 Tryz.pl26 Tryz.is26 Tryz.underlying26 Tryz.sz120 Tryz.zr120 Tryz.by120 Tryz.pl120 Tryz.is120 Tryz.underlying120 Tryz.sz117 Tryz.zr117 Tryz.by117 Tryz.pl117 Tryz.is117 Tryz.underlying117 Tryz.sz30 Tryz.zr30 Tryz.by30 Tryz.pl30 Tryz.is30 Tryz.underlying30 Tryz.sz31 Tryz.zr31 Tryz.by31 Tryz.pl31 Tryz.is31 Tryz.underlying31 Tryz.sz40 Tryz.zr40 Tryz.by40 Tryz.pl40 Tryz.is40 Tryz.underlying40 Tryz.sz23 Tryz.zr23 Tryz.by23 Tryz.pl23 Tryz.is23 Tryz.underlying23 Tryz.sz24 Tryz.zr24 Tryz.by24 Tryz.pl24 Tryz.is24 Tryz.underlying24 Tryz.sz22 Tryz.zr22 Tryz.by22 Tryz.pl22 Tryz.is22 Tryz.underlying22 Tryz.sz141 Tryz.zr141 Tryz.by141 Tryz.pl141 Tryz.is141 Tryz.underlying141 Tryz.sz42 Tryz.zr42 Tryz.by42 Tryz.pl42 Tryz.is42 Tryz.underlying42 Tryz.sz29 Tryz.zr29 Tryz.by29 Tryz.pl29 Tryz.is29 Tryz.underlying29 Tryz.sz83 Tryz.zr83 Tryz.by83 Tryz.pl83 Tryz.is83 Tryz.underlying83 Tryz.it39 Tryz.eg39 Tryz.it137 Tryz.eg137 Tryz.it66 Tryz.eg66 Tryz.it28 Tryz.eg28 Tryz.it60 Tryz.eg60 all_arr loc_ss loc_sb loc_bs loc_bb arr_two arr_one rg1 rg2 rg3 rg4 rg5 rg6 rg7 rg8 ResultVar.tmp.injEq Bool.not_true Bool.not_false undef Rc.Rec.pv Nd.Fl.pv Rc.Dlv.pv Rc.Att.pv Mo.Lt.pv Fn.func.injEq Br.pv Mo.Net.pv Mo.Lk.pv prow_pv irow_pv
set_option maxHeartbeats 2000000 in
theorem isNaN_ok (x : Int) : FnOK Tryz.prog 98 [iv x] ⟨bv false, none⟩ := by
  have hx : (x != x) = false := by simp
  refine fn_ok Tryz.func98 (by kernel_rfl) rfl (by rw [Tryz.ntmps98]; exact of_decide_eq_true rfl) (fun F hF => ?_)
  rw [Tryz.ntmps98] at hF
  rw [Tryz.results98]
  repeat (first
    | (with_reducible (first | refine sops_go ?_ | refine headW_end ?_ | refine sops_end ?_ | refine awp_if ?_ | refine awp_skip ?_ | refine awp_ret ?_ | refine awp_exit ?_); simp only [go_sem, simprocAttr, hF, hx])
    | with_reducible (first | refine awp_seq_k fun _ _ => ?_ | refine awp_region [] ?_ | refine awp_block ?_)
    | go_step)

set_option maxHeartbeats 2000000 in
theorem compare_ok (x y : Int) : FnOK Tryz.prog 62 [iv x, iv y] ⟨iv (cmpI x y), none⟩ := by
  refine fn_ok Tryz.func62 (by kernel_rfl) rfl (by rw [Tryz.ntmps62]; exact of_decide_eq_true rfl) (fun F hF => ?_)
  rw [Tryz.ntmps62] at hF
  rw [Tryz.results62]
  repeat (first
    | (with_reducible (first | refine sops_go ?_ | refine headW_end ?_ | refine sops_end ?_ | refine awp_if ?_ | refine awp_skip ?_ | refine awp_ret ?_ | refine awp_exit ?_); simp only [go_sem, simprocAttr, hF])
    | with_reducible (first | refine awp_seq_k fun _ _ => ?_ | refine awp_region [] ?_ | refine awp_block ?_)
    | go_step)
  refine ⟨_, isNaN_ok x, ?_⟩
  simp only [go_sem, simprocAttr, hF]
  repeat (first
    | (with_reducible (first | refine sops_go ?_ | refine headW_end ?_ | refine sops_end ?_ | refine awp_if ?_ | refine awp_skip ?_ | refine awp_ret ?_ | refine awp_exit ?_); simp only [go_sem, simprocAttr, hF])
    | with_reducible (first | refine awp_seq_k fun _ _ => ?_ | refine awp_region [] ?_ | refine awp_block ?_)
    | go_step)
  refine ⟨_, isNaN_ok y, ?_⟩
  simp only [go_sem, simprocAttr, hF]
  by_cases h1 : x < y
  · have e1 : decide (x < y) = true := decide_eq_true h1
    repeat (first
      | (with_reducible (first | refine sops_go ?_ | refine headW_end ?_ | refine sops_end ?_ | refine awp_if ?_ | refine awp_skip ?_ | refine awp_ret ?_ | refine awp_exit ?_); simp only [go_sem, simprocAttr, hF, e1])
      | with_reducible (first | refine awp_seq_k fun _ _ => ?_ | refine awp_region [] ?_ | refine awp_block ?_)
      | go_step)
    unfold cmpI
    rw [if_pos h1]
  by_cases h2 : y < x
  · have e1 : decide (x < y) = false := decide_eq_false h1
    have e2 : decide (y < x) = true := decide_eq_true h2
    repeat (first
      | (with_reducible (first | refine sops_go ?_ | refine headW_end ?_ | refine sops_end ?_ | refine awp_if ?_ | refine awp_skip ?_ | refine awp_ret ?_ | refine awp_exit ?_); simp only [go_sem, simprocAttr, hF, e1, e2])
      | with_reducible (first | refine awp_seq_k fun _ _ => ?_ | refine awp_region [] ?_ | refine awp_block ?_)
      | go_step)
    unfold cmpI
    rw [if_neg h1, if_pos h2]
  have e1 : decide (x < y) = false := decide_eq_false h1
  have e2 : decide (y < x) = false := decide_eq_false h2
  repeat (first
    | (with_reducible (first | refine sops_go ?_ | refine headW_end ?_ | refine sops_end ?_ | refine awp_if ?_ | refine awp_skip ?_ | refine awp_ret ?_ | refine awp_exit ?_); simp only [go_sem, simprocAttr, hF, e1, e2])
    | with_reducible (first | refine awp_seq_k fun _ _ => ?_ | refine awp_region [] ?_ | refine awp_block ?_)
    | go_step)
  unfold cmpI
  rw [if_neg h1, if_neg h2]

set_option maxHeartbeats 2000000 in
theorem or_ok (l : List Int) (hl : l.length ≤ 1000000) : FnOK Tryz.prog 61 [.sl 1 (l.map fun x => [ip x])] ⟨iv (orI l), none⟩ := by
  refine fn_ok Tryz.func61 (by kernel_rfl) rfl (by rw [Tryz.ntmps61]; exact of_decide_eq_true rfl) (fun F hF => ?_)
  rw [Tryz.ntmps61] at hF
  rw [Tryz.results61]
  repeat (first
    | (with_reducible (first | refine sops_go ?_ | refine headW_end ?_ | refine sops_end ?_ | refine awp_if ?_ | refine awp_skip ?_ | refine awp_ret ?_ | refine awp_exit ?_); simp only [go_sem, simprocAttr, hF])
    | with_reducible (first | refine awp_seq_k fun _ _ => ?_ | refine awp_region [] ?_ | refine awp_block ?_)
    | go_step)
  refine awp_loop_by (ι := {k : Nat // k ≤ l.length ∧ orI l = orI (l.drop k)}) (fun k σ => ⟨(8, iv (k.1 : Int)) :: keepS [2, 3, 6, 7] σ.slot, σ.box, [], σ.ext⟩) (fun k => l.length - k.1) ⟨0, by omega, rfl⟩ (sub_mk ?_) (fun R hR k => ?_)
  · simp only [go_sem, simprocAttr, hF]
    repeat' (first | rfl | refine ⟨?_, ?_⟩)
  obtain ⟨k, hk, hT⟩ := k
  dsimp only
  simp only [go_sem, simprocAttr, hF]
  by_cases hlt : k < l.length
  case neg =>
    have hd : decide ((k : Int) < (l.length : Int)) = false := decide_eq_false (by omega)
    repeat (first
      | (with_reducible (first | refine sops_go ?_ | refine headW_end ?_ | refine sops_end ?_ | refine awp_if ?_ | refine awp_skip ?_ | refine awp_ret ?_ | refine awp_exit ?_); simp only [go_sem, simprocAttr, hF, hd])
      | with_reducible (first | refine awp_seq_k fun _ _ => ?_ | refine awp_region [] ?_ | refine awp_block ?_)
      | go_step)
    rw [hT, List.drop_of_length_le (by omega)]
    rfl
  obtain ⟨y, hyk⟩ := get_of_lt hlt
  have hd : decide ((k : Int) < (l.length : Int)) = true := decide_eq_true (by omega)
  have hw : IntKind.i64.wrap ((k : Int) + 1) = ((k + 1 : Nat) : Int) := by rw [IntKind.wrap_i64]; omega
  have hT' : orI l = if y = 0 then orI (l.drop (k + 1)) else y := by rw [hT, drop_of_get hyk, orI]
  by_cases h0 : y = 0
  case neg =>
    have he : (y != 0) = true := by simpa using h0
    repeat (first
      | (with_reducible (first | refine sops_go ?_ | refine headW_end ?_ | refine sops_end ?_ | refine awp_if ?_ | refine awp_skip ?_ | refine awp_ret ?_ | refine awp_exit ?_); simp only [go_sem, simprocAttr, hF, hd, hyk, he])
      | with_reducible (first | refine awp_seq_k fun _ _ => ?_ | refine awp_region [] ?_ | refine awp_block ?_)
      | go_step)
    rw [hT', if_neg h0]
  have he : (y != 0) = false := by simpa using h0
  repeat (first
    | (with_reducible (first | refine sops_go ?_ | refine headW_end ?_ | refine sops_end ?_ | refine awp_if ?_ | refine awp_skip ?_ | refine awp_ret ?_ | refine awp_exit ?_); simp only [go_sem, simprocAttr, hF, hd, hyk, he])
    | with_reducible (first | refine awp_seq_k fun _ _ => ?_ | refine awp_region [] ?_ | refine awp_block ?_)
    | go_step)
  refine ⟨⟨k + 1, by omega, by rw [hT', if_pos h0]⟩, by dsimp only; omega, hR _ _ (sub_mk ?_)⟩
  simp only [go_sem, simprocAttr, hF, hw]

set_option maxHeartbeats 2000000 in
theorem compareL_ok (x y : Lk) : FnOK Tryz.prog 113 [.agg x.pv, .agg y.pv] ⟨iv (orI [cmpI x.fr y.fr, cmpI x.tt y.tt]), none⟩ := by
  refine fn_ok Tryz.func113 (by kernel_rfl) rfl (by rw [Tryz.ntmps113]; exact of_decide_eq_true rfl) (fun F hF => ?_)
  rw [Tryz.ntmps113] at hF
  rw [Tryz.results113]
  repeat (first
    | (with_reducible (first | refine sops_go ?_ | refine headW_end ?_ | refine sops_end ?_ | refine awp_if ?_ | refine awp_skip ?_ | refine awp_ret ?_ | refine awp_exit ?_); simp only [go_sem, simprocAttr, hF])
    | ((with_reducible refine headW_go ?_); simp only [go_sem, simprocAttr, hF, hbx])
    | with_reducible refine awp_seq_k fun _ _ => ?_
    | (refine awp_draw' (id := 1) [] 12 (by kernel_rfl) (by kernel_rfl) rfl rfl (fun bx0 hbx => ?_); try dsimp only [List.take, List.drop])
    | with_reducible (first | refine awp_region [] ?_ | refine awp_block ?_)
    | go_step)
  refine ⟨_, compare_ok x.fr y.fr, ?_⟩
  simp only [go_sem, simprocAttr, hF]
  repeat (first
    | (with_reducible (first | refine sops_go ?_ | refine headW_end ?_ | refine sops_end ?_ | refine awp_if ?_ | refine awp_skip ?_ | refine awp_ret ?_ | refine awp_exit ?_); simp only [go_sem, simprocAttr, hF])
    | ((with_reducible refine headW_go ?_); simp only [go_sem, simprocAttr, hF, hbx])
    | with_reducible refine awp_seq_k fun _ _ => ?_
    | (refine awp_draw' (id := 1) [] 12 (by kernel_rfl) (by kernel_rfl) rfl rfl (fun bx0 hbx => ?_); try dsimp only [List.take, List.drop])
    | with_reducible (first | refine awp_region [] ?_ | refine awp_block ?_)
    | go_step)
  refine ⟨_, compare_ok x.tt y.tt, ?_⟩
  simp only [go_sem, simprocAttr, hF]
  repeat (first
    | (with_reducible (first | refine sops_go ?_ | refine headW_end ?_ | refine sops_end ?_ | refine awp_if ?_ | refine awp_skip ?_ | refine awp_ret ?_ | refine awp_exit ?_); simp only [go_sem, simprocAttr, hF])
    | ((with_reducible refine headW_go ?_); simp only [go_sem, simprocAttr, hF, hbx])
    | with_reducible refine awp_seq_k fun _ _ => ?_
    | (refine awp_draw' (id := 1) [] 12 (by kernel_rfl) (by kernel_rfl) rfl rfl (fun bx0 hbx => ?_); try dsimp only [List.take, List.drop])
    | with_reducible (first | refine awp_region [] ?_ | refine awp_block ?_)
    | go_step)
  refine ⟨_, or_ok [cmpI x.fr y.fr, cmpI x.tt y.tt] (by simp), ?_⟩
  simp only [go_sem, simprocAttr, hF]
  repeat (first
    | (with_reducible (first | refine sops_go ?_ | refine headW_end ?_ | refine sops_end ?_ | refine awp_if ?_ | refine awp_skip ?_ | refine awp_ret ?_ | refine awp_exit ?_); simp only [go_sem, simprocAttr, hF])
    | ((with_reducible refine headW_go ?_); simp only [go_sem, simprocAttr, hF, hbx])
    | with_reducible refine awp_seq_k fun _ _ => ?_
    | (refine awp_draw' (id := 1) [] 12 (by kernel_rfl) (by kernel_rfl) rfl rfl (fun bx0 hbx => ?_); try dsimp only [List.take, List.drop])
    | with_reducible (first | refine awp_region [] ?_ | refine awp_block ?_)
    | go_step)
  all_goals (try rfl)
/- Searching a link, by abstract states. -/
def ltL (a b : Int) (l : Lk) : Bool := decide (l.fr < a) || (l.fr == a && decide (l.tt < b))
theorem ltL_iff {a b : Int} {l : Lk} : ltL a b l = true ↔ l.fr < a ∨ (l.fr = a ∧ l.tt < b) := by
  unfold ltL
  rw [Bool.or_eq_true, Bool.and_eq_true, decide_eq_true_eq, decide_eq_true_eq, beq_iff_eq]
theorem lkP_iff {a b : Int} {l : Lk} : lkP a b l = true ↔ l.fr = a ∧ l.tt = b := by
  unfold lkP
  rw [Bool.and_eq_true, beq_iff_eq, beq_iff_eq]
theorem cmpI_lt {x y : Int} (h : x < y) : cmpI x y = -1 := if_pos h
theorem cmpI_gt {x y : Int} (h : y < x) : cmpI x y = 1 := by unfold cmpI; rw [if_neg (by omega), if_pos h]
theorem cmpI_eq (x : Int) : cmpI x x = 0 := by unfold cmpI; rw [if_neg (by omega), if_neg (by omega)]
theorem orI_lt (a b : Int) (l : Lk) : decide (orI [cmpI l.fr a, cmpI l.tt b] < 0) = ltL a b l ∧ (orI [cmpI l.fr a, cmpI l.tt b] == 0) = lkP a b l := by
  simp only [orI]
  unfold ltL lkP
  rcases Int.lt_trichotomy l.fr a with h | h | h
  · rw [cmpI_lt h]
    have : l.fr ≠ a := by omega
    simp [h, this]
  · subst h
    rw [cmpI_eq]
    rcases Int.lt_trichotomy l.tt b with h2 | h2 | h2
    · rw [cmpI_lt h2]
      have : l.tt ≠ b := by omega
      simp [h2, this]
    · subst h2
      rw [cmpI_eq]
      simp
    · rw [cmpI_gt h2]
      have h3 : l.tt ≠ b := by omega
      have h4 : ¬ l.tt < b := by omega
      simp [h3, h4]
  · rw [cmpI_gt h]
    have h3 : l.fr ≠ a := by omega
    have h4 : ¬ l.fr < a := by omega
    simp [h3, h4]
def LkSorted (l : List Lk) : Prop := l.Pairwise fun x y => ltL y.fr y.tt x = true
theorem lkE_zero {nodes : Int} {pow : List (List Int)} {p : Option Lk} {l : Lk} {m : Int} (h : lkE nodes pow p l m = 0) : lkB nodes l = true ∧ prevBadL p l = false ∧ 0 ≤ m ∧ m ≤ powAt pow l.fr l.tt := by
  unfold lkE at h
  split at h
  · cases h
  · rename_i h1
    split at h
    · cases h
    · rename_i h2
      split at h
      · cases h
      · rename_i h3
        exact ⟨by simpa using h1, by simpa using h2, by omega, by omega⟩
theorem lkGo_inv {nodes : Int} {pow : List (List Int)} : ∀ {l : List Lk} {ms : List Int} {p : Option Lk}, lkGo nodes pow p l ms = 0 → LkSorted l ∧ (∀ q, p = some q → ∀ x ∈ l, ltL x.fr x.tt q = true) ∧ (∀ x ∈ l, lkB nodes x = true) ∧ (∀ (i : Nat) (m : Int), i < l.length → ms[i]? = some m → 0 ≤ m ∧ ∃ a b, m ≤ powAt pow a b)
  | [], ms, p, _ => ⟨.nil, fun _ _ _ h => (by cases h), fun _ h => (by cases h), fun i m h => absurd h (Nat.not_lt_zero _)⟩
  | x :: l, ms, p, h => by
    unfold lkGo at h
    split at h
    · rename_i h0
      obtain ⟨h1, h2, h3, h4⟩ := lkE_zero h0
      obtain ⟨i1, i2, i3, i4⟩ := lkGo_inv h
      refine ⟨.cons (fun y hy => i2 x rfl y hy) i1, ?_, fun y hy => ?_, ?_⟩
      · rintro q rfl y hy
        unfold prevBadL at h2
        simp only [Bool.or_eq_false_iff, decide_eq_false_iff_not, Bool.and_eq_false_iff, beq_eq_false_iff_ne, ne_eq] at h2
        have hx : ltL x.fr x.tt q = true := by rw [ltL_iff]; omega
        rcases List.mem_cons.1 hy with rfl | hy
        · exact hx
        · have := i2 x rfl y hy
          rw [ltL_iff] at this hx ⊢
          omega
      · rcases List.mem_cons.1 hy with rfl | hy
        · exact h1
        · exact i3 y hy
      · intro i m hi hm
        cases i with
        | zero =>
          cases ms with
          | nil => cases hm
          | cons m0 ms =>
            simp only [List.getElem?_cons_zero, Option.some.injEq] at hm
            subst hm
            exact ⟨h3, _, _, h4⟩
        | succ i =>
          refine i4 i m (by simpa using hi) ?_
          cases ms with
          | nil => cases hm
          | cons m0 ms => simpa using hm
    · rename_i h0; exact absurd h h0
theorem powAt_le {nodes : Int} {pow : List (List Int)} (h : powE nodes pow = 0) (a b : Int) : powAt pow a b ≤ 68719476736 := by
  unfold powE at h
  split at h
  · cases h
  · split at h
    · cases h
    · rename_i h1
      unfold powAt
      rw [List.getD_eq_getElem?_getD, List.getD_eq_getElem?_getD]
      cases hr : pow[a.toNat]? with
      | none => simp
      | some r =>
        rw [Option.getD_some]
        cases hv : r[b.toNat]? with
        | none => simp
        | some v =>
          rw [Option.getD_some]
          by_cases hb : v ≤ 68719476736
          · exact hb
          · exfalso
            refine h1 (List.any_eq_true.2 ⟨r, List.mem_of_getElem? hr, List.any_eq_true.2 ⟨v, List.mem_of_getElem? hv, ?_⟩⟩)
            unfold outP
            simp only [Bool.or_eq_true, decide_eq_true_eq]
            omega
structure NetOK (n : Net) : Prop where
  nodes : 2 ≤ n.nodes ∧ n.nodes ≤ 32
  mg : n.mg.length = n.lk.length
  lk : n.lk.length ≤ 128
  noise : 0 ≤ n.noise ∧ n.noise ≤ 68719476736
  thr : 1000 ≤ n.thr ∧ n.thr ≤ 100000
  sorted : LkSorted n.lk
  lkb : ∀ x ∈ n.lk, lkB n.nodes x = true
  mgb : ∀ (i : Nat) (m : Int), n.mg[i]? = some m → 0 ≤ m ∧ m ≤ 68719476736
theorem netOK {n : Net} (h : chkN n = 0) : NetOK n := by
  unfold chkN at h
  split at h
  · cases h
  rename_i h1
  split at h
  · rename_i h2; exact absurd h h2
  rename_i h2
  split at h
  · cases h
  rename_i h3
  split at h
  · cases h
  rename_i h4
  split at h
  · cases h
  rename_i h5
  have hp : powE n.nodes n.pow = 0 := Classical.byContradiction h2
  obtain ⟨i1, _, i3, i4⟩ := lkGo_inv h
  have h3a : Nd.inB n.noise 0 68719476736 = true := by
    cases hq : Nd.inB n.noise 0 68719476736 with
    | true => rfl
    | false => exact absurd (.inl hq) h3
  have h3b : Nd.inB n.thr 1000 100000 = true := by
    cases hq : Nd.inB n.thr 1000 100000 with
    | true => rfl
    | false => exact absurd (.inr hq) h3
  simp only [Nd.inB, Bool.and_eq_true, decide_eq_true_eq] at h3a h3b
  refine ⟨by omega, Classical.byContradiction h5, by omega, h3a, h3b, i1, i3, fun i m hm => ?_⟩
  have hml : n.mg.length = n.lk.length := Classical.byContradiction h5
  obtain ⟨g1, a, b, g2⟩ := i4 i m (by rw [← hml]; exact (List.getElem?_eq_some_iff.1 hm).1) hm
  exact ⟨g1, Int.le_trans g2 (powAt_le hp a b)⟩
def bsN (l : List Lk) (a b : Int) : Nat := (l.takeWhile (ltL a b)).length
def bsB (l : List Lk) (a b : Int) : Bool := match l[bsN l a b]? with
  | some x => lkP a b x
  | none => false
theorem tw_len {p : Lk → Bool} : ∀ {l : List Lk} {i : Nat}, i ≤ l.length → (∀ k, k < i → ∀ x, l[k]? = some x → p x = true) → (∀ x, l[i]? = some x → p x = false) → (l.takeWhile p).length = i
  | [], i, hi, _, _ => by
    have : i = 0 := by simpa using hi
    subst this; rfl
  | y :: l, 0, _, _, h2 => by rw [List.takeWhile_cons_of_neg (by rw [h2 y rfl]; decide)]; rfl
  | y :: l, i + 1, hi, h1, h2 => by
    rw [List.takeWhile_cons_of_pos (h1 0 (by omega) y rfl), List.length_cons, tw_len (l := l) (i := i) (by simpa using hi) (fun k hk x hx => h1 (k + 1) (by omega) x (by simpa using hx)) (fun x hx => h2 x (by simpa using hx))]
theorem idx_bs {a b : Int} : ∀ {l : List Lk} (k : Int), LkSorted l → idxP (lkP a b) l k = if bsB l a b = true then k + (bsN l a b : Int) else -1
  | [], k, _ => by simp [idxP, bsB]
  | x :: l, k, hs => by
    unfold idxP
    obtain ⟨hx, hl⟩ := List.pairwise_cons.1 hs
    by_cases h1 : ltL a b x = true
    · have hp : ¬ lkP a b x = true := by rw [lkP_iff]; rw [ltL_iff] at h1; omega
      rw [if_neg hp, idx_bs (k + 1) hl]
      have hN : bsN (x :: l) a b = bsN l a b + 1 := by unfold bsN; rw [List.takeWhile_cons_of_pos h1]; rfl
      have hB : bsB (x :: l) a b = bsB l a b := by unfold bsB; rw [hN]; rfl
      rw [hN, hB]
      split
      · push_cast; omega
      · rfl
    · have hN : bsN (x :: l) a b = 0 := by unfold bsN; rw [List.takeWhile_cons_of_neg h1]; rfl
      have hB : bsB (x :: l) a b = lkP a b x := by unfold bsB; rw [hN]; rfl
      rw [hN, hB]
      by_cases h2 : lkP a b x = true
      · rw [if_pos h2, if_pos h2]; simp
      · rw [if_neg h2, if_neg h2]
        have : ∀ (m : List Lk) (j : Int), (∀ y ∈ m, lkP a b y = false) → idxP (lkP a b) m j = -1 := by
          intro m
          induction m with
          | nil => intro j _; rfl
          | cons y m ih =>
            intro j hm
            unfold idxP
            rw [if_neg (by rw [hm y List.mem_cons_self]; decide)]
            exact ih _ fun z hz => hm z (List.mem_cons_of_mem _ hz)
        refine this l _ fun y hy => ?_
        have h3 := hx y hy
        rw [Bool.eq_false_iff]
        intro h4
        rw [lkP_iff] at h4 h2
        rw [ltL_iff] at h1 h3
        omega

set_option maxHeartbeats 20000000 in
theorem bs_ok (l : List Lk) (a b : Int) (hs : LkSorted l) (hl : l.length ≤ 1000000) : FnOK Tryz.prog 112 [.sl 3 (l.map Lk.pv), .agg [ip a, ip b, ip 0], .fnv 113 []] ⟨.tup [.c (ip (bsN l a b : Int)), .c (.v (.bool (bsB l a b)))], none⟩ := by
  refine fn_ok Tryz.func112 (by kernel_rfl) rfl (by rw [Tryz.ntmps112]; exact of_decide_eq_true rfl) (fun F hF => ?_)
  rw [Tryz.ntmps112] at hF
  rw [Tryz.results112]
  repeat (first
    | (with_reducible (first | refine sops_go ?_ | refine headW_end ?_ | refine sops_end ?_ | refine awp_if ?_ | refine awp_skip ?_ | refine awp_ret ?_ | refine awp_exit ?_); simp only [go_sem, simprocAttr, hF])
    | ((with_reducible refine headW_go ?_); simp only [go_sem, simprocAttr, hF, hbx])
    | with_reducible refine awp_seq_k fun _ _ => ?_
    | (refine awp_draw' (id := 5) [] 8 (by kernel_rfl) (by kernel_rfl) rfl rfl (fun bx0 hbx => ?_); try dsimp only [List.take, List.drop])
    | (refine awp_draw' (id := 8) [] 16 (by kernel_rfl) (by kernel_rfl) rfl rfl (fun bx0 hbx => ?_); try dsimp only [List.take, List.drop])
    | with_reducible (first | refine awp_region [] ?_ | refine awp_block ?_)
    | go_step)
  refine awp_loop_by (ι := {p : Nat × Nat // p.1 ≤ p.2 ∧ p.2 ≤ l.length ∧ (∀ k, k < p.1 → ∀ x, l[k]? = some x → ltL a b x = true) ∧ (∀ k, p.2 ≤ k → ∀ x, l[k]? = some x → ltL a b x = false)}) (fun p σ => ⟨(9, iv (p.1.1 : Int)) :: (10, iv (p.1.2 : Int)) :: keepS [0, 2, 4, 8] σ.slot, σ.box, [], σ.ext⟩) (fun p => p.1.2 - p.1.1) ⟨(0, l.length), by simp, Nat.le_refl _, fun k hk => absurd hk (Nat.not_lt_zero _), fun k hk x hx => absurd (List.getElem?_eq_some_iff.1 hx).1 (by simp only at hk; omega)⟩ (sub_mk ?_) (fun R hR p => ?_)
  · simp only [go_sem, simprocAttr, hF]
    repeat' (first | rfl | refine ⟨?_, ?_⟩)
  obtain ⟨⟨i, j⟩, hij, hjn, hI, hJ⟩ := p
  dsimp only at hij hjn hI hJ ⊢
  simp only [go_sem, simprocAttr, hF]
  by_cases hlt : i < j
  case neg =>
    obtain rfl : i = j := by omega
    have hd : decide ((i : Int) < (i : Int)) = false := decide_eq_false (by omega)
    have hN : bsN l a b = i := tw_len hjn hI (fun x hx => hJ i (Nat.le_refl _) x hx)
    by_cases hin : i < l.length
    case neg =>
      have hd2 : decide ((i : Int) < (l.length : Int)) = false := decide_eq_false (by omega)
      have hB : bsB l a b = false := by unfold bsB; rw [hN, List.getElem?_eq_none (by omega)]
      repeat (first
        | (with_reducible (first | refine sops_go ?_ | refine headW_end ?_ | refine sops_end ?_ | refine awp_if ?_ | refine awp_skip ?_ | refine awp_ret ?_ | refine awp_exit ?_); simp only [go_sem, simprocAttr, hF, hd, hd2])
        | ((with_reducible refine headW_go ?_); simp only [go_sem, simprocAttr, hF, hd, hd2, hbx])
        | with_reducible refine awp_seq_k fun _ _ => ?_
        | (refine awp_draw' (id := 5) [] 8 (by kernel_rfl) (by kernel_rfl) rfl rfl (fun bx0 hbx => ?_); try dsimp only [List.take, List.drop])
        | (refine awp_draw' (id := 8) [] 16 (by kernel_rfl) (by kernel_rfl) rfl rfl (fun bx0 hbx => ?_); try dsimp only [List.take, List.drop])
        | with_reducible (first | refine awp_region [] ?_ | refine awp_block ?_)
        | go_step)
      rw [hN, hB]
      try rfl
    obtain ⟨x, hx⟩ := get_of_lt hin
    have hd2 : decide ((i : Int) < (l.length : Int)) = true := decide_eq_true (by omega)
    have hB : bsB l a b = lkP a b x := by unfold bsB; rw [hN, hx]
    have hq := (orI_lt a b x).2
    repeat (first
      | (with_reducible (first | refine sops_go ?_ | refine headW_end ?_ | refine sops_end ?_ | refine awp_if ?_ | refine awp_skip ?_ | refine awp_ret ?_ | refine awp_exit ?_); simp only [go_sem, simprocAttr, hF, hd, hd2, hx])
      | ((with_reducible refine headW_go ?_); simp only [go_sem, simprocAttr, hF, hd, hd2, hx, hbx])
      | with_reducible refine awp_seq_k fun _ _ => ?_
      | (refine awp_draw' (id := 5) [] 8 (by kernel_rfl) (by kernel_rfl) rfl rfl (fun bx0 hbx => ?_); try dsimp only [List.take, List.drop])
      | (refine awp_draw' (id := 8) [] 16 (by kernel_rfl) (by kernel_rfl) rfl rfl (fun bx0 hbx => ?_); try dsimp only [List.take, List.drop])
      | with_reducible (first | refine awp_region [] ?_ | refine awp_block ?_)
      | go_step)
    refine ⟨_, compareL_ok x ⟨a, b, 0⟩, ?_⟩
    simp only [go_sem, simprocAttr, hF, hq]
    repeat (first
      | (with_reducible (first | refine sops_go ?_ | refine headW_end ?_ | refine sops_end ?_ | refine awp_if ?_ | refine awp_skip ?_ | refine awp_ret ?_ | refine awp_exit ?_); simp only [go_sem, simprocAttr, hF, hq, hd, hd2])
      | ((with_reducible refine headW_go ?_); simp only [go_sem, simprocAttr, hF, hq, hd, hd2, hbx])
      | with_reducible refine awp_seq_k fun _ _ => ?_
      | (refine awp_draw' (id := 5) [] 8 (by kernel_rfl) (by kernel_rfl) rfl rfl (fun bx0 hbx => ?_); try dsimp only [List.take, List.drop])
      | (refine awp_draw' (id := 8) [] 16 (by kernel_rfl) (by kernel_rfl) rfl rfl (fun bx0 hbx => ?_); try dsimp only [List.take, List.drop])
      | with_reducible (first | refine awp_region [] ?_ | refine awp_block ?_)
      | go_step)
    rw [hN, hB]
    try rfl
  have hd : decide ((i : Int) < (j : Int)) = true := decide_eq_true (by omega)
  have w1 : IntKind.i64.wrap ((i : Int) + (j : Int)) = (i : Int) + (j : Int) := by rw [IntKind.wrap_i64]; omega
  have w2 : IntKind.u64.wrap ((i : Int) + (j : Int)) = (i : Int) + (j : Int) := by rw [IntKind.wrap_u64]; omega
  have w3 : IntKind.i64.wrap (((i : Int) + (j : Int)) / 2) = (((i + j) / 2 : Nat) : Int) := by rw [IntKind.wrap_i64]; omega
  obtain ⟨h, hh⟩ : ∃ h, h = (i + j) / 2 := ⟨_, rfl⟩
  rw [← hh] at w3
  obtain ⟨x, hx⟩ := get_of_lt (l := l) (k := h) (by omega)
  have hq := (orI_lt a b x).1
  have w4 : IntKind.i64.wrap ((h : Int) + 1) = ((h + 1 : Nat) : Int) := by rw [IntKind.wrap_i64]; omega
  have mono : ∀ k y, l[k]? = some y → (k < h → ltL y.fr y.tt x = true ∨ True) := fun _ _ _ _ => .inr trivial
  repeat (first
    | (with_reducible (first | refine sops_go ?_ | refine headW_end ?_ | refine sops_end ?_ | refine awp_if ?_ | refine awp_skip ?_ | refine awp_ret ?_ | refine awp_exit ?_); simp only [go_sem, simprocAttr, hF, hd, w1, w2, w3, hx])
    | ((with_reducible refine headW_go ?_); simp only [go_sem, simprocAttr, hF, hd, w1, w2, w3, hx, hbx])
    | with_reducible refine awp_seq_k fun _ _ => ?_
    | (refine awp_draw' (id := 5) [] 8 (by kernel_rfl) (by kernel_rfl) rfl rfl (fun bx0 hbx => ?_); try dsimp only [List.take, List.drop])
    | (refine awp_draw' (id := 8) [] 16 (by kernel_rfl) (by kernel_rfl) rfl rfl (fun bx0 hbx => ?_); try dsimp only [List.take, List.drop])
    | with_reducible (first | refine awp_region [] ?_ | refine awp_block ?_)
    | go_step)
  refine ⟨_, compareL_ok x ⟨a, b, 0⟩, ?_⟩
  simp only [go_sem, simprocAttr, hF, hq]
  have hsrt := List.pairwise_iff_getElem.1 hs
  have hxh := (List.getElem?_eq_some_iff.1 hx)
  cases he : ltL a b x with
  | true =>
    try simp only [go_sem, simprocAttr, hF, hq, he]
    repeat (first
      | (with_reducible (first | refine sops_go ?_ | refine headW_end ?_ | refine sops_end ?_ | refine awp_if ?_ | refine awp_skip ?_ | refine awp_ret ?_ | refine awp_exit ?_); simp only [go_sem, simprocAttr, hF, hq, he])
      | ((with_reducible refine headW_go ?_); simp only [go_sem, simprocAttr, hF, hq, he, hbx])
      | with_reducible refine awp_seq_k fun _ _ => ?_
      | (refine awp_draw' (id := 5) [] 8 (by kernel_rfl) (by kernel_rfl) rfl rfl (fun bx0 hbx => ?_); try dsimp only [List.take, List.drop])
      | (refine awp_draw' (id := 8) [] 16 (by kernel_rfl) (by kernel_rfl) rfl rfl (fun bx0 hbx => ?_); try dsimp only [List.take, List.drop])
      | with_reducible (first | refine awp_region [] ?_ | refine awp_block ?_)
      | go_step)
    refine ⟨⟨(h + 1, j), by dsimp only; omega, hjn, fun k hk y hy => by
        by_cases hkh : k = h
        · subst hkh; rw [hx] at hy; cases hy; exact he
        · obtain ⟨g1, g2⟩ := List.getElem?_eq_some_iff.1 hy
          have := hsrt k h g1 hxh.1 (by dsimp only at hk; omega)
          rw [g2, hxh.2] at this
          rw [ltL_iff] at this he ⊢
          omega, hJ⟩, by dsimp only; omega, hR _ _ (sub_mk ?_)⟩
    simp only [go_sem, simprocAttr, hF, w4]
  | false =>
    try simp only [go_sem, simprocAttr, hF, hq, he]
    repeat (first
      | (with_reducible (first | refine sops_go ?_ | refine headW_end ?_ | refine sops_end ?_ | refine awp_if ?_ | refine awp_skip ?_ | refine awp_ret ?_ | refine awp_exit ?_); simp only [go_sem, simprocAttr, hF, hq, he])
      | ((with_reducible refine headW_go ?_); simp only [go_sem, simprocAttr, hF, hq, he, hbx])
      | with_reducible refine awp_seq_k fun _ _ => ?_
      | (refine awp_draw' (id := 5) [] 8 (by kernel_rfl) (by kernel_rfl) rfl rfl (fun bx0 hbx => ?_); try dsimp only [List.take, List.drop])
      | (refine awp_draw' (id := 8) [] 16 (by kernel_rfl) (by kernel_rfl) rfl rfl (fun bx0 hbx => ?_); try dsimp only [List.take, List.drop])
      | with_reducible (first | refine awp_region [] ?_ | refine awp_block ?_)
      | go_step)
    refine ⟨⟨(i, h), by dsimp only; omega, by dsimp only; omega, hI, fun k hk y hy => by
        by_cases hkh : k = h
        · subst hkh; rw [hx] at hy; cases hy; exact he
        · obtain ⟨g1, g2⟩ := List.getElem?_eq_some_iff.1 hy
          have := hsrt h k hxh.1 g1 (by dsimp only at hk; omega)
          rw [g2, hxh.2, ltL_iff] at this
          rw [Bool.eq_false_iff] at he ⊢
          rw [ne_eq, ltL_iff] at he ⊢
          omega⟩, by dsimp only; omega, hR _ _ (sub_mk ?_)⟩
    simp only [go_sem, simprocAttr, hF, w4]
end Go.Proofs.YticnppnejafhdaaGreatDoor

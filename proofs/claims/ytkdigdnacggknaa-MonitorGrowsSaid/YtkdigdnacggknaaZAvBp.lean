import Derived.Test.YtkdigdnacggknaaZAvNt
import Derived.Test.YtkdigdnacggknaaZAvT
/- Breaches: what the maps hold, plain. -/
namespace Go.Proofs.Ytkdigdnacggknaa
open Go.RowKit
open Nd Rc Mo
open Av
set_option maxRecDepth 100000
set_option linter.unusedSimpArgs false
open Go.Maps

theorem lkGo_lkB {nodes : Int} {pow : List (List Int)} : ∀ {p : Option Lk} {l : List Lk} {ms : List Int}, lkGo nodes pow p l ms = 0 → ∀ x ∈ l, lkB nodes x = true
  | _, [], _, _, x, hx => by cases hx
  | p, y :: l, ms, h, x, hx => by
    unfold lkGo at h
    split at h
    · rename_i h0
      rcases List.mem_cons.1 hx with rfl | hx
      · cases hb : lkB nodes x with
        | true => rfl
        | false => unfold lkE at h0; rw [if_pos hb] at h0; cases h0
      · exact lkGo_lkB h x hx
    · rename_i h0
      exact absurd h h0
theorem chkN_links {n : Net} (h : chkN n = 0) : n.nodes ≤ 32 ∧ ∀ x ∈ n.lk, 0 ≤ x.fr ∧ x.fr < 32 ∧ 0 ≤ x.tt ∧ x.tt < 32 ∧ 0 ≤ x.ls ∧ x.ls ≤ 7 := by
  unfold chkN at h
  split at h
  · cases h
  · rename_i h1
    split at h
    · rename_i h2; exact absurd h h2
    · split at h
      · cases h
      · split at h
        · cases h
        · split at h
          · cases h
          · refine ⟨by omega, fun x hx => ?_⟩
            have := lkGo_lkB h x hx
            simp only [lkB, Nd.inB, Bool.and_eq_true, decide_eq_true_eq] at this
            omega
def lossAt (l : List Lk) (a b : Int) : Option Int := (l.reverse.find? (fun x => x.fr == a && x.tt == b)).map Lk.ls
/-- The map holds the losses of the first k links. -/
def LossG (l : List Lk) (k : Nat) (G : Value → Option (DataW Unit)) : Prop := ∀ a b : Int, G (.agg #[.int .i64 a, .int .i64 b]) = (lossAt (l.take k) a b).map fun x => .lit (.int .i64 x)
theorem LossG.nil (l : List Lk) : LossG l 0 (fun _ => none) := fun a b => rfl
theorem LossG.succ {l : List Lk} {k : Nat} {G G' : Value → Option (DataW Unit)} {d : Lk} (h : LossG l k G) (hd : l[k]? = some d) (h1 : G' (.agg [.int .i64 d.fr, .int .i64 d.tt].toArray) = some (.lit (.int .i64 d.ls))) (h2 : ∀ y, y ≠ .agg [.int .i64 d.fr, .int .i64 d.tt].toArray → G' y = G y) : LossG l (k + 1) G' := fun a b => by
  have hT : l.take (k + 1) = l.take k ++ [d] := by rw [List.take_add_one, hd]; rfl
  unfold lossAt
  rw [hT, List.reverse_append, List.reverse_singleton, List.singleton_append]
  by_cases he : a = d.fr ∧ b = d.tt
  · obtain ⟨rfl, rfl⟩ := he
    rw [List.find?_cons_of_pos (by simp), h1]; rfl
  · rw [List.find?_cons_of_neg (by simp; intro e1 e2; exact he ⟨e1.symm, e2.symm⟩), h2 _ (fun e => he (by simpa using e))]
    exact h a b
def Us.key (u : Us) (a b c d : Int) : Bool := u.fl == a && u.fr == b && u.fm == c && u.tt == d
theorem key_iff {u : Us} {a b c d : Int} : u.key a b c d = true ↔ u.fl = a ∧ u.fr = b ∧ u.fm = c ∧ u.tt = d := by simp [Us.key, and_assoc]
def useAt (U : List Us) (a b c d : Int) : Option Us := U.find? fun u => u.key a b c d
def inUse (u : Us) (a : Att) : Bool := u.key a.cl a.f a.cf a.ct
structure UsesOK (lk : List Lk) (al : List Att) (k : Nat) (U : List Us) (G : Value → Option (DataW Unit)) : Prop where
  uniq : ∀ u ∈ U, U.find? (fun x => x.g == u.g) = some u
  keys : ∀ u ∈ U, useAt U u.fl u.fr u.fm u.tt = some u
  att : ∀ u ∈ U, u.al = (al.take k).filter (inUse u)
  cover : ∀ a ∈ al.take k, (useAt U a.cl a.f a.cf a.ct).isSome = true
  loss : ∀ a ∈ al.take k, (lossAt lk a.cf a.ct).isSome = true
  map : ∀ a b c d : Int, G (.agg #[.int .i64 a, .int .i64 b, .int .i64 c, .int .i64 d]) = (useAt U a b c d).map fun u => .lit (.int .i64 (u.g : Int))
def dropU (g : Nat) (U : List Us) : List Us := U.filter fun u => !(u.g == g)
theorem mem_dropU {g : Nat} {U : List Us} {u : Us} : u ∈ dropU g U ↔ u ∈ U ∧ u.g ≠ g := by simp [dropU]
theorem find_dropU {g : Nat} {U : List Us} {p : Us → Bool} {u : Us} (h : U.find? p = some u) (hg : u.g ≠ g) : (dropU g U).find? p = some u := by
  induction U with
  | nil => cases h
  | cons x U ih =>
    unfold dropU at ih ⊢
    cases hp : p x with
    | true =>
      rw [List.find?_cons_of_pos hp] at h
      cases h
      rw [List.filter_cons_of_pos (by simpa using hg), List.find?_cons_of_pos hp]
    | false =>
      rw [List.find?_cons_of_neg (by simp [hp])] at h
      by_cases hx : x.g = g
      · rw [List.filter_cons_of_neg (by simpa using hx)]; exact ih h
      · rw [List.filter_cons_of_pos (by simpa using hx), List.find?_cons_of_neg (by simp [hp])]; exact ih h
theorem find_dropU_none {g : Nat} {U : List Us} {p : Us → Bool} (h : U.find? p = none) : (dropU g U).find? p = none := by
  rw [List.find?_eq_none] at h ⊢
  exact fun x hx => h x (mem_dropU.1 hx).1
theorem takeSnoc {α : Type} {l : List α} {k : Nat} {d : α} (h : l[k]? = some d) : l.take (k + 1) = l.take k ++ [d] := by rw [List.take_add_one, h]; rfl
section
variable {lk : List Lk} {al : List Att} {k : Nat} {U : List Us} {G G' : Value → Option (DataW Unit)}
theorem UsesOK.nil : UsesOK lk al 0 [] (fun _ => none) := ⟨fun u h => (by cases h), fun u h => (by cases h), fun u h => (by cases h), fun a h => (by simp at h), fun a h => (by simp at h), fun _ _ _ _ => rfl⟩
/-- A use that has no attempts yet. -/
theorem UsesOK.new (h : UsesOK lk al k U G) {a b c d : Int} {g : Nat} (hn : useAt U a b c d = none) (hg : ∀ u ∈ U, u.g ≠ g) (h1 : G' (.agg [.int .i64 a, .int .i64 b, .int .i64 c, .int .i64 d].toArray) = some (.lit (.int .i64 (g : Int)))) (h2 : ∀ y, y ≠ .agg [.int .i64 a, .int .i64 b, .int .i64 c, .int .i64 d].toArray → G' y = G y) : UsesOK lk al k (⟨a, b, c, d, g, []⟩ :: U) G' := by
  have hk : ∀ a' b' c' d', (⟨a, b, c, d, g, []⟩ : Us).key a' b' c' d' = true ↔ a = a' ∧ b = b' ∧ c = c' ∧ d = d' := fun _ _ _ _ => key_iff
  have hself : (⟨a, b, c, d, g, []⟩ : Us).key a b c d = true := (hk _ _ _ _).2 ⟨rfl, rfl, rfl, rfl⟩
  have hat : ∀ a' b' c' d', useAt (⟨a, b, c, d, g, []⟩ :: U) a' b' c' d' = if a = a' ∧ b = b' ∧ c = c' ∧ d = d' then some ⟨a, b, c, d, g, []⟩ else useAt U a' b' c' d' := fun a' b' c' d' => by
    unfold useAt
    by_cases hc : a = a' ∧ b = b' ∧ c = c' ∧ d = d'
    · rw [if_pos hc, List.find?_cons_of_pos (p := fun u : Us => u.key a' b' c' d') ((hk _ _ _ _).2 hc)]
    · rw [if_neg hc, List.find?_cons_of_neg (p := fun u : Us => u.key a' b' c' d') (fun e => hc ((hk _ _ _ _).1 e))]
  refine ⟨fun u hu => ?_, fun u hu => ?_, fun u hu => ?_, fun x hx => ?_, h.loss, fun a' b' c' d' => ?_⟩
  · rcases List.mem_cons.1 hu with rfl | hu
    · rw [List.find?_cons_of_pos (by simp)]
    · rw [List.find?_cons_of_neg (by simpa using fun e => hg u hu e.symm)]; exact h.uniq u hu
  · rw [hat]
    rcases List.mem_cons.1 hu with rfl | hu
    · rw [if_pos ⟨rfl, rfl, rfl, rfl⟩]
    · have h3 := h.keys u hu
      by_cases hc : a = u.fl ∧ b = u.fr ∧ c = u.fm ∧ d = u.tt
      · obtain ⟨rfl, rfl, rfl, rfl⟩ := hc
        rw [h3] at hn; cases hn
      · rw [if_neg hc]; exact h3
  · rcases List.mem_cons.1 hu with rfl | hu
    · refine (List.filter_eq_nil_iff.2 fun x hx => ?_).symm
      intro e
      have h3 := h.cover x hx
      obtain ⟨rfl, rfl, rfl, rfl⟩ := (hk _ _ _ _).1 e
      rw [hn] at h3; cases h3
    · exact h.att u hu
  · rw [hat]
    split
    · rfl
    · exact h.cover x hx
  · rw [hat]
    by_cases hc : a = a' ∧ b = b' ∧ c = c' ∧ d = d'
    · obtain ⟨rfl, rfl, rfl, rfl⟩ := hc
      rw [if_pos ⟨rfl, rfl, rfl, rfl⟩]; exact h1
    · rw [if_neg hc, h2 _ (fun e => hc (by simpa using (show a' = a ∧ b' = b ∧ c' = c ∧ d' = d by simpa using e) |>.imp Eq.symm (fun h => h.imp Eq.symm (fun h => h.imp Eq.symm Eq.symm))))]
      exact h.map a' b' c' d'
/-- An attempt more. -/
theorem UsesOK.succ (h : UsesOK lk al k U G) {x : Att} {u : Us} (hx : al[k]? = some x) (hu : useAt U x.cl x.f x.cf x.ct = some u) (hl : (lossAt lk x.cf x.ct).isSome = true) : UsesOK lk al (k + 1) (⟨x.cl, x.f, x.cf, x.ct, u.g, u.al ++ [x]⟩ :: dropU u.g U) G := by
  have hT := takeSnoc hx
  have hu' : U.find? (fun u => u.key x.cl x.f x.cf x.ct) = some u := hu
  have hmem : u ∈ U := List.mem_of_find?_eq_some hu'
  have hkey : u.key x.cl x.f x.cf x.ct = true := List.find?_some (p := fun u : Us => u.key x.cl x.f x.cf x.ct) hu'
  obtain ⟨q1, q2, q3, q4⟩ := key_iff.1 hkey
  have hk : ∀ a' b' c' d', (⟨x.cl, x.f, x.cf, x.ct, u.g, u.al ++ [x]⟩ : Us).key a' b' c' d' = u.key a' b' c' d' := fun a' b' c' d' => by unfold Us.key; rw [q1, q2, q3, q4]
  -- others have other keys
  have hoth : ∀ v ∈ U, v.g ≠ u.g → v.key x.cl x.f x.cf x.ct = false := fun v hv hg => by
    cases hb : v.key x.cl x.f x.cf x.ct with
    | false => rfl
    | true =>
      obtain ⟨e1, e2, e3, e4⟩ := key_iff.1 hb
      have h3 := h.keys v hv
      rw [e1, e2, e3, e4, hu] at h3
      exact absurd (congrArg Us.g (Option.some.inj h3)).symm hg
  have hat : ∀ a' b' c' d', useAt (⟨x.cl, x.f, x.cf, x.ct, u.g, u.al ++ [x]⟩ :: dropU u.g U) a' b' c' d' = (useAt U a' b' c' d').map fun v => if v.g = u.g then ⟨x.cl, x.f, x.cf, x.ct, u.g, u.al ++ [x]⟩ else v := fun a' b' c' d' => by
    unfold useAt
    by_cases hc : u.key a' b' c' d' = true
    · obtain ⟨r1, r2, r3, r4⟩ := key_iff.1 hc
      have h3 := h.keys u hmem
      unfold useAt at h3
      rw [r1, r2, r3, r4] at h3
      rw [List.find?_cons_of_pos (p := fun u : Us => u.key a' b' c' d') ((hk _ _ _ _).trans hc), h3, Option.map_some, if_pos rfl]
    · rw [List.find?_cons_of_neg (p := fun u : Us => u.key a' b' c' d') (by rw [hk]; exact hc)]
      cases hf : U.find? (fun u => u.key a' b' c' d') with
      | none => rw [find_dropU_none hf]; rfl
      | some v =>
        have hv := List.mem_of_find?_eq_some hf
        have hvk : v.key a' b' c' d' = true := List.find?_some (p := fun u : Us => u.key a' b' c' d') hf
        have hg : v.g ≠ u.g := fun e => by
          have h3 := h.uniq v hv
          rw [e, h.uniq u hmem] at h3
          cases Option.some.inj h3
          exact hc hvk
        rw [find_dropU hf hg, Option.map_some, if_neg hg]
  refine ⟨fun v hv => ?_, fun v hv => ?_, fun v hv => ?_, fun y hy => ?_, fun y hy => ?_, fun a' b' c' d' => ?_⟩
  · rcases List.mem_cons.1 hv with rfl | hv
    · rw [List.find?_cons_of_pos (by simp)]
    · obtain ⟨h3, h4⟩ := mem_dropU.1 hv
      rw [List.find?_cons_of_neg (by simpa using fun e => h4 e.symm)]
      exact find_dropU (h.uniq v h3) h4
  · rw [hat]
    rcases List.mem_cons.1 hv with rfl | hv
    · show (useAt U x.cl x.f x.cf x.ct).map _ = _
      rw [hu, Option.map_some, if_pos rfl]
    · obtain ⟨h3, h4⟩ := mem_dropU.1 hv
      rw [h.keys v h3, Option.map_some, if_neg h4]
  · rw [hT, List.filter_append]
    rcases List.mem_cons.1 hv with rfl | hv
    · have h3 := h.att u hmem
      show u.al ++ [x] = _
      have e1 : (inUse ⟨x.cl, x.f, x.cf, x.ct, u.g, u.al ++ [x]⟩) = inUse u := by funext y; unfold inUse; rw [hk]
      rw [e1, List.filter_cons_of_pos (show inUse u x = true from hkey), List.filter_nil, ← h3]
    · obtain ⟨h3, h4⟩ := mem_dropU.1 hv
      rw [List.filter_cons_of_neg (by rw [show inUse v x = false from hoth v h3 h4]; decide), List.filter_nil, List.append_nil]
      exact h.att v h3
  · rw [hat, Option.isSome_map]
    rw [hT] at hy
    rcases List.mem_append.1 hy with hy | hy
    · exact h.cover y hy
    · simp only [List.mem_cons, List.not_mem_nil, or_false] at hy
      subst hy
      rw [hu]; rfl
  · rw [hT] at hy
    rcases List.mem_append.1 hy with hy | hy
    · exact h.loss y hy
    · simp only [List.mem_cons, List.not_mem_nil, or_false] at hy
      subst hy
      exact hl
  · rw [hat, h.map, Option.map_map]
    congr 1
    funext v
    show _ = DataW.lit (Lit.int .i64 ((if v.g = u.g then _ else v : Us).g : Int))
    split
    · rename_i e; rw [e]
    · rfl
theorem UsesOK.at (h : UsesOK lk al k U G) {a b c d : Int} {g : Nat} (hg : G (.agg [.int .i64 a, .int .i64 b, .int .i64 c, .int .i64 d].toArray) = some (.lit (.int .i64 (g : Int)))) : ∃ u ∈ U, u.g = g ∧ useAt U a b c d = some u := by
  have h1 := h.map a b c d
  rw [show (#[.int .i64 a, .int .i64 b, .int .i64 c, .int .i64 d] : Array Value) = [.int .i64 a, .int .i64 b, .int .i64 c, .int .i64 d].toArray from rfl, hg] at h1
  cases hu : useAt U a b c d with
  | none => rw [hu] at h1; cases h1
  | some u =>
    rw [hu] at h1
    simp only [Option.map_some, Option.some.injEq, DataW.lit.injEq, Lit.int.injEq, true_and] at h1
    exact ⟨u, List.mem_of_find?_eq_some hu, by omega, rfl⟩
theorem UsesOK.no (h : UsesOK lk al k U G) {a b c d : Int} (hg : G (.agg [.int .i64 a, .int .i64 b, .int .i64 c, .int .i64 d].toArray) = none) : useAt U a b c d = none := by
  have h1 := h.map a b c d
  rw [show (#[.int .i64 a, .int .i64 b, .int .i64 c, .int .i64 d] : Array Value) = [.int .i64 a, .int .i64 b, .int .i64 c, .int .i64 d].toArray from rfl, hg] at h1
  cases hu : useAt U a b c d with
  | none => rfl
  | some u => rw [hu] at h1; cases h1
theorem UsesOK.look (h : UsesOK lk al k U G) {u : Us} (hu : u ∈ U) : Av.look (dynBox U) (u.g + 1000000) = some u.row := by rw [look_dyn, h.uniq u hu]; rfl
theorem UsesOK.own (h : UsesOK lk al k U G) {u : Us} (hu : u ∈ U) (T : TypeId) : lookL (dynOwn T U) (.b (u.g + 1000000) 1) = some (T, 8) := by rw [lookL_dyn_b, h.uniq u hu]; rfl
end
theorem useAt_head (a b c d : Int) (g : Nat) (al : List Att) (U : List Us) : useAt (⟨a, b, c, d, g, al⟩ :: U) a b c d = some ⟨a, b, c, d, g, al⟩ := by
  unfold useAt
  rw [List.find?_cons_of_pos (p := fun u : Us => u.key a b c d) (key_iff.2 ⟨rfl, rfl, rfl, rfl⟩)]
theorem LossG.some {l : List Lk} {G : Value → Option (DataW Unit)} (h : LossG l l.length G) {a b : Int} {x : DataW Unit} (hg : G (.agg [.int .i64 a, .int .i64 b].toArray) = some x) : (lossAt l a b).isSome = true := by
  have h1 := h a b
  rw [List.take_length, show (#[.int .i64 a, .int .i64 b] : Array Value) = [.int .i64 a, .int .i64 b].toArray from rfl, hg] at h1
  cases hl : lossAt l a b with
  | none => rw [hl] at h1; cases h1
  | some y => rfl
theorem LossG.no {l : List Lk} {G : Value → Option (DataW Unit)} (h : LossG l l.length G) {a b : Int} (hg : G (.agg [.int .i64 a, .int .i64 b].toArray) = none) : lossAt l a b = none := by
  have h1 := h a b
  rw [List.take_length, show (#[.int .i64 a, .int .i64 b] : Array Value) = [.int .i64 a, .int .i64 b].toArray from rfl, hg] at h1
  cases hl : lossAt l a b with
  | none => rfl
  | some y => rw [hl] at h1; cases h1
theorem LossG.at {l : List Lk} {G : Value → Option (DataW Unit)} (h : LossG l l.length G) {a b x : Int} (hg : G (.agg [.int .i64 a, .int .i64 b].toArray) = .some (.lit (.int .i64 x))) : lossAt l a b = .some x := by
  have h1 := h a b
  rw [List.take_length, show (#[.int .i64 a, .int .i64 b] : Array Value) = [.int .i64 a, .int .i64 b].toArray from rfl, hg] at h1
  cases hl : lossAt l a b with
  | none => rw [hl] at h1; cases h1
  | some y => rw [hl] at h1; simp only [Option.map_some, Option.some.injEq, DataW.lit.injEq, Lit.int.injEq, true_and] at h1; rw [h1]
theorem dynBox_cons (u : Us) (U : List Us) : dynBox (u :: U) = (u.g + 1000000, u.row) :: dynBox U := rfl
theorem dynOwn_cons (T : TypeId) (u : Us) (U : List Us) : dynOwn T (u :: U) = (.b (u.g + 1000000) 1, (T, 8)) :: dynOwn T U := rfl
theorem filter_dyn_b {T : TypeId} {U : List Us} {g : Nat} : List.filter (fun x => !x.1 == Av.Loc.b (g + 1000000) 1) (dynOwn T U) = dynOwn T (dropU g U) := by
  unfold dynOwn dropU
  rw [List.filter_map]
  refine congrArg (List.map _) (List.filter_congr fun u _ => ?_)
  rw [Function.comp_apply]
  dsimp only
  have e : (u.g + 1000000 == g + 1000000) = (u.g == g) := by rw [Bool.eq_iff_iff, beq_iff_eq, beq_iff_eq]; omega
  rw [loc_bb, e, show (1 == 1) = true from rfl, Bool.and_true]
theorem keepL_dyn_b {T : TypeId} {U : List Us} {g : Nat} : Av.keepL (dynOwn T U) (g + 1000000) 1 1 = dynOwn T (dropU g U) := by
  unfold dynOwn dropU Av.keepL
  rw [List.filter_map]
  refine congrArg (List.map _) (List.filter_congr fun u _ => ?_)
  rw [Function.comp_apply]
  have hh : Av.hitB (g + 1000000) 1 1 (.b (u.g + 1000000) 1) = (u.g == g) := by
    unfold Av.hitB
    dsimp only
    rw [Bool.eq_iff_iff]
    simp
  rw [hh]
theorem dropU_idem {U : List Us} {g : Nat} : dropU g (dropU g U) = dropU g U := by
  unfold dropU
  rw [List.filter_filter]
  exact List.filter_congr fun u _ => by rw [Bool.and_self]

theorem lookBig {α : Type} {j g : Nat} {x : α} {l : List (Nat × α)} (h : j < 1000000) : Av.look ((j, x) :: l) (g + 1000000) = Av.look l (g + 1000000) := by rw [Av.look_cons, if_neg (by omega)]
theorem keepL_nil {k o n : Nat} : Av.keepL [] k o n = [] := rfl
theorem keepL_cons_s {t k o n : Nat} {x : TypeId × Nat} {l : List (Av.Loc × (TypeId × Nat))} : Av.keepL ((.s t, x) :: l) k o n = (.s t, x) :: Av.keepL l k o n := rfl
theorem keepL_cons_b {j off k o n : Nat} {x : TypeId × Nat} {l : List (Av.Loc × (TypeId × Nat))} : Av.keepL ((.b j off, x) :: l) k o n = if (decide (j = k) && (decide (o ≤ off) && decide (off < o + n))) = true then Av.keepL l k o n else (.b j off, x) :: Av.keepL l k o n := by
  unfold Av.keepL
  by_cases h : (decide (j = k) && (decide (o ≤ off) && decide (off < o + n))) = true
  · rw [if_pos h, List.filter_cons_of_neg (by show ¬ (!(_ : Bool)) = true; rw [show Av.hitB k o n (.b j off) = true from h]; decide)]
  · rw [if_neg h, List.filter_cons_of_pos (by show (!(_ : Bool)) = true; rw [show Av.hitB k o n (.b j off) = false from (Bool.not_eq_true _).mp h]; rfl)]
theorem attsGo_all {slots : Int} : ∀ {l : List Att} {p : Option Att} {S : List Int} {x : Int}, attsGo slots p S x l = true → ∀ a ∈ l, attB a slots = true
  | [], _, _, _, _, a, ha => by cases ha
  | y :: l, p, S, x, h, a, ha => by
    unfold attsGo at h
    split at h
    · cases h
    · rename_i h0
      have hy : attB y slots = true := by
        cases hb : attB y slots with
        | true => rfl
        | false => exact absurd (by simp [hb]) h0
      rcases List.mem_cons.1 ha with rfl | ha
      · exact hy
      · split at h
        · split at h
          · cases h
          · exact attsGo_all h a ha
        · exact attsGo_all h a ha
theorem dynBox_ren {U : List Us} {k g : Nat} (hk : k < 1000000) : (dynBox U).map (fun x => (if x.1 = k then g else x.1, x.2)) = dynBox U := by
  unfold dynBox
  rw [List.map_map]
  refine List.map_congr_left fun u _ => ?_
  rw [Function.comp_apply]
  dsimp only
  rw [if_neg (by omega)]
theorem dropU_self {a b c d : Int} {g : Nat} {al : List Att} {U : List Us} : dropU g (⟨a, b, c, d, g, al⟩ :: U) = dropU g U := List.filter_cons_of_neg (by simp)
section
variable {lk : List Lk} {al : List Att} {k : Nat} {U : List Us} {G G' : Value → Option (DataW Unit)}
theorem UsesOK.lookD (h : UsesOK lk al k U G) {g : Nat} {v : Us} (hv : v ∈ dropU g U) : Av.look (dynBox (dropU g U)) (v.g + 1000000) = some v.row := by
  obtain ⟨h1, h2⟩ := mem_dropU.1 hv
  rw [look_dyn, find_dropU (h.uniq v h1) h2]; rfl
theorem UsesOK.ownD (h : UsesOK lk al k U G) {g : Nat} {v : Us} (hv : v ∈ dropU g U) (T : TypeId) : lookL (dynOwn T (dropU g U)) (.b (v.g + 1000000) 1) = some (T, 8) := by
  obtain ⟨h1, h2⟩ := mem_dropU.1 hv
  rw [lookL_dyn_b, find_dropU (h.uniq v h1) h2]; rfl
theorem lookL_other {α : Type} {g g' : Nat} (hg : g' ≠ g) {x : α} {l : List (Av.Loc × α)} : Av.lookL ((.b (g + 1000000) 1, x) :: l) (.b (g' + 1000000) 1) = Av.lookL l (.b (g' + 1000000) 1) := by
  rw [Av.lookL_cons, if_neg (by simp; omega)]
theorem lookL_sb {α : Type} {t j off : Nat} {x : α} {l : List (Av.Loc × α)} : Av.lookL ((.s t, x) :: l) (.b j off) = Av.lookL l (.b j off) := by
  rw [Av.lookL_cons, if_neg (by simp)]
theorem avAt_of {σ σ' : Av.St} {k off : Nat} {cs : List PV} (h : Av.look σ'.box k = some cs) (h' : Av.look σ.box k = some cs) : σ'.avAt (.b k off) = σ.avAt (.b k off) := by
  show ((Av.look σ'.box k).bind (·[off]?)).map PV.av = ((Av.look σ.box k).bind (·[off]?)).map PV.av
  rw [h, h']
theorem look_other {α : Type} {g g' : Nat} (hg : g' ≠ g) {x : α} {l : List (Nat × α)} : Av.look ((g + 1000000, x) :: l) (g' + 1000000) = Av.look l (g' + 1000000) := by
  rw [Av.look_cons, if_neg (by omega)]
end
theorem zero_of {T : TypeId} {z : Value} (h : (Try.prog.info? T).map (·.zero) = some (some z)) (w : World) : (zeroValue T).run Try.prog w = .ok z w := by
  cases hi : Try.prog.info? T with
  | none => rw [hi] at h; cases h
  | some i =>
    rw [hi] at h
    simp only [Option.map_some, Option.some.injEq] at h
    simp only [zeroValue, typeInfo, program, Sem.run_bind, Sem.run, Sem.run_pure, Result.andThen_ok, hi, h]
theorem Try.ptrType : Try.prog.underlying 106 = some (.pointer (Try.prog.pointee 106)) := by kernel_rfl
theorem lookL_dyn_none {T : TypeId} {U : List Us} {k off : Nat} (hk : k < 1000000) : lookL (dynOwn T U) (.b k off) = none := by
  induction U with
  | nil => rfl
  | cons u U ih =>
    unfold dynOwn at ih ⊢
    rw [List.map_cons, Av.lookL_cons, if_neg (by simp; intro e; omega), ih]
theorem Try.zrPtr : (Try.prog.info? 106).map (·.zero) = some (some (.pointer none)) := by kernel_rfl
theorem loss_one {v : Value} {d : DataW Unit} {ps : List MemPlace} (h : plainElem Try.prog 3 v = some (d, ps)) : ∃ x : Int, v = .int .i64 x ∧ d = .lit (.int .i64 x) := by
  obtain ⟨x, rfl, h2, _⟩ := plainElem_int_inv Try.underlying3 h
  exact ⟨x, rfl, by cases h2; rfl⟩
theorem good_atts {r : Rec} (h : good r = true) : ∀ a ∈ r.al, 0 ≤ a.s ∧ a.s < 4096 ∧ 0 ≤ a.f ∧ a.f < 1048576 ∧ 0 ≤ a.cf ∧ a.cf < 32 ∧ 0 ≤ a.ct ∧ a.ct < 32 ∧ 0 ≤ a.cl ∧ a.cl < 256 ∧ 1 ≤ a.o ∧ a.o ≤ 4 := by
  simp only [good, Bool.and_eq_true, decide_eq_true_eq] at h
  intro a ha
  have := attsGo_all h.2.2.2.2.1 a ha
  simp only [attB, belowB, Bool.and_eq_true, decide_eq_true_eq] at this
  omega
end Go.Proofs.Ytkdigdnacggknaa

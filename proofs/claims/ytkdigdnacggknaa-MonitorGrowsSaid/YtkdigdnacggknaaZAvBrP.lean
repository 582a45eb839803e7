import Derived.Test.YtkdigdnacggknaaZAvBp
import Derived.Test.YtkdigdnacggknaaZRatt
import Derived.Test.YtkdigdnacggknaaZAvNt
import Derived.Test.YtkdigdnacggknaaZAvJ
/- Breaches, sorted: plain. -/
namespace Go.Proofs.Ytkdigdnacggknaa
open Go.RowKit
open Nd Rc Mo
open Av
set_option maxRecDepth 100000
set_option linter.unusedSimpArgs false
open Go.Maps
structure Br where
  fl : Int
  fr : Int
  fm : Int
  tt : Int
  sl : List Int
deriving DecidableEq
def Br.key (b : Br) : List Int := [b.fl, b.fr, b.fm, b.tt, b.sl.headD 0]
def lexB : List Int → List Int → Bool
  | x :: l, y :: m => if x = y then lexB l m else decide (x < y)
  | _, _ => false
theorem lexB_irrefl : ∀ l : List Int, lexB l l = false
  | [] => rfl
  | x :: l => by unfold lexB; rw [if_pos rfl]; exact lexB_irrefl l
theorem lexB_trans : ∀ {l m k : List Int}, lexB l m = true → lexB m k = true → lexB l k = true
  | [], _, _, h, _ => by simp [lexB] at h
  | _ :: _, [], _, h, _ => by simp [lexB] at h
  | _ :: _, _ :: _, [], _, h => by simp [lexB] at h
  | x :: l, y :: m, z :: k, h1, h2 => by
    unfold lexB at h1 h2 ⊢
    by_cases e1 : x = y
    · subst e1
      rw [if_pos rfl] at h1
      by_cases e2 : x = z
      · subst e2; rw [if_pos rfl] at h2 ⊢; exact lexB_trans h1 h2
      · rw [if_neg e2] at h2 ⊢; exact h2
    · rw [if_neg e1] at h1
      have h1 := of_decide_eq_true h1
      by_cases e2 : y = z
      · subst e2; rw [if_neg e1]; exact decide_eq_true h1
      · rw [if_neg e2] at h2
        have h2 := of_decide_eq_true h2
        rw [if_neg (by omega)]; exact decide_eq_true (by omega)
theorem lexB_total : ∀ {l m : List Int}, l.length = m.length → lexB l m = false → l ≠ m → lexB m l = true
  | [], [], _, _, h => absurd rfl h
  | [], _ :: _, h, _, _ => by cases h
  | _ :: _, [], h, _, _ => by cases h
  | x :: l, y :: m, hl, h, hn => by
    unfold lexB at h ⊢
    by_cases e : x = y
    · subst e
      rw [if_pos rfl] at h ⊢
      exact lexB_total (by simpa using hl) h (fun e => hn (by rw [e]))
    · rw [if_neg e] at h
      have h := of_decide_eq_false h
      rw [if_neg (fun e' => e e'.symm)]
      exact decide_eq_true (by omega)
def Br.lt (a b : Br) : Bool := lexB a.key b.key
theorem Br.lt_irrefl (a : Br) : a.lt a = false := lexB_irrefl _
theorem Br.lt_trans {a b c : Br} (h1 : a.lt b = true) (h2 : b.lt c = true) : a.lt c = true := lexB_trans h1 h2
theorem Br.lt_total {a b : Br} (h : a.lt b = false) (hn : a.key ≠ b.key) : b.lt a = true := lexB_total rfl h hn
def insB (l : List Br) (b : Br) : List Br := l.takeWhile (·.lt b) ++ b :: l.dropWhile (·.lt b)
def sortB (l : List Br) : List Br := l.foldl insB []
theorem insB_perm (l : List Br) (b : Br) : (insB l b).Perm (b :: l) := by
  unfold insB
  refine List.perm_middle.trans (List.Perm.cons _ ?_)
  rw [List.takeWhile_append_dropWhile]
theorem foldl_insB_perm : ∀ (l m : List Br), (l.foldl insB m).Perm (m ++ l)
  | [], m => by rw [List.append_nil]; exact List.Perm.refl _
  | b :: l, m => by
    rw [List.foldl_cons]
    refine (foldl_insB_perm l (insB m b)).trans ?_
    refine ((insB_perm m b).append_right l).trans ?_
    exact List.perm_middle.symm
theorem sortB_perm (l : List Br) : (sortB l).Perm l := by simpa [sortB] using foldl_insB_perm l []
def BrSorted (l : List Br) : Prop := l.Pairwise fun a b => a.lt b = true
theorem insB_sorted {l : List Br} {b : Br} (h : BrSorted l) (hk : ∀ x ∈ l, x.key ≠ b.key) : BrSorted (insB l b) := by
  induction l with
  | nil => exact List.pairwise_singleton _ _
  | cons x l ih =>
    obtain ⟨h1, h2⟩ := List.pairwise_cons.1 h
    unfold insB
    by_cases hx : x.lt b = true
    · rw [List.takeWhile_cons_of_pos (p := fun y : Br => y.lt b) hx, List.dropWhile_cons_of_pos (p := fun y : Br => y.lt b) hx, List.cons_append]
      refine List.pairwise_cons.2 ⟨fun y hy => ?_, ih h2 (fun y hy => hk y (List.mem_cons_of_mem _ hy))⟩
      rcases List.mem_cons.1 ((insB_perm l b).mem_iff.1 hy) with rfl | hy
      · exact hx
      · exact h1 y hy
    · rw [List.takeWhile_cons_of_neg (p := fun y : Br => y.lt b) hx, List.dropWhile_cons_of_neg (p := fun y : Br => y.lt b) hx, List.nil_append]
      have hb : b.lt x = true := Br.lt_total (Bool.eq_false_iff.2 hx) (hk x List.mem_cons_self)
      refine List.pairwise_cons.2 ⟨fun y hy => ?_, h⟩
      rcases List.mem_cons.1 hy with rfl | hy
      · exact hb
      · exact Br.lt_trans hb (h1 y hy)
theorem foldl_insB_sorted : ∀ (l m : List Br), BrSorted m → ((m ++ l).map Br.key).Nodup → BrSorted (l.foldl insB m)
  | [], m, h, _ => h
  | b :: l, m, h, hn => by
    rw [List.foldl_cons]
    refine foldl_insB_sorted l (insB m b) (insB_sorted h fun x hx e => ?_) ?_
    · rw [List.map_append, List.map_cons] at hn
      exact (List.nodup_append.1 hn).2.2 _ (List.mem_map_of_mem hx) _ List.mem_cons_self e
    · have : ((insB m b) ++ l).Perm (m ++ b :: l) := ((insB_perm m b).append_right l).trans List.perm_middle.symm
      exact (this.map Br.key).nodup_iff.2 hn
theorem sortB_sorted {l : List Br} (h : (l.map Br.key).Nodup) : BrSorted (sortB l) := foldl_insB_sorted l [] List.Pairwise.nil (by simpa using h)
theorem sortB_eq {l m s : List Br} (hn : (l.map Br.key).Nodup) (hm : l.Perm m) (hs : s.Perm m) (h : s.Pairwise fun a b => b.lt a = false) : s = sortB l := by
  have hp : s.Perm (sortB l) := hs.trans (hm.symm.trans (sortB_perm l).symm)
  have hk : (s.map Br.key).Nodup := ((hs.trans hm.symm).map Br.key).nodup_iff.2 hn
  have hso : BrSorted (sortB l) := sortB_sorted hn
  refine List.Perm.eq_of_pairwise (le := fun a b => b.lt a = false) (fun a b ha hb h1 h2 => ?_) h (hso.imp fun {a b} hab => ?_) hp
  · by_cases e : a.key = b.key
    · have hb' : b ∈ s := hp.mem_iff.2 hb
      refine Classical.byContradiction fun hne => ?_
      have : ∀ {l : List Br}, (l.map Br.key).Nodup → ∀ {a b}, a ∈ l → b ∈ l → a.key = b.key → a = b := by
        intro l
        induction l with
        | nil => intro _ a b ha; cases ha
        | cons x l ih =>
          intro hn a b ha hb e
          rw [List.map_cons, List.nodup_cons] at hn
          rcases List.mem_cons.1 ha with e1 | ha1
          · rcases List.mem_cons.1 hb with e2 | hb1
            · rw [e1, e2]
            · exact absurd (by rw [← e1, e]; exact List.mem_map_of_mem hb1) hn.1
          · rcases List.mem_cons.1 hb with e2 | hb1
            · exact absurd (by rw [← e2, ← e]; exact List.mem_map_of_mem ha1) hn.1
            · exact ih hn.2 ha1 hb1 e
      exact hne (this hk ha hb' e)
    · have := Br.lt_total h2 e
      rw [h1] at this; cases this
  · cases hc : b.lt a with
    | false => rfl
    | true =>
      have := Br.lt_trans hab hc
      rw [Br.lt_irrefl] at this; cases this
/-- A use of a link for a frame. -/
structure UK where
  fl : Int
  fr : Int
  fm : Int
  tt : Int
deriving DecidableEq
def Us.k (u : Us) : UK := ⟨u.fl, u.fr, u.fm, u.tt⟩
def attK (a : Att) : UK := ⟨a.cl, a.f, a.cf, a.ct⟩
def UK.val (k : UK) : Value := .agg [.int .i64 k.fl, .int .i64 k.fr, .int .i64 k.fm, .int .i64 k.tt].toArray
def inK (k : UK) (a : Att) : Bool := k.fl == a.cl && k.fr == a.f && k.fm == a.cf && k.tt == a.ct
theorem inK_iff {k : UK} {a : Att} : inK k a = true ↔ attK a = k := by
  obtain ⟨x, y, z, t⟩ := k
  simp only [inK, attK, Bool.and_eq_true, beq_iff_eq, UK.mk.injEq, and_assoc]
  constructor
  · rintro ⟨rfl, rfl, rfl, rfl⟩; exact ⟨rfl, rfl, rfl, rfl⟩
  · rintro ⟨rfl, rfl, rfl, rfl⟩; exact ⟨rfl, rfl, rfl, rfl⟩
theorem inUse_k (u : Us) : inUse u = inK u.k := rfl
theorem UK.val_inj {k m : UK} (h : k.val = m.val) : k = m := by
  obtain ⟨a, b, c, d⟩ := k
  obtain ⟨a', b', c', d'⟩ := m
  simpa [UK.val] using h
theorem lossP_k (al : List Att) (k : UK) : lossP al k.fl k.fr k.fm k.tt = runsOf (al.filter (inK k)) := by
  rw [lossP_runs]
  unfold ofFrame
  rw [List.filter_filter]
  congr 1
  refine List.filter_congr fun a _ => ?_
  unfold inK linkB
  rw [Bool.eq_iff_iff]
  simp only [Bool.and_eq_true, beq_iff_eq]
  constructor
  · rintro ⟨⟨h1, h2⟩, h3, h4⟩; exact ⟨⟨⟨h3.symm, h4.symm⟩, h1.symm⟩, h2.symm⟩
  · rintro ⟨⟨⟨h3, h4⟩, h1⟩, h2⟩; exact ⟨⟨h1.symm, h2.symm⟩, h3.symm, h4.symm⟩
theorem lossP_part (al : List Att) (k : UK) : lossP (al.filter (inK k)) k.fl k.fr k.fm k.tt = lossP al k.fl k.fr k.fm k.tt := by
  rw [lossP_k, lossP_k, List.filter_filter]
  congr 1
  exact List.filter_congr fun a _ => by rw [Bool.and_self]
theorem runsOf_len : ∀ (n : Nat) (l : List Att), l.length ≤ n → (runsOf l).length ≤ l.length
  | _, [], _ => by rw [runsOf_nil]; exact Nat.le_refl _
  | 0, _ :: _, h => by cases h
  | n + 1, a :: l, h => by
    have h : l.length ≤ n := Nat.le_of_succ_le_succ h
    by_cases ho : a.o = 1
    · rw [runsOf_acked ho]
      have := runsOf_len n l h
      rw [List.length_cons]; omega
    · rw [runsOf_lost ho, List.length_cons, List.length_cons]
      have h1 := (List.dropWhile_sublist nonA (l := l)).length_le
      have := runsOf_len n _ (Nat.le_trans h1 h)
      omega
theorem runsOf_mem : ∀ (n : Nat) (l : List Att), l.length ≤ n → ∀ x ∈ runsOf l, x ≠ [] ∧ x.length ≤ l.length
  | _, [], _, x, hx => by rw [runsOf_nil] at hx; cases hx
  | 0, _ :: _, h, _, _ => by cases h
  | n + 1, a :: l, h, x, hx => by
    have h : l.length ≤ n := Nat.le_of_succ_le_succ h
    by_cases ho : a.o = 1
    · rw [runsOf_acked ho] at hx
      have := runsOf_mem n l h x hx
      rw [List.length_cons]; exact ⟨this.1, by omega⟩
    · rw [runsOf_lost ho] at hx
      rcases List.mem_cons.1 hx with rfl | hx
      · refine ⟨by simp, ?_⟩
        have h1 := (List.takeWhile_sublist nonA (l := l)).length_le
        rw [List.length_cons, List.length_map, List.length_cons]; omega
      · have h1 := (List.dropWhile_sublist nonA (l := l)).length_le
        have := runsOf_mem n _ (Nat.le_trans h1 h) x hx
        rw [List.length_cons]; exact ⟨this.1, by omega⟩
def lossOf (lk : List Lk) (a b : Int) : Int := (lossAt lk a b).getD 0
def overs (m : Int) (k : UK) (runs : List (List Int)) : List Br := (runs.filter fun x => decide (m < (x.length : Int))).map fun x => ⟨k.fl, k.fr, k.fm, k.tt, x.take (m + 1).toNat⟩
/-- The breaches of a use. -/
def brK (lk : List Lk) (al : List Att) (k : UK) : List Br := overs (lossOf lk k.fm k.tt) k (lossP al k.fl k.fr k.fm k.tt)
def Br.pv (b : Br) : List PV := [ip b.fl, ip b.fr, ip b.fm, ip b.tt, .sl 1 (b.sl.map fun x => [ip x])]
def brs (lk : List Lk) (al : List Att) (V : List UK) : List Br := V.flatMap (brK lk al)
def firstK (al : List Att) : List UK := (al.map attK).eraseDups
/-- All breaches, each use at its first attempt. -/
def brAll (lk : List Lk) (al : List Att) : List Br := brs lk al (firstK al)
theorem overs_len (m : Int) (k : UK) (l : List (List Int)) : (overs m k l).length ≤ l.length := by
  unfold overs
  rw [List.length_map]; exact List.length_filter_le _ _
theorem brK_len (lk : List Lk) (al : List Att) (k : UK) : (brK lk al k).length ≤ (al.filter (inK k)).length := by
  unfold brK
  refine Nat.le_trans (overs_len _ _ _) ?_
  rw [lossP_k]
  exact runsOf_len _ _ (Nat.le_refl _)
theorem len_split {α : Type} (p : α → Bool) : ∀ l : List α, l.length = (l.filter p).length + (l.filter fun a => !p a).length
  | [] => rfl
  | a :: l => by
    have := len_split p l
    cases h : p a with
    | true => rw [List.filter_cons_of_pos h, List.filter_cons_of_neg (by rw [h]; decide), List.length_cons, List.length_cons]; omega
    | false => rw [List.filter_cons_of_neg (by rw [h]; decide), List.filter_cons_of_pos (by rw [h]; rfl), List.length_cons, List.length_cons]; omega
theorem sum_inK : ∀ (V : List UK), V.Nodup → ∀ al : List Att, (V.map fun k => (al.filter (inK k)).length).sum ≤ al.length
  | [], _, _ => Nat.zero_le _
  | k :: V, h, al => by
    obtain ⟨h1, h2⟩ := List.nodup_cons.1 h
    rw [List.map_cons, List.sum_cons]
    have e : (V.map fun m => (al.filter (inK m)).length) = V.map fun m => ((al.filter fun a => !inK k a).filter (inK m)).length := by
      refine List.map_congr_left fun m hm => ?_
      rw [List.filter_filter]
      congr 1
      refine List.filter_congr fun a _ => ?_
      cases hb : inK m a with
      | false => rfl
      | true =>
        have : inK k a = false := by
          refine Bool.eq_false_iff.2 fun hk => ?_
          have e1 := inK_iff.1 hb
          have e2 := inK_iff.1 hk
          exact h1 (by rw [← e2, e1]; exact hm)
        rw [this]; rfl
    have h3 := sum_inK V h2 (al.filter fun a => !inK k a)
    have h4 : al.length = (al.filter (inK k)).length + (al.filter fun a => !inK k a).length := len_split _ _
    rw [e]; omega
theorem brs_len {lk : List Lk} {al : List Att} {V : List UK} (h : V.Nodup) : (brs lk al V).length ≤ al.length := by
  unfold brs
  rw [List.length_flatMap]
  refine Nat.le_trans ?_ (sum_inK V h al)
  clear h
  induction V with
  | nil => exact Nat.le_refl _
  | cons k V ih =>
    rw [List.map_cons, List.sum_cons, List.map_cons, List.sum_cons]
    exact Nat.add_le_add (brK_len lk al k) ih
theorem brs_snoc (lk : List Lk) (al : List Att) (V : List UK) (k : UK) : brs lk al (V ++ [k]) = brs lk al V ++ brK lk al k := by
  unfold brs
  rw [List.flatMap_append, List.flatMap_singleton]
theorem eraseDups_nodup {α : Type} [BEq α] [LawfulBEq α] : ∀ (n : Nat) (l : List α), l.length ≤ n → l.eraseDups.Nodup
  | _, [], _ => by simp [List.eraseDups_nil]
  | 0, _ :: _, h => by cases h
  | n + 1, a :: l, h => by
    rw [List.eraseDups_cons, List.nodup_cons]
    refine ⟨fun hm => ?_, eraseDups_nodup n _ (Nat.le_trans (List.length_filter_le _ _) (Nat.le_of_succ_le_succ h))⟩
    rw [List.mem_eraseDups, List.mem_filter] at hm
    simp at hm
theorem firstK_nodup (al : List Att) : (firstK al).Nodup := eraseDups_nodup _ _ (Nat.le_refl _)
theorem mem_firstK {al : List Att} {k : UK} : k ∈ firstK al ↔ ∃ a ∈ al, attK a = k := by
  unfold firstK
  rw [List.mem_eraseDups, List.mem_map]
theorem brs_perm {lk : List Lk} {al : List Att} {V : List UK} (h : V.Nodup) (hm : ∀ k, k ∈ V ↔ ∃ a ∈ al, attK a = k) : (brAll lk al).Perm (brs lk al V) :=
  ((List.perm_ext_iff_of_nodup (firstK_nodup al) h).2 fun k => by rw [mem_firstK, hm]).flatMap_right _
theorem overs_snoc {m : Int} {k : UK} {runs : List (List Int)} {j : Nat} {x : List Int} (hx : runs[j]? = some x) : overs m k (runs.take (j + 1)) = if m < (x.length : Int) then overs m k (runs.take j) ++ [⟨k.fl, k.fr, k.fm, k.tt, x.take (m + 1).toNat⟩] else overs m k (runs.take j) := by
  have hT : runs.take (j + 1) = runs.take j ++ [x] := by rw [List.take_add_one, hx]; rfl
  unfold overs
  rw [hT, List.filter_append]
  by_cases h : m < (x.length : Int)
  · rw [if_pos h, List.filter_cons_of_pos (by simpa using h), List.filter_nil, List.map_append]; rfl
  · rw [if_neg h, List.filter_cons_of_neg (by simpa using h), List.filter_nil, List.append_nil]
/-- The uses, all of them with attempts. -/
def UsesFull (lk : List Lk) (al : List Att) (k : Nat) (U : List Us) (G : Value → Option (DataW Unit)) : Prop := UsesOK lk al k U G ∧ ∀ u ∈ U, u.al ≠ []
theorem UsesFull.nil {lk : List Lk} {al : List Att} : UsesFull lk al 0 [] (fun _ => none) := ⟨UsesOK.nil, fun u hu => by cases hu⟩
theorem UsesFull.snoc {lk : List Lk} {al : List Att} {k : Nat} {U : List Us} {G : Value → Option (DataW Unit)} {a b c d : Int} {g : Nat} {l : List Att} {x : Att} (h : UsesOK lk al k (⟨a, b, c, d, g, l ++ [x]⟩ :: dropU g U) G) (hf : ∀ u ∈ U, u.al ≠ []) : UsesFull lk al k (⟨a, b, c, d, g, l ++ [x]⟩ :: dropU g U) G :=
  ⟨h, fun u hu => by
    rcases List.mem_cons.1 hu with rfl | hu
    · simp
    · exact hf u (mem_dropU.1 hu).1⟩
/-- The keys of the map. -/
theorem UsesFull.keys_iff {lk : List Lk} {al : List Att} {U : List Us} {G : Value → Option (DataW Unit)} (h : UsesFull lk al al.length U G) (k : UK) : (G k.val).isSome = true ↔ ∃ a ∈ al, attK a = k := by
  have h1 : G k.val = _ := h.1.map k.fl k.fr k.fm k.tt
  rw [h1, Option.isSome_map]
  constructor
  · intro hs
    obtain ⟨u, hu⟩ := Option.isSome_iff_exists.1 hs
    have hm : u ∈ U := List.mem_of_find?_eq_some hu
    have hk : u.key k.fl k.fr k.fm k.tt = true := List.find?_some (p := fun u : Us => u.key k.fl k.fr k.fm k.tt) hu
    have hne := h.2 u hm
    have ha := h.1.att u hm
    rw [List.take_length] at ha
    cases hl : u.al with
    | nil => exact absurd hl hne
    | cons a l =>
      have : a ∈ al.filter (inUse u) := by rw [← ha, hl]; exact List.mem_cons_self
      obtain ⟨m1, m2⟩ := List.mem_filter.1 this
      refine ⟨a, m1, ?_⟩
      rw [inUse_k, inK_iff] at m2
      rw [m2]
      obtain ⟨q1, q2, q3, q4⟩ := key_iff.1 hk
      obtain ⟨x, y, z, t⟩ := k
      simp only [Us.k, UK.mk.injEq]
      exact ⟨q1, q2, q3, q4⟩
  · rintro ⟨a, ha, rfl⟩
    exact h.1.cover a (by rw [List.take_length]; exact ha)
theorem UsesFull.val {lk : List Lk} {al : List Att} {U : List Us} {G : Value → Option (DataW Unit)} (h : UsesFull lk al al.length U G) {k : UK} {g : Nat} (hg : G k.val = some (.lit (.int .i64 (g : Int)))) : ∃ u ∈ U, u.g = g ∧ u.k = k ∧ u.al = al.filter (inK k) := by
  obtain ⟨u, hu, hg, hat⟩ := h.1.at hg
  have hk : u.key k.fl k.fr k.fm k.tt = true := List.find?_some (p := fun u : Us => u.key k.fl k.fr k.fm k.tt) hat
  obtain ⟨q1, q2, q3, q4⟩ := key_iff.1 hk
  have e : u.k = k := by
    obtain ⟨x, y, z, t⟩ := k
    simp only [Us.k, UK.mk.injEq]
    exact ⟨q1, q2, q3, q4⟩
  refine ⟨u, hu, hg, e, ?_⟩
  have ha := h.1.att u hu
  rw [List.take_length, inUse_k, e] at ha
  exact ha
/-- What Breaches computes. -/
def breachesP (n : Net) (r : Rec) : List Br × Int := if chkN n ≠ 0 ∨ good r = false then ([], 1) else if r.al.any (fun a => (lossAt n.lk a.cf a.ct).isNone) then ([], 7) else (sortB (brAll n.lk r.al), 0)
end Go.Proofs.Ytkdigdnacggknaa
/- Breaches: what the end of the walk needs. -/
namespace Go.Proofs.Ytkdigdnacggknaa
open Go.RowKit
open Nd Rc Mo
open Av
set_option maxRecDepth 100000
set_option linter.unusedSimpArgs false
open Go.Maps
theorem fnOK_args {P : Program} {f : FuncId} {args args' : List AV} {res : FRes} (h : FnOK P f args' res) (ha : ∀ R us, RepAL R args us → RepAL R args' us) : FnOK P f args res := ⟨h.1, fun w R hR us hus => h.2 w R hR us (ha R us hus)⟩
/-- The losses of a record that has attempts alone. -/
theorem lossesN_ok (s : Int) (al : List Att) (fl fr a b : Int) (hla : al.length ≤ 1000000) : FnOK Try.prog 51 [.agg [ip s, .sl 8 (al.map Att.pv), .v (.slice none 0 0)], iv fl, iv fr, iv a, iv b] ⟨.sl 1 ((lossP al fl fr a b).map runPv), none⟩ :=
  fnOK_args (losses_ok ⟨s, al, []⟩ fl fr a b hla) fun R us hus => by
    cases hus with | cons h0 hx hus =>
    refine .cons ?_ hx hus
    obtain ⟨vs, e, hv⟩ := h0
    refine ⟨vs, e, ?_⟩
    cases hv with | cons g0 hv =>
    cases hv with | cons g1 hv =>
    cases hv with | cons g2 hv =>
    cases hv
    refine .cons g0 (.cons g1 (.cons ?_ .nil))
    cases g2
    exact .sl 3 [] none 0 (fun _ _ => undef) (fun k row hk => by cases hk) (.inl rfl) (fun k row j p hk => by cases hk) (Nat.le_refl _)
theorem lossAt_mem {l : List Lk} {a b x : Int} (h : lossAt l a b = some x) : ∃ y ∈ l, y.ls = x := by
  unfold lossAt at h
  cases hf : l.reverse.find? (fun x => x.fr == a && x.tt == b) with
  | none => rw [hf] at h; cases h
  | some y =>
    rw [hf] at h
    exact ⟨y, List.mem_reverse.1 (List.mem_of_find?_eq_some hf), Option.some.inj h⟩
/-- The entry to which the loop has come; the frame holds it otherwise then. -/
theorem hand_entry_ext {P : Program} {n d : Nat} {σ : St} {o : Oper} {K : St → Prop} {it : Operand} {r : Nat} {xs : List Value} {v : Value} {E : Ext} (ho : o.op = .entry it) (hd : o.dst = some d) (hdn : d < n) (hm : evo (Av.look σ.slot) it = some (.v (.pointer (some ⟨r, 0, none⟩)))) (hE : ∀ w, σ.ext.holds w → (Instr.entry (.pointer (some ⟨r, 0, none⟩))).run P w = .ok (.tuple #[.agg xs.toArray, v]) w)
    (hx1 : ∀ x ∈ xs, x.oneCell' = true) (hv1 : v.oneCell' = true) (hT : ∀ w, (∀ b, σ.ext.all b → b < w.heap.size) → σ.ext.holds w → Turn σ.ext w w E) (h : K (({ σ with ext := E } : St).put d (.tup [.g (xs.map PV.v), .c (.v v)]))) : Hand P n σ o K := by
  refine hand_value hd hdn fun F γ a w _ hr => ?_
  have e1 := eval_raw hr hm
  refine ⟨.tup [.g (xs.map PV.v), .c (.v v)], .tuple #[.agg xs.toArray, v], w, E, ?_, hT w (fun b hb => (hr.extf b hb).2.1) hr.exth, ⟨[_, _], rfl, .cons (.g (rep_of_ints hx1)) (.cons (.c (.v _ hv1)) .nil)⟩, (fun k hk => by cases hk), h⟩
  have hen := hE w hr.exth
  simp [execOp, ho, e1, hen]
theorem Turn.stepped {P : Program} {k : TypeId} {R : MReader} {b r n cnt : Nat} {G : Value → Option (DataW Unit)} {S : Value → Prop} {key v : Value} {w : World} (h : (stepE P k R b r n G S cnt key v).holds w) : Turn (stepE P k R b r n G S cnt key v) w w (rangeE P k R b r n G S cnt) := Turn.same h.1 (fun _ h => h) (fun _ h => .inr h)
/-- A slot that holds a box's address points into the box. -/
theorem awp_ref {P : Program} {F : Fr} {σ : St} {c : Code} {Q : AX → St → Prop} (t g : Nat) (ht : t < F.n) (hs : Av.look σ.slot t = some (.v (.pointer (some ⟨g, 0, none⟩)))) (hb : (Av.look σ.box (g + 1000000)).isSome = true) (h : AWp P F c Q (σ.put t (.ref (g + 1000000) 0))) : AWp P F c Q σ :=
  awp_slot t _ ht (fun γ a w hr => ⟨by
    rw [hr.val hs]
    show _ = Value.pointer _
    rw [hr.dyn _ hb (by omega)]
    simp, fun k hk => by simp [AV.refs] at hk; subst hk; exact hb⟩) h
theorem runs_of_len {al : List Att} {k : UK} {j : Nat} {x : List Int} (hx : (lossP al k.fl k.fr k.fm k.tt)[j]? = some x) : x.length ≤ al.length := by
  rw [lossP_k] at hx
  exact Nat.le_trans (runsOf_mem _ _ (Nat.le_refl _) x (List.mem_of_getElem? hx)).2 (List.length_filter_le _ _)
theorem overs_len_al {al : List Att} {V : List UK} {lk : List Lk} {k : UK} {m : Int} {j : Nat} (hV : V.Nodup) (hk : k ∉ V) : (brs lk al V ++ overs m k ((lossP al k.fl k.fr k.fm k.tt).take j)).length ≤ al.length := by
  have h1 : (brs lk al V).length + (lossP al k.fl k.fr k.fm k.tt).length ≤ al.length := by
    have h2 := sum_inK (k :: V) (List.nodup_cons.2 ⟨hk, hV⟩) al
    have h3 : (brs lk al V).length ≤ (V.map fun k => (al.filter (inK k)).length).sum := by
      unfold brs
      rw [List.length_flatMap]
      clear h2 hk hV
      induction V with
      | nil => exact Nat.le_refl _
      | cons k V ih =>
        rw [List.map_cons, List.sum_cons, List.map_cons, List.sum_cons]
        exact Nat.add_le_add (brK_len lk al k) ih
    have h4 : (lossP al k.fl k.fr k.fm k.tt).length ≤ (al.filter (inK k)).length := by
      rw [lossP_k]; exact runsOf_len _ _ (Nat.le_refl _)
    rw [List.map_cons, List.sum_cons] at h2
    omega
  have h5 := overs_len m k ((lossP al k.fl k.fr k.fm k.tt).take j)
  have h6 : ((lossP al k.fl k.fr k.fm k.tt).take j).length ≤ (lossP al k.fl k.fr k.fm k.tt).length := by rw [List.length_take]; omega
  rw [List.length_append]; omega
/-- The sort that ends the walk: whatever list it comes to. -/
def SortHand (L : List Br) : Prop := ∀ (σ : Av.St) (o : Oper) (K : Av.St → Prop), o.op = .call { callee := .value (.func 53), args := #[.tmp 157, .func 54], argTypes := #[46, 112] } → o.dst = some 158 →
  Av.look σ.slot 157 = some (.sl 5 (L.map Br.pv)) → Av.look σ.slot 15 = some (.sl 5 (L.map Br.pv)) → Av.lookL σ.own (.s 15) = some (70, 5) → Av.look σ.slot 4 = some (.v (.slice none 0 0)) → Av.look σ.slot 5 = some (.v (.int .i64 0)) →
  K ⟨[(158, .tup []), (15, .sl 5 ((sortB L).map Br.pv)), (5, .v (.int .i64 0)), (4, .v (.slice none 0 0))], [], [], Ext.nil⟩ → Hand Try.prog 160 σ o K
end Go.Proofs.Ytkdigdnacggknaa

import Derived.Test.YtkdigdnacggknaaZChk
import Derived.Test.YtkdigdnacggknaaZFloat
import Derived.Test.YtkdigdnacggknaaZPure
/- Walks: in, attempt, keys, less of the reference. -/
namespace Go.Proofs.Ytkdigdnacggknaa
open Go.RowKit
open Rc

theorem in_any (n lo hi : Int) (w : World) : Calls Try.prog 83 #[.int .i64 n, .int .i64 lo, .int .i64 hi] w fun e w' => e = .returned (.bool (inB n lo hi)) ∧ w = w' := by
  go_enter Try.func83, Try.ntmps83
  by_cases h : lo ≤ n
  · go_wp2
    go_ret
    simp [h, inB]
  · go_wp2
    go_ret
    simp [inB]; omega

set_option maxHeartbeats 1000000 in
theorem rattempt_any (slots : Int) (x1 x2 : Value) (a : Att) (w : World) (h0 : 0 ≤ slots) (h1 : slots ≤ 4096) : Calls Try.prog 84 #[.agg #[.int .i64 slots, x1, x2], .agg #[.int .i64 a.s, .int .i64 a.f, .int .i64 a.cs, .int .i64 a.co, .int .i64 a.cf, .int .i64 a.ct, .int .i64 a.cl, .int .i64 a.o]] w fun e w' => e = .returned (.bool (attR slots a)) ∧ Below w.heap.size w w' := by
  obtain ⟨s, f, cs, co, cf, ct, cl, o⟩ := a
  go_enter Try.func84, Try.ntmps84
  go_wp2_with (go_at_call 83; refine (in_any _ _ _ _).mono ?_; rintro e w' ⟨rfl, rfl⟩)
  all_goals
    go_ret
    exact ⟨ret_bool (by first | (simp [attR, *]; done) | (simp [attR, bne, *]; done)), by repeat (first | exact Below.refl _ _ | refine Below.alloc ?_ (by simp; try omega) _ )⟩

theorem keys_any (a : Att) (w : World) : Calls Try.prog 111 #[.agg #[.int .i64 a.s, .int .i64 a.f, .int .i64 a.cs, .int .i64 a.co, .int .i64 a.cf, .int .i64 a.ct, .int .i64 a.cl, .int .i64 a.o]] w fun e w' => e = .returned (.agg #[.int .i64 a.s, .int .i64 a.cs, .int .i64 a.co, .int .i64 a.cf, .int .i64 a.ct, .int .i64 a.cl]) ∧ Below w.heap.size w w' := by
  obtain ⟨s, f, cs, co, cf, ct, cl, o⟩ := a
  go_enter Try.func111, Try.ntmps111
  go_wp2
  exact bodyPost_ret (v := .agg #[.int .i64 s, .int .i64 cs, .int .i64 co, .int .i64 cf, .int .i64 ct, .int .i64 cl]) (by simp [results, Try.results111, go_sem]) rfl ⟨rfl, ((Below.refl _ _).alloc (Nat.le_refl _) _).alloc (by simp) _⟩

def fl50 : Nat → Option (Tmp × Obj)
  | 4 => some (5, .cells #[.int .i64 0, .int .i64 0, .int .i64 0, .int .i64 0, .int .i64 0, .int .i64 0] 152)
  | 5 => some (6, .cells #[.int .i64 0, .int .i64 0, .int .i64 0, .int .i64 0, .int .i64 0, .int .i64 0] 152)
  | _ => none
set_option maxRecDepth 100000 in
set_option maxHeartbeats 2000000 in
theorem less_any (x y : Att) (w : World) : Calls Try.prog 85 #[.agg #[.int .i64 x.s, .int .i64 x.f, .int .i64 x.cs, .int .i64 x.co, .int .i64 x.cf, .int .i64 x.ct, .int .i64 x.cl, .int .i64 x.o], .agg #[.int .i64 y.s, .int .i64 y.f, .int .i64 y.cs, .int .i64 y.co, .int .i64 y.cf, .int .i64 y.ct, .int .i64 y.cl, .int .i64 y.o]] w
    fun e w' => e = .returned (.bool (lessA x y)) ∧ Below w.heap.size w w' := by
  have kx := fun W => keys_any x W
  have ky := fun W => keys_any y W
  have Kx := Lib.hid kx
  have Ky := Lib.hid ky
  clear kx ky
  go_enter Try.func85, Try.ntmps85
  go_upto_region 1 with fail
  generalize hW1 : World.alloc _ _ = W1
  have hb1 : Below w.heap.size w W1 := by rw [← hW1]; exact ((Below.refl _ _).alloc (Nat.le_refl _) _).alloc (by simp) _
  have r2 : Row W1 w.heap.size [.int .i64 x.s, .int .i64 x.f, .int .i64 x.cs, .int .i64 x.co, .int .i64 x.cf, .int .i64 x.ct, .int .i64 x.cl, .int .i64 x.o] := by rw [← hW1]; exact (Row.new _ _ _).alloc (by simp) _
  have r3 : Row W1 (w.heap.size + 1) [.int .i64 y.s, .int .i64 y.f, .int .i64 y.cs, .int .i64 y.co, .int .i64 y.cf, .int .i64 y.ct, .int .i64 y.cl, .int .i64 y.o] := by rw [← hW1]; exact Row.new' _ _ (by simp)
  have hz1 : w.heap.size + 2 ≤ W1.heap.size := by rw [← hW1]; simp
  clear hW1
  go_cut [5, 6] (fun s5 s6 W => ∃ g5 g6 : Nat, s5 = .pointer (some ⟨g5, 0, none⟩) ∧ s6 = .pointer (some ⟨g6, 0, none⟩) ∧ Below W1.heap.size W1 W ∧ Row W g5 [.int .i64 x.s, .int .i64 x.cs, .int .i64 x.co, .int .i64 x.cf, .int .i64 x.ct, .int .i64 x.cl] ∧ Row W g6 [.int .i64 y.s, .int .i64 y.cs, .int .i64 y.co, .int .i64 y.cf, .int .i64 y.ct, .int .i64 y.cl])
  case first =>
    have c2 := r2
    have c3 := r3
    unfold Row at c2 c3
    --GEN
    have x2 : ∀ (x : ExtW W1.heap.size W1.drew) (i : Nat), x.val.cell? ⟨w.heap.size, i, none⟩ = _ := (r2.drew).ext (by omega)
    have x3 : ∀ (x : ExtW W1.heap.size W1.drew) (i : Nat), x.val.cell? ⟨w.heap.size + 1, i, none⟩ = _ := (r3.drew).ext (by omega)
    refine wp_region_float (W1.heap.size) 6 #[false, false, false, false, false, false, false, false] fl50 (by kernel_rfl) (Nat.le_refl _) ⟨by kernel_rfl, by kernel_rfl, by kernel_rfl, by decide, fun i d ob h => by unfold fl50 at h; split at h <;> first | (cases h; exact ⟨_, rfl, rfl, rfl, fun _ _ => by kernel_rfl⟩) | cases h⟩ rfl ?_; intro Hok
    refine FS_plain 0 _ (nth0) rfl Hok (by kernel_rfl) (by kernel_rfl) (l' := #[true, false, false, false, false, false, false, false]) rfl rfl (by decide) rfl ?_; intro K hK; go_big_quiet_op; go_big_quiet_on
    refine FS_call 1 _ (nthS (nth0)) Hok (Nat.le_refl _) (by kernel_rfl) (by kernel_rfl) (l' := #[true, true, false, false, false, false, false, false]) rfl rfl (by decide) rfl (fun _ => by kernel_rfl) (fun x => Kx.out x.val) ?_; simp only [Act.put, List.setIfInBounds_toArray, List.set_cons_succ, List.set_cons_zero]
    refine FS_plain 2 _ (nthS (nthS (nth0))) rfl Hok (by kernel_rfl) (by kernel_rfl) (l' := #[true, true, true, false, false, false, false, false]) rfl rfl (by decide) rfl ?_; intro K hK; go_big_quiet_op; go_big_quiet_on
    refine FS_call 3 _ (nthS (nthS (nthS (nth0)))) Hok (Nat.le_refl _) (by kernel_rfl) (by kernel_rfl) (l' := #[true, true, true, true, false, false, false, false]) rfl rfl (by decide) rfl (fun _ => by kernel_rfl) (fun x => Ky.out x.val) ?_; simp only [Act.put, List.setIfInBounds_toArray, List.set_cons_succ, List.set_cons_zero]
    refine FS_float2 4 5 5 6 _ _ (by kernel_rfl) (l1 := #[true, true, true, true, true, false, false, false]) (l2 := #[true, true, true, true, false, true, false, false]) rfl rfl rfl rfl (by decide) (by decide) ?_ ?_
    · intro g5 hg5 _
      refine FS_float 5 6 _ (by kernel_rfl) (l' := #[true, true, true, true, true, true, false, false]) rfl rfl (by decide) ?_
      intro g6 hg6 hne
      refine FS_end (by kernel_rfl) ?_
      intro W hW hG
      simp only [Act.put, List.setIfInBounds_toArray, List.set_cons_succ, List.set_cons_zero, List.drop_succ_cons, List.drop_zero]
      have b5 : Blk W g5 152 [.int .i64 0, .int .i64 0, .int .i64 0, .int .i64 0, .int .i64 0, .int .i64 0] := hG _ _ (by simp)
      have b6 : Blk W g6 152 [.int .i64 0, .int .i64 0, .int .i64 0, .int .i64 0, .int .i64 0, .int .i64 0] := hG _ _ (by simp)
      have hne' : g5 ≠ g6 := by exact fun h => hne g5 _ (List.mem_cons_self) h.symm
      clear hne hG Hok x2 x3 c2 c3
      have e5 := b5.row
      have e6 := b6.row
      have q5 := b5.frozen
      have q6 := b6.frozen
      unfold Row at e5 e6
      have hne2 : ¬ g6 = g5 := fun h => hne' h.symm
      go_wp2_with fail
      go_meet
      exact ⟨g5, g6, rfl, rfl, (((((((((((((((Below.refl _ _).drew).trans hW).setCell (p := ⟨_, 0, none⟩) hg5 _).setCell (p := ⟨_, 1, none⟩) hg5 _).setCell (p := ⟨_, 2, none⟩) hg5 _).setCell (p := ⟨_, 3, none⟩) hg5 _).setCell (p := ⟨_, 4, none⟩) hg5 _).setCell (p := ⟨_, 5, none⟩) hg5 _).setCell (p := ⟨_, 0, none⟩) hg6 _).setCell (p := ⟨_, 1, none⟩) hg6 _).setCell (p := ⟨_, 2, none⟩) hg6 _).setCell (p := ⟨_, 3, none⟩) hg6 _).setCell (p := ⟨_, 4, none⟩) hg6 _).setCell (p := ⟨_, 5, none⟩) hg6 _), ((((((((((((b5.set_ 0 _).set_ 1 _).set_ 2 _).set_ 3 _).set_ 4 _).set_ 5 _).far (p := ⟨_, 0, none⟩) hne' _).far (p := ⟨_, 1, none⟩) hne' _).far (p := ⟨_, 2, none⟩) hne' _).far (p := ⟨_, 3, none⟩) hne' _).far (p := ⟨_, 4, none⟩) hne' _).far (p := ⟨_, 5, none⟩) hne' _).row, ((((((((((((b6.far (p := ⟨_, 0, none⟩) hne2 _).far (p := ⟨_, 1, none⟩) hne2 _).far (p := ⟨_, 2, none⟩) hne2 _).far (p := ⟨_, 3, none⟩) hne2 _).far (p := ⟨_, 4, none⟩) hne2 _).far (p := ⟨_, 5, none⟩) hne2 _).set_ 0 _).set_ 1 _).set_ 2 _).set_ 3 _).set_ 4 _).set_ 5 _).row⟩
    · intro g6 hg6 _
      refine FS_float 4 5 _ (by kernel_rfl) (l' := #[true, true, true, true, true, true, false, false]) rfl rfl (by decide) ?_
      intro g5 hg5 hne
      refine FS_end (by kernel_rfl) ?_
      intro W hW hG
      simp only [Act.put, List.setIfInBounds_toArray, List.set_cons_succ, List.set_cons_zero, List.drop_succ_cons, List.drop_zero]
      have b5 : Blk W g5 152 [.int .i64 0, .int .i64 0, .int .i64 0, .int .i64 0, .int .i64 0, .int .i64 0] := hG _ _ (by simp)
      have b6 : Blk W g6 152 [.int .i64 0, .int .i64 0, .int .i64 0, .int .i64 0, .int .i64 0, .int .i64 0] := hG _ _ (by simp)
      have hne' : g5 ≠ g6 := by exact hne g6 _ (List.mem_cons_self)
      clear hne hG Hok x2 x3 c2 c3
      have e5 := b5.row
      have e6 := b6.row
      have q5 := b5.frozen
      have q6 := b6.frozen
      unfold Row at e5 e6
      have hne2 : ¬ g6 = g5 := fun h => hne' h.symm
      go_wp2_with fail
      go_meet
      exact ⟨g5, g6, rfl, rfl, (((((((((((((((Below.refl _ _).drew).trans hW).setCell (p := ⟨_, 0, none⟩) hg5 _).setCell (p := ⟨_, 1, none⟩) hg5 _).setCell (p := ⟨_, 2, none⟩) hg5 _).setCell (p := ⟨_, 3, none⟩) hg5 _).setCell (p := ⟨_, 4, none⟩) hg5 _).setCell (p := ⟨_, 5, none⟩) hg5 _).setCell (p := ⟨_, 0, none⟩) hg6 _).setCell (p := ⟨_, 1, none⟩) hg6 _).setCell (p := ⟨_, 2, none⟩) hg6 _).setCell (p := ⟨_, 3, none⟩) hg6 _).setCell (p := ⟨_, 4, none⟩) hg6 _).setCell (p := ⟨_, 5, none⟩) hg6 _), ((((((((((((b5.set_ 0 _).set_ 1 _).set_ 2 _).set_ 3 _).set_ 4 _).set_ 5 _).far (p := ⟨_, 0, none⟩) hne' _).far (p := ⟨_, 1, none⟩) hne' _).far (p := ⟨_, 2, none⟩) hne' _).far (p := ⟨_, 3, none⟩) hne' _).far (p := ⟨_, 4, none⟩) hne' _).far (p := ⟨_, 5, none⟩) hne' _).row, ((((((((((((b6.far (p := ⟨_, 0, none⟩) hne2 _).far (p := ⟨_, 1, none⟩) hne2 _).far (p := ⟨_, 2, none⟩) hne2 _).far (p := ⟨_, 3, none⟩) hne2 _).far (p := ⟨_, 4, none⟩) hne2 _).far (p := ⟨_, 5, none⟩) hne2 _).set_ 0 _).set_ 1 _).set_ 2 _).set_ 3 _).set_ 4 _).set_ 5 _).row⟩
  case rest =>
    obtain ⟨g5, g6, rfl, rfl, hb2, r5, r6⟩ := hcut
    have q5 : ∀ k v, (keysA x)[k]? = some v → wc.cell? ⟨g5, k, none⟩ = some (.int .i64 v) := fun k v hv => (r5 k).trans (ints_get hv)
    have q6 : ∀ k v, (keysA y)[k]? = some v → wc.cell? ⟨g6, k, none⟩ = some (.int .i64 v) := fun k v hv => (r6 k).trans (ints_get hv)
    have Q5 := Lib.hid q5
    have Q6 := Lib.hid q6
    have hbw : Below w.heap.size w wc := hb1.trans (hb2.mono (by omega))
    clear q5 q6 r5 r6 r2 r3
    go_wp2_with fail
    go_loopw [4, 7] (fun s4 i wr => ∃ (k m : Nat), k ≤ 6 ∧ i = .int .i64 k ∧ s4 = .bool false ∧ wr = wc.drewN m ∧ Hid (lessA x y = lessL ((keysA x).drop k) ((keysA y).drop k))) (fun _ i _ => 6 - (intOf i).toNat)
    case atStart => exact ⟨0, 0, by omega, rfl, rfl, rfl, Lib.hid rfl⟩
    case round =>
      obtain ⟨k, m, hk, rfl, rfl, rfl, hst⟩ := hrel
      by_cases hlt : k < 6
      · obtain ⟨vx, hx⟩ := get_of_lt (l := keysA x) (k := k) (by simpa [keysA] using hlt)
        obtain ⟨vy, hy⟩ := get_of_lt (l := keysA y) (k := k) (by simpa [keysA] using hlt)
        have cx := Q5.out k vx hx
        have cy := Q6.out k vy hy
        have hst' := hst.out
        rw [drop_of_get hx, drop_of_get hy] at hst'
        simp only [lessL] at hst'
        have hki : (k : Int) < 6 := by omega
        by_cases he : vx = vy
        · rw [if_pos he] at hst'
          have hf := Lib.hid hst'
          clear hst' hx hy
          subst he
          go_wp2_with fail
          go_quiet (fail)
          go_wp2_with fail
          go_roundw
          case rel => exact ⟨k + 1, m + nq, by omega, by go_num, rfl, by simp, hf⟩
          case measure => simp [intOf]; omega
        · rw [if_neg he] at hst'
          have hf := Lib.hid hst'
          have hne : (vx == vy) = false := by simpa using he
          have hne2 : (vx != vy) = true := by simpa using he
          clear hst' hx hy
          go_wp2_with fail
          go_quiet (fail)
          go_wp2_with fail
          go_quiet (fail)
          go_wp2_with fail
          go_ret
          exact ⟨ret_bool (by rw [hf.out]), below_drewN (below_drewN (below_drewN hbw _) _) _⟩
      · have hk6 : k = 6 := by omega
        subst hk6
        go_wp2_with fail
        go_ret
        exact ⟨ret_bool (by rw [hst.out]; simp [keysA, lessL]), below_drewN hbw _⟩

end Go.Proofs.Ytkdigdnacggknaa
/- The reference's Check, in plain Lean. -/
namespace Go.Proofs.Ytkdigdnacggknaa
namespace Rc

def notLess (rev : List Att) (a : Att) : Bool :=
  match rev with
  | p :: _ => !lessA p a
  | [] => false
def sameFrom : List Att → Att → Bool
  | [], _ => false
  | p :: r, a => if p.s = a.s then (if p.cf = a.cf then true else sameFrom r a) else false
def attsRGo (slots : Int) : List Att → List Att → Bool
  | _, [] => true
  | rev, a :: l => if (!attR slots a || notLess rev a) = true then false else if sameFrom rev a = true then false else attsRGo slots (a :: rev) l
def dlvR (slots : Int) (d : Dlv) : Bool := inB d.sl 0 (slots - 1) && (inB d.fl 0 255 && inB d.fr 0 1048575)
def backD (p d : Dlv) : Bool := decide (d.sl < p.sl) || ((d.sl == p.sl) && decide (d.fl ≤ p.fl))
def backO (p : Option Dlv) (d : Dlv) : Bool :=
  match p with
  | some q => backD q d
  | none => false
def dlvsRGo (slots : Int) : Option Dlv → List Dlv → Bool
  | _, [] => true
  | p, d :: l => if dlvR slots d = false then false else if backO p d = true then false else dlvsRGo slots (some d) l
def goodR (r : Rec) : Bool := inB r.slots 0 4096 && (decide (r.al.length ≤ 65536) && (decide (r.dl.length ≤ 65536) && (attsRGo r.slots [] r.al && dlvsRGo r.slots none r.dl)))
def rcheckE (r : Rec) : Int := if goodR r then 0 else 1

/-! ### the two agree -/
theorem belowB_inB (n m : Int) : belowB n m = inB n 0 (m - 1) := by
  unfold belowB inB
  congr 1
  rw [Bool.eq_iff_iff]; simp; omega

theorem attB_attR (a : Att) (slots : Int) : attB a slots = attR slots a := by
  unfold attB attR
  simp only [belowB_inB]
  simp [inB]

theorem lessL_orI : ∀ (xs ys : List Int), xs.length = ys.length → lessL xs ys = decide (orI (List.zipWith cmpI xs ys) < 0)
  | [], [], _ => by simp [lessL, orI]
  | x :: xs, y :: ys, h => by
    have ih := lessL_orI xs ys (by simpa using h)
    simp only [lessL, List.zipWith_cons_cons, orI]
    by_cases hxy : x = y
    · subst hxy
      simp [cmpI, ih]
    · rw [if_neg hxy]
      unfold cmpI
      by_cases h1 : x < y
      · simp [h1]
      · have h2 : y < x := by omega
        simp [h1, h2]

theorem lessA_cmpA (p a : Att) : lessA p a = decide (cmpA p a < 0) := lessL_orI _ _ rfl

theorem prevBad_notLess (rev : List Att) (a : Att) : prevBad rev.head? a = notLess rev a := by
  cases rev with
  | nil => rfl
  | cons p r =>
    simp only [prevBad, notLess, List.head?_cons, lessA_cmpA]
    rw [Bool.eq_iff_iff]; simp

/-- the senders of the slot of the last attempt -/
def sendersOf : List Att → Int → List Int
  | [], _ => []
  | p :: r, s => if p.s = s then p.cf :: sendersOf r s else []

theorem sameFrom_senders : ∀ (rev : List Att) (a : Att), sameFrom rev a = decide (a.cf ∈ sendersOf rev a.s)
  | [], a => by simp [sameFrom, sendersOf]
  | p :: r, a => by
    have ih := sameFrom_senders r a
    rw [Bool.eq_iff_iff] at ih ⊢
    rw [decide_eq_true_iff] at ih ⊢
    by_cases h : p.s = a.s
    · have hs : sendersOf (p :: r) a.s = p.cf :: sendersOf r a.s := by simp [sendersOf, h]
      rw [hs]
      simp only [sameFrom, h, if_true, List.mem_cons]
      by_cases h2 : p.cf = a.cf
      · simp [h2]
      · have : ¬ a.cf = p.cf := fun e => h2 e.symm
        simp [h2, this, ih]
    · have hs : sendersOf (p :: r) a.s = [] := by simp [sendersOf, h]
      rw [hs]
      simp [sameFrom, h]

theorem attsGo_attsRGo (slots : Int) : ∀ (l rev : List Att) (S : List Int) (at_ : Int), S = sendersOf rev at_ → (∀ p, rev.head? = some p → p.s = at_) → (rev = [] → ∀ a, attB a slots = true → a.s ≠ at_) →
    attsGo slots rev.head? S at_ l = attsRGo slots rev l
  | [], _, _, _, _, _, _ => by simp [attsGo, attsRGo]
  | a :: l, rev, S, at_, hS, hat, hno => by
    simp only [attsGo, attsRGo]
    rw [prevBad_notLess, attB_attR]
    by_cases hb : (!attR slots a || notLess rev a) = true
    · rw [if_pos hb, if_pos hb]
    · rw [if_neg hb, if_neg hb]
      have hga : attB a slots = true := by
        rw [attB_attR]
        revert hb
        cases attR slots a <;> simp
      by_cases hs : a.s = at_
      · subst hs
        rw [if_pos rfl, sameFrom_senders, hS]
        by_cases hin : a.cf ∈ sendersOf rev a.s
        · simp [hin]
        · simp only [hin, if_false, decide_false, Bool.false_eq_true]
          exact attsGo_attsRGo slots l (a :: rev) _ _ (by simp [sendersOf]) (by simp) (by simp)
      · rw [if_neg hs]
        have hsf : sameFrom rev a = false := by
          rw [sameFrom_senders]
          cases rev with
          | nil => simp [sendersOf]
          | cons p r =>
            have : ¬ p.s = a.s := by rw [hat p rfl]; exact fun e => hs e.symm
            simp [sendersOf, this]
        rw [hsf]
        simp only [Bool.false_eq_true, if_false]
        refine attsGo_attsRGo slots l (a :: rev) _ _ ?_ (by simp) (by simp)
        cases rev with
        | nil => simp [sendersOf]
        | cons p r =>
          have : ¬ p.s = a.s := by rw [hat p rfl]; exact fun e => hs e.symm
          simp [sendersOf, this]

theorem attB_slot {a : Att} {slots : Int} (h : attB a slots = true) : a.s ≠ -1 := by
  simp [attB, belowB] at h
  omega

theorem attsB_attsR (l : List Att) (slots : Int) : attsB l slots = attsRGo slots [] l :=
  attsGo_attsRGo slots l [] [] (-1) rfl (by simp) (fun _ _ h => attB_slot h)

theorem dlvB_dlvR (d : Dlv) (slots : Int) : dlvB d slots = dlvR slots d := by
  unfold dlvB dlvR
  simp only [belowB_inB]
  simp [inB, Bool.and_comm, Bool.and_left_comm]

theorem cmpD_backD (p d : Dlv) : decide (0 ≤ cmpD p d) = backD p d := by
  unfold cmpD backD orI orI orI cmpI
  rw [Bool.eq_iff_iff]
  simp
  by_cases h1 : p.sl < d.sl
  · simp [h1]; omega
  · by_cases h2 : d.sl < p.sl
    · simp [h1, h2]
    · have h3 : d.sl = p.sl := by omega
      simp [h3]
      by_cases h4 : p.fl < d.fl
      · simp [h4]
      · by_cases h5 : d.fl < p.fl
        · simp [h4, h5]; omega
        · simp [h4, h5]; omega

theorem dlvsGo_dlvsR (slots : Int) : ∀ (l : List Dlv) (p : Option Dlv), dlvsGo slots p l = dlvsRGo slots p l
  | [], _ => by simp [dlvsGo, dlvsRGo]
  | d :: l, p => by
    simp only [dlvsGo, dlvsRGo]
    rw [dlvB_dlvR, dlvsGo_dlvsR slots l (some d)]
    have : prevBadD p d = backO p d := by
      cases p with
      | none => rfl
      | some q => exact cmpD_backD q d
    rw [this]

theorem check_agree (r : Rec) : checkE r = rcheckE r := by
  unfold checkE rcheckE
  have : good r = goodR r := by
    unfold good goodR
    rw [attsB_attsR, dlvsB, dlvsGo_dlvsR]
    simp [inB, Bool.and_assoc]
  rw [this]
end Rc
end Go.Proofs.Ytkdigdnacggknaa
/- Walk: Check of the reference. -/
namespace Go.Proofs.Ytkdigdnacggknaa
open Go.RowKit
open Rc

theorem rcheck_short {r : Rec} (h : ¬ (0 ≤ r.slots ∧ r.slots ≤ 4096 ∧ r.al.length ≤ 65536 ∧ r.dl.length ≤ 65536)) : rcheckE r = 1 := by
  unfold rcheckE
  rw [if_neg]
  intro hg
  simp [goodR, inB] at hg
  exact h ⟨hg.1.1, hg.1.2, hg.2.1, hg.2.2.1⟩
theorem rcheck_long {r : Rec} (h0 : 0 ≤ r.slots) (h1 : r.slots ≤ 4096) (h2 : r.al.length ≤ 65536) (h3 : r.dl.length ≤ 65536) : rcheckE r = if attsRGo r.slots [] r.al && dlvsRGo r.slots none r.dl then 0 else 1 := by
  unfold rcheckE
  congr 1
  simp [goodR, inB, h0, h1, h2, h3]

theorem revTake_succ {α : Type} {l : List α} {j : Nat} {p : α} (h : l[j]? = some p) : (l.take (j + 1)).reverse = p :: (l.take j).reverse := by
  have hj : j < l.length := (List.getElem?_eq_some_iff.1 h).1
  rw [List.take_succ_eq_append_getElem hj, (List.getElem?_eq_some_iff.1 h).2]
  simp

set_option maxRecDepth 100000 in
set_option maxHeartbeats 4000000 in
theorem rcheck_any (r : Rec) (A D : Option Addr) (ca cd : Nat) (w : World) (hA : LiesA w w.heap.size A r.al) (hD : LiesD w w.heap.size D r.dl) (hla : r.al.length ≤ 9223372036854775807) (hld : r.dl.length ≤ 9223372036854775807) :
    Calls Try.prog 58 #[.agg #[.int .i64 r.slots, .slice A r.al.length ca, .slice D r.dl.length cd]] w fun e w' => e = .returned (.int .i64 (rcheckE r)) ∧ Below w.heap.size w w' := by
  obtain ⟨slots, al, dl⟩ := r
  dsimp only at *
  have hshort := @rcheck_short ⟨slots, al, dl⟩
  have hlong := @rcheck_long ⟨slots, al, dl⟩
  dsimp only at hshort hlong
  obtain ⟨na, hna⟩ : ∃ n, n = al.length := ⟨_, rfl⟩
  obtain ⟨nd, hnd⟩ : ∃ n, n = dl.length := ⟨_, rfl⟩
  rw [← hna, ← hnd] at hshort hlong ⊢
  rw [← hna] at hla
  rw [← hnd] at hld
  have HA := Lib.hid hna
  have HD := Lib.hid hnd
  clear hna hnd
  by_cases hbad : ¬ (0 ≤ slots ∧ slots ≤ 4096 ∧ na ≤ 65536 ∧ nd ≤ 65536)
  · have hfin := Lib.hid (hshort hbad)
    clear hshort hlong
    have hin : inB slots 0 4096 = decide (0 ≤ slots ∧ slots ≤ 4096) := by unfold inB; rw [Bool.decide_and]
    have con := fun W => in_any slots 0 4096 W
    by_cases hs : 0 ≤ slots ∧ slots ≤ 4096
    · have hin2 : inB slots 0 4096 = true := by rw [hin]; simp [hs]
      rw [hin2] at con
      have Con := Lib.hid con
      clear hin hin2 con
      by_cases h2 : 65536 < na
      · go_enter Try.func58, Try.ntmps58
        go_wp2_with (go_at_call 83; refine (Con.out _).mono ?_; rintro e w' ⟨rfl, rfl⟩)
        go_ret
        exact ⟨ret_int (by rw [hfin.out]), (Below.refl _ _).alloc (Nat.le_refl _) _⟩
      · have h3 : 65536 < nd := by omega
        go_enter Try.func58, Try.ntmps58
        go_wp2_with (go_at_call 83; refine (Con.out _).mono ?_; rintro e w' ⟨rfl, rfl⟩)
        go_ret
        exact ⟨ret_int (by rw [hfin.out]), (Below.refl _ _).alloc (Nat.le_refl _) _⟩
    · have hin2 : inB slots 0 4096 = false := by rw [hin]; simpa using hs
      rw [hin2] at con
      have Con := Lib.hid con
      clear hin hin2 con
      go_enter Try.func58, Try.ntmps58
      go_wp2_with (go_at_call 83; refine (Con.out _).mono ?_; rintro e w' ⟨rfl, rfl⟩)
      go_ret
      exact ⟨ret_int (by rw [hfin.out]), (Below.refl _ _).alloc (Nat.le_refl _) _⟩
  obtain ⟨h0, h1, h2, h3⟩ : 0 ≤ slots ∧ slots ≤ 4096 ∧ na ≤ 65536 ∧ nd ≤ 65536 := by omega
  have hfin := Lib.hid (hlong h0 h1 h2 h3)
  clear hshort hlong hbad
  have con : ∀ W, Calls Try.prog 83 #[.int .i64 slots, .int .i64 0, .int .i64 4096] W fun e w' => e = .returned (.bool true) ∧ W = w' := fun W => by
    have := in_any slots 0 4096 W
    rwa [show inB slots 0 4096 = true by simp [inB, h0, h1]] at this
  have Con := Lib.hid con
  clear con
  go_enter Try.func58, Try.ntmps58
  go_wp2_with (go_at_call 83; refine (Con.out _).mono ?_; rintro e w' ⟨rfl, rfl⟩)
  generalize hw1 : w.alloc _ = w1
  have row1 : Row w1 w.heap.size [.int .i64 slots, .slice A na ca, .slice D nd cd] := by rw [← hw1]; exact Row.new _ _ _
  have hbw : Below w.heap.size w w1 := by rw [← hw1]; exact (Below.refl _ _).alloc (Nat.le_refl _) _
  have hz : w.heap.size < w1.heap.size := by rw [← hw1]; simp
  have R1 := Lib.hid row1
  clear hw1 row1
  go_loopw [2, 3] (fun s2 i wr => ∃ (k : Nat), k ≤ na ∧ i = .int .i64 k ∧ s2 = .int .i64 0 ∧ Below w1.heap.size w1 wr ∧
      Hid (attsRGo slots [] al = attsRGo slots (al.take k).reverse (al.drop k))) (fun _ i _ => na - (intOf i).toNat)
  case atStart => exact ⟨0, Nat.zero_le _, rfl, rfl, Below.refl _ _, Lib.hid rfl⟩
  case round =>
    obtain ⟨k, hk, rfl, rfl, hb, hst⟩ := hrel
    have row1 := R1.out.below hb (by omega)
    have hb0 : Below w.heap.size w wr := hbw.trans (hb.mono hbw.size)
    unfold Row at row1
    by_cases hlt : k < na
    · obtain ⟨a, ha⟩ := get_of_lt (l := al) (k := k) (by rw [← HA.out]; exact hlt)
      obtain ⟨b, off, rfl, hbB, hcs⟩ := (hA.below hb0).at_ ha
      obtain ⟨c0, c1, c2, c3, c4, c5, c6, c7⟩ := hcs k a ha
      have hd := Lib.hid (drop_of_get ha)
      have Hcs := Lib.hid hcs
      have Ha := Lib.hid ha
      clear hcs ha
      have hst' := hst.out
      rw [hd.out] at hst'
      simp only [attsRGo] at hst'
      have Hst := Lib.hid hst'
      clear hst'
      go_upto_region 7 with fail
      generalize hW1 : wr.alloc _ = W1
      have hb1 : Below w1.heap.size w1 W1 := by rw [← hW1]; exact hb.alloc hb.size _
      have hz1 : wr.heap.size < W1.heap.size := by rw [← hW1]; simp
      have row4 : Row W1 wr.heap.size [.int .i64 a.s, .int .i64 a.f, .int .i64 a.cs, .int .i64 a.co, .int .i64 a.cf, .int .i64 a.ct, .int .i64 a.cl, .int .i64 a.o] := by rw [← hW1]; exact Row.new wr _ _
      have hkeep : ∀ p : Addr, p.block < w1.heap.size → W1.cell? p = wr.cell? p := fun p hp => by rw [← hW1]; exact World.cell?_alloc_lt wr _ p (Nat.lt_of_lt_of_le hp hb.size)
      have HK := Lib.hid hkeep
      have R4 := Lib.hid row4
      have hzr := hb.size
      clear hkeep c0 c1 c2 c3 c4 c5 c6 c7 hW1 row1
      have hbb : b < W1.heap.size := Nat.lt_of_lt_of_le (Nat.lt_of_lt_of_le hbB hbw.size) hb1.size
      go_cut [60] (fun s60 W => s60 = .bool (!attR slots a || notLess (al.take k).reverse a) ∧ Below W1.heap.size W1 W)
      case first =>
        have x1 := (R1.out.below hb1 hz).ext (B := W1.heap.size) (by omega)
        have x4 := R4.out.ext (B := W1.heap.size) hz1
        have con := fun W => rattempt_any slots (.slice (some ⟨b, off, none⟩) na ca) (.slice D nd cd) a W h0 h1
        cases hat : attR slots a with
        | false =>
          rw [hat] at con
          have Con2 := Lib.hid con
          clear con
          refine wp_region_ext W1.heap.size (by kernel_rfl) (by kernel_rfl) ?_
          repeat (go_big_quiet_step ((go_at_call 84; exact Calls.ext_of (Con2.out _) (Nat.le_refl _))))
          refine wpQuiet_nil ?_
          rintro _ ⟨x, rfl⟩
          go_wp2_with fail
          go_meet
          exact ⟨by rw [hat]; rfl, x.below⟩
        | true =>
          rw [hat] at con
          have Con2 := Lib.hid con
          clear con
          by_cases hk0 : k = 0
          · subst hk0
            have hd0 : decide ((0 : Int) < ((0 : Nat) : Int)) = false := rfl
            refine wp_region_ext W1.heap.size (by kernel_rfl) (by kernel_rfl) ?_
            repeat (go_big_quiet_step ((go_at_call 84; exact Calls.ext_of (Con2.out _) (Nat.le_refl _))))
            refine wpQuiet_nil ?_
            rintro _ ⟨x, rfl⟩
            go_wp2_with fail
            go_meet
            exact ⟨by rw [hat]; rfl, x.below⟩
          · obtain ⟨j, rfl⟩ : ∃ j, k = j + 1 := ⟨k - 1, by omega⟩
            obtain ⟨p, hp⟩ := get_of_lt (l := al) (k := j) (by rw [← HA.out]; omega)
            have hx : ∀ (x : ExtW W1.heap.size W1) (j : Nat), x.val.cell? ⟨b, j, none⟩ = wr.cell? ⟨b, j, none⟩ := fun x j => (x.cell _ hbb).trans (HK.out _ (Nat.lt_of_lt_of_le hbB hbw.size))
            obtain ⟨p0, p1, p2, p3, p4, p5, p6, p7⟩ := Hcs.out j p hp
            have hki : decide ((0 : Int) < ((j + 1 : Nat) : Int)) = true := by simp
            have hw2 : IntKind.i64.wrap (((j + 1 : Nat) : Int) - 1) = (j : Int) := by rw [IntWalk.i64_in _ (by omega)]; omega
            have hjn : (j : Int) < (na : Int) := by omega
            have con3 := fun W => less_any p a W
            have Con3 := Lib.hid con3
            have HP := Lib.hid hp
            clear con3 hp
            refine wp_region_ext W1.heap.size (by kernel_rfl) (by kernel_rfl) ?_
            repeat (go_big_quiet_step ((first | (go_at_call 84; exact Calls.ext_of (Con2.out _) (Nat.le_refl _)) | (go_at_call 85; exact Calls.ext_of (Con3.out _) (Nat.le_refl _)))))
            refine wpQuiet_nil ?_
            rintro _ ⟨x, rfl⟩
            go_wp2_with fail
            go_meet
            exact ⟨by rw [revTake_succ HP.out, hat]; simp [notLess], x.below⟩
      case rest =>
        obtain ⟨rfl, hb2⟩ := hcut
        obtain ⟨wo, hwo⟩ : ∃ wo : World, wo = wc := ⟨_, rfl⟩
        subst hwo
        have hb3 : Below w1.heap.size w1 wo := hb1.trans (hb2.mono hb1.size)
        have hbo : Below w.heap.size w wo := hbw.trans (hb3.mono hbw.size)
        have row1 := R1.out.below hb3 hz
        have row4 := R4.out.below hb2 hz1
        have HK2 : Hid (∀ j : Nat, wo.cell? ⟨b, j, none⟩ = wr.cell? ⟨b, j, none⟩) := Lib.hid fun j => (hb2.cell (p := ⟨b, j, none⟩) hbb).trans (HK.out _ (Nat.lt_of_lt_of_le hbB hbw.size))
        unfold Row at row1 row4
        generalize hbad : (!attR slots a || notLess (al.take k).reverse a) = bad
        have hst' := Hst.out
        rw [hbad] at hst'
        cases bad with
        | true =>
          have hf := Lib.hid hst'
          clear hst' hbad
          go_wp2
          go_ret
          exact ⟨ret_int (by rw [hfin.out, hf.out]; rfl), hbo⟩
        | false =>
          simp only [Bool.false_eq_true, if_false] at hst'
          have hf := Lib.hid hst'
          clear hst' hbad
          go_wp2_with fail
          go_loopw [2, 5] (fun s2 s5 wr => ∃ (j m : Nat), j ≤ k ∧ s5 = .int .i64 ((j : Int) - 1) ∧ s2 = .int .i64 0 ∧ wr = wo.drewN m ∧ Hid (sameFrom (al.take k).reverse a = sameFrom (al.take j).reverse a)) (fun _ s5 _ => (intOf s5 + 1).toNat)
          case atStart => exact ⟨k, 0, Nat.le_refl _, rfl, rfl, rfl, Lib.hid rfl⟩
          case round =>
            obtain ⟨j, m, hj, rfl, rfl, rfl, hsf⟩ := hrel
            rcases Nat.eq_zero_or_pos j with hj0 | hj0
            · subst hj0
              have hd0 : decide ((0 : Int) ≤ ((0 : Nat) : Int) - 1) = false := rfl
              have hsf' : sameFrom (al.take k).reverse a = false := by rw [hsf.out]; rfl
              have hf' := hf.out
              rw [hsf'] at hf'
              have hf2 := Lib.hid hf'
              clear hf' hsf'
              go_wp2_with fail
              go_quiet (fail)
              go_wp2_with fail
              go_roundw
              case rel => exact ⟨k + 1, by omega, by go_num, rfl, by first | exact below_drewN hb3 _ | exact below_drewN (below_drewN hb3 _) _, Lib.hid (by rw [hf2.out, revTake_succ Ha.out]; rfl)⟩
              case measure => simp [intOf]; omega
            · obtain ⟨i, rfl⟩ : ∃ i, j = i + 1 := ⟨j - 1, by omega⟩
              obtain ⟨p, hp⟩ := get_of_lt (l := al) (k := i) (by rw [← HA.out]; omega)
              obtain ⟨p0, _, _, _, p4, _⟩ := Hcs.out i p hp
              have q0 := (HK2.out (off + i * 8)).trans p0
              have q4 := (HK2.out (off + i * 8 + 4)).trans p4
              have hsf' := hsf.out
              rw [revTake_succ hp] at hsf'
              simp only [sameFrom] at hsf'
              have e1 : (((i + 1 : Nat) : Int) - 1) = (i : Int) := by omega
              rw [e1]
              have hd1 : decide ((0 : Int) ≤ (i : Int)) = true := by simp
              have hin : (i : Int) < (na : Int) := by omega
              clear e1 p0 p4 hp
              by_cases hs : p.s = a.s
              · rw [if_pos hs] at hsf'
                have hse : (p.s == a.s) = true := by simpa using hs
                by_cases hc : p.cf = a.cf
                · rw [if_pos hc] at hsf'
                  have hce : (p.cf == a.cf) = true := by simpa using hc
                  have hf' := hf.out
                  rw [hsf'] at hf'
                  have hf2 := Lib.hid hf'
                  clear hf' hsf' hs hc
                  go_wp2_with fail
                  go_quiet (fail)
                  go_wp2_with fail
                  go_quiet (fail)
                  go_wp2_with fail
                  go_ret
                  exact ⟨ret_int (by rw [hfin.out, hf2.out]; rfl), by repeat (first | exact hbo | refine below_drewN ?_ _)⟩
                · rw [if_neg hc] at hsf'
                  have hce : (p.cf == a.cf) = false := by simpa using hc
                  have hsf2 := Lib.hid hsf'
                  clear hsf' hs hc
                  go_wp2_with fail
                  go_quiet (fail)
                  go_wp2_with fail
                  go_quiet (fail)
                  go_wp2_with fail
                  go_roundw
                  case rel => exact ⟨i, _, by omega, by go_num, rfl, by first | rfl | (simp; done), hsf2⟩
                  case measure => simp [intOf]
              · rw [if_neg hs] at hsf'
                have hse : (p.s == a.s) = false := by simpa using hs
                have hf' := hf.out
                rw [hsf'] at hf'
                have hf2 := Lib.hid hf'
                clear hf' hsf' hs
                go_wp2_with fail
                go_quiet (fail)
                go_wp2_with fail
                go_roundw
                case rel => exact ⟨k + 1, by omega, by go_num, rfl, by first | exact below_drewN hb3 _ | exact below_drewN (below_drewN hb3 _) _, Lib.hid (by rw [hf2.out, revTake_succ Ha.out]; rfl)⟩
                case measure => simp [intOf]; omega
    · have hal : attsRGo slots [] al = true := by rw [hst.out, List.drop_of_length_le (by rw [← HA.out]; omega)]; simp [attsRGo]
      have hfin' := hfin.out
      rw [hal] at hfin'
      have hfn := Lib.hid hfin'
      clear hfin' hal hst
      obtain ⟨w2, hw2⟩ : ∃ w2 : World, w2 = wr := ⟨_, rfl⟩
      subst hw2
      have R1' := Lib.hid (R1.out.below hb hz)
      have hz2 : w.heap.size < w2.heap.size := Nat.lt_of_lt_of_le hz hb.size
      go_wp2_with fail
      go_loopw [2, 6] (fun s2 i wr => ∃ (k : Nat), k ≤ nd ∧ i = .int .i64 k ∧ s2 = .int .i64 0 ∧ Below w2.heap.size w2 wr ∧
        Hid (dlvsRGo slots none dl = dlvsRGo slots (if k = 0 then none else dl[k - 1]?) (dl.drop k))) (fun _ i _ => nd - (intOf i).toNat)
      case atStart => exact ⟨0, Nat.zero_le _, rfl, rfl, Below.refl _ _, Lib.hid rfl⟩
      case round =>
        clear row1
        obtain ⟨k, hk, rfl, rfl, hbr, hst⟩ := hrel
        have row1 := R1'.out.below hbr hz2
        have hbd : Below w.heap.size w wr := hb0.trans (hbr.mono hb0.size)
        unfold Row at row1
        by_cases hltd : k < nd
        · obtain ⟨d, hd0⟩ := get_of_lt (l := dl) (k := k) (by rw [← HD.out]; exact hltd)
          obtain ⟨b, off, rfl, hbB, hcs⟩ := (hD.below hbd).at_ hd0
          obtain ⟨c0, c1, c2⟩ := hcs k d hd0
          have hd := Lib.hid (drop_of_get hd0)
          have Hcs := Lib.hid hcs
          have Hd0 := Lib.hid hd0
          clear hcs hd0
          have hst' := hst.out
          rw [hd.out] at hst'
          simp only [dlvsRGo] at hst'
          have Hst := Lib.hid hst'
          clear hst'
          go_upto_region 18 with fail
          generalize hW1 : wr.alloc _ = W1
          have hb1 : Below w2.heap.size w2 W1 := by rw [← hW1]; exact hbr.alloc hbr.size _
          have hz1 : wr.heap.size < W1.heap.size := by rw [← hW1]; simp
          have row7 : Row W1 wr.heap.size [.int .i64 d.fl, .int .i64 d.fr, .int .i64 d.sl] := by rw [← hW1]; exact Row.new wr _ _
          have hkeep : ∀ p : Addr, p.block < w2.heap.size → W1.cell? p = wr.cell? p := fun p hp => by rw [← hW1]; exact World.cell?_alloc_lt wr _ p (Nat.lt_of_lt_of_le hp hbr.size)
          have HK := Lib.hid hkeep
          have hbW : Below w.heap.size w W1 := hb0.trans (hb1.mono hb0.size)
          clear hkeep c0 c1 c2 hW1 row1
          have row1 := R1'.out.below hb1 hz2
          unfold Row at row1 row7
          go_cut [123] (fun s123 W => s123 = .bool (!dlvR slots d) ∧ W = W1)
          case first =>
            go_wp2_with (go_at_call 83; refine (in_any _ _ _ _).mono ?_; rintro e w' ⟨rfl, rfl⟩)
            all_goals
              go_meet
              exact ⟨by simp [dlvR, *], rfl⟩
          case rest =>
            obtain ⟨rfl, hwc⟩ := hcut
            subst wc
            have hst' := Hst.out
            cases hdl : dlvR slots d with
            | false =>
              rw [hdl] at hst'
              have hf := Lib.hid hst'
              clear hst'
              go_wp2
              go_ret
              exact ⟨ret_int (by rw [hfn.out, hf.out]; rfl), hbW⟩
            | true =>
              rw [hdl] at hst'
              simp only [Bool.true_eq_false, if_false] at hst'
              have hf := Lib.hid hst'
              clear hst'
              by_cases hk0 : k = 0
              · subst hk0
                go_wp2
                go_roundw
                case rel => exact ⟨1, by omega, rfl, rfl, hb1, Lib.hid (by rw [hf.out]; simp [Hd0.out, backO])⟩
                case measure => simp [intOf]; omega
              · obtain ⟨j, rfl⟩ : ∃ j, k = j + 1 := ⟨k - 1, by omega⟩
                obtain ⟨p, hp⟩ := get_of_lt (l := dl) (k := j) (by rw [← HD.out]; omega)
                obtain ⟨p0, p1, p2⟩ := Hcs.out j p hp
                have hlb : b < w2.heap.size := Nat.lt_of_lt_of_le hbB hb0.size
                have q0 := (HK.out ⟨b, off + j * 3, none⟩ hlb).trans p0
                have q1 := (HK.out ⟨b, off + j * 3 + 1, none⟩ hlb).trans p1
                have q2 := (HK.out ⟨b, off + j * 3 + 2, none⟩ hlb).trans p2
                have hf' := hf.out
                rw [if_neg (show ¬ (j + 1 = 0) by omega), show j + 1 - 1 = j from rfl, hp] at hf'
                have hk1 : (0 : Int) < ((j + 1 : Nat) : Int) := by omega
                have hf1 := Lib.hid hf'
                clear p0 p1 p2 hp hf'
                go_upto_region 22 with fail
                generalize hW2 : W1.alloc _ = W2
                have row8 : Row W2 W1.heap.size [.int .i64 p.fl, .int .i64 p.fr, .int .i64 p.sl] := by rw [← hW2]; exact Row.new W1 _ _
                have row7' : Row W2 wr.heap.size [.int .i64 d.fl, .int .i64 d.fr, .int .i64 d.sl] := by rw [← hW2]; exact Row.alloc row7 hz1 _
                have hbW2 : Below w2.heap.size w2 W2 := by rw [← hW2]; exact hb1.alloc hb1.size _
                clear hW2 q0 q1 q2 row7 row1
                unfold Row at row8 row7'
                go_cut [151] (fun s151 W => s151 = .bool (backD p d) ∧ W = W2)
                case first =>
                  go_wp2
                  all_goals
                    go_meet
                    exact ⟨by simp [backD, *], rfl⟩
                case rest =>
                  obtain ⟨rfl, hwc⟩ := hcut
                  subst wc
                  have hf' := hf1.out
                  cases hbk : backD p d with
                  | true =>
                    rw [show backO (some p) d = true from hbk] at hf'
                    have hf2 := Lib.hid hf'
                    clear hf'
                    go_wp2
                    go_ret
                    exact ⟨ret_int (by rw [hfn.out, hf2.out]; rfl), hb0.trans (hbW2.mono hb0.size)⟩
                  | false =>
                    rw [show backO (some p) d = false from hbk] at hf'
                    simp only [Bool.false_eq_true, if_false] at hf'
                    have hf2 := Lib.hid hf'
                    clear hf'
                    go_wp2
                    go_roundw
                    case rel => exact ⟨j + 1 + 1, by omega, by go_num, rfl, hbW2, Lib.hid (by rw [hf2.out, if_neg (by omega), show j + 1 + 1 - 1 = j + 1 from rfl, Hd0.out])⟩
                    case measure => simp [intOf]; omega
        · go_wp2
          go_ret
          exact ⟨ret_int (by rw [hfn.out, hst.out, List.drop_of_length_le (by rw [← HD.out]; omega)]; simp [dlvsRGo]), hbd⟩

end Go.Proofs.Ytkdigdnacggknaa

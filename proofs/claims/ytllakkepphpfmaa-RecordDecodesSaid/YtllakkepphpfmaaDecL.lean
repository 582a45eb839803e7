/- The two Decodes accept the same bytes and restore the same records; what is accepted is just what Encode writes: plain. -/
import Derived.Test.YtllakkepphpfmaaRetP
import Derived.Test.YtllakkepphpfmaaRdec
namespace Go.Proofs.Ytllakkepphpfmaa
namespace Rc

theorem numF_mono : ∀ (f i n : Nat) (d : List UInt8) (x : Nat × Bool × List UInt8), numF f i n d = some x → numF (f + 1) i n d = some x
  | 0, _, _, _, _, h => by simp [numF] at h
  | f + 1, _, _, [], _, h => by simp [numF] at h
  | f + 1, i, n, c :: d, x, h => by
    rw [numF] at h ⊢
    by_cases hc : c.toNat < 128
    · rw [if_pos hc] at h ⊢; exact h
    · rw [if_neg hc] at h ⊢; exact numF_mono f (i + 1) _ d x h

/-- One byte more gives a great number, or is needless. -/
theorem numF_less : ∀ (f i n : Nat) (d : List UInt8) (m : Nat) (l : List UInt8), numF (f + 1) i n d = some (m, false, l) → 0 < i + f → m < 128 ^ (i + f) → numF f i n d = some (m, false, l)
  | _, _, _, [], _, _, h, _, _ => by simp [numF] at h
  | 0, i, n, c :: d, m, l, h, hi, hm => by
    exfalso
    rw [numF] at h
    by_cases hc : c.toNat < 128
    · rw [if_pos hc] at h
      simp only [Option.some.injEq, Prod.mk.injEq, Bool.and_eq_false_iff, decide_eq_false_iff_not] at h
      obtain ⟨h1, h2, _⟩ := h
      have hc0 : c.toNat ≠ 0 := by rcases h2 with h2 | h2 <;> omega
      rw [Nat.mod_eq_of_lt hc] at h1
      have h3 : 1 * 128 ^ i ≤ c.toNat * 128 ^ i := Nat.mul_le_mul_right _ (by omega)
      simp only [Nat.add_zero] at hm
      omega
    · rw [if_neg hc] at h
      simp [numF] at h
  | f + 1, i, n, c :: d, m, l, h, hi, hm => by
    rw [numF] at h ⊢
    by_cases hc : c.toNat < 128
    · rw [if_pos hc] at h ⊢; exact h
    · rw [if_neg hc] at h ⊢
      exact numF_less f (i + 1) _ d m l h (by omega) (by rw [show i + 1 + f = i + (f + 1) by omega]; exact hm)

theorem numR_of_numS {d l : List UInt8} {b : Bool} {n : Nat} (h : numS 5 d b = (n, l, false)) (hn : n < 268435456) : numR d b = (n, l, false) := by
  unfold numS at h
  split at h
  · simp at h
  · rename_i hb
    have hb' : b = false := by simpa using hb
    subst hb'
    split at h
    · rename_i m nb l' hm
      simp only [Prod.mk.injEq] at h
      obtain ⟨rfl, rfl, rfl⟩ := h
      have := numF_less 4 0 0 d m l' hm (by omega) (by simpa using hn)
      unfold numR
      rw [this]
      simp
    · simp at h
theorem numS_of_numR {d l : List UInt8} {b : Bool} {n : Nat} (h : numR d b = (n, l, false)) : numS 5 d b = (n, l, false) := by
  unfold numR at h
  split at h
  · rename_i m nb l' hm
    simp only [Prod.mk.injEq, Bool.or_eq_false_iff] at h
    obtain ⟨rfl, rfl, rfl, rfl⟩ := h
    unfold numS
    rw [numF_mono 4 0 0 d _ hm]
    simp
  · simp at h
theorem numS_bad_of {d l : List UInt8} {b : Bool} {n : Nat} (h : numS 5 d b = (n, l, false)) : b = false := by
  cases b with
  | false => rfl
  | true => simp [numS] at h

theorem readR_of_readS : ∀ (k : Nat) (d : List UInt8) (b : Bool) (vs : List Nat) (l : List UInt8), readS k d b = (vs, l, false) → (∀ v ∈ vs, v < 268435456) → readR k d b = (vs, l, false)
  | 0, d, b, vs, l, h, _ => by simpa [readS, readR] using h
  | k + 1, d, b, vs, l, h, hv => by
    simp only [readS, Prod.mk.injEq] at h
    obtain ⟨h1, h2⟩ := h
    generalize hq : numS 5 d b = q at h1 h2
    obtain ⟨n, d1, b1⟩ := q
    dsimp only at h1 h2
    have hb1 : b1 = false := by
      cases b1 with
      | false => rfl
      | true => rw [readS_bad] at h2; simp at h2
    subst hb1 h1
    have hr := numR_of_numS hq (hv n List.mem_cons_self)
    have ih := readR_of_readS k d1 false (readS k d1 false).1 l (by
      generalize readS k d1 false = t at h2 ⊢
      obtain ⟨t1, t2⟩ := t
      dsimp only at h2 ⊢
      rw [h2]) (fun v hm => hv v (List.mem_cons_of_mem _ hm))
    simp only [readR, hr, ih]
theorem readS_of_readR : ∀ (k : Nat) (d : List UInt8) (b : Bool) (vs : List Nat) (l : List UInt8), readR k d b = (vs, l, false) → readS k d b = (vs, l, false)
  | 0, d, b, vs, l, h => by simpa [readS, readR] using h
  | k + 1, d, b, vs, l, h => by
    simp only [readR, Prod.mk.injEq] at h
    obtain ⟨h1, h2⟩ := h
    generalize hq : numR d b = q at h1 h2
    obtain ⟨n, d1, b1⟩ := q
    dsimp only at h1 h2
    have ih := readS_of_readR k d1 b1 (readR k d1 b1).1 l (by
      generalize readR k d1 b1 = t at h2 ⊢
      obtain ⟨t1, t2⟩ := t
      dsimp only at h2 ⊢
      rw [h2])
    have hb1 : b1 = false := by
      cases b1 with
      | false => rfl
      | true => rw [show readS k d1 true = ((readS k d1 true).1, (readS k d1 true).2) from rfl, readS_bad] at ih; simp at ih
    subst hb1 h1
    simp only [readS, numS_of_numR hq, ih]

theorem attsR_bad (n at_ : Nat) (d : List UInt8) : attsR n at_ d true = ([], d, true) := by cases n <;> simp [attsR]
theorem dlvsR_bad (n at_ : Nat) (d : List UInt8) : dlvsR n at_ d true = ([], d, true) := by cases n <;> simp [dlvsR]

def smallA (a : Att) : Prop := a.s < 268435456 ∧ a.f < 268435456 ∧ a.cs < 268435456 ∧ a.co < 268435456 ∧ a.cf < 268435456 ∧ a.ct < 268435456 ∧ a.cl < 268435456 ∧ a.o < 268435456
def smallD (a : Dlv) : Prop := a.sl < 268435456 ∧ a.fl < 268435456 ∧ a.fr < 268435456

theorem mem8 {vs : List Nat} (hl : vs.length = 8) {v : Nat} (hv : v ∈ vs) : v = nat8 vs 0 ∨ v = nat8 vs 1 ∨ v = nat8 vs 2 ∨ v = nat8 vs 3 ∨ v = nat8 vs 4 ∨ v = nat8 vs 5 ∨ v = nat8 vs 6 ∨ v = nat8 vs 7 := by
  match vs, hl with
  | [a0, a1, a2, a3, a4, a5, a6, a7], _ => simpa [nat8] using hv
theorem mem3 {vs : List Nat} (hl : vs.length = 3) {v : Nat} (hv : v ∈ vs) : v = nat8 vs 0 ∨ v = nat8 vs 1 ∨ v = nat8 vs 2 := by
  match vs, hl with
  | [a0, a1, a2], _ => simpa [nat8] using hv

theorem attsR_of_attsP : ∀ (n at_ : Nat) (d : List UInt8) (b : Bool) (al : List Att) (l : List UInt8), attsP n at_ d b = (al, l, false) → (∀ a ∈ al, smallA a) → attsR n at_ d b = (al, l, false)
  | 0, at_, d, b, al, l, h, _ => by simpa [attsP, attsR] using h
  | n + 1, at_, d, true, al, l, h, _ => by simp [attsP] at h
  | n + 1, at_, d, false, al, l, h, hs => by
    simp only [attsP, Bool.false_eq_true, if_false] at h
    have hlen := readS_length 8 d false
    generalize hq : readS 8 d false = q at h hlen
    obtain ⟨vs, d1, b1⟩ := q
    dsimp only at h hlen
    simp only [Prod.mk.injEq] at h
    obtain ⟨h1, h2⟩ := h
    have hb1 : b1 = false := by
      cases b1 with
      | false => rfl
      | true => rw [attsP_bad] at h2; simp at h2
    subst hb1 h1
    have h0 := hs _ List.mem_cons_self
    have hr := readR_of_readS 8 d false vs d1 hq (fun v hv => by
      simp only [smallA, mkA] at h0
      rcases mem8 hlen hv with h | h | h | h | h | h | h | h <;> omega)
    have ih := attsR_of_attsP n (at_ + nat8 vs 0) d1 false (attsP n (at_ + nat8 vs 0) d1 false).1 l (by
      generalize attsP n (at_ + nat8 vs 0) d1 false = t at h2 ⊢
      obtain ⟨t1, t2⟩ := t
      dsimp only at h2 ⊢
      rw [h2]) (fun a ha => hs a (List.mem_cons_of_mem _ ha))
    simp only [attsR, Bool.false_eq_true, if_false, hr, ih]
theorem attsP_of_attsR : ∀ (n at_ : Nat) (d : List UInt8) (b : Bool) (al : List Att) (l : List UInt8), attsR n at_ d b = (al, l, false) → attsP n at_ d b = (al, l, false)
  | 0, at_, d, b, al, l, h => by simpa [attsP, attsR] using h
  | n + 1, at_, d, true, al, l, h => by simp [attsR] at h
  | n + 1, at_, d, false, al, l, h => by
    simp only [attsR, Bool.false_eq_true, if_false] at h
    generalize hq : readR 8 d false = q at h
    obtain ⟨vs, d1, b1⟩ := q
    dsimp only at h
    simp only [Prod.mk.injEq] at h
    obtain ⟨h1, h2⟩ := h
    have hb1 : b1 = false := by
      cases b1 with
      | false => rfl
      | true => rw [attsR_bad] at h2; simp at h2
    subst hb1 h1
    have ih := attsP_of_attsR n (at_ + nat8 vs 0) d1 false (attsR n (at_ + nat8 vs 0) d1 false).1 l (by
      generalize attsR n (at_ + nat8 vs 0) d1 false = t at h2 ⊢
      obtain ⟨t1, t2⟩ := t
      dsimp only at h2 ⊢
      rw [h2])
    simp only [attsP, Bool.false_eq_true, if_false, readS_of_readR 8 d false vs d1 hq, ih]
theorem dlvsR_of_dlvsP : ∀ (n at_ : Nat) (d : List UInt8) (b : Bool) (al : List Dlv) (l : List UInt8), dlvsP n at_ d b = (al, l, false) → (∀ a ∈ al, smallD a) → dlvsR n at_ d b = (al, l, false)
  | 0, at_, d, b, al, l, h, _ => by simpa [dlvsP, dlvsR] using h
  | n + 1, at_, d, true, al, l, h, _ => by simp [dlvsP] at h
  | n + 1, at_, d, false, al, l, h, hs => by
    simp only [dlvsP, Bool.false_eq_true, if_false] at h
    have hlen := readS_length 3 d false
    generalize hq : readS 3 d false = q at h hlen
    obtain ⟨vs, d1, b1⟩ := q
    dsimp only at h hlen
    simp only [Prod.mk.injEq] at h
    obtain ⟨h1, h2⟩ := h
    have hb1 : b1 = false := by
      cases b1 with
      | false => rfl
      | true => rw [dlvsP_bad] at h2; simp at h2
    subst hb1 h1
    have h0 := hs _ List.mem_cons_self
    have hr := readR_of_readS 3 d false vs d1 hq (fun v hv => by
      simp only [smallD, mkD] at h0
      rcases mem3 hlen hv with h | h | h <;> omega)
    have ih := dlvsR_of_dlvsP n (at_ + nat8 vs 0) d1 false (dlvsP n (at_ + nat8 vs 0) d1 false).1 l (by
      generalize dlvsP n (at_ + nat8 vs 0) d1 false = t at h2 ⊢
      obtain ⟨t1, t2⟩ := t
      dsimp only at h2 ⊢
      rw [h2]) (fun a ha => hs a (List.mem_cons_of_mem _ ha))
    simp only [dlvsR, Bool.false_eq_true, if_false, hr, ih]
theorem dlvsP_of_dlvsR : ∀ (n at_ : Nat) (d : List UInt8) (b : Bool) (al : List Dlv) (l : List UInt8), dlvsR n at_ d b = (al, l, false) → dlvsP n at_ d b = (al, l, false)
  | 0, at_, d, b, al, l, h => by simpa [dlvsP, dlvsR] using h
  | n + 1, at_, d, true, al, l, h => by simp [dlvsR] at h
  | n + 1, at_, d, false, al, l, h => by
    simp only [dlvsR, Bool.false_eq_true, if_false] at h
    generalize hq : readR 3 d false = q at h
    obtain ⟨vs, d1, b1⟩ := q
    dsimp only at h
    simp only [Prod.mk.injEq] at h
    obtain ⟨h1, h2⟩ := h
    have hb1 : b1 = false := by
      cases b1 with
      | false => rfl
      | true => rw [dlvsR_bad] at h2; simp at h2
    subst hb1 h1
    have ih := dlvsP_of_dlvsR n (at_ + nat8 vs 0) d1 false (dlvsR n (at_ + nat8 vs 0) d1 false).1 l (by
      generalize dlvsR n (at_ + nat8 vs 0) d1 false = t at h2 ⊢
      obtain ⟨t1, t2⟩ := t
      dsimp only at h2 ⊢
      rw [h2])
    simp only [dlvsP, Bool.false_eq_true, if_false, readS_of_readR 3 d false vs d1 hq, ih]

/-! ### what was read is what is written -/
theorem numF_inv : ∀ (f i acc : Nat) (d : List UInt8) (m : Nat) (l : List UInt8), numF (f + 1) i acc d = some (m, false, l) → ∃ n, m = acc + n * 128 ^ i ∧ d = varF f n ++ l ∧ (0 < i → n ≠ 0) ∧ n < 128 ^ (f + 1)
  | _, _, _, [], _, _, h => by simp [numF] at h
  | f, i, acc, c :: d, m, l, h => by
    rw [numF] at h
    have hc256 : c.toNat < 256 := c.toNat_lt
    by_cases hc : c.toNat < 128
    · rw [if_pos hc] at h
      simp only [Option.some.injEq, Prod.mk.injEq, Bool.and_eq_false_iff, decide_eq_false_iff_not] at h
      obtain ⟨h1, h2, rfl⟩ := h
      refine ⟨c.toNat, by rw [Nat.mod_eq_of_lt hc] at h1; exact h1.symm, ?_, fun h0 => by rcases h2 with h2 | h2 <;> omega, ?_⟩
      · have : varF f c.toNat = [c] := by
          cases f with
          | zero => simp [varF]
          | succ f => simp [varF, hc]
        rw [this]; rfl
      · have : 128 ^ 1 ≤ 128 ^ (f + 1) := Nat.pow_le_pow_right (by decide) (by omega)
        omega
    · rw [if_neg hc] at h
      match f, h with
      | 0, h => simp [numF] at h
      | f + 1, h =>
        obtain ⟨n', h1, h2, h3, h4⟩ := numF_inv f (i + 1) _ d m l h
        have hn' := h3 (by omega)
        refine ⟨c.toNat % 128 + 128 * n', ?_, ?_, fun _ => by omega, ?_⟩
        · rw [h1, Nat.pow_succ, Nat.add_mul, Nat.add_assoc]
          congr 2
          rw [Nat.mul_comm (128 ^ i) 128, ← Nat.mul_assoc, Nat.mul_comm n' 128]
        · rw [varF, if_neg (by omega), show (c.toNat % 128 + 128 * n') / 128 = n' by omega, show (c.toNat % 128 + 128 * n') % 128 + 128 = c.toNat by omega, h2]
          simp
        · rw [Nat.pow_succ]
          omega
theorem numS_inv {d l : List UInt8} {b : Bool} {n : Nat} (h : numS 5 d b = (n, l, false)) : d = varN n ++ l ∧ b = false := by
  have hb := numS_bad_of h
  subst hb
  unfold numS at h
  simp only [Bool.false_eq_true, if_false] at h
  split at h
  · rename_i m nb l' hm
    simp only [Prod.mk.injEq] at h
    obtain ⟨rfl, rfl, rfl⟩ := h
    obtain ⟨n, h1, h2, _, h4⟩ := numF_inv 4 0 0 d m l' hm
    simp only [Nat.pow_zero, Nat.mul_one, Nat.zero_add] at h1
    subst h1
    exact ⟨by rw [varN_small (by simpa using h4)]; exact h2, rfl⟩
  · simp at h
theorem readS_inv : ∀ (k : Nat) (d : List UInt8) (b : Bool) (vs : List Nat) (l : List UInt8), readS k d b = (vs, l, false) → d = vars (vs.map Int.ofNat) ++ l ∧ b = false
  | 0, d, b, vs, l, h => by
    simp only [readS, Prod.mk.injEq] at h
    obtain ⟨rfl, rfl, rfl⟩ := h
    exact ⟨by simp [vars], rfl⟩
  | k + 1, d, b, vs, l, h => by
    simp only [readS, Prod.mk.injEq] at h
    obtain ⟨h1, h2⟩ := h
    generalize hq : numS 5 d b = q at h1 h2
    obtain ⟨n, d1, b1⟩ := q
    dsimp only at h1 h2
    obtain ⟨ih, hb1⟩ := readS_inv k d1 b1 (readS k d1 b1).1 l (by
      generalize readS k d1 b1 = t at h2 ⊢
      obtain ⟨t1, t2⟩ := t
      dsimp only at h2 ⊢
      rw [h2])
    subst hb1 h1
    obtain ⟨h3, h4⟩ := numS_inv hq
    refine ⟨?_, h4⟩
    rw [h3]
    conv => lhs; rw [ih]
    simp [vars]
theorem attsP_inv : ∀ (n at_ : Nat) (d : List UInt8) (b : Bool) (al : List Att) (l : List UInt8), attsP n at_ d b = (al, l, false) → al.length = n ∧ d = encA at_ al ++ l ∧ b = false
  | 0, at_, d, b, al, l, h => by
    simp only [attsP, Prod.mk.injEq] at h
    obtain ⟨rfl, rfl, rfl⟩ := h
    exact ⟨rfl, by simp [encA], rfl⟩
  | n + 1, at_, d, true, al, l, h => by simp [attsP] at h
  | n + 1, at_, d, false, al, l, h => by
    simp only [attsP, Bool.false_eq_true, if_false] at h
    have hlen := readS_length 8 d false
    generalize hq : readS 8 d false = q at h hlen
    obtain ⟨vs, d1, b1⟩ := q
    dsimp only at h hlen
    simp only [Prod.mk.injEq] at h
    obtain ⟨h1, h2⟩ := h
    obtain ⟨ih1, ih2, hb1⟩ := attsP_inv n (at_ + nat8 vs 0) d1 b1 (attsP n (at_ + nat8 vs 0) d1 b1).1 l (by
      generalize attsP n (at_ + nat8 vs 0) d1 b1 = t at h2 ⊢
      obtain ⟨t1, t2⟩ := t
      dsimp only at h2 ⊢
      rw [h2])
    subst hb1 h1
    obtain ⟨h3, _⟩ := readS_inv 8 d false vs d1 hq
    refine ⟨by simp [ih1], ?_, rfl⟩
    match vs, hlen with
    | [a0, a1, a2, a3, a4, a5, a6, a7], _ =>
      rw [h3]
      conv => lhs; rw [ih2]
      simp only [encA, mkA, attI, nat8, List.getD_cons_zero, List.getD_cons_succ, List.map_cons, List.map_nil]
      rw [show ((at_ + a0 : Nat) : Int) - (at_ : Int) = Int.ofNat a0 by simp; omega]
      simp
theorem dlvsP_inv : ∀ (n at_ : Nat) (d : List UInt8) (b : Bool) (al : List Dlv) (l : List UInt8), dlvsP n at_ d b = (al, l, false) → al.length = n ∧ d = encD at_ al ++ l ∧ b = false
  | 0, at_, d, b, al, l, h => by
    simp only [dlvsP, Prod.mk.injEq] at h
    obtain ⟨rfl, rfl, rfl⟩ := h
    exact ⟨rfl, by simp [encD], rfl⟩
  | n + 1, at_, d, true, al, l, h => by simp [dlvsP] at h
  | n + 1, at_, d, false, al, l, h => by
    simp only [dlvsP, Bool.false_eq_true, if_false] at h
    have hlen := readS_length 3 d false
    generalize hq : readS 3 d false = q at h hlen
    obtain ⟨vs, d1, b1⟩ := q
    dsimp only at h hlen
    simp only [Prod.mk.injEq] at h
    obtain ⟨h1, h2⟩ := h
    obtain ⟨ih1, ih2, hb1⟩ := dlvsP_inv n (at_ + nat8 vs 0) d1 b1 (dlvsP n (at_ + nat8 vs 0) d1 b1).1 l (by
      generalize dlvsP n (at_ + nat8 vs 0) d1 b1 = t at h2 ⊢
      obtain ⟨t1, t2⟩ := t
      dsimp only at h2 ⊢
      rw [h2])
    subst hb1 h1
    obtain ⟨h3, _⟩ := readS_inv 3 d false vs d1 hq
    refine ⟨by simp [ih1], ?_, rfl⟩
    match vs, hlen with
    | [a0, a1, a2], _ =>
      rw [h3]
      conv => lhs; rw [ih2]
      simp only [encD, mkD, dlvI, nat8, List.getD_cons_zero, List.getD_cons_succ, List.map_cons, List.map_nil]
      rw [show ((at_ + a0 : Nat) : Int) - (at_ : Int) = Int.ofNat a0 by simp; omega]
      simp

theorem good_goodR (r : Rec) : good r = goodR r := by
  have h := check_agree r
  unfold checkE rcheckE at h
  revert h
  cases good r <;> cases goodR r <;> simp

/-- The program's Decode, without a fault: its parts. -/
theorem decP_parts {data l : List UInt8} {r : Rec} (h : decP data = ⟨r, l, false⟩) : ∃ d1 d2 d3 n0, readS 2 data false = ([n0, r.al.length], d1, false) ∧ r.slots = (n0 : Nat) ∧ attsP r.al.length 0 d1 false = (r.al, d2, false) ∧ readS 1 d2 false = ([r.dl.length], d3, false) ∧ dlvsP r.dl.length 0 d3 false = (r.dl, l, false) ∧ data = encR r ++ l := by
  unfold decP at h
  have hl2 := readS_length 2 data false
  generalize hh : readS 2 data false = q at h hl2
  obtain ⟨vs, d1, b1⟩ := q
  dsimp only at h hl2
  generalize ha : attsP (nat8 vs 1) 0 d1 b1 = qa at h
  obtain ⟨al, d2, b2⟩ := qa
  dsimp only at h
  have hl1 := readS_length 1 d2 b2
  generalize hm : readS 1 d2 b2 = qm at h hl1
  obtain ⟨ms, d3, b3⟩ := qm
  dsimp only at h hl1
  generalize hd : dlvsP (nat8 ms 0) 0 d3 b3 = qd at h
  obtain ⟨dl, d4, b4⟩ := qd
  dsimp only at h
  simp only [Dec.mk.injEq] at h
  obtain ⟨rfl, rfl, rfl⟩ := h
  obtain ⟨i1, i2, rfl⟩ := dlvsP_inv _ _ _ _ _ _ hd
  obtain ⟨j1, rfl⟩ := readS_inv 1 d2 b2 ms d3 hm
  obtain ⟨k1, k2, rfl⟩ := attsP_inv _ _ _ _ _ _ ha
  obtain ⟨m1, _⟩ := readS_inv 2 data false vs d1 hh
  match vs, ms, hl2, hl1 with
  | [n0, n1], [n2], _, _ =>
    simp only [nat8, List.getD_cons_zero, List.getD_cons_succ] at *
    subst k1 i1
    refine ⟨d1, d2, d3, n0, by first | rfl | exact hh, rfl, by first | rfl | exact ha, by first | rfl | exact hm, by first | rfl | exact hd, ?_⟩
    conv => lhs; rw [m1, k2, j1, i2]
    simp [encR, vars]

theorem ref_of_dec {data : List UInt8} (h : decOk data = true) : rdecOk data = true ∧ (decR data).r = (decP data).r := by
  have hp : ∃ r, decP data = ⟨r, [], false⟩ ∧ good r = true := by
    unfold decOk at h
    generalize decP data = p at *
    obtain ⟨r, l, b⟩ := p
    simp only [Bool.and_eq_true, Bool.not_eq_true', List.isEmpty_iff] at h
    obtain ⟨rfl, rfl, hg⟩ := h
    exact ⟨r, rfl, hg⟩
  obtain ⟨r, hp, hg⟩ := hp
  obtain ⟨d1, d2, d3, n0, h1, h2, h3, h4, h5, _⟩ := decP_parts hp
  obtain ⟨g0, g1, g2, g3, g4, g5⟩ := good_parts hg
  have e1 := readR_of_readS 2 data false _ _ h1 (by
    intro v hv
    simp only [List.mem_cons, List.not_mem_nil, or_false] at hv
    rcases hv with rfl | rfl <;> omega)
  have e2 := attsR_of_attsP _ _ _ _ _ _ h3 (fun a ha => by
    obtain ⟨k, hk⟩ := List.getElem?_of_mem ha
    have := attB_ranges (atts_all g4 hk).1
    unfold smallA; omega)
  have e3 := readR_of_readS 1 d2 false _ _ h4 (by
    intro v hv
    simp only [List.mem_cons, List.not_mem_nil, or_false] at hv
    subst hv; omega)
  have e4 := dlvsR_of_dlvsP _ _ _ _ _ _ h5 (fun a ha => by
    obtain ⟨k, hk⟩ := List.getElem?_of_mem ha
    have := dlvB_ranges (dlvs_all g5 hk).1
    unfold smallD; omega)
  have hR : decR data = ⟨r, [], false⟩ := by
    unfold decR
    simp only [e1, nat8, List.getD_cons_zero, List.getD_cons_succ, e2, e3, e4]
    rw [← h2]
  rw [hp]
  unfold rdecOk
  rw [hR]
  exact ⟨by simp [← good_goodR, hg], rfl⟩

theorem dec_of_ref {data : List UInt8} (h : rdecOk data = true) : decOk data = true := by
  unfold rdecOk at h
  unfold decR at h
  generalize hh : readR 2 data false = q at h
  obtain ⟨vs, d1, b1⟩ := q
  dsimp only at h
  generalize ha : attsR (nat8 vs 1) 0 d1 b1 = qa at h
  obtain ⟨al, d2, b2⟩ := qa
  dsimp only at h
  generalize hm : readR 1 d2 b2 = qm at h
  obtain ⟨ms, d3, b3⟩ := qm
  dsimp only at h
  generalize hd : dlvsR (nat8 ms 0) 0 d3 b3 = qd at h
  obtain ⟨dl, d4, b4⟩ := qd
  dsimp only at h
  simp only [Bool.and_eq_true, Bool.not_eq_true', List.isEmpty_iff] at h
  obtain ⟨rfl, rfl, hg⟩ := h
  have e4 := dlvsP_of_dlvsR _ _ _ _ _ _ hd
  obtain ⟨_, _, rfl⟩ := dlvsP_inv _ _ _ _ _ _ e4
  have e3 := readS_of_readR _ _ _ _ _ hm
  obtain ⟨_, rfl⟩ := readS_inv _ _ _ _ _ e3
  have e2 := attsP_of_attsR _ _ _ _ _ _ ha
  obtain ⟨_, _, rfl⟩ := attsP_inv _ _ _ _ _ _ e2
  have e1 := readS_of_readR _ _ _ _ _ hh
  unfold decOk decP
  rw [e1]
  dsimp only
  rw [e2]
  dsimp only
  rw [e3]
  dsimp only
  rw [e4]
  dsimp only
  rw [good_goodR, hg]
  rfl

theorem enc_of_dec {data : List UInt8} (h : decOk data = true) : good (decP data).r = true ∧ encR (decP data).r = data := by
  unfold decOk at h
  generalize hp : decP data = p at *
  obtain ⟨r, l, b⟩ := p
  simp only [Bool.and_eq_true, Bool.not_eq_true', List.isEmpty_iff] at h
  obtain ⟨rfl, rfl, hg⟩ := h
  obtain ⟨_, _, _, _, _, _, _, _, _, he⟩ := decP_parts hp
  exact ⟨hg, by rw [List.append_nil] at he; exact he.symm⟩
theorem dec_len {data : List UInt8} (h : decOk data = true) : (decP data).r.al.length ≤ 65536 ∧ (decP data).r.dl.length ≤ 65536 := by
  obtain ⟨g0, g1, g2, g3, g4, g5⟩ := good_parts (enc_of_dec h).1
  exact ⟨g2, g3⟩
end Rc
end Go.Proofs.Ytllakkepphpfmaa

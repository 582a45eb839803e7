/- Decode restores what Encode wrote, and accepts no beginning of it: plain. -/
import Derived.Test.YtllakkepphpfmaaDecP
import Derived.Test.YtllakkepphpfmaaEncP
namespace Go.Proofs.Ytllakkepphpfmaa
namespace Rc

theorem ofNat_small {n : Nat} (h : n < 256) : (UInt8.ofNat n).toNat = n := by rw [UInt8.toNat_ofNat']; omega

theorem numF_var : ∀ (f n i acc : Nat) (l : List UInt8), n < 128 ^ (f + 1) → numF (f + 1) i acc (varF f n ++ l) = some (acc + n * 128 ^ i, decide (n = 0) && decide (0 < i), l)
  | 0, n, i, acc, l, h => by
    have hn : n < 128 := by simpa using h
    simp only [varF, List.cons_append, List.nil_append, numF]
    rw [ofNat_small (by omega), if_pos hn, Nat.mod_eq_of_lt hn]
  | f + 1, n, i, acc, l, h => by
    simp only [varF]
    by_cases hn : n < 128
    · rw [if_pos hn]
      simp only [List.cons_append, List.nil_append, numF]
      rw [ofNat_small (by omega), if_pos hn, Nat.mod_eq_of_lt hn]
    · rw [if_neg hn]
      simp only [List.cons_append]
      rw [numF, ofNat_small (by omega), if_neg (by omega), numF_var f (n / 128) (i + 1) _ l (by rw [Nat.pow_succ] at h; omega)]
      have h1 : (n % 128 + 128) % 128 = n % 128 := by omega
      have h2 : ¬ n / 128 = 0 := by omega
      have h3 : ¬ n = 0 := by omega
      have h4 : acc + (n % 128 + 128) % 128 * 128 ^ i + n / 128 * 128 ^ (i + 1) = acc + n * 128 ^ i := by
        rw [h1, Nat.pow_succ, show n / 128 * (128 ^ i * 128) = 128 * (n / 128) * 128 ^ i by rw [Nat.mul_comm (128 ^ i) 128, ← Nat.mul_assoc, Nat.mul_comm (n / 128) 128], Nat.add_assoc, ← Nat.add_mul, Nat.mod_add_div]
      rw [h4]
      simp [h2, h3]

theorem varN_small {n : Nat} (h : n < 34359738368) : varN n = varF 4 n := by
  have h5 : n < 128 ^ (4 + 1) := by simpa using h
  have p6 : (128 : Nat) ^ (4 + 1) ≤ 128 ^ (5 + 1) := Nat.pow_le_pow_right (by decide) (by decide)
  have p7 : (128 : Nat) ^ (5 + 1) ≤ 128 ^ (6 + 1) := Nat.pow_le_pow_right (by decide) (by decide)
  have p8 : (128 : Nat) ^ (6 + 1) ≤ 128 ^ (7 + 1) := Nat.pow_le_pow_right (by decide) (by decide)
  have p9 : (128 : Nat) ^ (7 + 1) ≤ 128 ^ (8 + 1) := Nat.pow_le_pow_right (by decide) (by decide)
  unfold varN
  rw [varF_more 8 n (by omega), varF_more 7 n (by omega), varF_more 6 n (by omega), varF_more 5 n (by omega), varF_more 4 n (by omega)]

theorem numS_var {n : Nat} (l : List UInt8) (h : n < 34359738368) : numS 5 (varN n ++ l) false = (n, l, false) := by
  unfold numS
  rw [varN_small h, numF_var 4 n 0 0 l (by simpa using h)]
  simp

theorem readS_vars : ∀ (zs : List Int) (l : List UInt8), (∀ z ∈ zs, 0 ≤ z ∧ z < 34359738368) → readS zs.length (vars zs ++ l) false = (zs.map Int.toNat, l, false)
  | [], l, _ => by simp [readS, vars]
  | z :: zs, l, h => by
    have hz := h z List.mem_cons_self
    have ih := readS_vars zs l fun y hy => h y (List.mem_cons_of_mem _ hy)
    have e : vars (z :: zs) ++ l = varN z.toNat ++ (vars zs ++ l) := by simp [vars]
    rw [e]
    simp only [List.length_cons, readS]
    rw [numS_var _ (by omega)]
    simp only
    rw [ih]
    simp

/-- In order, from slot at_ on. -/
def chainA : Int → List Att → Prop
  | _, [] => True
  | at_, a :: l => at_ ≤ a.s ∧ ((0 ≤ a.s ∧ a.s < 4096) ∧ (0 ≤ a.f ∧ a.f < 1048576) ∧ (0 ≤ a.cs ∧ a.cs < 512) ∧ (0 ≤ a.co ∧ a.co < 16) ∧ (0 ≤ a.cf ∧ a.cf < 32) ∧ (0 ≤ a.ct ∧ a.ct < 32) ∧ (0 ≤ a.cl ∧ a.cl < 256) ∧ (1 ≤ a.o ∧ a.o ≤ 4)) ∧ chainA a.s l
def chainD : Int → List Dlv → Prop
  | _, [] => True
  | at_, d :: l => at_ ≤ d.sl ∧ ((0 ≤ d.sl ∧ d.sl < 4096) ∧ (0 ≤ d.fl ∧ d.fl < 256) ∧ (0 ≤ d.fr ∧ d.fr < 1048576)) ∧ chainD d.sl l

theorem chainA_of {slots : Int} (hs : slots ≤ 4096) : ∀ (l : List Att) (p : Option Att) (S : List Int) (at_ : Int), attsGo slots p S at_ l = true → chainA (match p with | some q => q.s | none => 0) l
  | [], _, _, _, _ => trivial
  | a :: l, p, S, at_, h => by
    simp only [attsGo] at h
    by_cases hb : (!attB a slots || prevBad p a) = true
    · rw [if_pos hb] at h; cases h
    · rw [if_neg hb] at h
      simp only [Bool.or_eq_true, Bool.not_eq_true', not_or, Bool.not_eq_false, Bool.not_eq_true] at hb
      have hrest : ∃ S' at', attsGo slots (some a) S' at' l = true := by
        by_cases hs : a.s = at_
        · rw [if_pos hs] at h
          by_cases hin : a.cf ∈ S
          · rw [if_pos hin] at h; cases h
          · rw [if_neg hin] at h; exact ⟨_, _, h⟩
        · rw [if_neg hs] at h; exact ⟨_, _, h⟩
      obtain ⟨S', at', h'⟩ := hrest
      have hr := attB_ranges hb.1
      refine ⟨?_, ?_, chainA_of hs l (some a) S' at' h'⟩
      · cases p with
        | none => exact hr.1.1
        | some q => exact cmpA_le (by simpa [prevBad] using hb.2)
      · exact ⟨⟨hr.1.1, by omega⟩, hr.2⟩
theorem chainD_of {slots : Int} (hs : slots ≤ 4096) : ∀ (l : List Dlv) (p : Option Dlv), dlvsGo slots p l = true → chainD (match p with | some q => q.sl | none => 0) l
  | [], _, _ => trivial
  | d :: l, p, h => by
    simp only [dlvsGo] at h
    by_cases hb : dlvB d slots = false
    · rw [if_pos hb] at h; cases h
    · rw [if_neg hb] at h
      by_cases hp : prevBadD p d = true
      · rw [if_pos hp] at h; cases h
      · rw [if_neg hp] at h
        have hr := dlvB_ranges (by simpa using hb)
        refine ⟨?_, ⟨⟨hr.1.1, by omega⟩, hr.2⟩, chainD_of hs l (some d) h⟩
        cases p with
        | none => exact hr.1.1
        | some q => exact cmpD_le (by simpa [prevBadD] using hp)

theorem attsP_enc : ∀ (al : List Att) (at_ : Nat) (l : List UInt8), chainA at_ al → attsP al.length at_ (encA at_ al ++ l) false = (al, l, false)
  | [], at_, l, _ => by simp [attsP, encA]
  | a :: al, at_, l, h => by
    obtain ⟨h0, hr, hc⟩ := h
    have hrd : readS 8 (vars (attI at_ a) ++ (encA a.s al ++ l)) false = ((attI at_ a).map Int.toNat, encA a.s al ++ l, false) := readS_vars (attI at_ a) _ (by
      intro z hz
      simp only [attI, List.mem_cons, List.not_mem_nil, or_false] at hz
      rcases hz with rfl | rfl | rfl | rfl | rfl | rfl | rfl | rfl <;> omega)
    simp only [List.length_cons, attsP, Bool.false_eq_true, if_false, encA, List.append_assoc, hrd]
    have e1 : (at_ : Nat) + nat8 ((attI at_ a).map Int.toNat) 0 = a.s.toNat := by simp [attI, nat8]; omega
    have e2 : ((a.s.toNat : Nat) : Int) = a.s := by omega
    have ih := attsP_enc al a.s.toNat l (by rw [e2]; exact hc)
    rw [e2] at ih
    rw [e1, ih]
    have e3 : mkA at_ ((attI at_ a).map Int.toNat) = a := by
      rw [Att.ext_iff']
      simp only [mkA, e1]
      simp only [attI, nat8, List.map_cons, List.getD_cons_succ, List.getD_cons_zero]
      omega
    rw [e3]
theorem dlvsP_enc : ∀ (dl : List Dlv) (at_ : Nat) (l : List UInt8), chainD at_ dl → dlvsP dl.length at_ (encD at_ dl ++ l) false = (dl, l, false)
  | [], at_, l, _ => by simp [dlvsP, encD]
  | a :: al, at_, l, h => by
    obtain ⟨h0, hr, hc⟩ := h
    have hrd : readS 3 (vars (dlvI at_ a) ++ (encD a.sl al ++ l)) false = ((dlvI at_ a).map Int.toNat, encD a.sl al ++ l, false) := readS_vars (dlvI at_ a) _ (by
      intro z hz
      simp only [dlvI, List.mem_cons, List.not_mem_nil, or_false] at hz
      rcases hz with rfl | rfl | rfl <;> omega)
    simp only [List.length_cons, dlvsP, Bool.false_eq_true, if_false, encD, List.append_assoc, hrd]
    have e1 : (at_ : Nat) + nat8 ((dlvI at_ a).map Int.toNat) 0 = a.sl.toNat := by simp [dlvI, nat8]; omega
    have e2 : ((a.sl.toNat : Nat) : Int) = a.sl := by omega
    have ih := dlvsP_enc al a.sl.toNat l (by rw [e2]; exact hc)
    rw [e2] at ih
    rw [e1, ih]
    have e3 : mkD at_ ((dlvI at_ a).map Int.toNat) = a := by
      rw [Dlv.ext_iff']
      simp only [mkD, e1]
      simp only [dlvI, nat8, List.map_cons, List.getD_cons_succ, List.getD_cons_zero]
      omega
    rw [e3]

theorem decP_enc {r : Rec} (h : good r = true) : decP (encR r) = ⟨r, [], false⟩ := by
  obtain ⟨g0, g1, g2, g3, g4, g5⟩ := good_parts h
  have cA := chainA_of g1 r.al none [] (-1) g4
  have cD := chainD_of g1 r.dl none g5
  have h1 := readS_vars [r.slots, (r.al.length : Int)] (encA 0 r.al ++ (vars [(r.dl.length : Int)] ++ encD 0 r.dl)) (by
    intro z hz
    simp only [List.mem_cons, List.not_mem_nil, or_false] at hz
    rcases hz with rfl | rfl <;> omega)
  have h2 := attsP_enc r.al 0 (vars [(r.dl.length : Int)] ++ encD 0 r.dl) cA
  have h3 := readS_vars [(r.dl.length : Int)] (encD 0 r.dl) (by
    intro z hz
    simp only [List.mem_cons, List.not_mem_nil, or_false] at hz
    rcases hz with rfl; omega)
  have h4 := dlvsP_enc r.dl 0 [] cD
  simp only [List.length_cons, List.length_nil, Nat.zero_add, Nat.reduceAdd] at h1 h3
  simp only [List.append_nil] at h4
  unfold decP encR
  rw [h1]
  simp only [nat8, List.map_cons, List.map_nil, List.getD_cons_succ, List.getD_cons_zero, Int.toNat_natCast]
  have e0 : ((0 : Nat) : Int) = 0 := rfl
  rw [e0] at h2 h4
  rw [h2]
  simp only
  rw [h3]
  simp only [List.map_cons, List.map_nil, List.getD_cons_zero, Int.toNat_natCast]
  rw [h4]
  have e5 : ((r.slots.toNat : Nat) : Int) = r.slots := by omega
  rw [e5]

theorem dec_enc {r : Rec} (h : good r = true) : decOk (encR r) = true ∧ (decP (encR r)).r = r := by
  have e := decP_enc h
  unfold decOk
  rw [e]
  exact ⟨by simp [h], rfl⟩

/-! ### more bytes behind -/
theorem numF_more : ∀ (f i n : Nat) (l : List UInt8) (m : Nat) (b : Bool) (l' e : List UInt8), numF f i n l = some (m, b, l') → numF f i n (l ++ e) = some (m, b, l' ++ e)
  | 0, _, _, _, _, _, _, _, h => by simp [numF] at h
  | f + 1, i, n, [], _, _, _, _, h => by simp [numF] at h
  | f + 1, i, n, c :: l, m, b, l', e, h => by
    simp only [numF, List.cons_append] at h ⊢
    by_cases hc : c.toNat < 128
    · rw [if_pos hc] at h ⊢
      injection h with h
      injection h with h1 h2
      injection h2 with h2 h3
      subst h1 h2 h3
      rfl
    · rw [if_neg hc] at h ⊢
      exact numF_more f (i + 1) _ l m b l' e h
theorem numS_more {k : Nat} {d d' : List UInt8} {b : Bool} {n : Nat} (e : List UInt8) (h : numS k d b = (n, d', false)) : numS k (d ++ e) b = (n, d' ++ e, false) := by
  unfold numS at h ⊢
  split at h
  · simp at h
  · rename_i hb
    rw [if_neg hb]
    split at h
    · rename_i n' b' l' hn
      rw [numF_more k 0 0 d n' b' l' e hn]
      simp only [Prod.mk.injEq] at h ⊢
      obtain ⟨rfl, rfl, rfl⟩ := h
      exact ⟨rfl, rfl, rfl⟩
    · simp at h
theorem readS_more : ∀ (k : Nat) (d : List UInt8) (b : Bool) (vs : List Nat) (d' e : List UInt8), readS k d b = (vs, d', false) → readS k (d ++ e) b = (vs, d' ++ e, false)
  | 0, d, b, vs, d', e, h => by
    simp only [readS, Prod.mk.injEq] at h ⊢
    obtain ⟨rfl, rfl, rfl⟩ := h
    exact ⟨rfl, rfl, rfl⟩
  | k + 1, d, b, vs, d', e, h => by
    simp only [readS, Prod.mk.injEq] at h ⊢
    obtain ⟨h1, h2⟩ := h
    generalize hq : numS 5 d b = q at h1 h2
    obtain ⟨n, d1, b1⟩ := q
    dsimp only at h1 h2
    have hb1 : b1 = false := by
      cases b1 with
      | false => rfl
      | true => rw [readS_bad] at h2; simp at h2
    subst hb1
    rw [numS_more e hq]
    have ih := readS_more k d1 false (readS k d1 false).1 d' e (by
      generalize readS k d1 false = t at h2 ⊢
      obtain ⟨t1, t2⟩ := t
      dsimp only at h2 ⊢
      rw [h2])
    dsimp only
    rw [ih]
    exact ⟨h1, rfl⟩
theorem attsP_bad (n at_ : Nat) (d : List UInt8) : attsP n at_ d true = ([], d, true) := by cases n <;> simp [attsP]
theorem dlvsP_bad (n at_ : Nat) (d : List UInt8) : dlvsP n at_ d true = ([], d, true) := by cases n <;> simp [dlvsP]
theorem attsP_more : ∀ (n at_ : Nat) (d : List UInt8) (b : Bool) (l : List Att) (d' e : List UInt8), attsP n at_ d b = (l, d', false) → attsP n at_ (d ++ e) b = (l, d' ++ e, false)
  | 0, at_, d, b, l, d', e, h => by
    simp only [attsP, Prod.mk.injEq] at h ⊢
    obtain ⟨rfl, rfl, rfl⟩ := h
    exact ⟨rfl, rfl, rfl⟩
  | n + 1, at_, d, true, l, d', e, h => by simp [attsP] at h
  | n + 1, at_, d, false, l, d', e, h => by
    simp only [attsP, Bool.false_eq_true, if_false] at h ⊢
    generalize hq : readS 8 d false = q at h
    obtain ⟨vs, d1, b1⟩ := q
    dsimp only at h
    simp only [Prod.mk.injEq] at h
    obtain ⟨h1, h2⟩ := h
    have hb1 : b1 = false := by
      cases b1 with
      | false => rfl
      | true => rw [attsP_bad] at h2; simp at h2
    subst hb1
    rw [readS_more 8 d false vs d1 e hq]
    have ih := attsP_more n (at_ + nat8 vs 0) d1 false (attsP n (at_ + nat8 vs 0) d1 false).1 d' e (by
      generalize attsP n (at_ + nat8 vs 0) d1 false = t at h2 ⊢
      obtain ⟨t1, t2⟩ := t
      dsimp only at h2 ⊢
      rw [h2])
    rw [ih, ← h1]
theorem dlvsP_more : ∀ (n at_ : Nat) (d : List UInt8) (b : Bool) (l : List Dlv) (d' e : List UInt8), dlvsP n at_ d b = (l, d', false) → dlvsP n at_ (d ++ e) b = (l, d' ++ e, false)
  | 0, at_, d, b, l, d', e, h => by
    simp only [dlvsP, Prod.mk.injEq] at h ⊢
    obtain ⟨rfl, rfl, rfl⟩ := h
    exact ⟨rfl, rfl, rfl⟩
  | n + 1, at_, d, true, l, d', e, h => by simp [dlvsP] at h
  | n + 1, at_, d, false, l, d', e, h => by
    simp only [dlvsP, Bool.false_eq_true, if_false] at h ⊢
    generalize hq : readS 3 d false = q at h
    obtain ⟨vs, d1, b1⟩ := q
    dsimp only at h
    simp only [Prod.mk.injEq] at h
    obtain ⟨h1, h2⟩ := h
    have hb1 : b1 = false := by
      cases b1 with
      | false => rfl
      | true => rw [dlvsP_bad] at h2; simp at h2
    subst hb1
    rw [readS_more 3 d false vs d1 e hq]
    have ih := dlvsP_more n (at_ + nat8 vs 0) d1 false (dlvsP n (at_ + nat8 vs 0) d1 false).1 d' e (by
      generalize dlvsP n (at_ + nat8 vs 0) d1 false = t at h2 ⊢
      obtain ⟨t1, t2⟩ := t
      dsimp only at h2 ⊢
      rw [h2])
    rw [ih, ← h1]

theorem decP_more {d e d' : List UInt8} {r : Rec} (h : decP d = ⟨r, d', false⟩) : decP (d ++ e) = ⟨r, d' ++ e, false⟩ := by
  unfold decP at h ⊢
  generalize hh : readS 2 d false = q at h
  obtain ⟨vs, d1, b1⟩ := q
  dsimp only at h
  generalize ha : attsP (nat8 vs 1) 0 d1 b1 = qa at h
  obtain ⟨al, d2, b2⟩ := qa
  dsimp only at h
  generalize hm : readS 1 d2 b2 = qm at h
  obtain ⟨ms, d3, b3⟩ := qm
  dsimp only at h
  generalize hd : dlvsP (nat8 ms 0) 0 d3 b3 = qd at h
  obtain ⟨dl, d4, b4⟩ := qd
  dsimp only at h
  simp only [Dec.mk.injEq] at h
  obtain ⟨rfl, rfl, rfl⟩ := h
  have f3 : b3 = false := by
    cases b3 with
    | false => rfl
    | true => rw [dlvsP_bad] at hd; simp at hd
  subst f3
  have f2 : b2 = false := by
    cases b2 with
    | false => rfl
    | true =>
      have := readS_bad 1 d2
      rw [hm] at this
      simp at this
  subst f2
  have f1 : b1 = false := by
    cases b1 with
    | false => rfl
    | true => rw [attsP_bad] at ha; simp at ha
  subst f1
  rw [readS_more 2 d false vs d1 e hh]
  dsimp only
  rw [attsP_more _ _ _ _ _ _ e ha]
  dsimp only
  rw [readS_more 1 d2 false ms d3 e hm]
  dsimp only
  rw [dlvsP_more _ _ _ _ _ _ e hd]

theorem dec_prefix {r : Rec} (h : good r = true) (k : Nat) (hk : k < (encR r).length) : decOk ((encR r).take k) = false := by
  rw [Bool.eq_false_iff]
  intro hok
  generalize hp : decP ((encR r).take k) = p at *
  obtain ⟨q, d, b⟩ := p
  have h2 := hok
  unfold decOk at h2
  rw [hp] at h2
  simp only [Bool.and_eq_true, Bool.not_eq_true', List.isEmpty_iff] at h2
  obtain ⟨hb, hd, _⟩ := h2
  subst hb hd
  have h3 := decP_more (e := (encR r).drop k) hp
  rw [List.take_append_drop, decP_enc h] at h3
  simp only [Dec.mk.injEq, List.nil_append] at h3
  have : ((encR r).drop k).length = 0 := by rw [← h3.2.1]; rfl
  rw [List.length_drop] at this
  omega

theorem encA_length : ∀ (at_ : Int) (l : List Att), (encA at_ l).length ≤ 80 * l.length
  | _, [] => by simp [encA]
  | at_, a :: l => by
    have h1 := vars_length (attI at_ a)
    have h2 := encA_length a.s l
    simp only [encA, List.length_append, List.length_cons]
    have : (attI at_ a).length = 8 := rfl
    omega
theorem encD_length : ∀ (at_ : Int) (l : List Dlv), (encD at_ l).length ≤ 30 * l.length
  | _, [] => by simp [encD]
  | at_, a :: l => by
    have h1 := vars_length (dlvI at_ a)
    have h2 := encD_length a.sl l
    simp only [encD, List.length_append, List.length_cons]
    have : (dlvI at_ a).length = 3 := rfl
    omega
theorem encR_length (r : Rec) : (encR r).length ≤ 30 + 80 * r.al.length + 30 * r.dl.length := by
  have h1 := vars_length [r.slots, (r.al.length : Int)]
  have h2 := encA_length 0 r.al
  have h3 := vars_length [(r.dl.length : Int)]
  have h4 := encD_length 0 r.dl
  simp only [encR, List.length_append, List.length_cons, List.length_nil] at *
  omega
theorem varF_pos : ∀ (f n : Nat), 0 < (varF f n).length
  | 0, _ => by simp [varF]
  | f + 1, n => by
    simp only [varF]
    split <;> simp
theorem encR_pos (r : Rec) : 0 < (encR r).length := by
  have := varF_pos 9 r.slots.toNat
  simp only [encR, vars, varN, List.flatMap_cons, List.length_append] at *
  omega
end Rc
end Go.Proofs.Ytllakkepphpfmaa

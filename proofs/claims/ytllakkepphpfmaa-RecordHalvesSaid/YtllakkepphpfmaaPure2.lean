/- The reference's Check, in plain Lean. -/
import Derived.Test.YtllakkepphpfmaaPure
namespace Go.Proofs.Ytllakkepphpfmaa
namespace Rc

def notLess (rev : List Att) (a : Att) : Bool :=
  match rev with
  | p :: _ => !lessA p a
  | [] => false
def sameFrom : List Att → Att → Bool
  | [], _ => false
  | p :: r, a => if p.s = a.s then (if p.cf = a.cf then true else sameFrom r a) else false
def attsRGo (slots : Int) : List Att → List Att → Bool
  | _, [] => true
  | rev, a :: l => if (!attR slots a || notLess rev a) = true then false else if sameFrom rev a = true then false else attsRGo slots (a :: rev) l
def dlvR (slots : Int) (d : Dlv) : Bool := inB d.sl 0 (slots - 1) && (inB d.fl 0 255 && inB d.fr 0 1048575)
def backD (p d : Dlv) : Bool := decide (d.sl < p.sl) || ((d.sl == p.sl) && decide (d.fl ≤ p.fl))
def backO (p : Option Dlv) (d : Dlv) : Bool :=
  match p with
  | some q => backD q d
  | none => false
def dlvsRGo (slots : Int) : Option Dlv → List Dlv → Bool
  | _, [] => true
  | p, d :: l => if dlvR slots d = false then false else if backO p d = true then false else dlvsRGo slots (some d) l
def goodR (r : Rec) : Bool := inB r.slots 0 4096 && (decide (r.al.length ≤ 65536) && (decide (r.dl.length ≤ 65536) && (attsRGo r.slots [] r.al && dlvsRGo r.slots none r.dl)))
def rcheckE (r : Rec) : Int := if goodR r then 0 else 1

/-! ### the two agree -/
theorem belowB_inB (n m : Int) : belowB n m = inB n 0 (m - 1) := by
  unfold belowB inB
  congr 1
  rw [Bool.eq_iff_iff]; simp; omega

theorem attB_attR (a : Att) (slots : Int) : attB a slots = attR slots a := by
  unfold attB attR
  simp only [belowB_inB]
  simp [inB]

theorem lessL_orI : ∀ (xs ys : List Int), xs.length = ys.length → lessL xs ys = decide (orI (List.zipWith cmpI xs ys) < 0)
  | [], [], _ => by simp [lessL, orI]
  | x :: xs, y :: ys, h => by
    have ih := lessL_orI xs ys (by simpa using h)
    simp only [lessL, List.zipWith_cons_cons, orI]
    by_cases hxy : x = y
    · subst hxy
      simp [cmpI, ih]
    · rw [if_neg hxy]
      unfold cmpI
      by_cases h1 : x < y
      · simp [h1]
      · have h2 : y < x := by omega
        simp [h1, h2]

theorem lessA_cmpA (p a : Att) : lessA p a = decide (cmpA p a < 0) := lessL_orI _ _ rfl

theorem prevBad_notLess (rev : List Att) (a : Att) : prevBad rev.head? a = notLess rev a := by
  cases rev with
  | nil => rfl
  | cons p r =>
    simp only [prevBad, notLess, List.head?_cons, lessA_cmpA]
    rw [Bool.eq_iff_iff]; simp

/-- the senders of the slot of the last attempt -/
def sendersOf : List Att → Int → List Int
  | [], _ => []
  | p :: r, s => if p.s = s then p.cf :: sendersOf r s else []

theorem sameFrom_senders : ∀ (rev : List Att) (a : Att), sameFrom rev a = decide (a.cf ∈ sendersOf rev a.s)
  | [], a => by simp [sameFrom, sendersOf]
  | p :: r, a => by
    have ih := sameFrom_senders r a
    rw [Bool.eq_iff_iff] at ih ⊢
    rw [decide_eq_true_iff] at ih ⊢
    by_cases h : p.s = a.s
    · have hs : sendersOf (p :: r) a.s = p.cf :: sendersOf r a.s := by simp [sendersOf, h]
      rw [hs]
      simp only [sameFrom, h, if_true, List.mem_cons]
      by_cases h2 : p.cf = a.cf
      · simp [h2]
      · have : ¬ a.cf = p.cf := fun e => h2 e.symm
        simp [h2, this, ih]
    · have hs : sendersOf (p :: r) a.s = [] := by simp [sendersOf, h]
      rw [hs]
      simp [sameFrom, h]

theorem attsGo_attsRGo (slots : Int) : ∀ (l rev : List Att) (S : List Int) (at_ : Int), S = sendersOf rev at_ → (∀ p, rev.head? = some p → p.s = at_) → (rev = [] → ∀ a, attB a slots = true → a.s ≠ at_) →
    attsGo slots rev.head? S at_ l = attsRGo slots rev l
  | [], _, _, _, _, _, _ => by simp [attsGo, attsRGo]
  | a :: l, rev, S, at_, hS, hat, hno => by
    simp only [attsGo, attsRGo]
    rw [prevBad_notLess, attB_attR]
    by_cases hb : (!attR slots a || notLess rev a) = true
    · rw [if_pos hb, if_pos hb]
    · rw [if_neg hb, if_neg hb]
      have hga : attB a slots = true := by
        rw [attB_attR]
        revert hb
        cases attR slots a <;> simp
      by_cases hs : a.s = at_
      · subst hs
        rw [if_pos rfl, sameFrom_senders, hS]
        by_cases hin : a.cf ∈ sendersOf rev a.s
        · simp [hin]
        · simp only [hin, if_false, decide_false, Bool.false_eq_true]
          exact attsGo_attsRGo slots l (a :: rev) _ _ (by simp [sendersOf]) (by simp) (by simp)
      · rw [if_neg hs]
        have hsf : sameFrom rev a = false := by
          rw [sameFrom_senders]
          cases rev with
          | nil => simp [sendersOf]
          | cons p r =>
            have : ¬ p.s = a.s := by rw [hat p rfl]; exact fun e => hs e.symm
            simp [sendersOf, this]
        rw [hsf]
        simp only [Bool.false_eq_true, if_false]
        refine attsGo_attsRGo slots l (a :: rev) _ _ ?_ (by simp) (by simp)
        cases rev with
        | nil => simp [sendersOf]
        | cons p r =>
          have : ¬ p.s = a.s := by rw [hat p rfl]; exact fun e => hs e.symm
          simp [sendersOf, this]

theorem attB_slot {a : Att} {slots : Int} (h : attB a slots = true) : a.s ≠ -1 := by
  simp [attB, belowB] at h
  omega

theorem attsB_attsR (l : List Att) (slots : Int) : attsB l slots = attsRGo slots [] l :=
  attsGo_attsRGo slots l [] [] (-1) rfl (by simp) (fun _ _ h => attB_slot h)

theorem dlvB_dlvR (d : Dlv) (slots : Int) : dlvB d slots = dlvR slots d := by
  unfold dlvB dlvR
  simp only [belowB_inB]
  simp [inB, Bool.and_comm, Bool.and_left_comm]

theorem cmpD_backD (p d : Dlv) : decide (0 ≤ cmpD p d) = backD p d := by
  unfold cmpD backD orI orI orI cmpI
  rw [Bool.eq_iff_iff]
  simp
  by_cases h1 : p.sl < d.sl
  · simp [h1]; omega
  · by_cases h2 : d.sl < p.sl
    · simp [h1, h2]
    · have h3 : d.sl = p.sl := by omega
      simp [h3]
      by_cases h4 : p.fl < d.fl
      · simp [h4]
      · by_cases h5 : d.fl < p.fl
        · simp [h4, h5]; omega
        · simp [h4, h5]; omega

theorem dlvsGo_dlvsR (slots : Int) : ∀ (l : List Dlv) (p : Option Dlv), dlvsGo slots p l = dlvsRGo slots p l
  | [], _ => by simp [dlvsGo, dlvsRGo]
  | d :: l, p => by
    simp only [dlvsGo, dlvsRGo]
    rw [dlvB_dlvR, dlvsGo_dlvsR slots l (some d)]
    have : prevBadD p d = backO p d := by
      cases p with
      | none => rfl
      | some q => exact cmpD_backD q d
    rw [this]

theorem check_agree (r : Rec) : checkE r = rcheckE r := by
  unfold checkE rcheckE
  have : good r = goodR r := by
    unfold good goodR
    rw [attsB_attsR, dlvsB, dlvsGo_dlvsR]
    simp [inB, Bool.and_assoc]
  rw [this]
end Rc
end Go.Proofs.Ytllakkepphpfmaa

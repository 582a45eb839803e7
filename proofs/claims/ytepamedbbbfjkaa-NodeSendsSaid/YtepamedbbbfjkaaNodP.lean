/- Plain: flows, holdings, and what the node layer computes. No program's numbers. -/
namespace Go.Proofs.Ytepamedbbbfjkaa
namespace Nd

structure Fl where
  (id fr tn pe ph dl : Int)
structure Hd where
  (fl fr : Int) (ak : List Int)

def inB (n lo hi : Int) : Bool := decide (lo ≤ n) && decide (n ≤ hi)
def boundsB (f : Fl) : Bool := inB f.id 0 255 && inB f.fr 0 31 && inB f.tn 0 31 && inB f.pe 1 512 && inB f.ph 0 (f.pe - 1) && inB f.dl 1 f.pe
def fault (f : Fl) : Int := if boundsB f = true then (if f.fr = f.tn then 1 else 0) else 2
theorem fault_cases (f : Fl) : fault f = 0 ∨ fault f = 1 ∨ fault f = 2 := by
  unfold fault; split
  · split <;> simp
  · simp
theorem fault_zero {f : Fl} (h : fault f = 0) : (0 ≤ f.id ∧ f.id ≤ 255) ∧ (0 ≤ f.fr ∧ f.fr ≤ 31) ∧ (0 ≤ f.tn ∧ f.tn ≤ 31) ∧ (1 ≤ f.pe ∧ f.pe ≤ 512) ∧ (0 ≤ f.ph ∧ f.ph ≤ f.pe - 1) ∧ (1 ≤ f.dl ∧ f.dl ≤ f.pe) ∧ f.fr ≠ f.tn := by
  unfold fault at h
  split at h
  · rename_i hb
    split at h
    · cases h
    · rename_i hne
      simp only [boundsB, inB, Bool.and_eq_true, decide_eq_true_eq] at hb
      obtain ⟨⟨⟨⟨⟨a, b⟩, c⟩, d⟩, e⟩, f'⟩ := hb
      exact ⟨a, b, c, d, e, f', hne⟩
  · cases h

/-- Is a flow's number not greater than that of the one ahead of it? -/
def notUp (p : Option Fl) (f : Fl) : Bool := match p with
  | none => false
  | some q => decide (f.id ≤ q.id)
def chkGo : Option Fl → Int → List Fl → Int × Int
  | _, _, [] => (-1, 0)
  | p, i, f :: l => if fault f = 0 then (if notUp p f = true then (i, 5) else chkGo (some f) (i + 1) l) else (i, fault f)
def chkF (l : List Fl) : Int × Int := if 16 < l.length then (-1, 8) else chkGo none 0 l

/-- The place of the first element of which p holds, or -1. -/
def idxP {α : Type} (p : α → Bool) : List α → Int → Int
  | [], _ => -1
  | a :: l, k => if p a = true then k else idxP p l (k + 1)
theorem idxP_spec {α : Type} (p : α → Bool) : ∀ (l : List α) (k : Int), (idxP p l k = -1 ∧ l.all (fun a => !p a) = true) ∨ ∃ (i : Nat) (a : α), l[i]? = some a ∧ p a = true ∧ idxP p l k = k + (i : Int) ∧ (l.take i).all (fun a => !p a) = true
  | [], k => .inl ⟨rfl, rfl⟩
  | a :: l, k => by
    unfold idxP
    by_cases h : p a = true
    · rw [if_pos h]; exact .inr ⟨0, a, rfl, h, by simp, rfl⟩
    · rw [if_neg h]
      rcases idxP_spec p l (k + 1) with ⟨h1, h2⟩ | ⟨i, b, h1, h2, h3, h4⟩
      · exact .inl ⟨h1, by simp [h, h2]⟩
      · exact .inr ⟨i + 1, b, by simpa using h1, h2, by rw [h3]; push_cast; omega, by simp [h, h4]⟩
def findF (l : List Fl) (id : Int) : Int := idxP (fun f => f.id == id) l 0
def findH (l : List Hd) (id : Int) : Int := idxP (fun h => h.fl == id) l 0

def cur (f : Fl) (slot : Int) : Int × Bool := if fault f = 0 ∧ f.ph ≤ slot ∧ slot ≤ 1099511627776 then ((slot - f.ph) / f.pe, true) else (0, false)

def akGo : Option Int → List Int → Bool
  | _, [] => true
  | p, n :: l => decide (0 ≤ n) && decide (n < 32) && (match p with | none => true | some q => decide (q < n)) && akGo (some n) l
def hdB (fs : List Fl) (p : Option Hd) (h : Hd) : Bool := decide (0 ≤ findF fs h.fl) && (match p with | none => true | some q => decide (q.fl < h.fl)) && decide (0 ≤ h.fr) && decide (h.fr ≤ 1073741824)
def hdGo (fs : List Fl) : Option Hd → List Hd → Bool
  | _, [] => true
  | p, h :: l => hdB fs p h && akGo none h.ak && hdGo fs (some h) l
def chkH (fs : List Fl) (l : List Hd) : Int := if (chkF fs).2 = 0 ∧ hdGo fs none l = true then 0 else 1
def chk (fs : List Fl) (self slot : Int) (l : List Hd) : Int := if chkH fs l = 0 then (if 0 ≤ self ∧ self < 32 ∧ 0 ≤ slot ∧ slot ≤ 1073741824 then 0 else 2) else 1

/-- A holding laid in its place. -/
def ins (l : List Hd) (h : Hd) : List Hd := l.takeWhile (fun x => decide (x.fl < h.fl)) ++ h :: l.dropWhile (fun x => decide (x.fl < h.fl))

def hear (fs : List Fl) (self slot : Int) (l : List Hd) (cf frame : Int) : List Hd × Bool × Int :=
  if chk fs self slot l = 0 then
    match fs[(findF fs cf).toNat]? with
    | none => (l, false, 0)
    | some f =>
      if findF fs cf < 0 ∨ 0 ≤ findH l cf then (l, false, 0)
      else if (cur f slot).2 = true ∧ (cur f slot).1 = frame then (ins l ⟨cf, frame, []⟩, f.tn == self, 0) else (l, false, 0)
  else ([], false, chk fs self slot l)

end Nd
end Go.Proofs.Ytepamedbbbfjkaa

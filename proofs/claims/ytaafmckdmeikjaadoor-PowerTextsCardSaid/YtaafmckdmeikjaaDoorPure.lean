/- The plain functions that the record's Go functions compute: no Go in sight. -/
namespace Go.Proofs.YtaafmckdmeikjaaDoor
namespace Rc

structure Att where
  s : Int
  f : Int
  cs : Int
  co : Int
  cf : Int
  ct : Int
  cl : Int
  o : Int

structure Dlv where
  fl : Int
  fr : Int
  sl : Int

structure Rec where
  slots : Int
  al : List Att
  dl : List Dlv

instance : Inhabited Att := ⟨⟨0, 0, 0, 0, 0, 0, 0, 0⟩⟩
instance : Inhabited Dlv := ⟨⟨0, 0, 0⟩⟩

theorem Att.ext_iff' (a b : Att) : a = b ↔ (a.s = b.s ∧ a.f = b.f ∧ a.cs = b.cs ∧ a.co = b.co ∧ a.cf = b.cf ∧ a.ct = b.ct ∧ a.cl = b.cl ∧ a.o = b.o) := by
  cases a; cases b; simp
theorem Dlv.ext_iff' (a b : Dlv) : a = b ↔ (a.fl = b.fl ∧ a.fr = b.fr ∧ a.sl = b.sl) := by
  cases a; cases b; simp
instance : DecidableEq Att := fun a b => decidable_of_iff _ (Att.ext_iff' a b).symm
instance : DecidableEq Dlv := fun a b => decidable_of_iff _ (Dlv.ext_iff' a b).symm
theorem Rec.ext_iff' (a b : Rec) : a = b ↔ (a.slots = b.slots ∧ a.al = b.al ∧ a.dl = b.dl) := by
  cases a; cases b; simp
instance : DecidableEq Rec := fun a b => decidable_of_iff _ (Rec.ext_iff' a b).symm

/-- from 0 on, and less than another one -/
def belowB (n m : Int) : Bool := decide (0 ≤ n) && decide (n < m)

def attB (a : Att) (slots : Int) : Bool :=
  belowB a.s slots && (belowB a.f 1048576 && (belowB a.cs 512 && (belowB a.co 16 && (belowB a.cf 32 && (belowB a.ct 32 && (!(a.cf == a.ct) && (belowB a.cl 256 && (decide (1 ≤ a.o) && decide (a.o ≤ 4)))))))))

def cmpI (x y : Int) : Int := if x < y then -1 else if y < x then 1 else 0
def orI : List Int → Int
  | [] => 0
  | x :: l => if x = 0 then orI l else x
def cmpA (x y : Att) : Int := orI [cmpI x.s y.s, cmpI x.cs y.cs, cmpI x.co y.co, cmpI x.cf y.cf, cmpI x.ct y.ct, cmpI x.cl y.cl]
def prevBad (p : Option Att) (a : Att) : Bool :=
  match p with
  | some p => decide (0 ≤ cmpA p a)
  | none => false

/-- the walk over attempts: the one before, the senders of the slot 'at_' -/
def attsGo (slots : Int) : Option Att → List Int → Int → List Att → Bool
  | _, _, _, [] => true
  | p, S, at_, a :: l =>
    if (!attB a slots || prevBad p a) = true then false
    else if a.s = at_ then (if a.cf ∈ S then false else attsGo slots (some a) (a.cf :: S) at_ l)
    else attsGo slots (some a) [a.cf] a.s l
def attsB (l : List Att) (slots : Int) : Bool := attsGo slots none [] (-1) l

def dlvB (d : Dlv) (slots : Int) : Bool := belowB d.fl 256 && (belowB d.fr 1048576 && belowB d.sl slots)
def cmpD (x y : Dlv) : Int := orI [cmpI x.sl y.sl, cmpI x.fl y.fl]
def prevBadD (p : Option Dlv) (d : Dlv) : Bool :=
  match p with
  | some p => decide (0 ≤ cmpD p d)
  | none => false
def dlvsGo (slots : Int) : Option Dlv → List Dlv → Bool
  | _, [] => true
  | p, d :: l => if dlvB d slots = false then false else if prevBadD p d = true then false else dlvsGo slots (some d) l
def dlvsB (l : List Dlv) (slots : Int) : Bool := dlvsGo slots none l

/-- what Check accepts -/
def good (r : Rec) : Bool :=
  decide (0 ≤ r.slots) && (decide (r.slots ≤ 4096) && (decide (r.al.length ≤ 65536) && (decide (r.dl.length ≤ 65536) && (attsB r.al r.slots && dlvsB r.dl r.slots))))
def checkE (r : Rec) : Int := if good r then 0 else 1

/-- the reference's check -/
def inB (n lo hi : Int) : Bool := decide (lo ≤ n) && decide (n ≤ hi)
def attR (slots : Int) (a : Att) : Bool :=
  inB a.s 0 (slots - 1) && (inB a.f 0 1048575 && (inB a.cs 0 511 && (inB a.co 0 15 && (inB a.cf 0 31 && (inB a.ct 0 31 && (!(a.cf == a.ct) && (inB a.cl 0 255 && inB a.o 1 4)))))))
def keysA (a : Att) : List Int := [a.s, a.cs, a.co, a.cf, a.ct, a.cl]
def lessL : List Int → List Int → Bool
  | x :: xs, y :: ys => if x = y then lessL xs ys else decide (x < y)
  | _, _ => false
def lessA (x y : Att) : Bool := lessL (keysA x) (keysA y)

end Rc
end Go.Proofs.YtaafmckdmeikjaaDoor

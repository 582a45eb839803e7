/- Numbers as bytes of seven bits, plain. -/
import Derived.WalkKit
import Derived.Laws.Entries
import Derived.Maps.AppendAt
import Derived.Test.YtllakkepphpfmaaBits
namespace Go.Proofs.Ytllakkepphpfmaa
open Go.RowKit
namespace Rc

/-- the bytes of a number, at most f + 1 of them -/
def varF : Nat → Nat → List UInt8
  | 0, n => [UInt8.ofNat n]
  | f + 1, n => if n < 128 then [UInt8.ofNat n] else UInt8.ofNat (n % 128 + 128) :: varF f (n / 128)
def varN (n : Nat) : List UInt8 := varF 9 n

theorem varF_length : ∀ (f n : Nat), (varF f n).length ≤ f + 1
  | 0, _ => by simp [varF]
  | f + 1, n => by
    simp only [varF]
    split
    · simp
    · have := varF_length f (n / 128); simp; omega
theorem varN_length (n : Nat) : (varN n).length ≤ 10 := varF_length 9 n
theorem varN_one {n : Nat} (h : n < 128) : varN n = [UInt8.ofNat n] := by simp [varN, varF, h]
theorem varF_more : ∀ (f n : Nat), n < 128 ^ (f + 1) → varF (f + 1) n = varF f n
  | 0, n, h => by simp [varF]; omega
  | f + 1, n, h => by
    rw [varF]
    by_cases hn : n < 128
    · simp [varF, hn]
    · rw [if_neg hn, varF_more f (n / 128) (by rw [Nat.pow_succ] at h; omega)]
      conv => rhs; rw [varF]
      rw [if_neg hn]
theorem varN_step {n : Nat} (h : 128 ≤ n) (hn : n < 9223372036854775808) : varN n = UInt8.ofNat (n % 128 + 128) :: varN (n / 128) := by
  unfold varN
  have e : (128 : Nat) ^ (8 + 1) = 9223372036854775808 := by decide
  rw [varF, if_neg (by omega), ← varF_more 8 (n / 128) (by omega)]

/-- a byte as a cell -/
def B8 (c : UInt8) : Value := .int .u8 c.toNat

theorem byte_low (n : Nat) (_h : n < 128) : ((n : Int) % 256) = ((UInt8.ofNat n).toNat : Int) := by
  rw [UInt8.toNat_ofNat']; omega
theorem byte_same (n : Nat) (_h : n < 128) : (n : Int) = ((UInt8.ofNat n).toNat : Int) := by
  rw [UInt8.toNat_ofNat']; omega
theorem byte_high (n : Nat) : bits .or .u8 ((n : Int) % 256) 128 = ((UInt8.ofNat (n % 128 + 128)).toNat : Int) := by
  have e1 : ((n : Int) % 256) = ((n % 256 : Nat) : Int) := by omega
  rw [e1, show (128 : Int) = ((128 : Nat) : Int) from rfl, bits_or_u8 _ _ (by omega) (by decide), UInt8.toNat_ofNat']
  have e0 : ∀ m : Fin 256, m.val ||| 128 = m.val % 128 + 128 := by decide +kernel
  have e2 : (n % 256) ||| 128 = n % 128 + 128 := by
    have := e0 ⟨n % 256, by omega⟩
    simp only at this
    omega
  rw [e2]; omega
end Rc

/-- From (w, v) to (w', v'): an owned row has grown; no other old block has changed. -/
structure Grew (w : World) (v : Value) (w' : World) (v' : Value) : Prop where
  by_ : w.grownBy w' v.ownBlock
  at_ : v'.ownBlock = v.ownBlock ∨ ∃ k, v'.ownBlock = some k ∧ w.heap.size ≤ k
theorem Grew.refl (w : World) (v : Value) : Grew w v w v := ⟨World.grownBy.refl _ _, .inl rfl⟩
theorem Grew.trans {w w1 w2 : World} {v v1 v2 : Value} (h : Grew w v w1 v1) (k : Grew w1 v1 w2 v2) : Grew w v w2 v2 := by
  refine ⟨⟨k.by_.os.trans h.by_.os, k.by_.tape.trans h.by_.tape, k.by_.output.trans h.by_.output, Nat.le_trans h.by_.size k.by_.size, fun i hi hne => ?_⟩, ?_⟩
  · refine (k.by_.block i (Nat.lt_of_lt_of_le hi h.by_.size) ?_).trans (h.by_.block i hi hne)
    rcases h.at_ with e | ⟨j, e, hj⟩
    · rw [e]; exact hne
    · rw [e]; intro he; injection he with he; omega
  · rcases k.at_ with e | ⟨j, e, hj⟩
    · rcases h.at_ with e' | ⟨j, e', hj⟩
      · exact .inl (e.trans e')
      · exact .inr ⟨j, e.trans e', hj⟩
    · exact .inr ⟨j, e, Nat.le_trans h.by_.size hj⟩
theorem Grew.alloc {w w1 : World} {v v1 : Value} (h : Grew w v w1 v1) (o : Obj) : Grew w v (w1.alloc o) v1 := h.trans ⟨World.grownBy_alloc _ _ _, .inl rfl⟩
/-- what an append of one cell leaves -/
theorem Grew.appended {w w1 w2 : World} {v v1 v2 : Value} {o : Obj} {k : Nat} (h : Grew w v w1 v1) (hg : (w1.alloc o).grownBy w2 v1.ownBlock) (ha : v2.ownBlock = v1.ownBlock ∨ v2.ownBlock = some k) (hk : w1.heap.size + 1 ≤ k) : Grew w v w2 v2 :=
  (h.alloc o).trans ⟨hg, ha.imp id fun e => ⟨_, e, by simpa using hk⟩⟩
theorem own_push {w : World} {base : Nat} {e : TypeId} {v : Value} {zs : List UInt8} {u : Value} {c : UInt8} (h : w.ownsRow base e 1 v (zs.length + 1) (zs.map Rc.B8 ++ [u])) (hu : u = Rc.B8 c) : w.ownsRow base e 1 v (zs ++ [c]).length ((zs ++ [c]).map Rc.B8) := by
  subst hu
  simpa using h
theorem Grew.block {w w' : World} {v v' : Value} (h : Grew w v w' v') {k : Nat} (hk : k < w.heap.size) (hne : some k ≠ v.ownBlock) : w'.heap[k]? = w.heap[k]? := h.by_.block k hk hne
theorem Grew.below {w w' : World} {v v' : Value} (h : Grew w v w' v') {B : Nat} (hB : B ≤ w.heap.size) (hv : ∀ k, v.ownBlock = some k → B ≤ k) : Below B w w' := (Below.refl _ _).grown h.by_ hB hv
theorem Grew.cell {w w' : World} {v v' : Value} (h : Grew w v w' v') {p : Addr} (hk : p.block < w.heap.size) (hne : some p.block ≠ v.ownBlock) : w'.cell? p = w.cell? p := World.cell?_of_block (h.block hk hne)
end Go.Proofs.Ytllakkepphpfmaa

import Derived.Test.YtcloigoajohppaaGreatDoorZ6
import Derived.Test.YtcloigoajohppaaGreatDoorZ7
import Derived.Test.YtcloigoajohppaaGreatDoorZ8
set_option linter.unusedVariables false
set_option linter.unusedSimpArgs false
set_option maxHeartbeats 4000000
/- The reference's parser: a line of a kind. -/
namespace Go.Proofs.YtcloigoajohppaaGreatDoor
open Go.RowKit
open Av
open Sc
set_option maxRecDepth 100000
set_option linter.unusedSimpArgs false

def Kd.fq : Kd → Nat
  | .network => 88 | .power => 88 | .link => 88 | .before => 89 | .after => 89
  | _ => 90
def Rd.at (R : Rd) (n : Int) : Rd := { R with rank := n }
def RX.at (X : RX) (n : Int) : RX := { X with R := X.R.at n }
abbrev RdQ (k : Kd) (R : Rd) (l : List Int) : Type := {X' : RX // (readP k ⟨R, none⟩ l).2 = 0 → OKQ ((readP k ⟨R, none⟩ l).1.R.at k.rank) (X'.at k.rank)}
abbrev RdOQ (C : World → Prop) (b : Nat) (k : Kd) (R : Rd) (X : RX) (w : ByteArray) (l : List Int) : Prop :=
  FnX Tryz.prog C k.fq [.v (wrP b), .v (.string w), .sl 1 (l.map fun n => [ip n])] (exts (pcsQ b X)) (iv (readP k ⟨R, none⟩ l).2) (fun i : RdQ k R l => exts (pcsQ b i.1))
theorem rdq_bad {C : World → Prop} {b : Nat} {k : Kd} {R : Rd} {X : RX} {w : ByteArray} {l : List Int} {e : Int} (he : (readP k ⟨R, none⟩ l).2 = e) (h0 : e ≠ 0)
    (h : FnX Tryz.prog C k.fq [.v (wrP b), .v (.string w), .sl 1 (l.map fun n => [ip n])] (exts (pcsQ b X)) (iv e) (fun _ : Unit => exts (pcsQ b X))) : RdOQ C b k R X w l := by
  unfold RdOQ
  rw [show iv (readP k ⟨R, none⟩ l).2 = iv e by rw [he]]
  exact FnX.fam h fun _ => ⟨⟨X, fun h1 => absurd (he.symm.trans h1) h0⟩, rfl⟩

theorem readq_cell {C : World → Prop} {b : Nat} {R : Rd} {X : RX} (hX : OKQ R X) (hge : R.rank ≤ (Kd.rank .cell : Int)) {w : ByteArray} (hw : w = wCell) (a0 a1 a2 a3 a4 : Int) : RdOQ C b .cell R X w [a0, a1, a2, a3, a4] := by
  obtain ⟨R, M, hpd, hbd, had, pw, bs, zs⟩ := X
  obtain rfl := hX.R
  dsimp only at *
  have hlate : R.x.after ≠ [] → 4 ≤ ((Kd.rank .cell : Nat) : Int) := fun h => Int.le_trans (hX.inv.late h) hge
  by_cases hl : 1024 ≤ R.x.cells.length
  · exact rdq_bad (e := 8) (by simp only [readP, hl, if_true]) (by decide) (qcellF C b R (RX.m ⟨R, M, hpd, hbd, had, pw, bs, zs⟩) (fixX ⟨R, M, hpd, hbd, had, pw, bs, zs⟩ ++ dynX ⟨R, M, hpd, hbd, had, pw, bs, zs⟩) hw a0 a1 a2 a3 a4 (by have := hX.inv.sz.lc; (try dsimp only at this); omega))
  · have e : readP .cell ⟨R, none⟩ [a0, a1, a2, a3, a4] = (⟨{ R with x := { R.x with cells := R.x.cells ++ [⟨a0, a1, a2, a3, a4⟩] } }, none⟩, 0) := by simp only [readP, hl, if_false]
    unfold RdOQ RdQ
    rw [e]
    exact FnX.fam (qcellO C b R (RX.m ⟨R, M, hpd, hbd, had, pw, bs, zs⟩) (fixX ⟨R, M, hpd, hbd, had, pw, bs, zs⟩ ++ dynX ⟨R, M, hpd, hbd, had, pw, bs, zs⟩) hw a0 a1 a2 a3 a4 (by omega)) fun i => ⟨⟨⟨{ R with x := { R.x with cells := R.x.cells ++ [⟨a0, a1, a2, a3, a4⟩] } }, { M with hc := i }, hpd, hbd, had, pw, bs, zs⟩, fun _ => ⟨rfl, hX.pw, hX.bs, hX.zs, hX.hp, hX.hb, hX.ha, ⟨fun h => absurd h (show ¬ ((Kd.rank .cell : Nat) : Int) < 0 by decide), hlate, hX.inv.n0, hX.inv.n32, hX.inv.rows, hX.inv.row, hX.inv.lm, { hX.inv.sz with lc := by have := hX.inv.sz.lc; show (R.x.cells ++ [_]).length ≤ 1024; rw [List.length_append, List.length_singleton]; omega }⟩⟩⟩, rfl⟩

theorem readq_add {C : World → Prop} {b : Nat} {R : Rd} {X : RX} (hX : OKQ R X) (hge : R.rank ≤ (Kd.rank .add : Int)) {w : ByteArray} (hw : w = wAdd) (a0 a1 a2 a3 a4 a5 : Int) : RdOQ C b .add R X w [a0, a1, a2, a3, a4, a5] := by
  obtain ⟨R, M, hpd, hbd, had, pw, bs, zs⟩ := X
  obtain rfl := hX.R
  dsimp only at *
  have hlate : R.x.after ≠ [] → 4 ≤ ((Kd.rank .add : Nat) : Int) := fun h => Int.le_trans (hX.inv.late h) hge
  by_cases hl : 1024 ≤ R.x.changes.length
  · exact rdq_bad (e := 8) (by simp only [readP, hl, if_true]) (by decide) (qaddF C b R (RX.m ⟨R, M, hpd, hbd, had, pw, bs, zs⟩) (fixX ⟨R, M, hpd, hbd, had, pw, bs, zs⟩ ++ dynX ⟨R, M, hpd, hbd, had, pw, bs, zs⟩) hw a0 a1 a2 a3 a4 a5 (by have := hX.inv.sz.lh; (try dsimp only at this); omega))
  · have e : readP .add ⟨R, none⟩ [a0, a1, a2, a3, a4, a5] = (⟨{ R with x := { R.x with changes := R.x.changes ++ [⟨a0, true, ⟨a1, a2, a3, a4, a5⟩⟩] } }, none⟩, 0) := by simp only [readP, hl, if_false]
    unfold RdOQ RdQ
    rw [e]
    exact FnX.fam (qaddO C b R (RX.m ⟨R, M, hpd, hbd, had, pw, bs, zs⟩) (fixX ⟨R, M, hpd, hbd, had, pw, bs, zs⟩ ++ dynX ⟨R, M, hpd, hbd, had, pw, bs, zs⟩) hw a0 a1 a2 a3 a4 a5 (by omega)) fun i => ⟨⟨⟨{ R with x := { R.x with changes := R.x.changes ++ [⟨a0, true, ⟨a1, a2, a3, a4, a5⟩⟩] } }, { M with hh := i }, hpd, hbd, had, pw, bs, zs⟩, fun _ => ⟨rfl, hX.pw, hX.bs, hX.zs, hX.hp, hX.hb, hX.ha, ⟨fun h => absurd h (show ¬ ((Kd.rank .add : Nat) : Int) < 0 by decide), hlate, hX.inv.n0, hX.inv.n32, hX.inv.rows, hX.inv.row, hX.inv.lm, { hX.inv.sz with lh := by have := hX.inv.sz.lh; show (R.x.changes ++ [_]).length ≤ 1024; rw [List.length_append, List.length_singleton]; omega }⟩⟩⟩, rfl⟩

theorem readq_remove {C : World → Prop} {b : Nat} {R : Rd} {X : RX} (hX : OKQ R X) (hge : R.rank ≤ (Kd.rank .remove : Int)) {w : ByteArray} (hw : w = wRemove) (a0 a1 a2 a3 a4 a5 : Int) : RdOQ C b .remove R X w [a0, a1, a2, a3, a4, a5] := by
  obtain ⟨R, M, hpd, hbd, had, pw, bs, zs⟩ := X
  obtain rfl := hX.R
  dsimp only at *
  have hlate : R.x.after ≠ [] → 4 ≤ ((Kd.rank .remove : Nat) : Int) := fun h => Int.le_trans (hX.inv.late h) hge
  by_cases hl : 1024 ≤ R.x.changes.length
  · exact rdq_bad (e := 8) (by simp only [readP, hl, if_true]) (by decide) (qremoveF C b R (RX.m ⟨R, M, hpd, hbd, had, pw, bs, zs⟩) (fixX ⟨R, M, hpd, hbd, had, pw, bs, zs⟩ ++ dynX ⟨R, M, hpd, hbd, had, pw, bs, zs⟩) hw a0 a1 a2 a3 a4 a5 (by have := hX.inv.sz.lh; (try dsimp only at this); omega))
  · have e : readP .remove ⟨R, none⟩ [a0, a1, a2, a3, a4, a5] = (⟨{ R with x := { R.x with changes := R.x.changes ++ [⟨a0, false, ⟨a1, a2, a3, a4, a5⟩⟩] } }, none⟩, 0) := by simp only [readP, hl, if_false]
    unfold RdOQ RdQ
    rw [e]
    exact FnX.fam (qremoveO C b R (RX.m ⟨R, M, hpd, hbd, had, pw, bs, zs⟩) (fixX ⟨R, M, hpd, hbd, had, pw, bs, zs⟩ ++ dynX ⟨R, M, hpd, hbd, had, pw, bs, zs⟩) hw a0 a1 a2 a3 a4 a5 (by omega)) fun i => ⟨⟨⟨{ R with x := { R.x with changes := R.x.changes ++ [⟨a0, false, ⟨a1, a2, a3, a4, a5⟩⟩] } }, { M with hh := i }, hpd, hbd, had, pw, bs, zs⟩, fun _ => ⟨rfl, hX.pw, hX.bs, hX.zs, hX.hp, hX.hb, hX.ha, ⟨fun h => absurd h (show ¬ ((Kd.rank .remove : Nat) : Int) < 0 by decide), hlate, hX.inv.n0, hX.inv.n32, hX.inv.rows, hX.inv.row, hX.inv.lm, { hX.inv.sz with lh := by have := hX.inv.sz.lh; show (R.x.changes ++ [_]).length ≤ 1024; rw [List.length_append, List.length_singleton]; omega }⟩⟩⟩, rfl⟩

theorem readq_weak {C : World → Prop} {b : Nat} {R : Rd} {X : RX} (hX : OKQ R X) (hge : R.rank ≤ (Kd.rank .weak : Int)) {w : ByteArray} (hw : w = wWeak) (a0 a1 a2 a3 a4 : Int) : RdOQ C b .weak R X w [a0, a1, a2, a3, a4] := by
  obtain ⟨R, M, hpd, hbd, had, pw, bs, zs⟩ := X
  obtain rfl := hX.R
  dsimp only at *
  have hlate : R.x.after ≠ [] → 4 ≤ ((Kd.rank .weak : Nat) : Int) := fun h => Int.le_trans (hX.inv.late h) hge
  by_cases hl : 1024 ≤ R.x.weak.length
  · exact rdq_bad (e := 8) (by simp only [readP, hl, if_true]) (by decide) (qweakF C b R (RX.m ⟨R, M, hpd, hbd, had, pw, bs, zs⟩) (fixX ⟨R, M, hpd, hbd, had, pw, bs, zs⟩ ++ dynX ⟨R, M, hpd, hbd, had, pw, bs, zs⟩) hw a0 a1 a2 a3 a4 (by have := hX.inv.sz.lw; (try dsimp only at this); omega))
  · have e : readP .weak ⟨R, none⟩ [a0, a1, a2, a3, a4] = (⟨{ R with x := { R.x with weak := R.x.weak ++ [⟨a0, a1, a2, a3, a4⟩] } }, none⟩, 0) := by simp only [readP, hl, if_false]
    unfold RdOQ RdQ
    rw [e]
    exact FnX.fam (qweakO C b R (RX.m ⟨R, M, hpd, hbd, had, pw, bs, zs⟩) (fixX ⟨R, M, hpd, hbd, had, pw, bs, zs⟩ ++ dynX ⟨R, M, hpd, hbd, had, pw, bs, zs⟩) hw a0 a1 a2 a3 a4 (by omega)) fun i => ⟨⟨⟨{ R with x := { R.x with weak := R.x.weak ++ [⟨a0, a1, a2, a3, a4⟩] } }, { M with hw := i }, hpd, hbd, had, pw, bs, zs⟩, fun _ => ⟨rfl, hX.pw, hX.bs, hX.zs, hX.hp, hX.hb, hX.ha, ⟨fun h => absurd h (show ¬ ((Kd.rank .weak : Nat) : Int) < 0 by decide), hlate, hX.inv.n0, hX.inv.n32, hX.inv.rows, hX.inv.row, hX.inv.lm, { hX.inv.sz with lw := by have := hX.inv.sz.lw; show (R.x.weak ++ [_]).length ≤ 1024; rw [List.length_append, List.length_singleton]; omega }⟩⟩⟩, rfl⟩

theorem readq_outage {C : World → Prop} {b : Nat} {R : Rd} {X : RX} (hX : OKQ R X) (hge : R.rank ≤ (Kd.rank .outage : Int)) {w : ByteArray} (hw : w = wOutage) (a0 a1 a2 : Int) : RdOQ C b .outage R X w [a0, a1, a2] := by
  obtain ⟨R, M, hpd, hbd, had, pw, bs, zs⟩ := X
  obtain rfl := hX.R
  dsimp only at *
  have hlate : R.x.after ≠ [] → 4 ≤ ((Kd.rank .outage : Nat) : Int) := fun h => Int.le_trans (hX.inv.late h) hge
  by_cases hl : 1024 ≤ R.x.outs.length
  · exact rdq_bad (e := 8) (by simp only [readP, hl, if_true]) (by decide) (qoutageF C b R (RX.m ⟨R, M, hpd, hbd, had, pw, bs, zs⟩) (fixX ⟨R, M, hpd, hbd, had, pw, bs, zs⟩ ++ dynX ⟨R, M, hpd, hbd, had, pw, bs, zs⟩) hw a0 a1 a2 (by have := hX.inv.sz.lo; (try dsimp only at this); omega))
  · have e : readP .outage ⟨R, none⟩ [a0, a1, a2] = (⟨{ R with x := { R.x with outs := R.x.outs ++ [⟨a0, a1, a2⟩] } }, none⟩, 0) := by simp only [readP, hl, if_false]
    unfold RdOQ RdQ
    rw [e]
    exact FnX.fam (qoutageO C b R (RX.m ⟨R, M, hpd, hbd, had, pw, bs, zs⟩) (fixX ⟨R, M, hpd, hbd, had, pw, bs, zs⟩ ++ dynX ⟨R, M, hpd, hbd, had, pw, bs, zs⟩) hw a0 a1 a2 (by omega)) fun i => ⟨⟨⟨{ R with x := { R.x with outs := R.x.outs ++ [⟨a0, a1, a2⟩] } }, { M with ho := i }, hpd, hbd, had, pw, bs, zs⟩, fun _ => ⟨rfl, hX.pw, hX.bs, hX.zs, hX.hp, hX.hb, hX.ha, ⟨fun h => absurd h (show ¬ ((Kd.rank .outage : Nat) : Int) < 0 by decide), hlate, hX.inv.n0, hX.inv.n32, hX.inv.rows, hX.inv.row, hX.inv.lm, { hX.inv.sz with lo := by have := hX.inv.sz.lo; show (R.x.outs ++ [_]).length ≤ 1024; rw [List.length_append, List.length_singleton]; omega }⟩⟩⟩, rfl⟩

theorem readq_link {C : World → Prop} {b : Nat} {R : Rd} {X : RX} (hX : OKQ R X) (hge : R.rank ≤ (Kd.rank .link : Int)) {w : ByteArray} (hw : w = wLink) (a0 a1 a2 a3 : Int) : RdOQ C b .link R X w [a0, a1, a2, a3] := by
  obtain ⟨R, M, hpd, hbd, had, pw, bs, zs⟩ := X
  obtain rfl := hX.R
  dsimp only at *
  have hlate : R.x.after ≠ [] → 4 ≤ ((Kd.rank .link : Nat) : Int) := fun h => Int.le_trans (hX.inv.late h) hge
  by_cases hl : 1024 ≤ R.x.net.links.length
  · exact rdq_bad (e := 8) (by simp only [readP, hl, if_true]) (by decide) (qlinkF C b R (RX.m ⟨R, M, hpd, hbd, had, pw, bs, zs⟩) (fixX ⟨R, M, hpd, hbd, had, pw, bs, zs⟩ ++ dynX ⟨R, M, hpd, hbd, had, pw, bs, zs⟩) hw a0 a1 a2 a3 (by have := hX.inv.sz.ll; (try dsimp only at this); omega))
  · have e : readP .link ⟨R, none⟩ [a0, a1, a2, a3] = (⟨{ R with x := { R.x with net := { R.x.net with links := R.x.net.links ++ [⟨a0, a1, a2⟩], margin := R.x.net.margin ++ [a3] } } }, none⟩, 0) := by simp only [readP, hl, if_false]
    unfold RdOQ RdQ
    rw [e]
    exact FnX.fam (qlinkO C b R (RX.m ⟨R, M, hpd, hbd, had, pw, bs, zs⟩) (fixX ⟨R, M, hpd, hbd, had, pw, bs, zs⟩ ++ dynX ⟨R, M, hpd, hbd, had, pw, bs, zs⟩) hw a0 a1 a2 a3 (by omega) (by have := hX.inv.lm; (try dsimp only at this); omega)) fun i => ⟨⟨⟨{ R with x := { R.x with net := { R.x.net with links := R.x.net.links ++ [⟨a0, a1, a2⟩], margin := R.x.net.margin ++ [a3] } } }, { M with hl := i.1, hm := i.2 }, hpd, hbd, had, pw, bs, zs⟩, fun _ => ⟨rfl, hX.pw, hX.bs, hX.zs, hX.hp, hX.hb, hX.ha, ⟨fun h => absurd h (show ¬ ((Kd.rank .link : Nat) : Int) < 0 by decide), hlate, hX.inv.n0, hX.inv.n32, hX.inv.rows, hX.inv.row, (by show (R.x.net.margin ++ [_]).length = (R.x.net.links ++ [_]).length; have := hX.inv.lm; (try dsimp only at this); rw [List.length_append, List.length_append, this]; rfl), { hX.inv.sz with ll := by have := hX.inv.sz.ll; show (R.x.net.links ++ [_]).length ≤ 1024; rw [List.length_append, List.length_singleton]; omega }⟩⟩⟩, rfl⟩

theorem readq_schedule {C : World → Prop} {b : Nat} {R : Rd} {X : RX} (hX : OKQ R X) (hge : R.rank ≤ (Kd.rank .schedule : Int)) {w : ByteArray} (hw : w = wSchedule) (a0 a1 : Int) : RdOQ C b .schedule R X w [a0, a1] := by
  obtain ⟨R, M, hpd, hbd, had, pw, bs, zs⟩ := X
  obtain rfl := hX.R
  dsimp only at *
  have hlate : R.x.after ≠ [] → 4 ≤ ((Kd.rank .schedule : Nat) : Int) := fun h => Int.le_trans (hX.inv.late h) hge
  have e : readP .schedule ⟨R, none⟩ [a0, a1] = (⟨{ R with x := { R.x with len := a0, offs := a1 }, sched := true }, none⟩, 0) := rfl
  unfold RdOQ RdQ
  rw [e]
  exact FnX.fam (qschedule C b R (RX.m ⟨R, M, hpd, hbd, had, pw, bs, zs⟩) (fixX ⟨R, M, hpd, hbd, had, pw, bs, zs⟩ ++ dynX ⟨R, M, hpd, hbd, had, pw, bs, zs⟩) hw a0 a1) fun i => ⟨⟨⟨{ R with x := { R.x with len := a0, offs := a1 }, sched := true }, M, hpd, hbd, had, pw, bs, zs⟩, fun _ => ⟨rfl, hX.pw, hX.bs, hX.zs, hX.hp, hX.hb, hX.ha, ⟨fun h => absurd h (show ¬ ((Kd.rank .schedule : Nat) : Int) < 0 by decide), hlate, hX.inv.n0, hX.inv.n32, hX.inv.rows, hX.inv.row, hX.inv.lm, { hX.inv.sz with }⟩⟩⟩, rfl⟩

theorem readq_slots {C : World → Prop} {b : Nat} {R : Rd} {X : RX} (hX : OKQ R X) (hge : R.rank ≤ (Kd.rank .slots : Int)) {w : ByteArray} (hw : w = wSlots) (a0 : Int) : RdOQ C b .slots R X w [a0] := by
  obtain ⟨R, M, hpd, hbd, had, pw, bs, zs⟩ := X
  obtain rfl := hX.R
  dsimp only at *
  have hlate : R.x.after ≠ [] → 4 ≤ ((Kd.rank .slots : Nat) : Int) := fun h => Int.le_trans (hX.inv.late h) hge
  have e : readP .slots ⟨R, none⟩ [a0] = (⟨{ R with x := { R.x with slots := a0 }, done := true }, none⟩, 0) := rfl
  unfold RdOQ RdQ
  rw [e]
  exact FnX.fam (qslots C b R (RX.m ⟨R, M, hpd, hbd, had, pw, bs, zs⟩) (fixX ⟨R, M, hpd, hbd, had, pw, bs, zs⟩ ++ dynX ⟨R, M, hpd, hbd, had, pw, bs, zs⟩) hw a0) fun i => ⟨⟨⟨{ R with x := { R.x with slots := a0 }, done := true }, M, hpd, hbd, had, pw, bs, zs⟩, fun _ => ⟨rfl, hX.pw, hX.bs, hX.zs, hX.hp, hX.hb, hX.ha, ⟨fun h => absurd h (show ¬ ((Kd.rank .slots : Nat) : Int) < 0 by decide), hlate, hX.inv.n0, hX.inv.n32, hX.inv.rows, hX.inv.row, hX.inv.lm, { hX.inv.sz with }⟩⟩⟩, rfl⟩

theorem readq_before {C : World → Prop} {b : Nat} {R : Rd} {X : RX} (hX : OKQ R X) (hge : R.rank ≤ (Kd.rank .before : Int)) {w : ByteArray} (hw : w = wBefore) (a0 a1 a2 a3 a4 a5 : Int) : RdOQ C b .before R X w [a0, a1, a2, a3, a4, a5] := by
  obtain ⟨R, M, hpd, hbd, had, pw, bs, zs⟩ := X
  obtain rfl := hX.R
  dsimp only at *
  have hlate : R.x.after ≠ [] → 4 ≤ ((Kd.rank .before : Nat) : Int) := fun h => Int.le_trans (hX.inv.late h) hge
  have hlen : bs.length = R.x.before.length := by have := hX.bs; dsimp only at this; rw [← this, List.length_map, List.length_reverse]
  by_cases hl : 1024 ≤ R.x.before.length
  · exact rdq_bad (e := 8) (by simp only [readP, hl, if_true]) (by decide) (qreqBF C b ⟨R, M, hpd, hbd, had, pw, bs, zs⟩ hw a0 a1 a2 a3 a4 a5 (by have := hX.inv.sz.lb; (try dsimp only at this ⊢); omega))
  · have e : readP .before ⟨R, none⟩ [a0, a1, a2, a3, a4, a5] = (⟨{ R with x := { R.x with before := R.x.before ++ [⟨⟨a0, a1, a2, a3, a4, a5⟩, []⟩] } }, some false⟩, 0) := by simp only [readP, hl, if_false]
    unfold RdOQ RdQ
    rw [e]
    exact FnX.fam (qreqBO C b ⟨R, M, hpd, hbd, had, pw, bs, zs⟩ hw a0 a1 a2 a3 a4 a5 (by dsimp only; omega)) fun i => ⟨⟨⟨{ R with x := { R.x with before := R.x.before ++ [⟨⟨a0, a1, a2, a3, a4, a5⟩, []⟩] } }, M, hpd, ⟨some i.1, i.2⟩, had, pw, ⟨⟨a0, a1, a2, a3, a4, a5⟩, [], none, .slice none 0 0, []⟩ :: bs, zs⟩, fun _ => ⟨rfl, hX.pw, (by show ((_ :: bs).reverse.map Rz.rq) = R.x.before ++ [_]; have := hX.bs; dsimp only at this; rw [List.reverse_cons, List.map_append, this]; rfl), hX.zs, hX.hp, fun _ => ⟨i.1, rfl⟩, hX.ha, ⟨fun h => absurd h (show ¬ ((Kd.rank .before : Nat) : Int) < 0 by decide), hlate, hX.inv.n0, hX.inv.n32, hX.inv.rows, hX.inv.row, hX.inv.lm, { hX.inv.sz with lb := by have := hX.inv.sz.lb; show (R.x.before ++ [_]).length ≤ 1024; rw [List.length_append, List.length_singleton]; omega, rb := fun z hz => (List.mem_append.1 hz).elim (hX.inv.sz.rb z) (fun h => by rw [List.mem_singleton.1 h]; exact Nat.zero_le _) }⟩⟩⟩, rfl⟩

theorem readq_after {C : World → Prop} {b : Nat} {R : Rd} {X : RX} (hX : OKQ R X) (hge : R.rank ≤ (Kd.rank .after : Int)) {w : ByteArray} (hw : w = wAfter) (a0 a1 a2 a3 a4 a5 : Int) : RdOQ C b .after R X w [a0, a1, a2, a3, a4, a5] := by
  obtain ⟨R, M, hpd, hbd, had, pw, bs, zs⟩ := X
  obtain rfl := hX.R
  dsimp only at *
  have hlen : zs.length = R.x.after.length := by have := hX.zs; dsimp only at this; rw [← this, List.length_map, List.length_reverse]
  by_cases hl : 1024 ≤ R.x.after.length
  · exact rdq_bad (e := 8) (by simp only [readP, hl, if_true]) (by decide) (qreqAF C b ⟨R, M, hpd, hbd, had, pw, bs, zs⟩ hw a0 a1 a2 a3 a4 a5 (by have := hX.inv.sz.la; (try dsimp only at this ⊢); omega))
  · have e : readP .after ⟨R, none⟩ [a0, a1, a2, a3, a4, a5] = (⟨{ R with x := { R.x with after := R.x.after ++ [⟨⟨a0, a1, a2, a3, a4, a5⟩, []⟩] } }, some true⟩, 0) := by simp only [readP, hl, if_false]
    unfold RdOQ RdQ
    rw [e]
    exact FnX.fam (qreqAO C b ⟨R, M, hpd, hbd, had, pw, bs, zs⟩ hw a0 a1 a2 a3 a4 a5 (by dsimp only; omega)) fun i => ⟨⟨⟨{ R with x := { R.x with after := R.x.after ++ [⟨⟨a0, a1, a2, a3, a4, a5⟩, []⟩] } }, M, hpd, hbd, ⟨some i.1, i.2⟩, pw, bs, ⟨⟨a0, a1, a2, a3, a4, a5⟩, [], none, .slice none 0 0, []⟩ :: zs⟩, fun _ => ⟨rfl, hX.pw, hX.bs, (by show ((_ :: zs).reverse.map Rz.rq) = R.x.after ++ [_]; have := hX.zs; dsimp only at this; rw [List.reverse_cons, List.map_append, this]; rfl), hX.hp, hX.hb, fun _ => ⟨i.1, rfl⟩, ⟨fun h => absurd h (show ¬ ((Kd.rank .after : Nat) : Int) < 0 by decide), (fun _ => by show (4 : Int) ≤ 4; decide), hX.inv.n0, hX.inv.n32, hX.inv.rows, hX.inv.row, hX.inv.lm, { hX.inv.sz with la := by have := hX.inv.sz.la; show (R.x.after ++ [_]).length ≤ 1024; rw [List.length_append, List.length_singleton]; omega, ra := fun z hz => (List.mem_append.1 hz).elim (hX.inv.sz.ra z) (fun h => by rw [List.mem_singleton.1 h]; exact Nat.zero_le _) }⟩⟩⟩, rfl⟩

theorem readq_network {C : World → Prop} {b : Nat} {R : Rd} {X : RX} (hX : OKQ R X) (hnew : R.rank < 0) {w : ByteArray} (hw : w = wNetwork) (a0 a1 a2 : Int) : RdOQ C b .network R X w [a0, a1, a2] := by
  obtain ⟨R, M, hpd, hbd, had, pw, bs, zs⟩ := X
  obtain rfl := hX.R
  dsimp only at *
  have hn := hX.inv.fresh hnew
  have hlate : R.x.after ≠ [] → 4 ≤ ((Kd.rank .network : Nat) : Int) := fun h => by have := hX.inv.late h; (try dsimp only at this hnew); omega
  have hpw : pw = [] := by
    have h1 := hX.inv.rows
    have h2 := hX.pw
    try dsimp only at h1 h2 hn
    rw [hn, ← h2, List.length_map] at h1
    exact List.eq_nil_of_length_eq_zero h1
  by_cases h0 : a0 < 0
  · exact rdq_bad (e := 2) (by simp only [readP, h0, true_or, if_true]) (by decide) (qnet0 C b ⟨R, M, hpd, hbd, had, pw, bs, zs⟩ hw a0 a1 a2 (decide_eq_true h0))
  · by_cases h32 : 32 < a0
    · exact rdq_bad (e := 2) (by simp only [readP, h32, or_true, if_true]) (by decide) (qnet1 C b ⟨R, M, hpd, hbd, had, pw, bs, zs⟩ hw a0 a1 a2 (decide_eq_false h0) (decide_eq_true h32))
    · obtain ⟨n, rfl⟩ : ∃ n : Nat, a0 = n := ⟨a0.toNat, by omega⟩
      have e : readP .network ⟨R, none⟩ [(n : Int), a1, a2] = (⟨{ R with x := { R.x with net := { R.x.net with nodes := (n : Int), noise := a1, thr := a2, power := List.replicate n (List.replicate n 0) } }, begun := true }, none⟩, 0) := by simp only [readP, h0, h32, or_self, if_false, Int.toNat_natCast]
      unfold RdOQ RdQ
      rw [e]
      refine FnX.fam (qnetO C b ⟨R, M, hpd, hbd, had, pw, bs, zs⟩ hw n a1 a2 (by omega) hpw) fun Y => ⟨⟨⟨{ R with x := { R.x with net := { R.x.net with nodes := (n : Int), noise := a1, thr := a2, power := List.replicate n (List.replicate n 0) } }, begun := true }, M, ⟨some Y.1.1, Y.1.2.1⟩, hbd, had, Y.1.2.2, bs, zs⟩, fun _ => ⟨rfl, ?_, hX.bs, hX.zs, fun _ => ⟨Y.1.1, rfl⟩, hX.hb, hX.ha, ⟨fun h => absurd h (show ¬ ((Kd.rank .network : Nat) : Int) < 0 by decide), hlate, Int.natCast_nonneg _, (by show (n : Int) ≤ 32; omega), ?_, ?_, hX.inv.lm, { hX.inv.sz with }⟩⟩⟩, rfl⟩
      · show Y.1.2.2.map Pz.row = List.replicate n (List.replicate n 0)
        rw [List.eq_replicate_iff]
        refine ⟨by rw [List.length_map]; exact Y.2.1, fun r hr => ?_⟩
        obtain ⟨z, hz, rfl⟩ := List.mem_map.1 hr
        exact Y.2.2 z hz
      · show (List.replicate n (List.replicate n (0 : Int))).length = ((n : Int)).toNat
        rw [List.length_replicate, Int.toNat_natCast]
      · intro r hr
        have hr : r ∈ List.replicate n (List.replicate n (0 : Int)) := hr
        rw [List.eq_of_mem_replicate hr, List.length_replicate]
        show n = ((n : Int)).toNat
        rw [Int.toNat_natCast]

theorem readq_power {C : World → Prop} {b : Nat} {R : Rd} {X : RX} (hX : OKQ R X) (hge : R.rank ≤ (Kd.rank .power : Int)) {w : ByteArray} (hw : w = wPower) (a0 a1 a2 : Int) : RdOQ C b .power R X w [a0, a1, a2] := by
  obtain ⟨R, M, hpd, hbd, had, pw, bs, zs⟩ := X
  obtain rfl := hX.R
  dsimp only at *
  have hlate : R.x.after ≠ [] → 4 ≤ ((Kd.rank .power : Nat) : Int) := fun h => Int.le_trans (hX.inv.late h) hge
  have no : ∀ (x y : Bool), (nodeB a0 R.x.net.nodes && nodeB a1 R.x.net.nodes) = false → (readP .power ⟨R, none⟩ [a0, a1, a2]).2 = 2 := fun _ _ h => by simp only [readP, h, Bool.false_eq_true, if_false]
  by_cases g1 : a0 < 0
  · exact rdq_bad (e := 2) (no true true (by simp [nodeB]; omega)) (by decide) (qpower0 C b ⟨R, M, hpd, hbd, had, pw, bs, zs⟩ hw a0 a1 a2 (decide_eq_true g1))
  by_cases g2 : a0 ≥ R.x.net.nodes
  · exact rdq_bad (e := 2) (no true true (by simp [nodeB]; omega)) (by decide) (qpower1 C b ⟨R, M, hpd, hbd, had, pw, bs, zs⟩ hw a0 a1 a2 (decide_eq_false g1) (decide_eq_true g2))
  by_cases g3 : a1 < 0
  · exact rdq_bad (e := 2) (no true true (by simp [nodeB]; omega)) (by decide) (qpower2 C b ⟨R, M, hpd, hbd, had, pw, bs, zs⟩ hw a0 a1 a2 (decide_eq_false g1) (decide_eq_false g2) (decide_eq_true g3))
  by_cases g4 : a1 ≥ R.x.net.nodes
  · exact rdq_bad (e := 2) (no true true (by simp [nodeB]; omega)) (by decide) (qpower3 C b ⟨R, M, hpd, hbd, had, pw, bs, zs⟩ hw a0 a1 a2 (decide_eq_false g1) (decide_eq_false g2) (decide_eq_false g3) (decide_eq_true g4))
  obtain ⟨i, rfl⟩ : ∃ n : Nat, a0 = n := ⟨a0.toNat, by omega⟩
  obtain ⟨j, rfl⟩ : ∃ n : Nat, a1 = n := ⟨a1.toNat, by omega⟩
  have hpl : pw.length = R.x.net.nodes.toNat := by
    have h3 := hX.inv.rows
    have h4 := hX.pw
    try dsimp only at h3 h4
    rw [← h4, List.length_map] at h3
    exact h3
  have hi : i < pw.length := by omega
  have hpw : pw.map Pz.row = R.x.net.power := hX.pw
  have hrow : pw[i].row ∈ R.x.net.power := by rw [← hpw]; exact List.mem_map_of_mem (List.getElem_mem hi)
  have hj : j < pw[i].row.length := by
    have := hX.inv.row _ hrow
    try dsimp only at this
    omega
  obtain ⟨g, hg⟩ := hX.hp (by intro h; dsimp only at h; rw [h] at hi; simp at hi)
  have hgd : R.x.net.power.getD i [] = pw[i].row := by
    rw [← hpw, List.getD_eq_getElem?_getD, List.getElem?_map, List.getElem?_eq_getElem hi]
    rfl
  have e : readP .power ⟨R, none⟩ [(i : Int), (j : Int), a2] = (⟨{ R with x := { R.x with net := { R.x.net with power := R.x.net.power.set i (pw[i].row.set j a2) } } }, none⟩, 0) := by
    have h1 : nodeB (i : Int) R.x.net.nodes = true := by simp [nodeB]; omega
    have h2 : nodeB (j : Int) R.x.net.nodes = true := by simp [nodeB]; omega
    simp only [readP, h1, h2, Bool.true_and, if_true, Int.toNat_natCast, hgd]
  unfold RdOQ RdQ
  rw [e]
  refine FnX.fam (qpowerO C b ⟨R, M, hpd, hbd, had, pw, bs, zs⟩ hw hg i j a2 (List.getElem?_eq_getElem hi) hj (by dsimp only; omega) (by dsimp only; omega)) fun _ => ⟨⟨⟨{ R with x := { R.x with net := { R.x.net with power := R.x.net.power.set i (pw[i].row.set j a2) } } }, M, hpd, hbd, had, pw.set i { pw[i] with row := pw[i].row.set j a2 }, bs, zs⟩, fun _ => ⟨rfl, ?_, hX.bs, hX.zs, fun _ => ⟨g, hg⟩, hX.hb, hX.ha, ⟨fun h => absurd h (show ¬ ((Kd.rank .power : Nat) : Int) < 0 by decide), hlate, hX.inv.n0, hX.inv.n32, ?_, ?_, hX.inv.lm, { hX.inv.sz with }⟩⟩⟩, rfl⟩
  · show (pw.set i _).map Pz.row = R.x.net.power.set i _
    rw [List.map_set, hpw]
  · show (R.x.net.power.set i _).length = _
    rw [List.length_set]; exact hX.inv.rows
  · intro r hr
    have hr : r ∈ R.x.net.power.set i (pw[i].row.set j a2) := hr
    rcases List.mem_or_eq_of_mem_set hr with hr | rfl
    · exact hX.inv.row r hr
    · rw [List.length_set]; exact hX.inv.row _ hrow
theorem readq_ok {C : World → Prop} {b : Nat} {R : Rd} {X : RX} (hX : OKQ R X) (k : Kd) (hge : R.rank ≤ (k.rank : Int)) (hnew : k = .network → R.rank < 0) {w : ByteArray} (hw : w = k.word) (l : List Int) (hl : l.length = k.count) : RdOQ C b k R X w l := by
  have hd : ∀ (m : Nat) (l : List Int), l.length = m + 1 → ∃ a l', l = a :: l' ∧ l'.length = m := fun m l h => by
    cases l with
    | nil => cases h
    | cons a l => exact ⟨a, l, rfl, by simpa using h⟩
  have h0 : ∀ l : List Int, l.length = 0 → l = [] := fun l h => List.eq_nil_of_length_eq_zero h
  cases k
  case network =>
    obtain ⟨a0, l0, rfl, e0⟩ := hd 2 l hl; obtain ⟨a1, l1, rfl, e1⟩ := hd 1 l0 e0; obtain ⟨a2, l2, rfl, e2⟩ := hd 0 l1 e1; obtain rfl := h0 l2 e2
    exact readq_network hX (hnew rfl) hw a0 a1 a2
  case power =>
    obtain ⟨a0, l0, rfl, e0⟩ := hd 2 l hl; obtain ⟨a1, l1, rfl, e1⟩ := hd 1 l0 e0; obtain ⟨a2, l2, rfl, e2⟩ := hd 0 l1 e1; obtain rfl := h0 l2 e2
    exact readq_power hX hge hw a0 a1 a2
  case link =>
    obtain ⟨a0, l0, rfl, e0⟩ := hd 3 l hl; obtain ⟨a1, l1, rfl, e1⟩ := hd 2 l0 e0; obtain ⟨a2, l2, rfl, e2⟩ := hd 1 l1 e1; obtain ⟨a3, l3, rfl, e3⟩ := hd 0 l2 e2; obtain rfl := h0 l3 e3
    exact readq_link hX hge hw a0 a1 a2 a3
  case before =>
    obtain ⟨a0, l0, rfl, e0⟩ := hd 5 l hl; obtain ⟨a1, l1, rfl, e1⟩ := hd 4 l0 e0; obtain ⟨a2, l2, rfl, e2⟩ := hd 3 l1 e1; obtain ⟨a3, l3, rfl, e3⟩ := hd 2 l2 e2; obtain ⟨a4, l4, rfl, e4⟩ := hd 1 l3 e3; obtain ⟨a5, l5, rfl, e5⟩ := hd 0 l4 e4; obtain rfl := h0 l5 e5
    exact readq_before hX hge hw a0 a1 a2 a3 a4 a5
  case after =>
    obtain ⟨a0, l0, rfl, e0⟩ := hd 5 l hl; obtain ⟨a1, l1, rfl, e1⟩ := hd 4 l0 e0; obtain ⟨a2, l2, rfl, e2⟩ := hd 3 l1 e1; obtain ⟨a3, l3, rfl, e3⟩ := hd 2 l2 e2; obtain ⟨a4, l4, rfl, e4⟩ := hd 1 l3 e3; obtain ⟨a5, l5, rfl, e5⟩ := hd 0 l4 e4; obtain rfl := h0 l5 e5
    exact readq_after hX hge hw a0 a1 a2 a3 a4 a5
  case schedule =>
    obtain ⟨a0, l0, rfl, e0⟩ := hd 1 l hl; obtain ⟨a1, l1, rfl, e1⟩ := hd 0 l0 e0; obtain rfl := h0 l1 e1
    exact readq_schedule hX hge hw a0 a1
  case cell =>
    obtain ⟨a0, l0, rfl, e0⟩ := hd 4 l hl; obtain ⟨a1, l1, rfl, e1⟩ := hd 3 l0 e0; obtain ⟨a2, l2, rfl, e2⟩ := hd 2 l1 e1; obtain ⟨a3, l3, rfl, e3⟩ := hd 1 l2 e2; obtain ⟨a4, l4, rfl, e4⟩ := hd 0 l3 e3; obtain rfl := h0 l4 e4
    exact readq_cell hX hge hw a0 a1 a2 a3 a4
  case add =>
    obtain ⟨a0, l0, rfl, e0⟩ := hd 5 l hl; obtain ⟨a1, l1, rfl, e1⟩ := hd 4 l0 e0; obtain ⟨a2, l2, rfl, e2⟩ := hd 3 l1 e1; obtain ⟨a3, l3, rfl, e3⟩ := hd 2 l2 e2; obtain ⟨a4, l4, rfl, e4⟩ := hd 1 l3 e3; obtain ⟨a5, l5, rfl, e5⟩ := hd 0 l4 e4; obtain rfl := h0 l5 e5
    exact readq_add hX hge hw a0 a1 a2 a3 a4 a5
  case remove =>
    obtain ⟨a0, l0, rfl, e0⟩ := hd 5 l hl; obtain ⟨a1, l1, rfl, e1⟩ := hd 4 l0 e0; obtain ⟨a2, l2, rfl, e2⟩ := hd 3 l1 e1; obtain ⟨a3, l3, rfl, e3⟩ := hd 2 l2 e2; obtain ⟨a4, l4, rfl, e4⟩ := hd 1 l3 e3; obtain ⟨a5, l5, rfl, e5⟩ := hd 0 l4 e4; obtain rfl := h0 l5 e5
    exact readq_remove hX hge hw a0 a1 a2 a3 a4 a5
  case weak =>
    obtain ⟨a0, l0, rfl, e0⟩ := hd 4 l hl; obtain ⟨a1, l1, rfl, e1⟩ := hd 3 l0 e0; obtain ⟨a2, l2, rfl, e2⟩ := hd 2 l1 e1; obtain ⟨a3, l3, rfl, e3⟩ := hd 1 l2 e2; obtain ⟨a4, l4, rfl, e4⟩ := hd 0 l3 e3; obtain rfl := h0 l4 e4
    exact readq_weak hX hge hw a0 a1 a2 a3 a4
  case outage =>
    obtain ⟨a0, l0, rfl, e0⟩ := hd 2 l hl; obtain ⟨a1, l1, rfl, e1⟩ := hd 1 l0 e0; obtain ⟨a2, l2, rfl, e2⟩ := hd 0 l1 e1; obtain rfl := h0 l2 e2
    exact readq_outage hX hge hw a0 a1 a2
  case slots =>
    obtain ⟨a0, l0, rfl, e0⟩ := hd 0 l hl; obtain rfl := h0 l0 e0
    exact readq_slots hX hge hw a0
end Go.Proofs.YtcloigoajohppaaGreatDoor
/- The reference's parser: a route; what can come. -/
namespace Go.Proofs.YtcloigoajohppaaGreatDoor
open Go.RowKit
open Av
open Sc
set_option maxRecDepth 100000
set_option linter.unusedSimpArgs false

abbrev RtQ (q : Pr) (l : List Int) : Type := {X' : RX // (routeR q l).2 = 0 → OKQ (routeR q l).1.rd X'}
theorem routeq_ok {C : World → Prop} {b : Nat} {q : Pr} {X : RX} (hX : OKQ q.rd X) {w : ByteArray} (hw : w = wRoute) (l : List Int) (hr : (q.at_ = 3 ∧ q.x.before ≠ []) ∨ (q.at_ = 4 ∧ q.x.after ≠ [])) :
    FnX Tryz.prog C 89 [.v (wrP b), .v (.string w), .sl 1 (l.map fun n => [ip n])] (exts (pcsQ b X)) (iv (routeR q l).2) (fun i : RtQ q l => exts (pcsQ b i.1)) := by
  obtain ⟨R, M, hpd, hbd, had, pw, bs, zs⟩ := X
  obtain rfl : R = q.rd := hX.R
  have bad : ∀ e : Int, (routeR q l).2 = e → e ≠ 0 → FnX Tryz.prog C 89 [.v (wrP b), .v (.string w), .sl 1 (l.map fun n => [ip n])] (exts (pcsQ b ⟨q.rd, M, hpd, hbd, had, pw, bs, zs⟩)) (iv e) (fun _ : Unit => exts (pcsQ b ⟨q.rd, M, hpd, hbd, had, pw, bs, zs⟩)) →
      FnX Tryz.prog C 89 [.v (wrP b), .v (.string w), .sl 1 (l.map fun n => [ip n])] (exts (pcsQ b ⟨q.rd, M, hpd, hbd, had, pw, bs, zs⟩)) (iv (routeR q l).2) (fun i : RtQ q l => exts (pcsQ b i.1)) := fun e he h0 h => by
    rw [show iv (routeR q l).2 = iv e by rw [he]]
    exact FnX.fam h fun _ => ⟨⟨_, fun h1 => absurd (he.symm.trans h1) h0⟩, rfl⟩
  have hbs : bs.reverse.map Rz.rq = q.x.before := hX.bs
  have hzs : zs.reverse.map Rz.rq = q.x.after := hX.zs
  have inv := hX.inv
  rcases hr with ⟨h3, hne⟩ | ⟨h4, hne⟩
  · have h4 : (q.rd.rank == 4) = false := by show (q.at_ == 4) = false; rw [h3]; rfl
    have h4' : ¬ q.at_ = 4 := by rw [h3]; decide
    have haf : q.x.after = [] := Classical.byContradiction fun h => by
      have := inv.late h
      have e3 : q.rd.rank = 3 := h3
      omega
    have hz0 : zs = [] := by rw [haf] at hzs; simpa using hzs
    obtain ⟨z, l0, hz⟩ : ∃ z l0, bs = z :: l0 := by
      cases bs with
      | nil => exact absurd hbs.symm hne
      | cons z l0 => exact ⟨z, l0, rfl⟩
    obtain ⟨g, hg⟩ := hX.hb (by show bs ≠ []; rw [hz]; simp)
    have hbf : q.x.before = l0.reverse.map Rz.rq ++ [z.rq] := by
      rw [← hbs, hz, List.reverse_cons, List.map_append]; rfl
    have hlast : lastRs q.x.before = z.rs := by rw [hbf, lastRs_end]; rfl
    have hzr : z.rs.length ≤ 1024 := inv.sz.rb z.rq (by show z.rq ∈ q.x.before; rw [hbf]; simp)
    have hln : l0.length ≤ 1024 := by
      have h9 : q.x.before.length ≤ 1024 := inv.sz.lb
      rw [hbf] at h9; simp at h9; omega
    by_cases h1 : z.rs.length = 1024
    · exact bad 8 (by unfold routeR; rw [if_neg h4', hlast, if_pos (.inl (by omega))]) (by decide) (qrouteBR C b _ hw hg hz hz0 h4 hln l h1)
    by_cases h2 : 1024 < l.length
    · exact bad 8 (by unfold routeR; rw [if_neg h4', hlast, if_pos (.inr h2)]) (by decide) (qrouteBL C b _ hw hg hz hz0 h4 hln l (by omega) h2)
    · have e : routeR q l = ({ q with x := { q.x with before := addRt l q.x.before } }, 0) := by unfold routeR; rw [if_neg h4', hlast, if_neg (by omega)]
      unfold RtQ
      rw [e]
      refine FnX.fam (qrouteBO C b ⟨q.rd, M, hpd, hbd, had, pw, bs, zs⟩ hw hg hz hz0 h4 hln l (by omega) (by omega)) fun i => ⟨⟨⟨{ q.rd with x := { q.x with before := addRt l q.x.before } }, M, hpd, hbd, had, pw, { z with rs := z.rs ++ [l], q := i.1, V := i.2.1, xs := i.2.2 } :: l0, zs⟩, fun _ => ⟨rfl, hX.pw, ?_, hX.zs, hX.hp, fun _ => ⟨g, hg⟩, hX.ha, ⟨inv.fresh, inv.late, inv.n0, inv.n32, inv.rows, inv.row, inv.lm, { inv.sz with lb := ?_, rb := ?_ }⟩⟩⟩, rfl⟩
      · show ((_ :: l0).reverse.map Rz.rq) = addRt l q.x.before
        rw [hbf, addRt_end, List.reverse_cons, List.map_append]; rfl
      · show (addRt l q.x.before).length ≤ 1024
        have h9 : q.x.before.length ≤ 1024 := inv.sz.lb
        rw [hbf] at h9 ⊢
        rw [addRt_end]
        simpa using h9
      · intro y hy
        have hy : y ∈ addRt l q.x.before := hy
        rw [hbf, addRt_end] at hy
        rcases List.mem_append.1 hy with hy | hy
        · exact inv.sz.rb y (by show y ∈ q.x.before; rw [hbf]; exact List.mem_append_left _ hy)
        · rw [List.mem_singleton.1 hy]
          show (z.rs ++ [l]).length ≤ 1024
          rw [List.length_append, List.length_singleton]; omega
  · have h4b : (q.rd.rank == 4) = true := by show (q.at_ == 4) = true; rw [h4]; rfl
    obtain ⟨z, l0, hz⟩ : ∃ z l0, zs = z :: l0 := by
      cases zs with
      | nil => exact absurd hzs.symm hne
      | cons z l0 => exact ⟨z, l0, rfl⟩
    obtain ⟨g, hg⟩ := hX.ha (by show zs ≠ []; rw [hz]; simp)
    have hbf : q.x.after = l0.reverse.map Rz.rq ++ [z.rq] := by
      rw [← hzs, hz, List.reverse_cons, List.map_append]; rfl
    have hlast : lastRs q.x.after = z.rs := by rw [hbf, lastRs_end]; rfl
    have hzr : z.rs.length ≤ 1024 := inv.sz.ra z.rq (by show z.rq ∈ q.x.after; rw [hbf]; simp)
    have hln : l0.length ≤ 1024 := by
      have h9 : q.x.after.length ≤ 1024 := inv.sz.la
      rw [hbf] at h9; simp at h9; omega
    by_cases h1 : z.rs.length = 1024
    · exact bad 8 (by unfold routeR; rw [if_pos h4, hlast, if_pos (.inl (by omega))]) (by decide) (qrouteAR C b _ hw hg hz h4b hln l h1)
    by_cases h2 : 1024 < l.length
    · exact bad 8 (by unfold routeR; rw [if_pos h4, hlast, if_pos (.inr h2)]) (by decide) (qrouteAL C b _ hw hg hz h4b hln l (by omega) h2)
    · have e : routeR q l = ({ q with x := { q.x with after := addRt l q.x.after } }, 0) := by unfold routeR; rw [if_pos h4, hlast, if_neg (by omega)]
      unfold RtQ
      rw [e]
      refine FnX.fam (qrouteAO C b ⟨q.rd, M, hpd, hbd, had, pw, bs, zs⟩ hw hg hz h4b hln l (by omega) (by omega)) fun i => ⟨⟨⟨{ q.rd with x := { q.x with after := addRt l q.x.after } }, M, hpd, hbd, had, pw, bs, { z with rs := z.rs ++ [l], q := i.1, V := i.2.1, xs := i.2.2 } :: l0⟩, fun _ => ⟨rfl, hX.pw, hX.bs, ?_, hX.hp, hX.hb, fun _ => ⟨g, hg⟩, ⟨inv.fresh, fun _ => (by show (4 : Int) ≤ q.at_; omega), inv.n0, inv.n32, inv.rows, inv.row, inv.lm, { inv.sz with la := ?_, ra := ?_ }⟩⟩⟩, rfl⟩
      · show ((_ :: l0).reverse.map Rz.rq) = addRt l q.x.after
        rw [hbf, addRt_end, List.reverse_cons, List.map_append]; rfl
      · show (addRt l q.x.after).length ≤ 1024
        have h9 : q.x.after.length ≤ 1024 := inv.sz.la
        rw [hbf] at h9 ⊢
        rw [addRt_end]
        simpa using h9
      · intro y hy
        have hy : y ∈ addRt l q.x.after := hy
        rw [hbf, addRt_end] at hy
        rcases List.mem_append.1 hy with hy | hy
        · exact inv.sz.ra y (by show y ∈ q.x.after; rw [hbf]; exact List.mem_append_left _ hy)
        · rw [List.mem_singleton.1 hy]
          show (z.rs ++ [l]).length ≤ 1024
          rw [List.length_append, List.length_singleton]; omega
theorem laterX_eq {q : Pr} {X : RX} (hX : OKQ q.rd X) (w : ByteArray) (pl : Int) : laterX X w pl = laterR q w pl := by
  have hb : X.bs.length = q.x.before.length := by
    have h : X.bs.reverse.map Rz.rq = q.x.before := hX.bs
    rw [← h, List.length_map, List.length_reverse]
  have hz : X.zs.length = q.x.after.length := by
    have h : X.zs.reverse.map Rz.rq = q.x.after := hX.zs
    rw [← h, List.length_map, List.length_reverse]
  have hc : ∀ n : Nat, decide ((n : Int) > 0) = decide (0 < n) := fun n => by rw [Bool.eq_iff_iff]; simp
  unfold laterX laterR onceB
  rw [hX.R, List.length_reverse, List.length_reverse, hb, hz, hc, hc]
  simp only [str_eq, decide_eq_true_eq]
  rfl
end Go.Proofs.YtcloigoajohppaaGreatDoor
/- The reference cuts a line into words. -/
namespace Go.Proofs.YtcloigoajohppaaGreatDoor
open Go.RowKit
open Av
open Sc
set_option maxRecDepth 100000
set_option linter.unusedSimpArgs false
attribute [local go_sem] Av.guardB Av.sop Av.hopx Av.hop Av.hopCall Av.hopF Av.hopB Av.evo Av.evos Av.avCells Av.loadK Av.bound Av.abin Av.aun Av.partsC Av.lfill Av.placesB Av.setAt Av.stl Av.takes Av.src Av.bxOf Av.ownOf Av.St.res Av.St.put Av.St.addBox Av.St.putOwn Av.delL Av.delS Av.look Av.lookL Av.storeSt Av.stealSt Av.St.setBox Av.keepL Av.hitB Av.snap Av.snaps Av.snapCaps Av.AV.lit Av.AV.refs Av.capRefs Av.PV.av Av.CV.av Av.startSt Av.steals Av.athen Av.ablock Av.appK Av.AllS Av.AllO Av.AllR Av.keepS Av.St.avAt Av.RetOK Av.retAll Av.retOne Av.intsOf Av.ptrB TypeDesc.isRow List.range_zero Option.some.injEq exists_eq_left' exists_eq_left exists_eq' exists_and_left exists_and_right exists_const true_and and_true and_self false_and and_false or_false false_or or_true true_or if_true if_false Bool.false_eq_true List.zipIdx_cons List.zipIdx_nil List.map_cons List.map_nil List.filter_cons List.filter_nil List.contains_cons List.contains_nil List.drop_succ_cons List.drop_zero List.take_succ_cons List.take_zero List.take_nil List.drop_nil List.length_cons List.length_nil List.cons_append List.nil_append List.append_nil List.getElem?_cons_zero List.getElem?_cons_succ List.getElem?_nil Option.bind_some Option.bind_none Option.map_some Option.map_none Option.isNone_none Option.isNone_some Option.isSome_some Option.isSome_none Bool.and_true Bool.true_and Bool.and_false Bool.false_and Bool.or_false Bool.false_or Bool.not_true Bool.not_false beq_true beq_false Bool.true_beq Bool.false_beq Loc.s.injEq Loc.b.injEq decide_true decide_false beq_self_eq_true Nat.zero_add Nat.add_zero List.getElem?_toArray List.toList_toArray List.size_toArray Value.oneCell' List.all_cons List.all_nil Value.int.injEq AV.v.injEq AV.sl.injEq AV.agg.injEq AV.ref.injEq AV.ept.injEq AV.tup.injEq Value.bool.injEq PV.v.injEq PV.sl.injEq List.isEmpty_nil List.isEmpty_cons forall_const not_true_eq_false not_false_eq_true true_implies false_implies Value.string.injEq List.length_map List.getElem?_map Int.toNat_natCast Int.natCast_nonneg List.length_append Value.cells implies_true TypeDesc.struct.injEq TypeDesc.slice.injEq TypeDesc.array.injEq List.getElem?_toArray Prod.mk.injEq and_assoc exists_false List.cons.injEq Operand.tmp.injEq ite_self AV.fnv.injEq AV.clo.injEq ne_eq eq_self Tryz.sz3 Tryz.zr3 Tryz.by3 Tryz.pl3 Tryz.is3 Tryz.underlying3 Tryz.sz4 Tryz.pl4 Tryz.is4 Tryz.underlying4 Tryz.sz9 Tryz.zr9 Tryz.underlying9 Tryz.underlying5 Tryz.underlying56 Tryz.sz24 Tryz.zr24 Tryz.by24 Tryz.underlying24 Tryz.underlying70 Tryz.underlying69 Tryz.is72 Tryz.underlying72 Tryz.zr74 Tryz.underlying74 Tryz.underlying117 Tryz.underlying182 Tryz.sz64 Tryz.zr64 Tryz.pl64 Tryz.is64 Tryz.underlying64 Tryz.sz67 Tryz.zr67 Tryz.underlying67 Tryz.sz26 Tryz.underlying26 Tryz.sz30 Tryz.underlying30 Tryz.sz126 Tryz.zr126 Tryz.underlying126 Tryz.sz79 Tryz.zr79 Tryz.pl79 Tryz.is79 Tryz.underlying79 Tryz.sz81 Tryz.zr81 Tryz.underlying81 Tryz.sz83 Tryz.zr83 Tryz.underlying83 Tryz.sz85 Tryz.zr85 Tryz.underlying85 Tryz.sz35 Tryz.zr35 Tryz.is35 Tryz.underlying35 Tryz.underlying88 Tryz.sz22 Tryz.underlying22 Tryz.sz23 Tryz.underlying23 Tryz.sz27 Tryz.underlying27 Tryz.sz28 Tryz.underlying28 Tryz.sz31 Tryz.underlying31 Tryz.sz32 Tryz.underlying32 Tryz.sz33 Tryz.underlying33 Tryz.sz65 Tryz.is65 Tryz.underlying65 Tryz.sz68 Tryz.zr68 Tryz.underlying68 Tryz.underlying46 Tryz.underlying38 Tryz.underlying94 Tryz.sz91 Tryz.underlying91 Tryz.underlying86 all_arr loc_ss arr_two arr_one ResultVar.tmp.injEq Bool.not_true Bool.not_false undef Tryz.sz92 Tryz.underlying92 Tryz.sz131 Tryz.underlying131 Tryz.sz134 Tryz.zr134 Tryz.underlying134 Tryz.underlying95 Tryz.underlying136 Fn.func.injEq Av.extSt Av.RetX List.zipIdx List.getD_cons_zero List.getD_cons_succ Av.startStC Tryz.underlying5 Tryz.zr9 Av.rawR Tryz.underlying46 Sc.Fw.pv Sc.Rq.pv Sc.Ce.pv Sc.Ch.pv Sc.Wk.pv Sc.Og.pv Sc.Lk.pv Sc.Nt.pv Sc.Sn.pv Sc.rsR
theorem set_last {α : Type} {l : List α} (x : α) (h : l ≠ []) : l.set (l.length - 1) x = l.dropLast ++ [x] := by
 have e := (List.dropLast_concat_getLast h).symm
 obtain ⟨d, y, rfl⟩ : ∃ d y, l = d ++ [y] := ⟨_, _, e⟩
 rw [List.dropLast_concat, List.length_append, List.length_singleton, Nat.add_sub_cancel, List.set_append_right _ _ (Nat.le_refl _), Nat.sub_self]
 rfl
def wdsK (s : ByteArray) (k : Nat) : List ByteArray := (splitC 32 (s.data.toList.take k)).map mkB
theorem wdsK_ne (s : ByteArray) (k : Nat) : 0 < (wdsK s k).length := by
 unfold wdsK
 rw [List.length_map]
 exact List.length_pos_iff.2 (splitC_ne _ _)
theorem strV_rows (l : List ByteArray) : (strV l).map (fun r => r.map PV.v) = strR l := by
 unfold strV strR
 rw [List.map_map]
 rfl
theorem wdsK_space {s : ByteArray} {k : Nat} (h : s.data.toList[k]? = some 32) : strV (wdsK s k) ++ [[.string ⟨#[]⟩]] = strV (wdsK s (k + 1)) := by
 have e : splitC 32 (s.data.toList.take (k + 1)) = splitC 32 (s.data.toList.take k) ++ [[]] := by
  rw [List.take_add_one, h]
  show splitC 32 (s.data.toList.take k ++ [32]) = _
  rw [splitC_snoc, if_pos rfl]
 unfold wdsK
 rw [e, List.map_append]
 unfold strV
 rw [List.map_append]
 rfl
theorem wdsK_byte {s : ByteArray} {k : Nat} {c : UInt8} (h : s.data.toList[k]? = some c) (hc : c ≠ 32) : ∃ b, (strV (wdsK s k))[(wdsK s k).length - 1]? = some [.string b] ∧ b.size ≤ k ∧
 (strV (wdsK s k)).set ((wdsK s k).length - 1) ([Value.string b].set 0 (.string (b ++ s.extract k (k + 1)))) = strV (wdsK s (k + 1)) := by
 have hne := splitC_ne 32 (s.data.toList.take k)
 have e : splitC 32 (s.data.toList.take (k + 1)) = (splitC 32 (s.data.toList.take k)).dropLast ++ [(splitC 32 (s.data.toList.take k)).getLastD [] ++ [c]] := by
  rw [List.take_add_one, h]
  show splitC 32 (s.data.toList.take k ++ [c]) = _
  rw [splitC_snoc, if_neg hc]
 have hl : (splitC 32 (s.data.toList.take k)).getLast? = some ((splitC 32 (s.data.toList.take k)).getLastD []) := by
  rw [List.getLastD_eq_getLast?, List.getLast?_eq_some_getLast hne]
  rfl
 have hlt := (List.getElem?_eq_some_iff.1 h).1
 refine ⟨mkB ((splitC 32 (s.data.toList.take k)).getLastD []), ?_, ?_, ?_⟩
 · unfold strV wdsK
   rw [List.getElem?_map, List.getElem?_map, List.length_map, ← List.getLast?_eq_getElem?, hl]
   rfl
 · rw [mkB_size]
   have h1 : ∀ (l : List UInt8) (p : List UInt8), p ∈ splitC 32 l → p.length ≤ l.length := fun l => by
    induction l with
    | nil => intro p hp; simp [splitC] at hp; subst hp; exact Nat.le_refl _
    | cons a l ih =>
     intro p hp
     unfold splitC at hp
     split at hp
     · rcases List.mem_cons.1 hp with rfl | hp
       · exact Nat.zero_le _
       · exact Nat.le_succ_of_le (ih p hp)
     · cases hs : splitC 32 l with
       | nil => exact absurd hs (splitC_ne _ _)
       | cons x t =>
        rw [hs] at hp
        rcases List.mem_cons.1 hp with rfl | hp
        · have := ih x (by rw [hs]; exact List.mem_cons_self)
          simpa using this
        · have := ih p (by rw [hs]; exact List.mem_cons_of_mem _ hp)
          exact Nat.le_succ_of_le this
   have h2 := h1 _ _ (List.mem_of_getLast? hl)
   rw [List.length_take] at h2
   omega
 · have hx : mkB ((splitC 32 (s.data.toList.take k)).getLastD []) ++ s.extract k (k + 1) = mkB ((splitC 32 (s.data.toList.take k)).getLastD [] ++ [c]) := ext_list (by
  rw [mkB_list]
  have h3 : (s.extract k (k + 1)).data.toList = [c] := by
   rw [ByteArray.data_extract, Array.toList_extract]
   simp only [List.extract, Nat.add_sub_cancel_left]
   have h9 : (s.data.toList.drop k) = c :: s.data.toList.drop (k + 1) := by
    rw [List.drop_eq_getElem_cons hlt, (List.getElem?_eq_some_iff.1 h).2]
   rw [h9]
   rfl
  have h8 : ∀ a b : ByteArray, (a ++ b).data.toList = a.data.toList ++ b.data.toList := fun a b => by simp
  rw [h8, h3, mkB_list])
   have hL : (wdsK s k).length - 1 = (strV (wdsK s k)).length - 1 := by rw [strV_len]
   rw [hx, hL, show [Value.string (mkB ((splitC 32 (s.data.toList.take k)).getLastD []))].set 0 (.string (mkB ((splitC 32 (s.data.toList.take k)).getLastD [] ++ [c]))) = [Value.string (mkB ((splitC 32 (s.data.toList.take k)).getLastD [] ++ [c]))] from rfl, set_last _ (by
    intro h0
    have h7 := congrArg List.length h0
    rw [strV_len] at h7
    have h8 := wdsK_ne s k
    rw [h7] at h8
    exact absurd h8 (by simp))]
   unfold wdsK
   rw [e]
   unfold strV
   rw [← List.map_dropLast, ← List.map_dropLast, List.map_append, List.map_append]
   rfl
theorem wordsK_len (s : ByteArray) (k : Nat) : (wdsK s k).length ≤ s.size + 1 := by
 have h1 : ∀ l : List UInt8, (splitC 32 l).length ≤ l.length + 1 := fun l => by
  induction l with
  | nil => simp [splitC]
  | cons a l ih =>
   unfold splitC
   split
   · simpa using ih
   · have := splitC_ne 32 l
     cases hs : splitC 32 l with
     | nil => exact absurd hs this
     | cons x t => rw [hs] at ih; simp at ih ⊢; omega
 have := h1 (s.data.toList.take k)
 rw [List.length_take] at this
 unfold wdsK
 rw [List.length_map]
 have h2 : s.data.toList.length = s.size := rfl
 omega
theorem rwords_ok (s : ByteArray) (hs : s.size ≤ 100000) : FnOKC Tryz.prog LC 118 [.v (.string s)] ⟨.sl 1 (strR (wordsL s)), none⟩ := by
 refine fn_okC (C := LC) Tryz.func118 (by kernel_rfl) rfl (by rw [Tryz.ntmps118]; exact of_decide_eq_true rfl) (fun F hF => ?_)
 rw [Tryz.ntmps118] at hF
 rw [Tryz.results118]
 repeat (first
  | ((refine hand_build1 (E := laidE LC) (e := 9) (z := .string ⟨#[]⟩) rfl rfl (by decide) Tryz.underlying46 rfl rfl rfl rfl rfl rfl rfl (fun g => ?_)); simp only [go_sem, simprocAttr, hF])
  | ((with_reducible first | refine sops_go ?_ | refine sops_end ?_); simp only [go_sem, simprocAttr, hF])
  | (with_reducible first | refine awp_seq_k fun _ _ => ?_ | refine awp_region (id := 0) [] ?_ | refine awp_region (id := 1) [1000005] ?_ | refine awp_region (id := 2) [] ?_ | refine awp_block ?_)
  | go_step)
 generalize Value.slice (some ⟨g, 0, none⟩) 1 1 = V
 refine awp_loop_by (ι := {x : Nat × Nat × Value // x.1 ≤ s.size}) (fun x σ => ⟨(4, iv (x.1.1 : Int)) :: (3, .v x.1.2.2) :: keepS [0] σ.slot, [], [], (laidE LC).and (exts [rawR 9 1 (some x.1.2.1) x.1.2.2 (strV (wdsK s x.1.1))])⟩) (fun x => s.size - x.1.1) ⟨(0, g, V), Nat.zero_le _⟩ (sub_mk ?_) (fun R hR x => ?_)
 · simp only [go_sem, simprocAttr, hF]
   repeat' (first | rfl | refine ⟨?_, ?_⟩)
 obtain ⟨⟨k, g1, V1⟩, hk⟩ := x
 dsimp only at hk ⊢
 simp only [go_sem, simprocAttr, hF]
 have hwk : IntKind.i64.wrap ((k : Int) + 1) = ((k + 1 : Nat) : Int) := by rw [IntKind.wrap_i64]; omega
 by_cases hlt : k < s.size
 case neg =>
  have hd : decide ((k : Int) < (s.size : Int)) = false := decide_eq_false (by omega)
  have hw : wdsK s k = wordsL s := by
   rw [wordsL_eq]
   unfold wdsK
   rw [List.take_of_length_le (by show s.size ≤ k; omega)]
  repeat (first
   | ((with_reducible first | refine sops_go ?_ | refine sops_end ?_ | refine awp_if ?_ | refine awp_exit ?_); simp only [go_sem, simprocAttr, hF, hd])
   | (with_reducible first | refine awp_seq_k fun _ _ => ?_ | refine awp_region (id := 3) [] ?_)
   | go_step)
  rw [hw]
  refine awp_eqE (E' := (laidE LC).and (rowsE 9 1 (some g1) V1 (strV (wordsL s)).flatten ((strV (wordsL s)).map fun r => r.map PV.v))) (EqE.congr (EqE.refl _) ((EqE.comm _ _).trans (EqE.nil_right _))) ?_
  refine awp_rows (t := 3) rfl rfl (by rw [hF]; decide) ?_
  rw [strV_rows]
  simp only [go_sem, simprocAttr, hF]
  repeat (first
   | ((with_reducible first | refine sops_go ?_ | refine sops_end ?_ | refine awp_ret ?_); simp only [go_sem, simprocAttr, hF])
   | (with_reducible refine awp_region [16, 1000005, 1000014, 1000018, 1000021, 1000023, 1000024, 1000029, 1000031] ?_)
   | go_step)
  all_goals (try rfl)
 obtain ⟨c, hc⟩ := get_of_lt (show k < s.data.toList.length from hlt)
 have hd : decide ((k : Int) < (s.size : Int)) = true := decide_eq_true (by omega)
 by_cases h32 : c = 32
 case pos =>
  subst h32
  have h5 : (((32 : UInt8).toNat : Int) == 32) = true := rfl
  have hsp := wdsK_space hc
  have hrn : (strV (wdsK s k)).length + 1 ≤ 100000000 := by
   have h1 := wordsK_len s k
   rw [strV_len]
   omega
  repeat (first
   | ((with_reducible first | refine sopsJ_go ?_ | refine sopsJ_end ?_); simp only [go_sem, simprocAttr, hF, hd, h5, Av.sopJ])
   | ((refine awp_regionJ (id := 6) [16, 1000018] ?_); simp only [go_sem, simprocAttr, hF, hd, h5, Av.sopJ])
   | ((refine hand_strIdx (k := k) rfl rfl (by decide) Tryz.underlying9 rfl rfl hc ?_); simp only [go_sem, simprocAttr, hF, hd, h5])
   | ((refine hand_vApp (i := 0) (vs := [.string ⟨#[]⟩]) (e := 9) (sz := 1) rfl rfl (by decide) Tryz.underlying46 (by kernel_rfl) rfl rfl rfl rfl rfl hrn (fun g2 V2 hc2 ho2 => ?_)); simp only [go_sem, simprocAttr, hF, hd, h5, Av.sopJ])
   | ((with_reducible first | refine sops_go ?_ | refine sops_end ?_ | refine awp_if ?_ | refine awp_skip ?_); simp only [go_sem, simprocAttr, hF, hd, h5])
   | (with_reducible first | refine awp_seq_k fun _ _ => ?_ | refine awp_region (id := 3) [] ?_ | refine awp_region (id := 5) [1000014] ?_ | refine awp_block ?_)
   | go_step)
  rw [hsp]
  repeat (first
   | ((with_reducible first | refine sops_go ?_ | refine sops_end ?_); simp only [go_sem, simprocAttr, hF, hwk])
   | (with_reducible refine awp_region [16, 1000005, 1000014, 1000018, 1000021, 1000023, 1000024, 1000029, 1000031] ?_))
  refine ⟨⟨(k + 1, g2, V2), by dsimp only; omega⟩, by dsimp only; omega, hR _ _ (sub_mk ?_)⟩
  simp only [go_sem, simprocAttr, hF, hwk]
  rfl
 have h5 : ((c.toNat : Int) == 32) = false := by
  rw [beq_eq_false_iff_ne]
  intro h
  exact h32 (UInt8.toNat_inj.1 (by show c.toNat = 32; omega))
 obtain ⟨b, hrow, hb, hset⟩ := wdsK_byte hc h32
 obtain ⟨j, hj⟩ : ∃ j, (wdsK s k).length = j + 1 := ⟨(wdsK s k).length - 1, by have := wdsK_ne s k; omega⟩
 rw [hj, Nat.add_sub_cancel] at hrow hset
 have hrl : (strV (wdsK s k)).length = j + 1 := by rw [strV_len]; exact hj
 have hwj : IntKind.i64.wrap (((j + 1 : Nat) : Int) - 1) = (j : Int) := by
  have h1 := wordsK_len s k
  rw [IntKind.wrap_i64]; omega
 have hone : ∀ r ∈ strV (wdsK s k), r.length = 1 := fun r hr => by obtain ⟨y, _, rfl⟩ := List.mem_map.1 hr; rfl
 have hjr : j < (strV (wdsK s k)).length := by omega
 have hsz : (b.size + (s.extract k (k + 1)).size ≤ 9223372036854775807) = True := eq_true (by
  rw [ByteArray.size_extract]; omega)
 repeat (first
  | ((with_reducible first | refine sopsJ_go ?_ | refine sopsJ_end ?_ | refine headW_end ?_); simp only [go_sem, simprocAttr, hF, hd, h5, hrl, hwj, hwk, hsz, Av.sopJ])
  | (refine awp_floatJ (id := 7) [1000021, 1000023, 1000024, 1000029, 1000031] 13 [] (by kernel_rfl) (by kernel_rfl) (by kernel_rfl) rfl rfl (fun bx0 hbx => ?_); (try dsimp only [Av.addWs, Av.addW, List.modify_succ_cons, List.modify_zero_cons, List.push_toArray, List.cons_append, List.nil_append, List.take, List.drop]))
  | ((with_reducible refine headW_go ?_); simp only [go_sem, simprocAttr, hF, hd, h5, hrl, hwj, hwk, hsz, hbx])
  | ((refine hand_strIdx (k := k) rfl rfl (by decide) Tryz.underlying9 rfl rfl hc ?_); simp only [go_sem, simprocAttr, hF, hd, h5])
  | ((first | refine ⟨_, handq_vLen (i := 0) rfl rfl (by decide) Tryz.underlying46 rfl rfl rfl, rfl, ?_⟩ | refine ⟨_, handq_vIndex (i := 0) (j := j) rfl rfl (by decide) rfl rfl rfl rfl hjr Tryz.underlying46 Tryz.sz9, rfl, ?_⟩ | refine ⟨_, handq_vLoad (i := 0) (k := j) (c := 0) (sz := 1) (dd := .string) rfl rfl (by decide) rfl rfl hone hrow rfl rfl Tryz.underlying9 rfl, rfl, ?_⟩ | refine ⟨_, handq_strSl (i := k) (j := k + 1) rfl rfl (by decide) Tryz.underlying9 rfl rfl rfl (by omega) (by omega), rfl, ?_⟩); simp only [go_sem, simprocAttr, hF, hd, h5, hrl, hwj, hwk, hsz, hbx])
  | ((refine hand_vStore (i := 0) (k := j) (c := 0) (sz := 1) rfl rfl rfl rfl hone hrow (by decide) rfl rfl rfl rfl Tryz.sz9 ?_); simp only [go_sem, simprocAttr, hF, hd, h5, hrl, hwj, hwk, hsz, Av.sopJ])
  | ((with_reducible first | refine sops_go ?_ | refine sops_end ?_ | refine awp_if ?_ | refine awp_skip ?_); simp only [go_sem, simprocAttr, hF, hd, h5, hrl, hwj, hwk, hsz])
  | (with_reducible first | refine awp_seq_k fun _ _ => ?_ | refine awp_region (id := 3) [] ?_ | refine awp_region (id := 5) [1000014] ?_ | refine awp_block ?_)
  | go_step)
 rw [hset]
 repeat (first
  | ((with_reducible first | refine sops_go ?_ | refine sops_end ?_); simp only [go_sem, simprocAttr, hF, hwk])
  | (with_reducible refine awp_region [16, 1000005, 1000014, 1000018, 1000021, 1000023, 1000024, 1000029, 1000031] ?_))
 refine ⟨⟨(k + 1, g1, V1), by dsimp only; omega⟩, by dsimp only; omega, hR _ _ (sub_mk ?_)⟩
 simp only [go_sem, simprocAttr, hF, hwk]
 rfl
/- The reference's Line. -/
theorem refV_num (p : ByteArray) : (refV p.data.toList).2 = (numR p).2 ∧ ((numR p).2 = true → (refV p.data.toList).1 = (numR p).1) := by
 have hT : mkB p.data.toList = p := by unfold mkB; rfl
 obtain ⟨h1, h2⟩ := ref_some p.data.toList
 rw [hT] at h1 h2
 unfold refV
 cases h : refN p.data.toList with
 | none => rw [h] at h1; rw [← h1]; exact ⟨rfl, fun h => by cases h⟩
 | some v => rw [h] at h1 h2; rw [← h1]; exact ⟨rfl, fun _ => h2 (by rw [← h1]; rfl)⟩
theorem bad_of (w : ByteArray) : badW w = (decide (w.data.toList = []) || !w.data.toList.all azB) := by
 have hT : mkB w.data.toList = w := by unfold mkB; rfl
 have h := bad_iff w.data.toList
 rwa [hT] at h
theorem az_two (c : UInt8) : azB c = (!decide ((c.toNat : Int) < 97) && !decide ((c.toNat : Int) > 122)) := by
 unfold azB
 rw [Bool.eq_iff_iff]
 simp only [Bool.and_eq_true, decide_eq_true_eq, Bool.not_eq_true', decide_eq_false_iff_not]
 omega
theorem rline_okC (s : ByteArray) (hs : s.size ≤ 100000) : FnOKC Tryz.prog LC 85 [.v (.string s)] ⟨lineV (lineO s), none⟩ := by
 obtain ⟨w0, ws, hws⟩ : ∃ w0 ws, wordsL s = w0 :: ws := by
  have := wordsL_len s
  cases h : wordsL s with
  | nil => rw [h] at this; simp at this
  | cons a l => exact ⟨a, l, rfl⟩
 have hlo : lineO s = if badW w0 = true then none else if ws.all (fun p => (numR p).2) = true then some (w0, ws.map fun p => (numR p).1) else none := by
  unfold lineO
  rw [hws]
  rfl
 have hps : ∀ p ∈ wordsL s, p.size ≤ 100000 := fun p hp => by have := part_size hp; omega
 have hsr : strR (wordsL s) = [PV.v (.string w0)] :: strR ws := by rw [hws]; rfl
 have hp0 := hps w0 (by rw [hws]; exact List.mem_cons_self)
 have hlen : ws.length ≤ s.size := by
  have h1 := wordsL_len s
  have h2 := Lib.countB_le ⟨#[32]⟩ (by decide) s.size s (Nat.le_refl _)
  rw [hws] at h1
  simp only [List.length_cons] at h1
  omega
 have hbd := bad_of w0
 refine fn_okC (C := LC) Tryz.func85 (by kernel_rfl) rfl (by rw [Tryz.ntmps85]; exact of_decide_eq_true rfl) (fun F hF => ?_)
 rw [Tryz.ntmps85] at hF
 rw [Tryz.results85]
 repeat (first
  | ((with_reducible first | refine sops_go ?_ | refine sops_end ?_); simp only [go_sem, simprocAttr, hF])
  | (with_reducible first | refine awp_seq_k fun _ _ => ?_ | refine awp_region [55, 1000012, 1000025, 1000032] ?_)
  | go_step)
 refine hand_fnL LC.below rfl rfl (by decide) (fun _ h => h) rfl rfl (rwords_ok s hs) rfl ?_
 simp only [go_sem, simprocAttr, hF, hsr]
 repeat (first
  | ((with_reducible first | refine sops_go ?_ | refine sops_end ?_); simp only [go_sem, simprocAttr, hF, hsr])
  | with_reducible (first | refine awp_seq_k fun _ _ => ?_ | refine awp_region [55, 1000012, 1000025, 1000032] ?_ | refine awp_block ?_)
  | go_step)
 refine awp_loop_by (ι := {i : Nat // i ≤ w0.size ∧ (w0.data.toList.take i).all azB = true}) (fun i σ => ⟨(6, iv (i.1 : Int)) :: keepS [0, 5] σ.slot, [], [], σ.ext⟩) (fun i => w0.size - i.1) ⟨0, Nat.zero_le _, rfl⟩ (sub_mk ?_) (fun R hR i => ?_)
 · simp only [go_sem, simprocAttr, hF]
   repeat' (first | rfl | refine ⟨?_, ?_⟩)
 obtain ⟨i, hi, hT⟩ := i
 dsimp only
 simp only [go_sem, simprocAttr, hF]
 by_cases hlt : i < w0.size
 case pos =>
  obtain ⟨c, hc⟩ := get_of_lt (show i < w0.data.toList.length from hlt)
  have hd : decide ((i : Int) < (w0.size : Int)) = true := decide_eq_true (by omega)
  have hwi : IntKind.i64.wrap ((i : Int) + 1) = ((i + 1 : Nat) : Int) := by rw [IntKind.wrap_i64]; omega
  have haz := az_two c
  have hbad : azB c = false → lineO s = none := fun h => by
   rw [hlo, hbd, if_pos]
   rw [Bool.or_eq_true]
   right
   rw [Bool.not_eq_true']
   refine Bool.eq_false_iff.2 fun ha => ?_
   have := List.all_eq_true.1 ha c (List.mem_of_getElem? hc)
   rw [h] at this; cases this
  cases q1 : decide ((c.toNat : Int) < 97)
  case true =>
   have e := hbad (by rw [haz, q1]; rfl)
   repeat (first
    | ((refine hand_strIdx (k := i) rfl rfl (by decide) Tryz.underlying9 rfl rfl hc ?_); simp only [go_sem, simprocAttr, hF, hd, q1])
    | ((with_reducible first | refine sops_go ?_ | refine sops_end ?_ | refine awp_if ?_ | refine awp_skip ?_ | refine awp_ret ?_); simp only [go_sem, simprocAttr, hF, hd, q1])
    | with_reducible (first | refine awp_seq_k fun _ _ => ?_ | refine awp_region [55, 1000012, 1000025, 1000032] ?_ | refine awp_block ?_)
    | go_step)
   rw [e]
   first | rfl | exact .inr rfl
  case false =>
   cases q2 : decide ((c.toNat : Int) > 122)
   case true =>
    have e := hbad (by rw [haz, q1, q2]; rfl)
    repeat (first
     | ((refine hand_strIdx (k := i) rfl rfl (by decide) Tryz.underlying9 rfl rfl hc ?_); simp only [go_sem, simprocAttr, hF, hd, q1, q2])
     | ((with_reducible first | refine sops_go ?_ | refine sops_end ?_ | refine awp_if ?_ | refine awp_skip ?_ | refine awp_ret ?_); simp only [go_sem, simprocAttr, hF, hd, q1, q2])
     | with_reducible (first | refine awp_seq_k fun _ _ => ?_ | refine awp_region [55, 1000012, 1000025, 1000032] ?_ | refine awp_block ?_)
     | go_step)
    rw [e]
    first | rfl | exact .inr rfl
   case false =>
    repeat (first
     | ((refine hand_strIdx (k := i) rfl rfl (by decide) Tryz.underlying9 rfl rfl hc ?_); simp only [go_sem, simprocAttr, hF, hd, q1, q2])
     | ((with_reducible first | refine sops_go ?_ | refine sops_end ?_ | refine awp_if ?_ | refine awp_skip ?_); simp only [go_sem, simprocAttr, hF, hd, q1, q2, hwi])
     | with_reducible (first | refine awp_seq_k fun _ _ => ?_ | refine awp_region [55, 1000012, 1000025, 1000032] ?_ | refine awp_block ?_)
     | go_step)
    refine ⟨⟨i + 1, hlt, by rw [List.take_add_one, hc, Option.toList_some, List.all_append, hT]; simp [haz, q1, q2]⟩, by dsimp only; omega, hR _ _ (sub_mk ?_)⟩
    simp only [go_sem, simprocAttr, hF, hwi]
 have hall : w0.data.toList.all azB = true := by
  rwa [List.take_of_length_le (by show w0.size ≤ i; omega)] at hT
 have hd0 : decide ((i : Int) < (w0.size : Int)) = false := decide_eq_false (by omega)
 cases h0 : (w0.toList == (⟨#[]⟩ : ByteArray).toList)
 case true =>
  have he : lineO s = none := by
   rw [hlo, hbd, if_pos]
   rw [str_eq, decide_eq_true_eq] at h0
   rw [h0]
   rfl
  repeat (first
   | ((with_reducible first | refine sops_go ?_ | refine sops_end ?_ | refine awp_if ?_ | refine awp_ret ?_ | refine awp_exit ?_); simp only [go_sem, simprocAttr, hF, hd0, h0])
   | (with_reducible first | refine awp_seq_k fun _ _ => ?_ | refine awp_region [55, 1000012, 1000025, 1000032] ?_)
   | go_step)
  rw [he]
  first | rfl | exact .inr rfl
 have hbf : badW w0 = false := by
  rw [hbd, hall, Bool.not_true, Bool.or_false]
  refine decide_eq_false fun h => ?_
  rw [str_eq, decide_eq_false_iff_not] at h0
  exact h0 (ext_list h)
 rw [hbf, if_neg (by decide)] at hlo
 repeat (first
  | ((with_reducible first | refine sops_go ?_ | refine sops_end ?_ | refine awp_if ?_ | refine awp_skip ?_ | refine awp_exit ?_); simp only [go_sem, simprocAttr, hF, hd0, h0, List.length_map, strR, List.take_length, List.take_succ_cons, List.drop_one, List.tail_cons, Nat.zero_le, Nat.le_refl, Nat.le_add_left])
  | with_reducible (first | refine awp_seq_k fun _ _ => ?_ | refine awp_region [55, 1000012, 1000025, 1000032] ?_ | refine awp_block ?_)
  | go_step)
 refine awp_nil 7 1 3 (by rw [hF]; decide) rfl ?_
 simp only [go_sem, simprocAttr, hF]
 refine awp_loop_by (ι := {k : Nat // k ≤ ws.length ∧ (ws.take k).all (fun p => (numR p).2) = true}) (fun k σ => ⟨(8, iv ((k.1 + 1 : Nat) : Int)) :: (7, .sl 1 ((ws.take k.1).map fun p => [ip (numR p).1])) :: keepS [0, 5] σ.slot, [], [(.s 7, (3, 1))], σ.ext⟩) (fun k => ws.length - k.1) ⟨0, Nat.zero_le _, rfl⟩ (sub_mk ?_) (fun R2 hR2 k => ?_)
 · simp only [go_sem, simprocAttr, hF]
   repeat' (first | rfl | refine ⟨?_, ?_⟩)
 obtain ⟨k, hk, hT2⟩ := k
 dsimp only
 simp only [go_sem, simprocAttr, hF]
 by_cases hlt2 : k < ws.length
 case neg =>
  have hd : decide ((((k + 1 : Nat) : Int)) < (((ws.length + 1 : Nat) : Int))) = false := decide_eq_false (by omega)
  obtain rfl : k = ws.length := by omega
  rw [List.take_length] at hT2
  rw [if_pos hT2] at hlo
  repeat (first
   | ((with_reducible first | refine sops_go ?_ | refine sops_end ?_ | refine awp_if ?_ | refine awp_ret ?_ | refine awp_exit ?_); simp only [go_sem, simprocAttr, hF, hd, List.take_length, strR])
   | (with_reducible first | refine awp_seq_k fun _ _ => ?_ | refine awp_region [55, 1000012, 1000025, 1000032] ?_)
   | go_step)
  rw [hlo]
  simp only [lineV, List.map_map]
  first | rfl | exact .inr rfl
 obtain ⟨p, hdk⟩ := get_of_lt hlt2
 have hd : decide ((((k + 1 : Nat) : Int)) < (((ws.length + 1 : Nat) : Int))) = true := decide_eq_true (by omega)
 have hw : IntKind.i64.wrap ((((k + 1 : Nat) : Int)) + 1) = ((k + 1 + 1 : Nat) : Int) := by rw [IntKind.wrap_i64]; omega
 have hpm : p ∈ ws := List.mem_of_getElem? hdk
 have hpz := hps p (by rw [hws]; exact List.mem_cons_of_mem _ hpm)
 have hlk : (ws.take k).length = k := by rw [List.length_take]; omega
 have hnl : (k ≤ 99999999) = True := eq_true (by omega)
 have hms : (ws.take (k + 1)).map (fun p => [ip (numR p).1]) = (ws.take k).map (fun p => [ip (numR p).1]) ++ [[ip (numR p).1]] := map_take_succ hdk
 obtain ⟨hv2, hv1⟩ := refV_num p
 repeat (first
  | ((with_reducible first | refine sops_go ?_ | refine sops_end ?_ | refine awp_if ?_ | refine awp_skip ?_); simp only [go_sem, simprocAttr, hF, hd, hdk, strR])
  | with_reducible (first | refine awp_seq_k fun _ _ => ?_ | refine awp_region [55, 1000012, 1000025, 1000032] ?_ | refine awp_block ?_)
  | go_step)
 refine ⟨_, refnum_ok p hpz, ?_⟩
 simp only [go_sem, simprocAttr, hF, hd, hdk, strR]
 repeat (first
  | ((with_reducible first | refine sops_go ?_ | refine sops_end ?_ | refine awp_if ?_); simp only [go_sem, simprocAttr, hF, hd, hdk, strR])
  | (with_reducible first | refine awp_seq_k fun _ _ => ?_ | refine awp_region [55, 1000012, 1000025, 1000032] ?_)
  | go_step)
 cases hok : (numR p).2 with
 | false =>
  rw [hok] at hv2
  have hno : ¬ ws.all (fun p => (numR p).2) = true := fun h => by
   have := List.all_eq_true.1 h p hpm
   rw [hok] at this; cases this
  rw [if_neg hno] at hlo
  try simp only [go_sem, simprocAttr, hF, hv2]
  repeat (first
   | ((with_reducible first | refine sops_go ?_ | refine sops_end ?_ | refine awp_ret ?_); simp only [go_sem, simprocAttr, hF, hv2])
   | (with_reducible first | refine awp_seq_k fun _ _ => ?_ | refine awp_region [55, 1000012, 1000025, 1000032] ?_)
   | go_step)
  rw [hlo]
  first | rfl | exact .inr rfl
 | true =>
  rw [hok] at hv2
  have hv3 := hv1 hok
  try simp only [go_sem, simprocAttr, hF, hv2, hv3]
  repeat (first
   | ((with_reducible first | refine sops_go ?_ | refine sops_end ?_ | refine awp_skip ?_); simp only [go_sem, simprocAttr, hF, hv2, hv3, hlk, hnl, hw])
   | (with_reducible refine awp_region [55, 1000012, 1000025, 1000032] ?_)
   | go_step)
  refine ⟨⟨k + 1, hlt2, by rw [List.take_add_one, hdk, Option.toList_some, List.all_append, hT2]; simp [hok]⟩, by dsimp only; omega, hR2 _ _ (sub_mk ?_)⟩
  simp only [go_sem, simprocAttr, hF, hms]
/- The reference's words; the form of a word. -/
def namesL : List ByteArray := [wNetwork, wPower, wLink, wBefore, wRoute, wAfter, wSchedule, wCell, wAdd, wRemove, wWeak, wOutage, wSlots]
def sizesL : List Int := [3, 3, 4, 6, -1, 6, 2, 5, 6, 6, 5, 3, 1]
def placesL : List Int := [0, 1, 2, 3, 3, 4, 5, 6, 7, 7, 8, 9, 10]
theorem form_at : ∀ (i : Nat) (w : ByteArray) (x y : Int), namesL[i]? = some w → placesL[i]? = some x → sizesL[i]? = some y → formQ w = (x, y)
 | 0, _, _, _, h1, h2, h3 => by cases h1; cases h2; cases h3; decide
 | 1, _, _, _, h1, h2, h3 => by cases h1; cases h2; cases h3; decide
 | 2, _, _, _, h1, h2, h3 => by cases h1; cases h2; cases h3; decide
 | 3, _, _, _, h1, h2, h3 => by cases h1; cases h2; cases h3; decide
 | 4, _, _, _, h1, h2, h3 => by cases h1; cases h2; cases h3; decide
 | 5, _, _, _, h1, h2, h3 => by cases h1; cases h2; cases h3; decide
 | 6, _, _, _, h1, h2, h3 => by cases h1; cases h2; cases h3; decide
 | 7, _, _, _, h1, h2, h3 => by cases h1; cases h2; cases h3; decide
 | 8, _, _, _, h1, h2, h3 => by cases h1; cases h2; cases h3; decide
 | 9, _, _, _, h1, h2, h3 => by cases h1; cases h2; cases h3; decide
 | 10, _, _, _, h1, h2, h3 => by cases h1; cases h2; cases h3; decide
 | 11, _, _, _, h1, h2, h3 => by cases h1; cases h2; cases h3; decide
 | 12, _, _, _, h1, h2, h3 => by cases h1; cases h2; cases h3; decide
 | _ + 13, _, _, _, h1, _, _ => by simp [namesL] at h1
theorem form_no {w : ByteArray} (h : ∀ x ∈ namesL, x ≠ w) : formQ w = (-1, 0) := by
 have hr : w ≠ wRoute := fun e => h wRoute (by unfold namesL; simp) e.symm
 unfold formQ
 rw [if_neg hr]
 cases hk : kdOf w with
 | none => rfl
 | some k =>
  exfalso
  have h9 : k.word = w := kd_inv hk
  exact h k.word (by unfold namesL; cases k <;> simp [Kd.word]) h9

theorem rwordsL_ok  : FnOK Tryz.prog 120 [] ⟨.sl 1 (namesL.map fun x => [.v (.string x)]), none⟩ := by
 refine fn_ok Tryz.func120 (by kernel_rfl) rfl (by rw [Tryz.ntmps120]; exact of_decide_eq_true rfl) (fun F hF => ?_)
 rw [Tryz.ntmps120] at hF
 rw [Tryz.results120]
 repeat (first
  | ((with_reducible first | refine sops_go ?_ | refine sops_end ?_ | refine awp_ret ?_); simp only [go_sem, simprocAttr, hF])
  | (with_reducible first | refine awp_seq_k fun _ _ => ?_ | refine awp_region [] ?_)
  | go_step)
 exact .inr rfl

theorem form_ok (w : ByteArray) : FnOK Tryz.prog 86 [.v (.string w)] ⟨.tup [.c (ip (formQ w).1), .c (ip (formQ w).2)], none⟩ := by
 refine fn_ok Tryz.func86 (by kernel_rfl) rfl (by rw [Tryz.ntmps86]; exact of_decide_eq_true rfl) (fun F hF => ?_)
 rw [Tryz.ntmps86] at hF
 rw [Tryz.results86]
 repeat (first
  | ((with_reducible first | refine sops_go ?_ | refine sops_end ?_); simp only [go_sem, simprocAttr, hF])
  | (with_reducible first | refine awp_seq_k fun _ _ => ?_ | refine awp_region [] ?_)
  | go_step)
 refine ⟨_, rwordsL_ok, ?_⟩
 simp only [go_sem, simprocAttr, hF]
 repeat (first
  | ((with_reducible first | refine sops_go ?_ | refine sops_end ?_); simp only [go_sem, simprocAttr, hF])
  | (with_reducible first | refine awp_seq_k fun _ _ => ?_ | refine awp_region (id := 2) [] ?_ | refine awp_region (id := 3) [] ?_)
  | go_step)
 rw [show ([[PV.v (Value.int IntKind.i64 3)], [PV.v (Value.int IntKind.i64 3)], [PV.v (Value.int IntKind.i64 4)], [PV.v (Value.int IntKind.i64 6)], [PV.v (Value.int IntKind.i64 (-1))], [PV.v (Value.int IntKind.i64 6)], [PV.v (Value.int IntKind.i64 2)], [PV.v (Value.int IntKind.i64 5)], [PV.v (Value.int IntKind.i64 6)], [PV.v (Value.int IntKind.i64 6)], [PV.v (Value.int IntKind.i64 5)], [PV.v (Value.int IntKind.i64 3)], [PV.v (Value.int IntKind.i64 1)]] : List (List PV)) = sizesL.map fun n => [ip n] from rfl]
 rw [show ([[PV.v (Value.int IntKind.i64 0)], [PV.v (Value.int IntKind.i64 1)], [PV.v (Value.int IntKind.i64 2)], [PV.v (Value.int IntKind.i64 3)], [PV.v (Value.int IntKind.i64 3)], [PV.v (Value.int IntKind.i64 4)], [PV.v (Value.int IntKind.i64 5)], [PV.v (Value.int IntKind.i64 6)], [PV.v (Value.int IntKind.i64 7)], [PV.v (Value.int IntKind.i64 7)], [PV.v (Value.int IntKind.i64 8)], [PV.v (Value.int IntKind.i64 9)], [PV.v (Value.int IntKind.i64 10)]] : List (List PV)) = placesL.map fun n => [ip n] from rfl]
 repeat (first
  | ((with_reducible first | refine sops_go ?_ | refine sops_end ?_); simp only [go_sem, simprocAttr, hF])
  | with_reducible (first | refine awp_region [] ?_ | refine awp_block ?_)
  | go_step)
 refine awp_loop_by (ι := {i : Nat // i ≤ namesL.length ∧ ∀ x ∈ namesL.take i, x ≠ w}) (fun i σ => ⟨(7, iv (i.1 : Int)) :: keepS [0, 2, 3, 4, 5, 6] σ.slot, [], [], σ.ext⟩) (fun i => namesL.length - i.1) ⟨0, Nat.zero_le _, fun x hx => by simp at hx⟩ (sub_mk ?_) (fun R hR i => ?_)
 · simp only [go_sem, simprocAttr, hF]
   repeat' (first | rfl | refine ⟨?_, ?_⟩)
 obtain ⟨i, hi, hT⟩ := i
 dsimp only
 simp only [go_sem, simprocAttr, hF]
 by_cases hlt : i < namesL.length
 case neg =>
  have hd : decide ((i : Int) < (namesL.length : Int)) = false := decide_eq_false (by omega)
  have hF0 : formQ w = (-1, 0) := form_no (by rwa [List.take_of_length_le (by omega)] at hT)
  repeat (first
   | ((with_reducible first | refine sops_go ?_ | refine sops_end ?_ | refine awp_if ?_ | refine awp_ret ?_ | refine awp_exit ?_); simp only [go_sem, simprocAttr, hF, hd])
   | (with_reducible first | refine awp_seq_k fun _ _ => ?_ | refine awp_region [] ?_)
   | go_step)
  all_goals (rw [hF0]; try rfl)
 obtain ⟨x, hx⟩ := get_of_lt hlt
 obtain ⟨y, hy⟩ := get_of_lt (show i < sizesL.length from hlt)
 obtain ⟨z, hz⟩ := get_of_lt (show i < placesL.length from hlt)
 have hd : decide ((i : Int) < (namesL.length : Int)) = true := decide_eq_true (by omega)
 have hn13 : namesL.length = 13 := rfl
 have hw : IntKind.i64.wrap ((i : Int) + 1) = ((i + 1 : Nat) : Int) := by rw [IntKind.wrap_i64]; omega
 by_cases he : x = w
 case pos =>
  subst he
  have h1 : (x.toList == x.toList) = true := beq_self_eq_true _
  repeat (first
   | ((with_reducible first | refine sops_go ?_ | refine headW_end ?_ | refine sops_end ?_ | refine awp_if ?_ | refine awp_skip ?_ | refine awp_ret ?_); simp only [go_sem, simprocAttr, hF, hd, hx, hy, hz, h1])
   | ((with_reducible refine headW_go ?_); simp only [go_sem, simprocAttr, hF, hd, hx, hy, hz, h1, hbx])
   | (with_reducible refine awp_seq_k fun _ _ => ?_)
   | (refine awp_draw' (id := 8) [] 10 (by kernel_rfl) (by kernel_rfl) rfl rfl (fun bx0 hbx => ?_); try dsimp only [List.take, List.drop])
   | with_reducible (first | refine awp_region [] ?_ | refine awp_block ?_)
   | go_step)
  all_goals (rw [form_at i x z y hx hz hy]; try rfl)
 have h1 : (x.toList == w.toList) = false := by rw [str_eq]; exact decide_eq_false he
 repeat (first
  | ((with_reducible first | refine sops_go ?_ | refine sops_end ?_ | refine awp_if ?_ | refine awp_skip ?_); simp only [go_sem, simprocAttr, hF, hd, hx, hy, hz, h1, hw])
  | with_reducible (first | refine awp_seq_k fun _ _ => ?_ | refine awp_region [] ?_ | refine awp_block ?_)
  | go_step)
 refine ⟨⟨i + 1, hlt, fun u hu => by rw [List.take_add_one, hx] at hu; rcases List.mem_append.1 hu with hu | hu; exact hT u hu; rw [List.mem_singleton.1 hu]; exact he⟩, by dsimp only; omega, hR _ _ (sub_mk ?_)⟩
 simp only [go_sem, simprocAttr, hF, hw]
/- The reference's parser: a line. -/
attribute [local go_sem] Tryz.underlying103 Tryz.zr105 Tryz.underlying105 Tryz.underlying177 Tryz.underlying178 Tryz.underlying179 Av.sopJ lineV
theorem lq_none (b : Nat) (X : RX) (s : ByteArray) (hs : s.size ≤ 100000) (ho : lineO s = none) : FnX Tryz.prog LC 40 [.v (wrP b), .v (.string s)] (exts (pcsQ b X)) (iv 3) (fun _ : Unit => exts (pcsQ b X)) := by
 have hline := rline_okC s hs
 rw [ho] at hline
 have hform := form_ok ⟨#[]⟩
 rw [show formQ ⟨#[]⟩ = (-1, 0) from by decide] at hform
 refine fn_okXn Tryz.func40 Tryz.ntmps40 Tryz.results40 (by kernel_rfl) rfl (of_decide_eq_true rfl) fun F E hF hC => ?_
 simp only [go_sem, simprocAttr, hF]
 repeat (first
  | ((with_reducible refine hand_id ?_); (refine hand_fnL LC.below rfl rfl (by decide) (fun w0 h => hC w0 h.1) rfl rfl hline rfl ?_); simp only [go_sem, simprocAttr, hF])
  | (refine ⟨_, hform, ?_⟩; simp only [go_sem, simprocAttr, hF])
  | ((with_reducible first | refine sops_go ?_ | refine sops_end ?_ | refine awp_if ?_ | refine awp_ret ?_); simp only [go_sem, simprocAttr, hF])
  | (with_reducible first | refine awp_seq_k fun _ _ => ?_ | refine awp_region (id := 0) [] ?_ | refine awp_region (id := 1) [1000013] ?_ | refine awp_region (id := 2) [] ?_ | refine awp_region (id := 3) [] ?_ | refine awp_region (id := 4) [] ?_)
  | go_step)
 all_goals (first | rfl | exact ⟨(), rfl⟩)

theorem lq_s0 (b : Nat) (X : RX) (s : ByteArray) (hs : s.size ≤ 100000) {w : ByteArray} {l : List Int} (ho : lineO s = some (w, l)) {x y : Int} (hf : formQ w = (x, y)) (h1 : decide (x < 0) = true) : FnX Tryz.prog LC 40 [.v (wrP b), .v (.string s)] (exts (pcsQ b X)) (iv 3) (fun _ : Unit => exts (pcsQ b X)) := by
 have hline := rline_okC s hs
 rw [ho] at hline
 have hform := form_ok w
 rw [hf] at hform
 refine fn_okXn Tryz.func40 Tryz.ntmps40 Tryz.results40 (by kernel_rfl) rfl (of_decide_eq_true rfl) fun F E hF hC => ?_
 simp only [go_sem, simprocAttr, hF]
 repeat (first
  | ((with_reducible refine hand_id ?_); (refine hand_fnL LC.below rfl rfl (by decide) (fun w0 h => hC w0 h.1) rfl rfl hline rfl ?_); simp only [go_sem, simprocAttr, hF, h1])
  | (refine ⟨_, hform, ?_⟩; simp only [go_sem, simprocAttr, hF, h1])
  | ((with_reducible first | refine sops_go ?_ | refine sops_end ?_ | refine awp_if ?_ | refine awp_ret ?_); simp only [go_sem, simprocAttr, hF, h1])
  | (with_reducible first | refine awp_seq_k fun _ _ => ?_ | refine awp_region (id := 0) [] ?_ | refine awp_region (id := 1) [1000013] ?_ | refine awp_region (id := 2) [] ?_ | refine awp_region (id := 3) [] ?_ | refine awp_region (id := 4) [] ?_)
  | go_step)
 all_goals (first | rfl | exact ⟨(), rfl⟩)

theorem lq_s1 (b : Nat) (X : RX) (s : ByteArray) (hs : s.size ≤ 100000) {w : ByteArray} {l : List Int} (ho : lineO s = some (w, l)) {x y : Int} (hf : formQ w = (x, y)) (h1 : decide (x < 0) = false) (h2 : decide (y ≥ 0) = true) (h3 : ((l.length : Int) != y) = true) : FnX Tryz.prog LC 40 [.v (wrP b), .v (.string s)] (exts (pcsQ b X)) (iv 3) (fun _ : Unit => exts (pcsQ b X)) := by
 have hline := rline_okC s hs
 rw [ho] at hline
 have hform := form_ok w
 rw [hf] at hform
 refine fn_okXn Tryz.func40 Tryz.ntmps40 Tryz.results40 (by kernel_rfl) rfl (of_decide_eq_true rfl) fun F E hF hC => ?_
 simp only [go_sem, simprocAttr, hF]
 repeat (first
  | ((with_reducible refine hand_id ?_); (refine hand_fnL LC.below rfl rfl (by decide) (fun w0 h => hC w0 h.1) rfl rfl hline rfl ?_); simp only [go_sem, simprocAttr, hF, h1, h2, h3])
  | (refine ⟨_, hform, ?_⟩; simp only [go_sem, simprocAttr, hF, h1, h2, h3])
  | ((with_reducible first | refine sops_go ?_ | refine sops_end ?_ | refine awp_if ?_ | refine awp_ret ?_); simp only [go_sem, simprocAttr, hF, h1, h2, h3])
  | (with_reducible first | refine awp_seq_k fun _ _ => ?_ | refine awp_region (id := 0) [] ?_ | refine awp_region (id := 1) [1000013] ?_ | refine awp_region (id := 2) [] ?_ | refine awp_region (id := 3) [] ?_ | refine awp_region (id := 4) [] ?_)
  | go_step)
 all_goals (first | rfl | exact ⟨(), rfl⟩)

theorem lq_s2 (b : Nat) (X : RX) (s : ByteArray) (hs : s.size ≤ 100000) {w : ByteArray} {l : List Int} (ho : lineO s = some (w, l)) {x y : Int} (hf : formQ w = (x, y)) (h1 : decide (x < 0) = false) (h2 : decide (y ≥ 0) = false) (h4 : decide (y < 0) = true) (h5 : ((l.length : Int) == 0) = true) : FnX Tryz.prog LC 40 [.v (wrP b), .v (.string s)] (exts (pcsQ b X)) (iv 3) (fun _ : Unit => exts (pcsQ b X)) := by
 have hline := rline_okC s hs
 rw [ho] at hline
 have hform := form_ok w
 rw [hf] at hform
 refine fn_okXn Tryz.func40 Tryz.ntmps40 Tryz.results40 (by kernel_rfl) rfl (of_decide_eq_true rfl) fun F E hF hC => ?_
 simp only [go_sem, simprocAttr, hF]
 repeat (first
  | ((with_reducible refine hand_id ?_); (refine hand_fnL LC.below rfl rfl (by decide) (fun w0 h => hC w0 h.1) rfl rfl hline rfl ?_); simp only [go_sem, simprocAttr, hF, h1, h2, h4, h5])
  | (refine ⟨_, hform, ?_⟩; simp only [go_sem, simprocAttr, hF, h1, h2, h4, h5])
  | ((with_reducible first | refine sops_go ?_ | refine sops_end ?_ | refine awp_if ?_ | refine awp_ret ?_); simp only [go_sem, simprocAttr, hF, h1, h2, h4, h5])
  | (with_reducible first | refine awp_seq_k fun _ _ => ?_ | refine awp_region (id := 0) [] ?_ | refine awp_region (id := 1) [1000013] ?_ | refine awp_region (id := 2) [] ?_ | refine awp_region (id := 3) [] ?_ | refine awp_region (id := 4) [] ?_)
  | go_step)
 all_goals (first | rfl | exact ⟨(), rfl⟩)

theorem lq_orderA (b : Nat) (X : RX) (s : ByteArray) (hs : s.size ≤ 100000) {w : ByteArray} {l : List Int} (ho : lineO s = some (w, l)) {x y : Int} (hf : formQ w = (x, y)) (h1 : decide (x < 0) = false) (h2 : decide (y ≥ 0) = true) (h3 : ((l.length : Int) != y) = false) (h4 : decide (y < 0) = false) (hlt : laterX X w x = false) : FnX Tryz.prog LC 40 [.v (wrP b), .v (.string s)] (exts (pcsQ b X)) (iv 5) (fun _ : Unit => exts (pcsQ b X)) := by
 have hline := rline_okC s hs
 rw [ho] at hline
 have hform := form_ok w
 rw [hf] at hform
 have hlat := fun E : Ext => qlater LC b X w x
 rw [hlt] at hlat
 refine fn_okXn Tryz.func40 Tryz.ntmps40 Tryz.results40 (by kernel_rfl) rfl (of_decide_eq_true rfl) fun F E hF hC => ?_
 simp only [go_sem, simprocAttr, hF]
 repeat (first
  | ((with_reducible refine hand_id ?_); (first | (refine hand_fnL LC.below rfl rfl (by decide) (fun w0 h => hC w0 h.1) rfl rfl hline rfl ?_) | (refine hand_callX (hlat E) E rfl hC rfl rfl (by decide) rfl rfl (fun i => ?_))); simp only [go_sem, simprocAttr, hF, h1, h2, h3, h4])
  | (refine ⟨_, hform, ?_⟩; simp only [go_sem, simprocAttr, hF, h1, h2, h3, h4])
  | ((with_reducible first | refine sops_go ?_ | refine sops_end ?_ | refine awp_if ?_ | refine awp_skip ?_ | refine awp_ret ?_); simp only [go_sem, simprocAttr, hF, h1, h2, h3, h4])
  | (with_reducible first | refine awp_seq_k fun _ _ => ?_ | refine awp_region (id := 0) [] ?_ | refine awp_region (id := 1) [1000013] ?_ | refine awp_region (id := 2) [] ?_ | refine awp_region (id := 3) [] ?_ | refine awp_region (id := 5) [1000050] ?_ | refine awp_region (id := 6) [] ?_)
  | go_step)
 all_goals (first | rfl | exact ⟨(), rfl⟩)

theorem lq_orderB (b : Nat) (X : RX) (s : ByteArray) (hs : s.size ≤ 100000) {w : ByteArray} {l : List Int} (ho : lineO s = some (w, l)) {x y : Int} (hf : formQ w = (x, y)) (h1 : decide (x < 0) = false) (h2 : decide (y ≥ 0) = false) (h4 : decide (y < 0) = true) (h5 : ((l.length : Int) == 0) = false) (hlt : laterX X w x = false) : FnX Tryz.prog LC 40 [.v (wrP b), .v (.string s)] (exts (pcsQ b X)) (iv 5) (fun _ : Unit => exts (pcsQ b X)) := by
 have hline := rline_okC s hs
 rw [ho] at hline
 have hform := form_ok w
 rw [hf] at hform
 have hlat := fun E : Ext => qlater LC b X w x
 rw [hlt] at hlat
 refine fn_okXn Tryz.func40 Tryz.ntmps40 Tryz.results40 (by kernel_rfl) rfl (of_decide_eq_true rfl) fun F E hF hC => ?_
 simp only [go_sem, simprocAttr, hF]
 repeat (first
  | ((with_reducible refine hand_id ?_); (first | (refine hand_fnL LC.below rfl rfl (by decide) (fun w0 h => hC w0 h.1) rfl rfl hline rfl ?_) | (refine hand_callX (hlat E) E rfl hC rfl rfl (by decide) rfl rfl (fun i => ?_))); simp only [go_sem, simprocAttr, hF, h1, h2, h4, h5])
  | (refine ⟨_, hform, ?_⟩; simp only [go_sem, simprocAttr, hF, h1, h2, h4, h5])
  | ((with_reducible first | refine sops_go ?_ | refine sops_end ?_ | refine awp_if ?_ | refine awp_skip ?_ | refine awp_ret ?_); simp only [go_sem, simprocAttr, hF, h1, h2, h4, h5])
  | (with_reducible first | refine awp_seq_k fun _ _ => ?_ | refine awp_region (id := 0) [] ?_ | refine awp_region (id := 1) [1000013] ?_ | refine awp_region (id := 2) [] ?_ | refine awp_region (id := 3) [] ?_ | refine awp_region (id := 5) [1000050] ?_ | refine awp_region (id := 6) [] ?_)
  | go_step)
 all_goals (first | rfl | exact ⟨(), rfl⟩)

theorem lq_table (b : Nat) (X : RX) (s : ByteArray) (hs : s.size ≤ 100000) {w : ByteArray} {l : List Int} (ho : lineO s = some (w, l)) {x y : Int} (hf : formQ w = (x, y)) (h1 : decide (x < 0) = false) (h2 : decide (y ≥ 0) = true) (h3 : ((l.length : Int) != y) = false) (h4 : decide (y < 0) = false) (hlt : laterX X w x = true) (c2 : decide (x ≤ 2) = true) (hw : w ≠ wRoute) {ι : Type} {Y : ι → RX} {e : Int} (hrd : FnX Tryz.prog LC 88 [.v (wrP b), .v (.string w), .sl 1 (l.map fun n => [ip n])] (exts (pcsQ b X)) (iv e) (fun i : ι => exts (pcsQ b (Y i)))) : FnX Tryz.prog LC 40 [.v (wrP b), .v (.string s)] (exts (pcsQ b X)) (iv e) (fun i : ι => exts (pcsQ b ((Y i).at x))) := by
 have hline := rline_okC s hs
 rw [ho] at hline
 have hform := form_ok w
 rw [hf] at hform
 have hlat := fun E : Ext => qlater LC b X w x
 rw [hlt] at hlat
 have n_route : (w.toList == (⟨#[114, 111, 117, 116, 101]⟩ : ByteArray).toList) = false := by rw [str_eq]; exact decide_eq_false hw
 have hread := fun E : Ext => hrd
 refine fn_okXn Tryz.func40 Tryz.ntmps40 Tryz.results40 (by kernel_rfl) rfl (of_decide_eq_true rfl) fun F E hF hC => ?_
 simp only [go_sem, simprocAttr, hF]
 repeat (first
  | ((with_reducible refine hand_id ?_); first | ((refine hand_rawField rfl rfl (by decide) Tryz.underlying105 rfl (m := 0) rfl rfl ?_); simp only [go_sem, simprocAttr, hF, h1, h2, h3, h4, c2, n_route, Av.sopJ]) | ((refine hand_eStore (i := 0) rfl rfl rfl rfl rfl rfl (by first | assumption | exact Nat.le_of_ble_eq_true rfl | (simp only [List.length_set, List.length_cons]; omega)) (by first | assumption | rfl) (by first | assumption | rfl) Tryz.sz3 ?_); simp only [go_sem, simprocAttr, hF, h1, h2, h3, h4, c2, n_route, Av.sopJ]) | ((refine hand_fnL LC.below rfl rfl (by decide) (fun w0 h => hC w0 h.1) rfl rfl hline rfl ?_); simp only [go_sem, simprocAttr, hF, h1, h2, h3, h4, c2, n_route]) | ((refine hand_callX (hlat E) E rfl hC rfl rfl (by decide) rfl rfl (fun i => ?_)); simp only [go_sem, simprocAttr, hF, h1, h2, h3, h4, c2, n_route]) | ((refine hand_callX (hread E) E rfl hC rfl rfl (by decide) rfl rfl (fun i => ?_)); simp only [go_sem, simprocAttr, hF, h1, h2, h3, h4, c2, n_route]))
  | ((with_reducible first | refine sopsJ_go ?_ | refine sopsJ_end ?_); simp only [go_sem, simprocAttr, hF, h1, h2, h3, h4, c2, n_route, Av.sopJ])
  | ((refine awp_regionJ (id := 14) [1000075] ?_); simp only [go_sem, simprocAttr, hF, h1, h2, h3, h4, c2, n_route, Av.sopJ])
  | (refine ⟨_, hform, ?_⟩; simp only [go_sem, simprocAttr, hF, h1, h2, h3, h4, c2, n_route])
  | ((with_reducible first | refine sops_go ?_ | refine sops_end ?_ | refine awp_if ?_ | refine awp_skip ?_ | refine awp_ret ?_); simp only [go_sem, simprocAttr, hF, h1, h2, h3, h4, c2, n_route])
  | (with_reducible first | refine awp_seq_k fun _ _ => ?_ | refine awp_region (id := 0) [] ?_ | refine awp_region (id := 1) [1000013] ?_ | refine awp_region (id := 2) [] ?_ | refine awp_region (id := 3) [] ?_ | refine awp_region (id := 5) [1000050] ?_ | refine awp_region (id := 7) [] ?_ | refine awp_region (id := 9) [] ?_ | refine awp_region (id := 10) [1000062] ?_ | refine awp_region (id := 13) [] ?_ | refine awp_region (id := 15) [] ?_ | refine awp_block ?_)
  | go_step)
 exact ⟨i, rfl⟩

theorem lq_request (b : Nat) (X : RX) (s : ByteArray) (hs : s.size ≤ 100000) {w : ByteArray} {l : List Int} (ho : lineO s = some (w, l)) {x y : Int} (hf : formQ w = (x, y)) (h1 : decide (x < 0) = false) (h2 : decide (y ≥ 0) = true) (h3 : ((l.length : Int) != y) = false) (h4 : decide (y < 0) = false) (hlt : laterX X w x = true) (c2 : decide (x ≤ 2) = false) (c4 : decide (x ≤ 4) = true) (hw : w ≠ wRoute) {ι : Type} {Y : ι → RX} {e : Int} (hrd : FnX Tryz.prog LC 89 [.v (wrP b), .v (.string w), .sl 1 (l.map fun n => [ip n])] (exts (pcsQ b X)) (iv e) (fun i : ι => exts (pcsQ b (Y i)))) : FnX Tryz.prog LC 40 [.v (wrP b), .v (.string s)] (exts (pcsQ b X)) (iv e) (fun i : ι => exts (pcsQ b ((Y i).at x))) := by
 have hline := rline_okC s hs
 rw [ho] at hline
 have hform := form_ok w
 rw [hf] at hform
 have hlat := fun E : Ext => qlater LC b X w x
 rw [hlt] at hlat
 have n_route : (w.toList == (⟨#[114, 111, 117, 116, 101]⟩ : ByteArray).toList) = false := by rw [str_eq]; exact decide_eq_false hw
 have hread := fun E : Ext => hrd
 refine fn_okXn Tryz.func40 Tryz.ntmps40 Tryz.results40 (by kernel_rfl) rfl (of_decide_eq_true rfl) fun F E hF hC => ?_
 simp only [go_sem, simprocAttr, hF]
 repeat (first
  | ((with_reducible refine hand_id ?_); first | ((refine hand_rawField rfl rfl (by decide) Tryz.underlying105 rfl (m := 0) rfl rfl ?_); simp only [go_sem, simprocAttr, hF, h1, h2, h3, h4, c2, c4, n_route, Av.sopJ]) | ((refine hand_eStore (i := 0) rfl rfl rfl rfl rfl rfl (by first | assumption | exact Nat.le_of_ble_eq_true rfl | (simp only [List.length_set, List.length_cons]; omega)) (by first | assumption | rfl) (by first | assumption | rfl) Tryz.sz3 ?_); simp only [go_sem, simprocAttr, hF, h1, h2, h3, h4, c2, c4, n_route, Av.sopJ]) | ((refine hand_fnL LC.below rfl rfl (by decide) (fun w0 h => hC w0 h.1) rfl rfl hline rfl ?_); simp only [go_sem, simprocAttr, hF, h1, h2, h3, h4, c2, c4, n_route]) | ((refine hand_callX (hlat E) E rfl hC rfl rfl (by decide) rfl rfl (fun i => ?_)); simp only [go_sem, simprocAttr, hF, h1, h2, h3, h4, c2, c4, n_route]) | ((refine hand_callX (hread E) E rfl hC rfl rfl (by decide) rfl rfl (fun i => ?_)); simp only [go_sem, simprocAttr, hF, h1, h2, h3, h4, c2, c4, n_route]))
  | ((with_reducible first | refine sopsJ_go ?_ | refine sopsJ_end ?_); simp only [go_sem, simprocAttr, hF, h1, h2, h3, h4, c2, c4, n_route, Av.sopJ])
  | ((refine awp_regionJ (id := 14) [1000075] ?_); simp only [go_sem, simprocAttr, hF, h1, h2, h3, h4, c2, c4, n_route, Av.sopJ])
  | (refine ⟨_, hform, ?_⟩; simp only [go_sem, simprocAttr, hF, h1, h2, h3, h4, c2, c4, n_route])
  | ((with_reducible first | refine sops_go ?_ | refine sops_end ?_ | refine awp_if ?_ | refine awp_skip ?_ | refine awp_ret ?_); simp only [go_sem, simprocAttr, hF, h1, h2, h3, h4, c2, c4, n_route])
  | (with_reducible first | refine awp_seq_k fun _ _ => ?_ | refine awp_region (id := 0) [] ?_ | refine awp_region (id := 1) [1000013] ?_ | refine awp_region (id := 2) [] ?_ | refine awp_region (id := 3) [] ?_ | refine awp_region (id := 5) [1000050] ?_ | refine awp_region (id := 7) [] ?_ | refine awp_region (id := 9) [] ?_ | refine awp_region (id := 11) [] ?_ | refine awp_region (id := 12) [1000069] ?_ | refine awp_region (id := 13) [] ?_ | refine awp_region (id := 15) [] ?_ | refine awp_block ?_)
  | go_step)
 exact ⟨i, rfl⟩

theorem lq_rest (b : Nat) (X : RX) (s : ByteArray) (hs : s.size ≤ 100000) {w : ByteArray} {l : List Int} (ho : lineO s = some (w, l)) {x y : Int} (hf : formQ w = (x, y)) (h1 : decide (x < 0) = false) (h2 : decide (y ≥ 0) = true) (h3 : ((l.length : Int) != y) = false) (h4 : decide (y < 0) = false) (hlt : laterX X w x = true) (c2 : decide (x ≤ 2) = false) (c4 : decide (x ≤ 4) = false) (hw : w ≠ wRoute) {ι : Type} {Y : ι → RX} {e : Int} (hrd : FnX Tryz.prog LC 90 [.v (wrP b), .v (.string w), .sl 1 (l.map fun n => [ip n])] (exts (pcsQ b X)) (iv e) (fun i : ι => exts (pcsQ b (Y i)))) : FnX Tryz.prog LC 40 [.v (wrP b), .v (.string s)] (exts (pcsQ b X)) (iv e) (fun i : ι => exts (pcsQ b ((Y i).at x))) := by
 have hline := rline_okC s hs
 rw [ho] at hline
 have hform := form_ok w
 rw [hf] at hform
 have hlat := fun E : Ext => qlater LC b X w x
 rw [hlt] at hlat
 have n_route : (w.toList == (⟨#[114, 111, 117, 116, 101]⟩ : ByteArray).toList) = false := by rw [str_eq]; exact decide_eq_false hw
 have hread := fun E : Ext => hrd
 refine fn_okXn Tryz.func40 Tryz.ntmps40 Tryz.results40 (by kernel_rfl) rfl (of_decide_eq_true rfl) fun F E hF hC => ?_
 simp only [go_sem, simprocAttr, hF]
 repeat (first
  | ((with_reducible refine hand_id ?_); first | ((refine hand_rawField rfl rfl (by decide) Tryz.underlying105 rfl (m := 0) rfl rfl ?_); simp only [go_sem, simprocAttr, hF, h1, h2, h3, h4, c2, c4, n_route, Av.sopJ]) | ((refine hand_eStore (i := 0) rfl rfl rfl rfl rfl rfl (by first | assumption | exact Nat.le_of_ble_eq_true rfl | (simp only [List.length_set, List.length_cons]; omega)) (by first | assumption | rfl) (by first | assumption | rfl) Tryz.sz3 ?_); simp only [go_sem, simprocAttr, hF, h1, h2, h3, h4, c2, c4, n_route, Av.sopJ]) | ((refine hand_fnL LC.below rfl rfl (by decide) (fun w0 h => hC w0 h.1) rfl rfl hline rfl ?_); simp only [go_sem, simprocAttr, hF, h1, h2, h3, h4, c2, c4, n_route]) | ((refine hand_callX (hlat E) E rfl hC rfl rfl (by decide) rfl rfl (fun i => ?_)); simp only [go_sem, simprocAttr, hF, h1, h2, h3, h4, c2, c4, n_route]) | ((refine hand_callX (hread E) E rfl hC rfl rfl (by decide) rfl rfl (fun i => ?_)); simp only [go_sem, simprocAttr, hF, h1, h2, h3, h4, c2, c4, n_route]))
  | ((with_reducible first | refine sopsJ_go ?_ | refine sopsJ_end ?_); simp only [go_sem, simprocAttr, hF, h1, h2, h3, h4, c2, c4, n_route, Av.sopJ])
  | ((refine awp_regionJ (id := 14) [1000075] ?_); simp only [go_sem, simprocAttr, hF, h1, h2, h3, h4, c2, c4, n_route, Av.sopJ])
  | (refine ⟨_, hform, ?_⟩; simp only [go_sem, simprocAttr, hF, h1, h2, h3, h4, c2, c4, n_route])
  | ((with_reducible first | refine sops_go ?_ | refine sops_end ?_ | refine awp_if ?_ | refine awp_skip ?_ | refine awp_ret ?_); simp only [go_sem, simprocAttr, hF, h1, h2, h3, h4, c2, c4, n_route])
  | (with_reducible first | refine awp_seq_k fun _ _ => ?_ | refine awp_region (id := 0) [] ?_ | refine awp_region (id := 1) [1000013] ?_ | refine awp_region (id := 2) [] ?_ | refine awp_region (id := 3) [] ?_ | refine awp_region (id := 5) [1000050] ?_ | refine awp_region (id := 7) [] ?_ | refine awp_region (id := 9) [] ?_ | refine awp_region (id := 11) [] ?_ | refine awp_region (id := 8) [1000055] ?_ | refine awp_region (id := 13) [] ?_ | refine awp_region (id := 15) [] ?_ | refine awp_block ?_)
  | go_step)
 exact ⟨i, rfl⟩

theorem lq_route (b : Nat) (X : RX) (s : ByteArray) (hs : s.size ≤ 100000) {w : ByteArray} {l : List Int} (ho : lineO s = some (w, l)) {x y : Int} (hf : formQ w = (x, y)) (h1 : decide (x < 0) = false) (h2 : decide (y ≥ 0) = false) (h4 : decide (y < 0) = true) (h5 : ((l.length : Int) == 0) = false) (hlt : laterX X w x = true) (c2 : decide (x ≤ 2) = false) (c4 : decide (x ≤ 4) = true) (hw : w = wRoute) {ι : Type} {Y : ι → RX} {e : Int} (hrd : FnX Tryz.prog LC 89 [.v (wrP b), .v (.string w), .sl 1 (l.map fun n => [ip n])] (exts (pcsQ b X)) (iv e) (fun i : ι => exts (pcsQ b (Y i)))) : FnX Tryz.prog LC 40 [.v (wrP b), .v (.string s)] (exts (pcsQ b X)) (iv e) (fun i : ι => exts (pcsQ b (Y i))) := by
 have hline := rline_okC s hs
 rw [ho] at hline
 have hform := form_ok w
 rw [hf] at hform
 have hlat := fun E : Ext => qlater LC b X w x
 rw [hlt] at hlat
 have n_route : (w.toList == (⟨#[114, 111, 117, 116, 101]⟩ : ByteArray).toList) = true := by rw [str_eq]; exact decide_eq_true hw
 have hread := fun E : Ext => hrd
 refine fn_okXn Tryz.func40 Tryz.ntmps40 Tryz.results40 (by kernel_rfl) rfl (of_decide_eq_true rfl) fun F E hF hC => ?_
 simp only [go_sem, simprocAttr, hF]
 repeat (first
  | ((with_reducible refine hand_id ?_); (first | (refine hand_fnL LC.below rfl rfl (by decide) (fun w0 h => hC w0 h.1) rfl rfl hline rfl ?_) | (refine hand_callX (hlat E) E rfl hC rfl rfl (by decide) rfl rfl (fun i => ?_)) | (refine hand_callX (hread E) E rfl hC rfl rfl (by decide) rfl rfl (fun i => ?_))); simp only [go_sem, simprocAttr, hF, h1, h2, h4, h5, c2, c4, n_route])
  | (refine ⟨_, hform, ?_⟩; simp only [go_sem, simprocAttr, hF, h1, h2, h4, h5, c2, c4, n_route])
  | ((with_reducible first | refine sops_go ?_ | refine sops_end ?_ | refine awp_if ?_ | refine awp_skip ?_ | refine awp_ret ?_); simp only [go_sem, simprocAttr, hF, h1, h2, h4, h5, c2, c4, n_route])
  | (with_reducible first | refine awp_seq_k fun _ _ => ?_ | refine awp_region (id := 0) [] ?_ | refine awp_region (id := 1) [1000013] ?_ | refine awp_region (id := 2) [] ?_ | refine awp_region (id := 3) [] ?_ | refine awp_region (id := 5) [1000050] ?_ | refine awp_region (id := 7) [] ?_ | refine awp_region (id := 9) [] ?_ | refine awp_region (id := 11) [] ?_ | refine awp_region (id := 12) [1000069] ?_ | refine awp_region (id := 13) [] ?_ | refine awp_region (id := 15) [] ?_ | refine awp_block ?_)
  | go_step)
 exact ⟨i, rfl⟩
end Go.Proofs.YtcloigoajohppaaGreatDoor
/- The reference's parser: a line, whole. -/
namespace Go.Proofs.YtcloigoajohppaaGreatDoor
open Go.RowKit
open Av
open Sc
set_option maxRecDepth 100000
set_option linter.unusedSimpArgs false

abbrev StQ (q : Pr) (o : Option (ByteArray × List Int)) : Type := {X' : RX // (stepR q o).2 = 0 → OKQ (stepR q o).1.rd X'}
theorem kindR_rd (k : Kd) (q : Pr) (l : List Int) : (kindR k q l).1.rd = (readP k ⟨q.rd, none⟩ l).1.R.at k.rank ∧ (kindR k q l).2 = (readP k ⟨q.rd, none⟩ l).2 := by
  obtain ⟨h1, h2, h3, h4, h5⟩ := readP_ps k l q.x q.nw q.sc q.sl 0 q.at_ none none
  have h1 : (readP k q.ps l).2 = (readP k ⟨q.rd, none⟩ l).2 := h1
  have h2 : (readP k q.ps l).1.R.x = (readP k ⟨q.rd, none⟩ l).1.R.x := h2
  have h3 : (readP k q.ps l).1.R.begun = (readP k ⟨q.rd, none⟩ l).1.R.begun := h3
  have h4 : (readP k q.ps l).1.R.sched = (readP k ⟨q.rd, none⟩ l).1.R.sched := h4
  have h5 : (readP k q.ps l).1.R.done = (readP k ⟨q.rd, none⟩ l).1.R.done := h5
  refine ⟨?_, h1⟩
  show (⟨(readP k q.ps l).1.R.x, (k.rank : Int), (readP k q.ps l).1.R.begun, (readP k q.ps l).1.R.sched, (readP k q.ps l).1.R.done⟩ : Rd) = ⟨(readP k ⟨q.rd, none⟩ l).1.R.x, (k.rank : Int), (readP k ⟨q.rd, none⟩ l).1.R.begun, (readP k ⟨q.rd, none⟩ l).1.R.sched, (readP k ⟨q.rd, none⟩ l).1.R.done⟩
  rw [h2, h3, h4, h5]
theorem later_ge {q : Pr} {k : Kd} (h : laterR q k.word (k.rank : Int) = true) : q.at_ ≤ (k.rank : Int) ∧ (k = .network → q.at_ < 0) := by
  have hr := (kd_word k).2
  unfold laterR at h
  rw [if_neg hr] at h
  split at h
  · cases h
  · rename_i h1
    split at h
    · cases h
    · rename_i h2
      simp only [Bool.or_eq_true, decide_eq_true_eq, not_or] at h2
      refine ⟨by omega, fun hk => ?_⟩
      subst hk
      simp only [Bool.and_eq_true, decide_eq_true_eq, not_and] at h1
      have := h1 (by decide)
      simp only [Kd.rank] at this
      omega
theorem lineq_okX (b : Nat) {q : Pr} {X : RX} (hX : OKQ q.rd X) (s : ByteArray) (hs : s.size ≤ 100000) : FnX Tryz.prog LC 40 [.v (wrP b), .v (.string s)] (exts (pcsQ b X)) (iv (stepR q (lineO s)).2) (fun i : StQ q (lineO s) => exts (pcsQ b i.1)) := by
  have bad : ∀ e : Int, (stepR q (lineO s)).2 = e → e ≠ 0 → FnX Tryz.prog LC 40 [.v (wrP b), .v (.string s)] (exts (pcsQ b X)) (iv e) (fun _ : Unit => exts (pcsQ b X)) →
      FnX Tryz.prog LC 40 [.v (wrP b), .v (.string s)] (exts (pcsQ b X)) (iv (stepR q (lineO s)).2) (fun i : StQ q (lineO s) => exts (pcsQ b i.1)) := fun e he h0 h => by
    rw [show iv (stepR q (lineO s)).2 = iv e by rw [he]]
    exact FnX.fam h fun _ => ⟨⟨X, fun h1 => absurd (he.symm.trans h1) h0⟩, rfl⟩
  cases ho : lineO s with
  | none => rw [ho] at bad; exact bad 3 rfl (by decide) (lq_none b X s hs ho)
  | some x =>
    obtain ⟨w, l⟩ := x
    rw [ho] at bad
    by_cases hw : w = wRoute
    · have hf : formQ w = (3, -1) := by unfold formQ; rw [if_pos hw]
      have e0 : stepR q (some (w, l)) = if l.length = 0 then (q, 3) else if laterR q w 3 = false then (q, 5) else routeR q l := by
        unfold stepR
        dsimp only
        rw [hf]
        by_cases hl : l.length = 0
        · rw [if_pos (.inr (.inr ⟨by decide, hl⟩)), if_pos hl]
        · rw [if_neg (by rintro (h | ⟨h, _⟩ | ⟨_, h⟩); exact absurd h (by decide); exact absurd h (by decide); exact hl h), if_neg hl, if_pos hw]
      by_cases hl : l.length = 0
      · exact bad 3 (by rw [e0, if_pos hl]) (by decide) (lq_s2 b X s hs ho hf rfl rfl rfl (by rw [hl]; rfl))
      · have h5 : ((l.length : Int) == 0) = false := beq_eq_false_iff_ne.2 (by omega)
        cases hlt : laterR q w 3 with
        | false => exact bad 5 (by rw [e0, if_neg hl, if_pos hlt]) (by decide) (lq_orderB b X s hs ho hf rfl rfl rfl h5 (by rw [laterX_eq hX]; exact hlt))
        | true =>
          have hr : (q.at_ = 3 ∧ q.x.before ≠ []) ∨ (q.at_ = 4 ∧ q.x.after ≠ []) := by
            have h := hlt
            unfold laterR at h
            rw [if_pos hw] at h
            rw [Bool.or_eq_true, Bool.and_eq_true, Bool.and_eq_true, decide_eq_true_eq, decide_eq_true_eq, beq_iff_eq, beq_iff_eq] at h
            rcases h with ⟨h, h'⟩ | ⟨h, h'⟩
            · exact .inl ⟨h, List.length_pos_iff.1 h'⟩
            · exact .inr ⟨h, List.length_pos_iff.1 h'⟩
          have e1 : stepR q (some (w, l)) = routeR q l := by rw [e0, if_neg hl, hlt]; rfl
          unfold StQ
          rw [e1]
          exact lq_route b X s hs ho hf rfl rfl rfl h5 (by rw [laterX_eq hX]; exact hlt) rfl rfl hw (routeq_ok hX hw l hr)
    · cases hk : kdOf w with
      | none =>
        have hf : formQ w = (-1, 0) := by unfold formQ; rw [if_neg hw, hk]
        exact bad 3 (by unfold stepR; dsimp only; rw [hf, if_pos (.inl (by decide))]) (by decide) (lq_s0 b X s hs ho hf rfl)
      | some k =>
        have hf : formQ w = ((k.rank : Int), (k.count : Int)) := by unfold formQ; rw [if_neg hw, hk]
        have hkw : k.word = w := kd_inv hk
        have h1 : decide ((k.rank : Int) < 0) = false := decide_eq_false (by omega)
        have h2 : decide ((k.count : Int) ≥ 0) = true := decide_eq_true (by omega)
        have h4 : decide ((k.count : Int) < 0) = false := decide_eq_false (by omega)
        have e0 : stepR q (some (w, l)) = if l.length ≠ k.count then (q, 3) else if laterR q w (k.rank : Int) = false then (q, 5) else kindR k q l := by
          unfold stepR
          dsimp only
          rw [hf]
          dsimp only
          by_cases hl : l.length = k.count
          · have hc : ¬ ((k.rank : Int) < 0 ∨ (0 ≤ (k.count : Int) ∧ (l.length : Int) ≠ (k.count : Int)) ∨ ((k.count : Int) < 0 ∧ l.length = 0)) := by
              rintro (h | ⟨_, h⟩ | ⟨h, _⟩) <;> omega
            rw [if_neg hc, if_neg (show ¬ l.length ≠ k.count from fun h => h hl), if_neg hw]
            simp only [hk]
          · rw [if_pos (.inr (.inl ⟨by omega, by omega⟩)), if_pos hl]
        by_cases hl : l.length = k.count
        · have h3 : ((l.length : Int) != (k.count : Int)) = false := by rw [hl]; simp
          cases hlt : laterR q w (k.rank : Int) with
          | false => exact bad 5 (by rw [e0, if_neg (by omega), if_pos hlt]) (by decide) (lq_orderA b X s hs ho hf h1 h2 h3 h4 (by rw [laterX_eq hX]; exact hlt))
          | true =>
            have e1 : stepR q (some (w, l)) = kindR k q l := by rw [e0, if_neg (by omega), hlt]; rfl
            obtain ⟨hge, hnew⟩ := later_ge (q := q) (k := k) (by rw [hkw]; exact hlt)
            obtain ⟨e2, e3⟩ := kindR_rd k q l
            have hlx : laterX X w (k.rank : Int) = true := by rw [laterX_eq hX]; exact hlt
            have hrd : RdOQ LC b k q.rd X w l := readq_ok hX k hge hnew hkw.symm l hl
            have fin : ∀ {ι : Type} {Y : ι → RX}, FnX Tryz.prog LC 40 [.v (wrP b), .v (.string s)] (exts (pcsQ b X)) (iv (readP k ⟨q.rd, none⟩ l).2) (fun i : RdQ k q.rd l => exts (pcsQ b (i.1.at (k.rank : Int)))) →
                FnX Tryz.prog LC 40 [.v (wrP b), .v (.string s)] (exts (pcsQ b X)) (iv (stepR q (some (w, l))).2) (fun i : StQ q (some (w, l)) => exts (pcsQ b i.1)) := fun h => by
              unfold StQ
              rw [e1, e2, e3]
              exact FnX.fam h fun i => ⟨⟨i.1.at (k.rank : Int), i.2⟩, rfl⟩
            refine fin (ι := Unit) (Y := fun _ => X) ?_
            rcases (by cases k <;> simp [Kd.fq, Kd.rank] : (k.fq = 88 ∧ decide ((k.rank : Int) ≤ 2) = true) ∨ (k.fq = 89 ∧ decide ((k.rank : Int) ≤ 2) = false ∧ decide ((k.rank : Int) ≤ 4) = true) ∨ (k.fq = 90 ∧ decide ((k.rank : Int) ≤ 2) = false ∧ decide ((k.rank : Int) ≤ 4) = false)) with ⟨hq, c2⟩ | ⟨hq, c2, c4⟩ | ⟨hq, c2, c4⟩
            · unfold RdOQ at hrd
              rw [hq] at hrd
              exact lq_table b X s hs ho hf h1 h2 h3 h4 hlx c2 hw hrd
            · unfold RdOQ at hrd
              rw [hq] at hrd
              exact lq_request b X s hs ho hf h1 h2 h3 h4 hlx c2 c4 hw hrd
            · unfold RdOQ at hrd
              rw [hq] at hrd
              exact lq_rest b X s hs ho hf h1 h2 h3 h4 hlx c2 c4 hw hrd
        · exact bad 3 (by rw [e0, if_pos hl]) (by decide) (lq_s1 b X s hs ho hf h1 h2 (by simp; omega))
end Go.Proofs.YtcloigoajohppaaGreatDoor
/- The reference's parser is made, and set free. -/
namespace Go.Proofs.YtcloigoajohppaaGreatDoor
open Go.RowKit
open Av
open Sc
set_option maxRecDepth 100000
set_option linter.unusedSimpArgs false

def rxQ : RX := { rxZ with R := qZ.rd }
theorem okQ : OKQ qZ.rd rxQ := ⟨rfl, rfl, rfl, rfl, fun h => absurd rfl h, fun h => absurd rfl h, fun h => absurd rfl h, ⟨fun _ => rfl, fun h => absurd rfl h, Int.le_refl 0, (by decide), rfl, fun r hr => (by cases hr), rfl, ⟨(by decide), (by decide), (by decide), (by decide), (by decide), (by decide), (by decide), fun z hz => (by cases hz), fun z hz => (by cases hz)⟩⟩⟩
theorem pcsQ_Z (b : Nat) : pcsQ b rxQ = rawU b (qvals qZ.rd rmZ) :: tailZ := rfl
theorem holdQ {b : Nat} {w : World} {T : TypeId} (h : w.heap[b]? = some (.cells (qvals qZ.rd rmZ).toArray T (0, 0))) : (exts (pcsQ b rxQ)).holds w := by
  rw [pcsQ_Z]
  have ht := exts_empty (w := w) (tailZ_all (fun E => E.holds w ∧ ∀ b, ¬ E.all b) fun e sz => rowsZ w)
  exact ⟨ht.1, ⟨T, h⟩, fun b' hb => absurd hb (ht.2 b')⟩
theorem allQ {b x : Nat} (h : (exts (pcsQ b rxQ)).all x) : x = b := by
  rw [pcsQ_Z] at h
  have ht := exts_empty (w := default) (tailZ_all (fun E => E.holds default ∧ ∀ b, ¬ E.all b) fun e sz => rowsZ default)
  rcases h with (h | h) | (h | h)
  · exact absurd (.inl h) (ht.2 x)
  · exact h
  · exact absurd (.inr h) (ht.2 x)
  · exact h.elim
theorem laidQ (b : Nat) (w : World) : (exts (pcsQ b rxQ)).laid w := by
  rw [pcsQ_Z]
  exact ⟨exts_laidOf (tailZ_all (fun E => E.laid w) fun _ _ => trivial), trivial⟩
theorem readsQ (b : Nat) (R : Reader) : (exts (pcsQ b rxQ)).reads R := by
  rw [pcsQ_Z]
  exact ⟨exts_readsOf (tailZ_all (fun E => E.reads R) fun _ _ => rowsZ_reads R), trivial⟩
theorem exts_veilOf {p : Addr} : ∀ {l : List Ext}, (∀ E ∈ l, ¬ E.veil p) → ¬ (exts l).veil p
  | [], _ => fun h => h
  | E :: l, h => fun hv => hv.elim (exts_veilOf (l := l) fun E' hE => h E' (List.mem_cons_of_mem _ hE)) (h E List.mem_cons_self)
theorem veilQ (b : Nat) (p : Addr) : ¬ (exts (pcsQ b rxQ)).veil p := by
  rw [pcsQ_Z]
  exact fun h => h.elim (exts_veilOf (tailZ_all (fun E => ¬ E.veil p) fun _ _ h => h)) (fun h => h)
section
variable {n d : Nat} {σ : St} {o : Oper} {K : St → Prop} {E : Ext} {x : Operand} {b : Nat}
theorem hand_boxPar {T : TypeId} (ho : o.op = .box T x) (hd : o.dst = some d) (hdn : d < n) (hx : evo (Av.look σ.slot) x = some (.agg ((qvals qZ.rd rmZ).map PV.v)))
    (h : ∀ b, K (({ σ with ext := σ.ext.and (exts (pcsQ b rxQ)) } : St).put d (.v (wrP b)))) : Hand Tryz.prog n σ o K := by
  refine hand_value hd hdn fun F γ a w _ hr => ⟨.v (.pointer (some ⟨w.heap.size, 0, none⟩)), .pointer (some ⟨w.heap.size, 0, none⟩), w.alloc (.cells (qvals qZ.rd rmZ).toArray T), _, ?_, Turn.more (fun b hb => (hr.extf b hb).2.1) hr.exth ?_, rfl, (fun k hk => by cases hk), h _⟩
  · have e2 := eval_aggv hr hx
    simp [execOp, ho, e2, Instr.box, newVar, newRow, run_newObj_alloc, Value.cells]
  · have hb : Below w.heap.size w (w.alloc (.cells (qvals qZ.rd rmZ).toArray T)) := (Below.refl _ w).alloc (Nat.le_refl _) _
    have hin : ∀ y, (exts (pcsQ w.heap.size rxQ)).all y → w.heap.size ≤ y ∧ y < (w.alloc (.cells (qvals qZ.rd rmZ).toArray T)).heap.size := fun y hy => by
      have := allQ hy
      subst this
      simp
    exact Turn.below hb (holdQ (heap_alloc_new w _)) (fun y hy => .inr (hin y (.inl hy))) (fun y hy => .inr (.inr (hin y (.inr hy)))) (fun w0 _ => laidQ _ w0) (fun R _ => readsQ _ R) (fun p hp => absurd hp (veilQ _ p))
theorem rep_snQ {R : Reader} {w : World} {b : Nat} {S : Rd} {X : RX} (hX : OKQ S X) (h : (exts (pcsQ b X)).holds w) (hr : (exts (pcsQ b X)).reads R) (hR : ∀ g, (exts (pcsQ b X)).foot g → ∀ j u, w.cell? ⟨g, j, none⟩ = some u → R ⟨g, j, none⟩ = some u) :
    RepL R S.x.pv ((qvals X.R X.m).take 15) := by
  have row : ∀ (i : Nat) {e : TypeId} {sz : Nat} {q : Option Nat} {V : Value} {xs : List Value} {rows : List (List PV)}, (pcsQ b X)[i]? = some (rowsE e sz q V xs rows) → RepP R (.sl sz rows) V := fun i _ _ q _ _ _ hi =>
    rowsE_rep (exts_get h hi) (exts_reads hr hi) fun g hg j u hu => hR g (exts_foot hi hg) j u hu
  have own : ∀ (i : Nat) {e : TypeId} {sz : Nat} {q : Option Nat} {V : Value} {xs : List Value} {rows rows' : List (List PV)}, (pcsQ b X)[i]? = some (rowsE e sz q V xs rows) → rows'.length = rows.length → RowsRd R sz xs rows' → RepP R (.sl sz rows') V := fun i _ _ q _ _ _ _ hi hl hrd =>
    repP_rows (by have h1 : RowsOK _ _ _ _ _ _ _ := exts_get h hi; rw [hl]; exact h1) hrd fun g hg j u hu => hR g (exts_foot hi hg) j u hu
  have pw : ∀ a (z : Pz), X.pw[a]? = some z → RepP R (.sl 1 (z.row.map fun n => [ip n])) z.V := fun a z hz => by
    have := row _ (pcsQ_row (b := b) hz)
    simpa [List.map_map, Function.comp_def] using this
  have gb : ∀ a (z : Rz), X.bs[a]? = some z → (pcsQ b X)[10 + (X.zs.length + a)]? = some z.ext := fun a z hz => by
    rw [pcsQ_get]
    unfold dynX
    rw [List.getElem?_append_right (by rw [List.length_map]; omega), List.length_map, show X.zs.length + a - X.zs.length = a by omega,
      List.getElem?_append_left (by rw [List.length_map]; exact (List.getElem?_eq_some_iff.1 hz).1), List.getElem?_map, hz]
    rfl
  have gz : ∀ a (z : Rz), X.zs[a]? = some z → (pcsQ b X)[10 + a]? = some z.ext := fun a z hz => by
    rw [pcsQ_get]
    unfold dynX
    rw [List.getElem?_append_left (by rw [List.length_map]; exact (List.getElem?_eq_some_iff.1 hz).1), List.getElem?_map, hz]
    rfl
  have rq : ∀ (l : List Rz), (∀ z ∈ l, RepP R (.sl 1 (rsR z.rs)) z.V) → RowsRd R 7 ((l.map Rz.vals).flatten) ((l.map Rz.rq).map Rq.pv) := fun l hl => by
    refine ⟨fun k row hk => ?_, fun k row j p' hk hj => ?_⟩
    · rw [List.getElem?_map, List.getElem?_map] at hk
      cases hz : l[k]? with
      | none => rw [hz] at hk; cases hk
      | some z => rw [hz] at hk; cases hk; rfl
    · rw [List.getElem?_map, List.getElem?_map] at hk
      cases hz : l[k]? with
      | none => rw [hz] at hk; cases hk
      | some z =>
        rw [hz] at hk
        cases hk
        have hrep : RepL R (Rq.pv z.rq) z.vals := .cons (.v _ rfl) (.cons (.v _ rfl) (.cons (.v _ rfl) (.cons (.v _ rfl) (.cons (.v _ rfl) (.cons (.v _ rfl) (.cons (hl z (List.mem_of_getElem? hz)) .nil))))))
        obtain ⟨x, h1, h2⟩ := hrep.get hj
        exact ⟨x, flat_get (fun r hr' => by obtain ⟨y, _, rfl⟩ := List.mem_map.1 hr'; rfl) (by rw [List.getElem?_map, hz]; rfl) h1, h2⟩
  have hpw : RepP R (.sl 1 (rsR S.x.net.power)) X.hp.V := by
    refine own 7 (rows := (X.pw.map fun x => [x.V]).map fun r => r.map PV.v) (xs := (X.pw.map fun x => [x.V]).flatten) rfl (by unfold rsR; rw [← hX.pw]; simp) ?_
    rw [← hX.pw]
    unfold rsR
    refine ⟨fun k row hk => ?_, fun k row j p' hk hj => ?_⟩
    · rw [List.getElem?_map, List.getElem?_map] at hk
      cases hz : X.pw[k]? with
      | none => rw [hz] at hk; cases hk
      | some z => rw [hz] at hk; cases hk; rfl
    · rw [List.getElem?_map, List.getElem?_map] at hk
      cases hz : X.pw[k]? with
      | none => rw [hz] at hk; cases hk
      | some z =>
        rw [hz] at hk
        cases hk
        have hrep : RepL R [PV.sl 1 (z.row.map fun n => [ip n])] [z.V] := .cons (pw k z hz) .nil
        obtain ⟨x, h1, h2⟩ := hrep.get hj
        exact ⟨x, flat_get (sz := 1) (fun r hr' => by obtain ⟨y, _, rfl⟩ := List.mem_map.1 hr'; rfl) (by rw [List.getElem?_map, hz]; rfl) h1, h2⟩
  have hbf : RepP R (.sl 7 (S.x.before.map Rq.pv)) X.hb.V := by
    refine own 8 (rows := (X.bs.reverse.map Rz.vals).map fun r => r.map PV.v) (xs := (X.bs.reverse.map Rz.vals).flatten) rfl (by rw [← hX.bs]; simp) ?_
    rw [← hX.bs]
    refine rq _ fun z hz => ?_
    obtain ⟨a, ha⟩ := List.getElem?_of_mem (List.mem_reverse.1 hz)
    exact row _ (gb a z ha)
  have haf : RepP R (.sl 7 (S.x.after.map Rq.pv)) X.ha.V := by
    refine own 9 (rows := (X.zs.reverse.map Rz.vals).map fun r => r.map PV.v) (xs := (X.zs.reverse.map Rz.vals).flatten) rfl (by rw [← hX.zs]; simp) ?_
    rw [← hX.zs]
    refine rq _ fun z hz => ?_
    obtain ⟨a, ha⟩ := List.getElem?_of_mem (List.mem_reverse.1 hz)
    exact row _ (gz a z ha)
  have hRR := hX.R
  rw [← hRR]
  rw [← hRR] at hpw hbf haf
  exact .cons (.v _ rfl) (.cons hpw (.cons (.v _ rfl) (.cons (.v _ rfl) (.cons (row 1 rfl) (.cons (row 2 rfl) (.cons hbf (.cons haf (.cons (.v _ rfl) (.cons (.v _ rfl) (.cons (row 3 rfl) (.cons (row 4 rfl) (.cons (row 5 rfl) (.cons (row 6 rfl) (.cons (.v _ rfl) .nil))))))))))))))

theorem hand_scn {S : Rd} {X : RX} (hX : OKQ S X) (ho : o.op = .load 35 x) (hd : o.dst = some d) (hdn : d < n) (hE : σ.ext = E.and (exts (pcsQ b X))) (hx : evo (Av.look σ.slot) x = some (.v (.pointer (some ⟨b, 0, none⟩))))
    (h : K (({ σ with ext := E } : St).put d (.agg S.x.pv))) : Hand Tryz.prog n σ o K := by
  refine hand_value hd hdn fun F γ a w _ hr => ?_
  have e1 := eval_raw hr hx
  have hext := hr.exth
  rw [hE] at hext
  obtain ⟨h0, hp, hdis⟩ := hext
  have hrd := hr.extr
  rw [hE] at hrd
  have ht : Turn σ.ext w w E := Turn.same h0 (fun b hb => by rw [hE]; exact .inl hb) (fun b hb => by rw [hE]; exact .inr (.inl hb)) (fun w0 h => by rw [hE] at h; exact h.1) (fun R h => by rw [hE] at h; exact h.1) (fun p h => .inl (by rw [hE]; exact .inl h))
  have hle := hr.turn_le ht
  have hread : ∀ g, (exts (pcsQ b X)).foot g → ∀ j u, w.cell? ⟨g, j, none⟩ = some u → rdr F.R0 F.w0.heap.size { σ with ext := E } γ w ⟨g, j, none⟩ = some u := fun g hg j u hu => by
    obtain ⟨f1, f2, f3, f4⟩ := hr.extf g (.inl (by rw [hE]; exact .inr hg))
    unfold rdr
    rw [if_neg (by show ¬ g < _; omega), if_neg]
    · exact hu
    · rintro (⟨k, cs, hk, hpk⟩ | ⟨L, e', sz', rows', q1, q2, q3, q4⟩ | (hx | hx))
      · exact f3 k (by rw [show Av.look σ.box k = some cs from hk]; rfl) hpk.symm
      · exact f4 L (by rw [show lookL σ.own L = some _ from q1]; rfl) q3
      · exact hdis g (.inl hx) (.inl hg)
      · exact hdis g (.inr (E.veilz _ hx)) (.inl hg)
  have hrep := rep_snQ hX hp ((exts (pcsQ b X)).rmono hle hrd.2) hread
  obtain ⟨T, hb⟩ : ∃ T, w.heap[b]? = some (.cells (qvals X.R X.m).toArray T (0, 0)) := hr.piece hE (i := 0) rfl
  have hl : (Instr.loadAt 35 (.pointer (some ⟨b, 0, none⟩))).run Tryz.prog w = .ok (.agg ((qvals X.R X.m).take 15).toArray) w := by
    refine run_loadAt_mid w b 0 _ _ _ (fun j v hv => ?_) Tryz.underlying35 rfl Tryz.sz35
    rw [cell_of_row w _ _ _ T (0, 0) hb, Nat.zero_add, List.getElem?_toArray]
    rw [List.getElem?_take] at hv
    split at hv
    · exact hv
    · cases hv
  exact ⟨.agg S.x.pv, .agg ((qvals X.R X.m).take 15).toArray, w, E, by simp [execOp, ho, e1, hl], ht, ⟨(qvals X.R X.m).take 15, rfl, hrep⟩, (fun k hk => by cases hk), h⟩
end
end Go.Proofs.YtcloigoajohppaaGreatDoor
/- The reference's Parse. -/
namespace Go.Proofs.YtcloigoajohppaaGreatDoor
open Go.RowKit
open Av
open Sc
set_option maxRecDepth 100000
set_option linter.unusedSimpArgs false

theorem lns_cons {a r : List UInt8} (h : (10 : UInt8) ∉ a) : lns (a ++ 10 :: r) = a :: lns r := by
  have hne := splitC_ne 10 r
  unfold lns
  rw [splitC_cons r h]
  have e : (a :: splitC 10 r).getLastD [] = (splitC 10 r).getLastD [] := by
    cases hs : splitC 10 r with
    | nil => exact absurd hs hne
    | cons x t => rfl
  rw [e]
  split
  · rw [List.dropLast_cons_of_ne_nil hne]
  · rfl
theorem lns_last {a : List UInt8} (h : (10 : UInt8) ∉ a) (h0 : a ≠ []) : lns a = [a] := by
  unfold lns
  rw [splitC_one h]
  exact if_neg h0
theorem extract_list (s : ByteArray) (i j : Nat) : s.extract i j = mkB ((s.data.toList.drop i).take (j - i)) := ext_list (by
  rw [mkB_list, ByteArray.data_extract, Array.toList_extract])
theorem lns_cut {T : List UInt8} {f i : Nat} (hfi : f ≤ i) (hn : ∀ j, f ≤ j → j < i → T[j]? ≠ some 10) (h : T[i]? = some 10 ∨ (i = T.length ∧ f < i)) : lns (T.drop f) = (T.drop f).take (i - f) :: lns (T.drop (i + 1)) := by
  have hseg : (10 : UInt8) ∉ (T.drop f).take (i - f) := fun hm => by
    obtain ⟨j, hj⟩ := List.getElem?_of_mem hm
    rw [List.getElem?_take] at hj
    split at hj
    · rename_i hlt
      rw [List.getElem?_drop] at hj
      exact hn (f + j) (by omega) (by omega) hj
    · cases hj
  rcases h with h | ⟨h, hf⟩
  · have e : T.drop f = (T.drop f).take (i - f) ++ 10 :: T.drop (i + 1) := by
      have e1 : (T.drop f).drop (i - f) = 10 :: T.drop (i + 1) := by
        rw [List.drop_drop, show f + (i - f) = i by omega, List.drop_eq_getElem_cons (List.getElem?_eq_some_iff.1 h).1, (List.getElem?_eq_some_iff.1 h).2]
      rw [← e1, List.take_append_drop]
    have := lns_cons (r := T.drop (i + 1)) hseg
    rw [← e] at this
    exact this
  · have e : (T.drop f).take (i - f) = T.drop f := List.take_of_length_le (by rw [List.length_drop]; omega)
    rw [e] at hseg ⊢
    rw [lns_last hseg (by intro h0; have := congrArg List.length h0; rw [List.length_drop] at this; simp at this; omega), List.drop_of_length_le (show T.length ≤ i + 1 by omega)]
    rfl
structure InvT (T : ByteArray) (n f i : Nat) (q : Pr) (X : RX) : Prop where
  fi : f ≤ i
  ni : n ≤ i
  il : i ≤ T.size + 1
  ok : OKQ q.rd X
  fold : foldR 0 qZ ((lns T.data.toList).map mkB) = foldR n q ((lns (T.data.toList.drop f)).map mkB)
  len : (lns T.data.toList).length = n + (lns (T.data.toList.drop f)).length
  no : ∀ j, f ≤ j → j < i → T.data.toList[j]? ≠ some 10
  fin : i = T.size + 1 → T.size ≤ f
theorem InvT.zero (T : ByteArray) : InvT T 0 0 0 qZ rxQ := ⟨Nat.le_refl _, Nat.le_refl _, Nat.zero_le _, okQ, rfl, (Nat.zero_add _).symm, fun j _ h => by omega, fun h => by omega⟩
variable {T : ByteArray} {n f i : Nat} {q : Pr} {X : RX}
theorem InvT.byte (h : InvT T n f i q X) {c : UInt8} (hc : T.data.toList[i]? = some c) (h10 : c ≠ 10) : InvT T n f (i + 1) q X := by
  have hlt : i < T.size := (List.getElem?_eq_some_iff.1 hc).1
  refine ⟨by have := h.fi; omega, by have := h.ni; omega, by omega, h.ok, h.fold, h.len, fun j h1 h2 => ?_, fun h1 => by omega⟩
  rcases Nat.lt_or_ge j i with h3 | h3
  · exact h.no j h1 h3
  · rw [show j = i by omega, hc]
    intro e
    exact h10 (Option.some.inj e)
theorem InvT.stop (h : InvT T n f i q X) (hi : i = T.size) (hf : f = i) : InvT T n f (i + 1) q X :=
  ⟨by omega, by have := h.ni; omega, by omega, h.ok, h.fold, h.len, (fun j h1 h2 => by
    rw [List.getElem?_eq_none (show T.data.toList.length ≤ j by show T.size ≤ j; omega)]
    intro h; cases h), fun _ => by omega⟩
theorem InvT.cut (h : InvT T n f i q X) (he : T.data.toList[i]? = some 10 ∨ (i = T.size ∧ f < i)) : lns (T.data.toList.drop f) = (T.data.toList.drop f).take (i - f) :: lns (T.data.toList.drop (i + 1)) := lns_cut h.fi h.no he
theorem InvT.line (h : InvT T n f i q X) (he : T.data.toList[i]? = some 10 ∨ (i = T.size ∧ f < i)) (hi : i ≤ T.size) {q' : Pr} {X' : RX} (hok : OKQ q'.rd X') (hs : (skipB (T.extract f i) = true ∧ q' = q) ∨ (skipB (T.extract f i) = false ∧ (stepR q (lineO (T.extract f i))).2 = 0 ∧ q' = (stepR q (lineO (T.extract f i))).1)) : InvT T (n + 1) (i + 1) (i + 1) q' X' := by
  have hcut := h.cut he
  refine ⟨Nat.le_refl _, by have := h.ni; omega, by omega, hok, ?_, ?_, fun j h1 h2 => by omega, fun h1 => by omega⟩
  · rw [h.fold, hcut, List.map_cons, ← extract_list, foldR_cons]
    rcases hs with ⟨hs, rfl⟩ | ⟨hs, h0, rfl⟩
    · rw [if_pos hs]
    · rw [if_neg (by rw [hs]; decide), if_pos h0]
  · rw [h.len, hcut, List.length_cons]
    omega
theorem InvT.bad (h : InvT T n f i q X) (hT : ¬ 65536 < T.size) (he : T.data.toList[i]? = some 10 ∨ (i = T.size ∧ f < i)) (hs : skipB (T.extract f i) = false) (h0 : (stepR q (lineO (T.extract f i))).2 ≠ 0) : parseR T = (snZ, ((n + 1 : Nat) : Int), (stepR q (lineO (T.extract f i))).2) := by
  have e : foldR 0 qZ ((lns T.data.toList).map mkB) = (q, n + 1, (stepR q (lineO (T.extract f i))).2) := by
    rw [h.fold, h.cut he, List.map_cons, ← extract_list, foldR_cons, if_neg (by rw [hs]; decide), if_neg h0]
  unfold parseR
  rw [if_neg hT, e]
  exact if_pos h0
theorem InvT.done (h : InvT T n f i q X) (hT : ¬ 65536 < T.size) (hi : i = T.size + 1) : parseR T = if (q.nw && q.sc && q.sl) = true then (q.x, 0, 0) else (snZ, (n : Int) + 1, 9) := by
  have hd : T.data.toList.drop f = [] := List.drop_of_length_le (h.fin hi)
  have e : foldR 0 qZ ((lns T.data.toList).map mkB) = (q, 0, 0) := by rw [h.fold, hd]; rfl
  have hl := h.len
  rw [hd] at hl
  unfold parseR
  rw [if_neg hT, e, hl]
  rfl
theorem skip_eq (s : ByteArray) : skipB s = ((s.toList == (⟨#[]⟩ : ByteArray).toList) || (match s.data.toList with | [] => false | c :: _ => ((c.toNat : Int) == 35))) := by
  rw [str_eq]
  unfold skipB
  cases h : s.data.toList with
  | nil => rw [decide_eq_true (ext_list h)]; rfl
  | cons c l =>
    rw [decide_eq_false (by intro e; rw [e] at h; cases h), Bool.false_or]
    show (c == 35) = ((c.toNat : Int) == 35)
    rw [Bool.eq_iff_iff, beq_iff_eq, beq_iff_eq]
    constructor
    · rintro rfl; rfl
    · intro h9; exact UInt8.toNat_inj.1 (by show c.toNat = 35; omega)
end Go.Proofs.YtcloigoajohppaaGreatDoor
/- The reference's Parse is walked. -/
namespace Go.Proofs.YtcloigoajohppaaGreatDoor
open Go.RowKit
open Av
open Sc
set_option maxRecDepth 100000
set_option linter.unusedSimpArgs false
attribute [local go_sem] Av.guardB Av.sop Av.hopx Av.hop Av.hopCall Av.hopF Av.hopB Av.evo Av.evos Av.avCells Av.loadK Av.bound Av.abin Av.aun Av.partsC Av.lfill Av.placesB Av.setAt Av.stl Av.takes Av.src Av.bxOf Av.ownOf Av.St.res Av.St.put Av.St.addBox Av.St.putOwn Av.delL Av.delS Av.look Av.lookL Av.storeSt Av.stealSt Av.St.setBox Av.keepL Av.hitB Av.snap Av.snaps Av.snapCaps Av.AV.lit Av.AV.refs Av.capRefs Av.PV.av Av.CV.av Av.startSt Av.steals Av.athen Av.ablock Av.appK Av.AllS Av.AllO Av.AllR Av.keepS Av.St.avAt Av.RetOK Av.retAll Av.retOne Av.intsOf Av.ptrB TypeDesc.isRow List.range_zero Option.some.injEq exists_eq_left' exists_eq_left exists_eq' exists_and_left exists_and_right exists_const true_and and_true and_self false_and and_false or_false false_or or_true true_or if_true if_false Bool.false_eq_true List.zipIdx_cons List.zipIdx_nil List.map_cons List.map_nil List.filter_cons List.filter_nil List.contains_cons List.contains_nil List.drop_succ_cons List.drop_zero List.take_succ_cons List.take_zero List.take_nil List.drop_nil List.length_cons List.length_nil List.cons_append List.nil_append List.append_nil List.getElem?_cons_zero List.getElem?_cons_succ List.getElem?_nil Option.bind_some Option.bind_none Option.map_some Option.map_none Option.isNone_none Option.isNone_some Option.isSome_some Option.isSome_none Bool.and_true Bool.true_and Bool.and_false Bool.false_and Bool.or_false Bool.false_or Bool.not_true Bool.not_false beq_true beq_false Bool.true_beq Bool.false_beq Loc.s.injEq Loc.b.injEq decide_true decide_false beq_self_eq_true Nat.zero_add Nat.add_zero List.getElem?_toArray List.toList_toArray List.size_toArray Value.oneCell' List.all_cons List.all_nil Value.int.injEq AV.v.injEq AV.sl.injEq AV.agg.injEq AV.ref.injEq AV.ept.injEq AV.tup.injEq Value.bool.injEq PV.v.injEq PV.sl.injEq List.isEmpty_nil List.isEmpty_cons forall_const not_true_eq_false not_false_eq_true true_implies false_implies Value.string.injEq List.length_map List.getElem?_map Int.toNat_natCast Int.natCast_nonneg List.length_append Value.cells implies_true TypeDesc.struct.injEq TypeDesc.slice.injEq TypeDesc.array.injEq List.getElem?_toArray Prod.mk.injEq and_assoc exists_false List.cons.injEq Operand.tmp.injEq ite_self AV.fnv.injEq AV.clo.injEq ne_eq eq_self Tryz.sz3 Tryz.zr3 Tryz.by3 Tryz.pl3 Tryz.is3 Tryz.underlying3 Tryz.sz4 Tryz.pl4 Tryz.is4 Tryz.underlying4 Tryz.sz9 Tryz.zr9 Tryz.underlying9 Tryz.underlying5 Tryz.underlying56 Tryz.sz24 Tryz.zr24 Tryz.by24 Tryz.underlying24 Tryz.underlying70 Tryz.underlying69 Tryz.is72 Tryz.underlying72 Tryz.zr74 Tryz.underlying74 Tryz.underlying117 Tryz.underlying182 Tryz.sz64 Tryz.zr64 Tryz.pl64 Tryz.is64 Tryz.underlying64 Tryz.sz67 Tryz.zr67 Tryz.underlying67 Tryz.sz26 Tryz.underlying26 Tryz.sz30 Tryz.underlying30 Tryz.sz126 Tryz.zr126 Tryz.underlying126 Tryz.sz79 Tryz.zr79 Tryz.pl79 Tryz.is79 Tryz.underlying79 Tryz.sz81 Tryz.zr81 Tryz.underlying81 Tryz.sz83 Tryz.zr83 Tryz.underlying83 Tryz.sz85 Tryz.zr85 Tryz.underlying85 Tryz.sz35 Tryz.zr35 Tryz.is35 Tryz.underlying35 Tryz.underlying88 Tryz.sz22 Tryz.underlying22 Tryz.sz23 Tryz.underlying23 Tryz.sz27 Tryz.underlying27 Tryz.sz28 Tryz.underlying28 Tryz.sz31 Tryz.underlying31 Tryz.sz32 Tryz.underlying32 Tryz.sz33 Tryz.underlying33 Tryz.sz65 Tryz.is65 Tryz.underlying65 Tryz.sz68 Tryz.zr68 Tryz.underlying68 Tryz.underlying46 Tryz.underlying38 Tryz.underlying94 Tryz.sz91 Tryz.underlying91 Tryz.underlying86 all_arr loc_ss arr_two arr_one ResultVar.tmp.injEq Bool.not_true Bool.not_false undef Tryz.sz92 Tryz.underlying92 Tryz.sz131 Tryz.underlying131 Tryz.sz134 Tryz.zr134 Tryz.underlying134 Tryz.underlying95 Tryz.underlying136 Tryz.underlying103 Tryz.zr105 Tryz.underlying105 Tryz.underlying177 Tryz.underlying178 Tryz.underlying179 Fn.func.injEq Av.extSt Av.RetX List.zipIdx List.getD_cons_zero List.getD_cons_succ Av.startStC Av.sopJ Sc.Fw.pv Sc.Rq.pv Sc.Ce.pv Sc.Ch.pv Sc.Wk.pv Sc.Og.pv Sc.Lk.pv Sc.Nt.pv Sc.Sn.pv Sc.rsR
theorem run_snz (w : World) : (Instr.build 35 #[]).run Tryz.prog w = .ok (.agg snV.toArray) w := by kernel_rfl
theorem hand_buildZ {n d : Nat} {σ : St} {o : Oper} {K : St → Prop} (ho : o.op = .build 35 #[]) (hd : o.dst = some d) (hdn : d < n) (h : K (σ.put d (.agg snZ.pv))) : Hand Tryz.prog n σ o K :=
 hand_value hd hdn fun F γ a w _ hr => ⟨.agg snZ.pv, .agg snV.toArray, w, σ.ext, by simp [execOp, ho, run_snz], Turn.same hr.exth (fun _ h => h) (fun _ h => .inr h), ⟨snV, rfl, repZ _⟩, (fun k hk => by cases hk), h⟩
theorem skip_nil {s : ByteArray} (h : (s.toList == (⟨#[]⟩ : ByteArray).toList) = true) : skipB s = true := by rw [skip_eq, h]; rfl
theorem skip_byte {s : ByteArray} {c : UInt8} (h : (s.toList == (⟨#[]⟩ : ByteArray).toList) = false) (hc : s.data.toList[0]? = some c) : skipB s = ((c.toNat : Int) == 35) := by
 rw [skip_eq, h, Bool.false_or]
 cases hs : s.data.toList with
 | nil => rw [hs] at hc; cases hc
 | cons x l => rw [hs] at hc; cases hc; rfl
theorem byte_zero {s : ByteArray} (h : (s.toList == (⟨#[]⟩ : ByteArray).toList) = false) : ∃ c, s.data.toList[0]? = some c := by
 cases hs : s.data.toList with
 | nil =>
  rw [str_eq, decide_eq_false_iff_not] at h
  exact absurd (ext_list hs) h
 | cons x l => exact ⟨x, rfl⟩
theorem rparse_okC (T : ByteArray) : FnOKC Tryz.prog LC 14 [.v (.string T)] ⟨.tup [.g (parseR T).1.pv, .c (ip (parseR T).2.1), .c (ip (parseR T).2.2)], none⟩ := by
 by_cases hT : 65536 < T.size
 case pos =>
  have hd0 : decide ((T.size : Int) > 65536) = true := decide_eq_true (by omega)
  have hres : parseR T = (snZ, 0, 8) := by unfold parseR; rw [if_pos hT]
  refine fn_okC (C := LC) Tryz.func14 (by kernel_rfl) rfl (by rw [Tryz.ntmps14]; exact of_decide_eq_true rfl) (fun F hF => ?_)
  rw [Tryz.ntmps14] at hF
  rw [Tryz.results14]
  repeat (first
   | ((with_reducible refine hand_id ?_); (refine hand_buildZ rfl rfl (by decide) ?_); simp only [go_sem, simprocAttr, hF, hd0])
   | ((with_reducible first | refine sops_go ?_ | refine sops_end ?_ | refine awp_if ?_ | refine awp_ret ?_); simp only [go_sem, simprocAttr, hF, hd0])
   | (with_reducible first | refine awp_seq_k fun _ _ => ?_ | refine awp_region [1000014, 1000016, 1000030, 1000047, 1000056, 1000061, 1000064, 1000069, 1000070, 1000075, 1000076, 1000082, 1000083, 1000086, 1000091, 1000092] ?_)
   | go_step)
  rw [hres]
  all_goals (first | rfl | exact .inr rfl)
 have hd0 : decide ((T.size : Int) > 65536) = false := decide_eq_false (by omega)
 refine fn_okC (C := LC) Tryz.func14 (by kernel_rfl) rfl (by rw [Tryz.ntmps14]; exact of_decide_eq_true rfl) (fun F hF => ?_)
 rw [Tryz.ntmps14] at hF
 rw [Tryz.results14]
 repeat (first
  | ((with_reducible refine hand_id ?_); (refine hand_boxPar rfl rfl (by decide) rfl (fun b => ?_)); simp only [go_sem, simprocAttr, hF, hd0])
  | ((with_reducible first | refine sops_go ?_ | refine sops_end ?_ | refine awp_if ?_ | refine awp_skip ?_); simp only [go_sem, simprocAttr, hF, hd0])
  | with_reducible (first | refine awp_seq_k fun _ _ => ?_ | refine awp_region [1000014, 1000016, 1000030, 1000047, 1000056, 1000061, 1000064, 1000069, 1000070, 1000075, 1000076, 1000082, 1000083, 1000086, 1000091, 1000092] ?_ | refine awp_block ?_)
  | go_step)
 refine awp_loop_by (ι := {x : Nat × Nat × Nat × Pr × RX // InvT T x.1 x.2.1 x.2.2.1 x.2.2.2.1 x.2.2.2.2}) (fun x σ => ⟨(8, iv (x.1.2.2.1 : Int)) :: (7, iv (x.1.2.1 : Int)) :: (6, iv (x.1.1 : Int)) :: keepS [0, 2, 3, 4, 5] σ.slot, σ.box, [], (laidE LC).and (exts (pcsQ b x.1.2.2.2.2))⟩) (fun x => T.size + 1 - x.1.2.2.1) ⟨(0, 0, 0, qZ, rxQ), InvT.zero T⟩ (sub_mk ?_) (fun R hR x => ?_)
 · simp only [go_sem, simprocAttr, hF]
   repeat' (first | rfl | refine ⟨?_, ?_⟩)
 obtain ⟨⟨n, g, i, q, X⟩, hI⟩ := x
 dsimp only at hI ⊢
 simp only [go_sem, simprocAttr, hF]
 have hn := hI.ni
 have hg := hI.fi
 have hil := hI.il
 have hwi : IntKind.i64.wrap ((i : Int) + 1) = ((i + 1 : Nat) : Int) := by rw [IntKind.wrap_i64]; omega
 have hwn : IntKind.i64.wrap ((n : Int) + 1) = ((n + 1 : Nat) : Int) := by rw [IntKind.wrap_i64]; omega
 by_cases hle : i ≤ T.size
 case neg =>
  have hd1 : decide ((i : Int) ≤ (T.size : Int)) = false := decide_eq_false (by omega)
  have hdone := hI.done hT (by omega)
  have hXR := hI.ok.R
  have hb1 : X.R.begun = q.nw := by rw [hXR]; rfl
  have hb2 : X.R.sched = q.sc := by rw [hXR]; rfl
  have hb3 : X.R.done = q.sl := by rw [hXR]; rfl
  rw [← hb1, ← hb2, ← hb3] at hdone
  cases f1 : X.R.begun
  case false =>
   have hres : parseR T = (snZ, ((n + 1 : Nat) : Int), 9) := by rw [hdone, if_neg (by simp [f1])]; rfl
   repeat (first
    | ((with_reducible refine hand_id ?_); (first | (refine hand_rawField rfl rfl (by decide) Tryz.underlying105 rfl (m := 0) rfl rfl ?_) | (refine hand_eLoad (i := 0) (dd := .bool) rfl rfl (by decide) rfl rfl rfl (by first | assumption | rfl) Tryz.underlying4 rfl ?_) | (refine hand_buildZ rfl rfl (by decide) ?_)); simp only [go_sem, simprocAttr, hF, hd1, hwn, f1])
    | ((with_reducible first | refine sops_go ?_ | refine sops_end ?_ | refine awp_if ?_ | refine awp_ret ?_ | refine awp_exit ?_); simp only [go_sem, simprocAttr, hF, hd1, hwn, f1])
    | (with_reducible first | refine awp_seq_k fun _ _ => ?_ | refine awp_region [1000014, 1000016, 1000030, 1000047, 1000056, 1000061, 1000064, 1000069, 1000070, 1000075, 1000076, 1000082, 1000083, 1000086, 1000091, 1000092] ?_)
    | go_step)
   rw [hres]
   all_goals (first | rfl | exact .inr rfl)
  cases f2 : X.R.sched
  case false =>
   have hres : parseR T = (snZ, ((n + 1 : Nat) : Int), 9) := by rw [hdone, if_neg (by simp [f1, f2])]; rfl
   repeat (first
    | ((with_reducible refine hand_id ?_); (first | (refine hand_rawField rfl rfl (by decide) Tryz.underlying105 rfl (m := 0) rfl rfl ?_) | (refine hand_eLoad (i := 0) (dd := .bool) rfl rfl (by decide) rfl rfl rfl (by first | assumption | rfl) Tryz.underlying4 rfl ?_) | (refine hand_buildZ rfl rfl (by decide) ?_)); simp only [go_sem, simprocAttr, hF, hd1, hwn, f1, f2])
    | ((with_reducible first | refine sops_go ?_ | refine sops_end ?_ | refine awp_if ?_ | refine awp_ret ?_ | refine awp_exit ?_); simp only [go_sem, simprocAttr, hF, hd1, hwn, f1, f2])
    | (with_reducible first | refine awp_seq_k fun _ _ => ?_ | refine awp_region [1000014, 1000016, 1000030, 1000047, 1000056, 1000061, 1000064, 1000069, 1000070, 1000075, 1000076, 1000082, 1000083, 1000086, 1000091, 1000092] ?_)
    | go_step)
   rw [hres]
   all_goals (first | rfl | exact .inr rfl)
  cases f3 : X.R.done
  case false =>
   have hres : parseR T = (snZ, ((n + 1 : Nat) : Int), 9) := by rw [hdone, if_neg (by simp [f1, f2, f3])]; rfl
   repeat (first
    | ((with_reducible refine hand_id ?_); (first | (refine hand_rawField rfl rfl (by decide) Tryz.underlying105 rfl (m := 0) rfl rfl ?_) | (refine hand_eLoad (i := 0) (dd := .bool) rfl rfl (by decide) rfl rfl rfl (by first | assumption | rfl) Tryz.underlying4 rfl ?_) | (refine hand_buildZ rfl rfl (by decide) ?_)); simp only [go_sem, simprocAttr, hF, hd1, hwn, f1, f2, f3])
    | ((with_reducible first | refine sops_go ?_ | refine sops_end ?_ | refine awp_if ?_ | refine awp_ret ?_ | refine awp_exit ?_); simp only [go_sem, simprocAttr, hF, hd1, hwn, f1, f2, f3])
    | (with_reducible first | refine awp_seq_k fun _ _ => ?_ | refine awp_region [1000014, 1000016, 1000030, 1000047, 1000056, 1000061, 1000064, 1000069, 1000070, 1000075, 1000076, 1000082, 1000083, 1000086, 1000091, 1000092] ?_)
    | go_step)
   rw [hres]
   all_goals (first | rfl | exact .inr rfl)
  have hres : parseR T = (q.x, 0, 0) := by rw [hdone, f1, f2, f3]; rfl
  repeat (first
   | ((with_reducible refine hand_id ?_); (first | (refine hand_rawField rfl rfl (by decide) Tryz.underlying105 rfl (m := 14) rfl rfl ?_) | (refine hand_rawField rfl rfl (by decide) Tryz.underlying105 rfl (m := 0) rfl rfl ?_) | (refine hand_eLoad (i := 0) (dd := .bool) rfl rfl (by decide) rfl rfl rfl (by first | assumption | rfl) Tryz.underlying4 rfl ?_) | (refine hand_scn hI.ok rfl rfl (by decide) rfl rfl ?_)); simp only [go_sem, simprocAttr, hF, hd1, hwn, f1, f2, f3])
   | ((with_reducible first | refine sops_go ?_ | refine sops_end ?_ | refine awp_if ?_ | refine awp_skip ?_ | refine awp_ret ?_ | refine awp_exit ?_); simp only [go_sem, simprocAttr, hF, hd1, hwn, f1, f2, f3])
   | (with_reducible first | refine awp_seq_k fun _ _ => ?_ | refine awp_region [1000014, 1000016, 1000030, 1000047, 1000056, 1000061, 1000064, 1000069, 1000070, 1000075, 1000076, 1000082, 1000083, 1000086, 1000091, 1000092] ?_)
   | go_step)
  rw [hres]
  all_goals (first | rfl | exact .inr rfl)
 have hd1 : decide ((i : Int) ≤ (T.size : Int)) = true := decide_eq_true (by omega)
 by_cases hlti : i < T.size
 case pos =>
  obtain ⟨c, hc⟩ := get_of_lt (show i < T.data.toList.length from hlti)
  have hlt : decide ((i : Int) < (T.size : Int)) = true := decide_eq_true (by omega)
  by_cases h10 : c = 10
  case neg =>
   have hne : ((c.toNat : Int) != 10) = true := bne_iff_ne.2 fun h => h10 (UInt8.toNat_inj.1 (by show c.toNat = 10; omega))
   repeat (first
    | ((with_reducible refine hand_id ?_); (refine hand_strIdx (k := i) rfl rfl (by decide) Tryz.underlying9 rfl rfl hc ?_); simp only [go_sem, simprocAttr, hF, hd1, hwi, hlt, hne])
    | ((with_reducible first | refine sops_go ?_ | refine sops_end ?_ | refine awp_if ?_ | refine awp_skip ?_ | refine awp_exit ?_); simp only [go_sem, simprocAttr, hF, hd1, hwi, hlt, hne])
    | with_reducible (first | refine awp_seq_k fun _ _ => ?_ | refine awp_region [1000014, 1000016, 1000030, 1000047, 1000056, 1000061, 1000064, 1000069, 1000070, 1000075, 1000076, 1000082, 1000083, 1000086, 1000091, 1000092] ?_ | refine awp_block ?_)
    | go_step)
   refine ⟨⟨(n, g, i + 1, q, X), hI.byte hc h10⟩, by dsimp only; omega, hR _ _ (sub_mk ?_)⟩
   simp only [go_sem, simprocAttr, hF, hwi]
  subst h10
  have hne : ((((10 : UInt8).toNat : Nat) : Int) != 10) = false := rfl
  have heq : ((i : Int) == (T.size : Int)) = false := beq_eq_false_iff_ne.2 (by omega)
  have he : T.data.toList[i]? = some 10 ∨ (i = T.size ∧ g < i) := .inl hc
  have hsz : (T.extract g i).size ≤ 100000 := by rw [ByteArray.size_extract]; omega
  cases he0 : ((T.extract g i).toList == (⟨#[]⟩ : ByteArray).toList)
  case true =>
   repeat (first
    | ((with_reducible refine hand_id ?_); (first | (refine hand_strIdx (k := i) rfl rfl (by decide) Tryz.underlying9 rfl rfl hc ?_) | (refine hand_strSl (i := g) (j := i) rfl rfl (by decide) Tryz.underlying9 rfl rfl rfl (by omega) (by omega) ?_)); simp only [go_sem, simprocAttr, hF, hd1, hwi, hwn, hlt, hne, heq, he0])
    | ((with_reducible first | refine sops_go ?_ | refine sops_end ?_ | refine awp_if ?_ | refine awp_skip ?_ | refine awp_exit ?_); simp only [go_sem, simprocAttr, hF, hd1, hwi, hwn, hlt, hne, heq, he0])
    | with_reducible (first | refine awp_seq_k fun _ _ => ?_ | refine awp_region [1000014, 1000016, 1000030, 1000047, 1000056, 1000061, 1000064, 1000069, 1000070, 1000075, 1000076, 1000082, 1000083, 1000086, 1000091, 1000092] ?_ | refine awp_block ?_)
    | go_step)
   refine ⟨⟨(n + 1, i + 1, i + 1, q, X), hI.line he hle hI.ok (.inl ⟨skip_nil he0, rfl⟩)⟩, by dsimp only; omega, hR _ _ (sub_mk ?_)⟩
   simp only [go_sem, simprocAttr, hF, hwi]
  obtain ⟨c0, hc0⟩ := byte_zero he0
  have hsk := skip_byte he0 hc0
  cases h35 : ((c0.toNat : Int) == 35)
  case true =>
   repeat (first
    | ((with_reducible refine hand_id ?_); (first | (refine hand_strIdx (k := i) rfl rfl (by decide) Tryz.underlying9 rfl rfl hc ?_) | (refine hand_strIdx (k := 0) rfl rfl (by decide) Tryz.underlying9 rfl rfl hc0 ?_) | (refine hand_strSl (i := g) (j := i) rfl rfl (by decide) Tryz.underlying9 rfl rfl rfl (by omega) (by omega) ?_)); simp only [go_sem, simprocAttr, hF, hd1, hwi, hwn, hlt, hne, heq, he0, h35])
    | ((with_reducible first | refine sops_go ?_ | refine sops_end ?_ | refine awp_if ?_ | refine awp_skip ?_ | refine awp_exit ?_); simp only [go_sem, simprocAttr, hF, hd1, hwi, hwn, hlt, hne, heq, he0, h35])
    | with_reducible (first | refine awp_seq_k fun _ _ => ?_ | refine awp_region [1000014, 1000016, 1000030, 1000047, 1000056, 1000061, 1000064, 1000069, 1000070, 1000075, 1000076, 1000082, 1000083, 1000086, 1000091, 1000092] ?_ | refine awp_block ?_)
    | go_step)
   refine ⟨⟨(n + 1, i + 1, i + 1, q, X), hI.line he hle hI.ok (.inl ⟨by rw [hsk, h35], rfl⟩)⟩, by dsimp only; omega, hR _ _ (sub_mk ?_)⟩
   simp only [go_sem, simprocAttr, hF, hwi]
  have hsf : skipB (T.extract g i) = false := by rw [hsk, h35]
  cases hez : ((stepR q (lineO (T.extract g i))).2 != 0)
  case true =>
   have hres := hI.bad hT he hsf (by simpa using hez)
   repeat (first
    | ((with_reducible refine hand_id ?_); (first | (refine hand_strIdx (k := i) rfl rfl (by decide) Tryz.underlying9 rfl rfl hc ?_) | (refine hand_strIdx (k := 0) rfl rfl (by decide) Tryz.underlying9 rfl rfl hc0 ?_) | (refine hand_strSl (i := g) (j := i) rfl rfl (by decide) Tryz.underlying9 rfl rfl rfl (by omega) (by omega) ?_) | (refine hand_callX (lineq_okX b hI.ok (T.extract g i) hsz) (laidE LC) rfl (fun _ h => h) rfl rfl (by decide) rfl rfl (fun y => ?_)) | (refine hand_buildZ rfl rfl (by decide) ?_)); simp only [go_sem, simprocAttr, hF, hd1, hwi, hwn, hlt, hne, heq, he0, h35, hez])
    | ((with_reducible first | refine sops_go ?_ | refine sops_end ?_ | refine awp_if ?_ | refine awp_skip ?_ | refine awp_ret ?_); simp only [go_sem, simprocAttr, hF, hd1, hwi, hwn, hlt, hne, heq, he0, h35, hez])
    | with_reducible (first | refine awp_seq_k fun _ _ => ?_ | refine awp_region [1000014, 1000016, 1000030, 1000047, 1000056, 1000061, 1000064, 1000069, 1000070, 1000075, 1000076, 1000082, 1000083, 1000086, 1000091, 1000092] ?_ | refine awp_block ?_)
    | go_step)
   rw [hres]
   all_goals (first | rfl | exact .inr rfl)
  have hz0 : (stepR q (lineO (T.extract g i))).2 = 0 := by simpa using hez
  repeat (first
   | ((with_reducible refine hand_id ?_); (first | (refine hand_strIdx (k := i) rfl rfl (by decide) Tryz.underlying9 rfl rfl hc ?_) | (refine hand_strIdx (k := 0) rfl rfl (by decide) Tryz.underlying9 rfl rfl hc0 ?_) | (refine hand_strSl (i := g) (j := i) rfl rfl (by decide) Tryz.underlying9 rfl rfl rfl (by omega) (by omega) ?_) | (refine hand_callX (lineq_okX b hI.ok (T.extract g i) hsz) (laidE LC) rfl (fun _ h => h) rfl rfl (by decide) rfl rfl (fun y => ?_))); simp only [go_sem, simprocAttr, hF, hd1, hwi, hwn, hlt, hne, heq, he0, h35, hez])
   | ((with_reducible first | refine sops_go ?_ | refine sops_end ?_ | refine awp_if ?_ | refine awp_skip ?_); simp only [go_sem, simprocAttr, hF, hd1, hwi, hwn, hlt, hne, heq, he0, h35, hez])
   | with_reducible (first | refine awp_seq_k fun _ _ => ?_ | refine awp_region [1000014, 1000016, 1000030, 1000047, 1000056, 1000061, 1000064, 1000069, 1000070, 1000075, 1000076, 1000082, 1000083, 1000086, 1000091, 1000092] ?_ | refine awp_block ?_)
   | go_step)
  refine ⟨⟨(n + 1, i + 1, i + 1, (stepR q (lineO (T.extract g i))).1, y.1), hI.line he hle (y.2 hz0) (.inr ⟨hsf, hz0, rfl⟩)⟩, by dsimp only; omega, hR _ _ (sub_mk ?_)⟩
  simp only [go_sem, simprocAttr, hF, hwi]
 have hiT : i = T.size := by omega
 have hlt : decide ((i : Int) < (T.size : Int)) = false := decide_eq_false (by omega)
 have heq : ((i : Int) == (T.size : Int)) = true := beq_iff_eq.2 (by omega)
 by_cases hgi : g = i
 case pos =>
  have hfe : ((g : Int) == (i : Int)) = true := beq_iff_eq.2 (by omega)
  repeat (first
   | ((with_reducible first | refine sops_go ?_ | refine sops_end ?_ | refine awp_if ?_ | refine awp_skip ?_ | refine awp_exit ?_); simp only [go_sem, simprocAttr, hF, hd1, hwi, hlt, heq, hfe])
   | with_reducible (first | refine awp_seq_k fun _ _ => ?_ | refine awp_region [1000014, 1000016, 1000030, 1000047, 1000056, 1000061, 1000064, 1000069, 1000070, 1000075, 1000076, 1000082, 1000083, 1000086, 1000091, 1000092] ?_ | refine awp_block ?_)
   | go_step)
  refine ⟨⟨(n, g, i + 1, q, X), hI.stop hiT hgi⟩, by dsimp only; omega, hR _ _ (sub_mk ?_)⟩
  simp only [go_sem, simprocAttr, hF, hwi]
 have hfe : ((g : Int) == (i : Int)) = false := beq_eq_false_iff_ne.2 (by omega)
 have he : T.data.toList[i]? = some 10 ∨ (i = T.size ∧ g < i) := .inr ⟨hiT, by omega⟩
 have hsz : (T.extract g i).size ≤ 100000 := by rw [ByteArray.size_extract]; omega
 cases he0 : ((T.extract g i).toList == (⟨#[]⟩ : ByteArray).toList)
 case true =>
  repeat (first
   | ((with_reducible refine hand_id ?_); (refine hand_strSl (i := g) (j := i) rfl rfl (by decide) Tryz.underlying9 rfl rfl rfl (by omega) (by omega) ?_); simp only [go_sem, simprocAttr, hF, hd1, hwi, hwn, hlt, heq, hfe, he0])
   | ((with_reducible first | refine sops_go ?_ | refine sops_end ?_ | refine awp_if ?_ | refine awp_skip ?_ | refine awp_exit ?_); simp only [go_sem, simprocAttr, hF, hd1, hwi, hwn, hlt, heq, hfe, he0])
   | with_reducible (first | refine awp_seq_k fun _ _ => ?_ | refine awp_region [1000014, 1000016, 1000030, 1000047, 1000056, 1000061, 1000064, 1000069, 1000070, 1000075, 1000076, 1000082, 1000083, 1000086, 1000091, 1000092] ?_ | refine awp_block ?_)
   | go_step)
  refine ⟨⟨(n + 1, i + 1, i + 1, q, X), hI.line he hle hI.ok (.inl ⟨skip_nil he0, rfl⟩)⟩, by dsimp only; omega, hR _ _ (sub_mk ?_)⟩
  simp only [go_sem, simprocAttr, hF, hwi]
 obtain ⟨c0, hc0⟩ := byte_zero he0
 have hsk := skip_byte he0 hc0
 cases h35 : ((c0.toNat : Int) == 35)
 case true =>
  repeat (first
   | ((with_reducible refine hand_id ?_); (first | (refine hand_strIdx (k := 0) rfl rfl (by decide) Tryz.underlying9 rfl rfl hc0 ?_) | (refine hand_strSl (i := g) (j := i) rfl rfl (by decide) Tryz.underlying9 rfl rfl rfl (by omega) (by omega) ?_)); simp only [go_sem, simprocAttr, hF, hd1, hwi, hwn, hlt, heq, hfe, he0, h35])
   | ((with_reducible first | refine sops_go ?_ | refine sops_end ?_ | refine awp_if ?_ | refine awp_skip ?_ | refine awp_exit ?_); simp only [go_sem, simprocAttr, hF, hd1, hwi, hwn, hlt, heq, hfe, he0, h35])
   | with_reducible (first | refine awp_seq_k fun _ _ => ?_ | refine awp_region [1000014, 1000016, 1000030, 1000047, 1000056, 1000061, 1000064, 1000069, 1000070, 1000075, 1000076, 1000082, 1000083, 1000086, 1000091, 1000092] ?_ | refine awp_block ?_)
   | go_step)
  refine ⟨⟨(n + 1, i + 1, i + 1, q, X), hI.line he hle hI.ok (.inl ⟨by rw [hsk, h35], rfl⟩)⟩, by dsimp only; omega, hR _ _ (sub_mk ?_)⟩
  simp only [go_sem, simprocAttr, hF, hwi]
 have hsf : skipB (T.extract g i) = false := by rw [hsk, h35]
 cases hez : ((stepR q (lineO (T.extract g i))).2 != 0)
 case true =>
  have hres := hI.bad hT he hsf (by simpa using hez)
  repeat (first
   | ((with_reducible refine hand_id ?_); (first | (refine hand_strIdx (k := 0) rfl rfl (by decide) Tryz.underlying9 rfl rfl hc0 ?_) | (refine hand_strSl (i := g) (j := i) rfl rfl (by decide) Tryz.underlying9 rfl rfl rfl (by omega) (by omega) ?_) | (refine hand_callX (lineq_okX b hI.ok (T.extract g i) hsz) (laidE LC) rfl (fun _ h => h) rfl rfl (by decide) rfl rfl (fun y => ?_)) | (refine hand_buildZ rfl rfl (by decide) ?_)); simp only [go_sem, simprocAttr, hF, hd1, hwi, hwn, hlt, heq, hfe, he0, h35, hez])
   | ((with_reducible first | refine sops_go ?_ | refine sops_end ?_ | refine awp_if ?_ | refine awp_skip ?_ | refine awp_ret ?_); simp only [go_sem, simprocAttr, hF, hd1, hwi, hwn, hlt, heq, hfe, he0, h35, hez])
   | with_reducible (first | refine awp_seq_k fun _ _ => ?_ | refine awp_region [1000014, 1000016, 1000030, 1000047, 1000056, 1000061, 1000064, 1000069, 1000070, 1000075, 1000076, 1000082, 1000083, 1000086, 1000091, 1000092] ?_ | refine awp_block ?_)
   | go_step)
  rw [hres]
  all_goals (first | rfl | exact .inr rfl)
 have hz0 : (stepR q (lineO (T.extract g i))).2 = 0 := by simpa using hez
 repeat (first
  | ((with_reducible refine hand_id ?_); (first | (refine hand_strIdx (k := 0) rfl rfl (by decide) Tryz.underlying9 rfl rfl hc0 ?_) | (refine hand_strSl (i := g) (j := i) rfl rfl (by decide) Tryz.underlying9 rfl rfl rfl (by omega) (by omega) ?_) | (refine hand_callX (lineq_okX b hI.ok (T.extract g i) hsz) (laidE LC) rfl (fun _ h => h) rfl rfl (by decide) rfl rfl (fun y => ?_))); simp only [go_sem, simprocAttr, hF, hd1, hwi, hwn, hlt, heq, hfe, he0, h35, hez])
  | ((with_reducible first | refine sops_go ?_ | refine sops_end ?_ | refine awp_if ?_ | refine awp_skip ?_); simp only [go_sem, simprocAttr, hF, hd1, hwi, hwn, hlt, heq, hfe, he0, h35, hez])
  | with_reducible (first | refine awp_seq_k fun _ _ => ?_ | refine awp_region [1000014, 1000016, 1000030, 1000047, 1000056, 1000061, 1000064, 1000069, 1000070, 1000075, 1000076, 1000082, 1000083, 1000086, 1000091, 1000092] ?_ | refine awp_block ?_)
  | go_step)
 refine ⟨⟨(n + 1, i + 1, i + 1, (stepR q (lineO (T.extract g i))).1, y.1), hI.line he hle (y.2 hz0) (.inr ⟨hsf, hz0, rfl⟩)⟩, by dsimp only; omega, hR _ _ (sub_mk ?_)⟩
 simp only [go_sem, simprocAttr, hF, hwi]
/- ScenarioParses. -/
theorem lawParses_ok (T : ByteArray) : FnOKC Tryz.prog LC 4 [.v (.string T)] ⟨bv true, none⟩ := by
 have hpa := parse_okC T
 have hpb := rparse_okC T
 rw [parse_ref] at hpb
 have hsm := same_ok (parseP T).1 (parse_bnd T).sm
 obtain ⟨X, hX⟩ : ∃ X, X = (parseP T).1 := ⟨_, rfl⟩
 obtain ⟨nn, hnn⟩ : ∃ nn, nn = (parseP T).2.1 := ⟨_, rfl⟩
 obtain ⟨ee, hee⟩ : ∃ ee, ee = (parseP T).2.2 := ⟨_, rfl⟩
 rw [← hX, ← hnn, ← hee] at hpa hpb
 rw [← hX] at hsm
 unfold Sn.pv at hpa hpb hsm
 cases h1 : decide ((T.size : Int) > 4000)
 case false =>
  have h3 : decide ((T.size : Int) > 65545) = false := decide_eq_false (by have := of_decide_eq_false h1; omega)
  refine fn_okC (C := LC) Tryz.func4 (by kernel_rfl) rfl (by rw [Tryz.ntmps4]; exact of_decide_eq_true rfl) (fun F hF => ?_)
  rw [Tryz.ntmps4] at hF
  rw [Tryz.results4]
  repeat (first
   | ((first | refine hand_fnC (C := LC) LC.below rfl rfl (by decide) rfl rfl rfl awake_ok rfl ?_ | refine hand_fnC (C := LC) LC.below rfl rfl (by decide) rfl rfl rfl hpa rfl ?_ | refine hand_fnC (C := LC) LC.below rfl rfl (by decide) rfl rfl rfl hpb rfl ?_ | refine ⟨_, hsm, ?_⟩); simp only [go_sem, simprocAttr, hF, h1, h3])
   | (with_reducible (first | refine sops_go ?_ | refine headW_end ?_ | refine sops_end ?_ | refine awp_if ?_ | refine awp_skip ?_ | refine awp_ret ?_ | refine awp_exit ?_); simp only [go_sem, simprocAttr, hF, h1, h3])
   | with_reducible (first | refine awp_seq_k fun _ _ => ?_ | refine awp_region [1000009, 1000026, 1000029, 1000035] ?_ | refine awp_block ?_)
   | go_step)
  all_goals (try rfl)
 cases h2 : decide ((T.size : Int) ≤ 65536)
 case true =>
  refine fn_okC (C := LC) Tryz.func4 (by kernel_rfl) rfl (by rw [Tryz.ntmps4]; exact of_decide_eq_true rfl) (fun F hF => ?_)
  rw [Tryz.ntmps4] at hF
  rw [Tryz.results4]
  repeat (first
   | ((refine hand_fnC (C := LC) LC.below rfl rfl (by decide) rfl rfl rfl awake_ok rfl ?_); simp only [go_sem, simprocAttr, hF, h1, h2])
   | (with_reducible (first | refine sops_go ?_ | refine headW_end ?_ | refine sops_end ?_ | refine awp_if ?_ | refine awp_skip ?_ | refine awp_ret ?_ | refine awp_exit ?_); simp only [go_sem, simprocAttr, hF, h1, h2])
   | with_reducible (first | refine awp_seq_k fun _ _ => ?_ | refine awp_region [1000009, 1000026, 1000029, 1000035] ?_ | refine awp_block ?_)
   | go_step)
  all_goals (try rfl)
 cases h3 : decide ((T.size : Int) > 65545)
 case true =>
  refine fn_okC (C := LC) Tryz.func4 (by kernel_rfl) rfl (by rw [Tryz.ntmps4]; exact of_decide_eq_true rfl) (fun F hF => ?_)
  rw [Tryz.ntmps4] at hF
  rw [Tryz.results4]
  repeat (first
   | ((refine hand_fnC (C := LC) LC.below rfl rfl (by decide) rfl rfl rfl awake_ok rfl ?_); simp only [go_sem, simprocAttr, hF, h1, h2, h3])
   | (with_reducible (first | refine sops_go ?_ | refine headW_end ?_ | refine sops_end ?_ | refine awp_if ?_ | refine awp_skip ?_ | refine awp_ret ?_ | refine awp_exit ?_); simp only [go_sem, simprocAttr, hF, h1, h2, h3])
   | with_reducible (first | refine awp_seq_k fun _ _ => ?_ | refine awp_region [1000009, 1000026, 1000029, 1000035] ?_ | refine awp_block ?_)
   | go_step)
  all_goals (try rfl)
 refine fn_okC (C := LC) Tryz.func4 (by kernel_rfl) rfl (by rw [Tryz.ntmps4]; exact of_decide_eq_true rfl) (fun F hF => ?_)
 rw [Tryz.ntmps4] at hF
 rw [Tryz.results4]
 repeat (first
  | ((first | refine hand_fnC (C := LC) LC.below rfl rfl (by decide) rfl rfl rfl awake_ok rfl ?_ | refine hand_fnC (C := LC) LC.below rfl rfl (by decide) rfl rfl rfl hpa rfl ?_ | refine hand_fnC (C := LC) LC.below rfl rfl (by decide) rfl rfl rfl hpb rfl ?_ | refine ⟨_, hsm, ?_⟩); simp only [go_sem, simprocAttr, hF, h1, h2, h3])
  | (with_reducible (first | refine sops_go ?_ | refine headW_end ?_ | refine sops_end ?_ | refine awp_if ?_ | refine awp_skip ?_ | refine awp_ret ?_ | refine awp_exit ?_); simp only [go_sem, simprocAttr, hF, h1, h2, h3])
  | with_reducible (first | refine awp_seq_k fun _ _ => ?_ | refine awp_region [1000009, 1000026, 1000029, 1000035] ?_ | refine awp_block ?_)
  | go_step)
 all_goals (try rfl)
end Go.Proofs.YtcloigoajohppaaGreatDoor

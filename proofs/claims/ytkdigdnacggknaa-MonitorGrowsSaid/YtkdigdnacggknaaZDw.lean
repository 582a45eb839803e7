import Derived.Deep.CutBlock
import Derived.Test.YtkdigdnacggknaaZMor1
/- Owned rows of structs: what the record layer's text DecP holds of them. -/
namespace Go.Proofs.Ytkdigdnacggknaa
open Go.RowKit
open Rc
theorem Blk.new' {w : World} {g : Nat} (t : TypeId) (cs : List Value) (h : g = w.heap.size) : Blk (w.alloc (.cells cs.toArray t)) g t cs := by rw [h]; exact Blk.new w t cs
theorem Blk.cell0 {w : World} {g : Nat} {t : TypeId} {cs : List Value} (h : Blk w g t cs) (i : Nat) : w.cell? ⟨g, i, none⟩ = cs[i]? := h.row i

theorem own_kept {w w' : World} {base : Nat} {e : TypeId} {size : Nat} {v : Value} {n : Nat} {xs : List Value} (h : w.ownsRow base e size v n xs) (hk : ∀ g cs, v.ownBlock = some g → Blk w g e cs → Blk w' g e cs) : w'.ownsRow base e size v n xs := by
  refine ⟨h.1, ?_⟩
  rcases h.2 with h0 | ⟨g, cap, cur, hv, hg, hh, h1, h2, h3, h4⟩
  · exact .inl h0
  · refine .inr ⟨g, cap, cur, hv, hg, ?_, h1, h2, h3, h4⟩
    have := hk g cur.toList (by rw [hv]; rfl) (by unfold Blk; simpa using hh)
    unfold Blk at this
    simpa using this
theorem Blk.grown_ {w w' : World} {g : Nat} {t : TypeId} {cs : List Value} {row : Option Nat} (h : Blk w g t cs) (hg : w.grownBy w' row) (hne : some g ≠ row) : Blk w' g t cs := (hg.block g h.lt hne).trans h
theorem Blk.news {w : World} {g : Nat} {t : TypeId} {cs : List Value} (h : Blk w g t cs) : ∀ j u, cs[j]? = some u → w.cell? ((⟨g, 0, none⟩ : Addr).add j) = some u := fun j u hu => by
  have e : (⟨g, 0, none⟩ : Addr).add j = ⟨g, j, none⟩ := by
    unfold Addr.add
    split
    · rename_i h; subst h; rfl
    · simp
  rw [e]; exact (h.row j).trans hu
theorem ints_one {l : List Int} : ∀ u ∈ l.map (Value.int .i64), u.oneCell' = true := fun u hu => by
  obtain ⟨z, _, rfl⟩ := List.mem_map.1 hu
  rfl

theorem own_form {w : World} {base : Nat} {e : TypeId} {size : Nat} {v : Value} {n : Nat} {xs : List Value} (h : w.ownsRow base e size v n xs) : ∃ A c, v = .slice A n c := by
  rcases h.2 with ⟨rfl, h0⟩ | ⟨g, cap, cur, rfl, _⟩
  · exact ⟨none, 0, by rw [h0]⟩
  · exact ⟨_, _, rfl⟩
theorem own_not {w : World} {base : Nat} {e : TypeId} {size : Nat} {v : Value} {n : Nat} {xs : List Value} (h : w.ownsRow base e size v n xs) {g : Nat} (hg : g < base) : some g ≠ v.ownBlock := fun e => by
  have := (h.lt g e.symm).1; omega

def flatA (l : List Rc.Att) : List Value := l.flatMap Rc.Att.row
def flatD (l : List Rc.Dlv) : List Value := l.flatMap Rc.Dlv.row

theorem row_len_A (a : Rc.Att) : a.row.length = 8 := rfl
theorem row_len_D (a : Rc.Dlv) : a.row.length = 3 := rfl
theorem own_liesA {w : World} {base : Nat} {v : Value} {l : List Att} (h : w.ownsRow base 66 8 v l.length (flatA l)) : ∃ A c, v = .slice A l.length c ∧ LiesA w w.heap.size A l := by
  obtain ⟨A, c, e, h1, _⟩ := own_lies (f := Att.row) row_len_A h
  exact ⟨A, c, e, h1⟩
theorem own_liesD {w : World} {base : Nat} {v : Value} {l : List Dlv} (h : w.ownsRow base 54 3 v l.length (flatD l)) : ∃ A c, v = .slice A l.length c ∧ LiesD w w.heap.size A l := by
  obtain ⟨A, c, e, h1, _⟩ := own_lies (f := Dlv.row) row_len_D h
  exact ⟨A, c, e, h1⟩
theorem own_A {w : World} {base n c : Nat} {A : Option Addr} {l : List Att} (h : w.ownsRow base 66 8 (.slice A n c) l.length (flatA l)) : LiesA w w.heap.size A l := by
  obtain ⟨A', c', e, h1⟩ := own_liesA h
  injection e with e _ _
  subst e
  exact h1
theorem own_D {w : World} {base n c : Nat} {A : Option Addr} {l : List Dlv} (h : w.ownsRow base 54 3 (.slice A n c) l.length (flatD l)) : LiesD w w.heap.size A l := by
  obtain ⟨A', c', e, h1⟩ := own_liesD h
  injection e with e _ _
  subst e
  exact h1
end Go.Proofs.Ytkdigdnacggknaa
/- Walk: Attempts of package record. -/
namespace Go.Proofs.Ytkdigdnacggknaa
open Go.RowKit
open Rc
theorem Try.infoAtt : (Try.prog.info? 66).map (fun i => (i.zero, i.size, i.bytes)) = some (some (.agg #[.int .i64 0, .int .i64 0, .int .i64 0, .int .i64 0, .int .i64 0, .int .i64 0, .int .i64 0, .int .i64 0]), 8, 64) := by kernel_rfl
theorem Try.infoDlv : (Try.prog.info? 54).map (fun i => (i.zero, i.size, i.bytes)) = some (some (.agg #[.int .i64 0, .int .i64 0, .int .i64 0]), 3, 24) := by kernel_rfl

/-- The attempts of a frame. -/
def ofFrame (l : List Att) (flow frame : Int) : List Att := l.filter fun a => a.cl == flow && a.f == frame

theorem own_weak {w : World} {base base' : Nat} {e : TypeId} {size : Nat} {v : Value} {n : Nat} {xs : List Value} (h : w.ownsRow base e size v n xs) (hb : base' ≤ base) : w.ownsRow base' e size v n xs := by
  obtain ⟨h1, h2⟩ := h
  refine ⟨h1, ?_⟩
  rcases h2 with h2 | ⟨g, cap, cur, e1, e2, e3⟩
  · exact Or.inl h2
  · exact Or.inr ⟨g, cap, cur, e1, Nat.le_trans hb e2, e3⟩
theorem own_type {w : World} {base : Nat} {e t : TypeId} {size : Nat} {v : Value} {n : Nat} {xs cs : List Value} {g : Nat} (h : w.ownsRow base e size v n xs) (hg : some g = v.ownBlock) (hb : Blk w g t cs) : t = e := by
  obtain ⟨h1, h2⟩ := h
  rcases h2 with ⟨rfl, _⟩ | ⟨g', cap, cur, rfl, e2, e3, _⟩
  · cases hg
  · simp only [Value.ownBlock, Option.some.injEq] at hg
    subst hg
    unfold Blk at hb
    rw [e3] at hb
    injection hb with hb
    injection hb with _ hb
    exact hb.symm

set_option maxRecDepth 100000 in
set_option maxHeartbeats 8000000 in
theorem attempts2_any (r : Rec) (A D : Option Addr) (ca cd : Nat) (flow frame : Int) (w : World) (hA : LiesA w w.heap.size A r.al) (hla : r.al.length ≤ 1000000) :
    Calls Try.prog 30 #[.agg #[.int .i64 r.slots, .slice A r.al.length ca, .slice D r.dl.length cd], .int .i64 flow, .int .i64 frame] w fun e w' => Below w.heap.size w w' ∧ ∃ va, e = .returned va ∧ w'.ownsRow w.heap.size 66 8 va (ofFrame r.al flow frame).length (flatA (ofFrame r.al flow frame)) := by
  obtain ⟨slots, al, dl⟩ := r
  dsimp only at *
  obtain ⟨na, hna⟩ : ∃ n, n = al.length := ⟨_, rfl⟩
  obtain ⟨nd, hnd⟩ : ∃ n, n = dl.length := ⟨_, rfl⟩
  rw [← hna, ← hnd]
  rw [← hna] at hla
  have HA := Lib.hid hna
  clear hna hnd
  obtain ⟨F, hF⟩ : ∃ F, F = ofFrame al flow frame := ⟨_, rfl⟩
  rw [← hF]
  have HF := Lib.hid hF
  clear hF
  obtain ⟨i0, hi, hz0, hz1, hz2⟩ := info_parts Try.infoAtt
  go_enter Try.func30, Try.ntmps30
  go_wp2_with fail
  generalize hW0 : World.alloc _ _ = W0
  have bR : Blk W0 w.heap.size 28 [.int .i64 slots, .slice A na ca, .slice D nd cd] := by rw [← hW0]; exact Blk.new' _ [.int .i64 slots, .slice A na ca, .slice D nd cd] rfl
  have hb0 : Below w.heap.size w W0 := by rw [← hW0]; exact (Below.refl _ _).alloc (Nat.le_refl _) _
  clear hW0
  obtain ⟨N, hN⟩ : ∃ N, N = w.heap.size := ⟨_, rfl⟩
  rw [← hN] at bR hb0 ⊢
  have hA' : LiesA w N A al := by rw [hN]; exact hA
  have HN := Lib.hid hN
  clear hN hA
  go_loopw [7, 14] (fun s7 i wr => ∃ (k : Nat) (acc : List Att) (va : Value), va = s7 ∧ k ≤ na ∧ i = .int .i64 k ∧ acc.length ≤ k ∧ wr.ownsRow (N + 1) 66 8 va acc.length (flatA acc) ∧ Below N w wr ∧ N + 1 ≤ wr.heap.size ∧ Hid (F = acc ++ ofFrame (al.drop k) flow frame)) (fun _ i _ => na - (intOf i).toNat)
  case atStart => exact ⟨0, [], _, rfl, Nat.zero_le _, rfl, Nat.le_refl _, World.ownsRow_nil _ _ _ _, hb0, bR.lt, Lib.hid (by rw [HF.out]; simp)⟩
  case round =>
    obtain ⟨k, acc, va, rfl, hk, rfl, hal, hown, hb, hMw, hst⟩ := hrel
    by_cases hlt : k < na
    · obtain ⟨a, ha⟩ := get_of_lt (l := al) (k := k) (by rw [← HA.out]; exact hlt)
      obtain ⟨b, off, rfl, hbB, hcs⟩ := (hA'.below hb).at_ ha
      obtain ⟨c0, c1, c2, c3, c4, c5, c6, c7⟩ := hcs k a ha
      have hd := Lib.hid (drop_of_get ha)
      have hvl : ∀ g, va.ownBlock = some g → N + 1 ≤ g ∧ g < wr.heap.size := hown.lt
      have HV := Lib.hid hvl
      clear hcs ha hvl
      go_upto_region 5 with fail
      generalize hW1 : wr.alloc _ = W1
      have ba : Blk W1 wr.heap.size 66 [.int .i64 a.s, .int .i64 a.f, .int .i64 a.cs, .int .i64 a.co, .int .i64 a.cf, .int .i64 a.ct, .int .i64 a.cl, .int .i64 a.o] := by rw [← hW1]; exact Blk.new' _ [.int .i64 a.s, .int .i64 a.f, .int .i64 a.cs, .int .i64 a.co, .int .i64 a.cf, .int .i64 a.ct, .int .i64 a.cl, .int .i64 a.o] rfl
      have hb1 : Below N w W1 := by rw [← hW1]; exact hb.alloc (by omega) _
      have hsz : wr.heap.size + 1 ≤ W1.heap.size := by rw [← hW1]; simp
      have hown1 : W1.ownsRow (N + 1) 66 8 va acc.length (flatA acc) := by rw [← hW1]; exact hown.alloc _
      have ca := ba.row
      unfold Row at ca
      clear hW1 c0 c1 c2 c3 c4 c5 c6 c7 hown
      by_cases hm : a.cl = flow ∧ a.f = frame
      · obtain ⟨h1, h2⟩ := hm
        have e1 : (a.cl == flow) = true := by simp [h1]
        have e2 : (a.f == frame) = true := by simp [h2]
        have hst' : Hid (F = (acc ++ [a]) ++ ofFrame (al.drop (k + 1)) flow frame) := Lib.hid (by rw [hst.out, hd.out]; simp [ofFrame, h1, h2])
        have HO := Lib.hid hown1
        clear hown1 hst h1 h2
        go_wp2_with (at_builtin; refine wpList_append_own_at _ rfl (.tmp 29) (.tmp 31) 23 rfl (N + 1) 66 i0 (.agg #[.int .i64 0, .int .i64 0, .int .i64 0, .int .i64 0, .int .i64 0, .int .i64 0, .int .i64 0, .int .i64 0]) 8 64 Try.underlying23 hi hz0 hz1 hz2 rfl (by decide) va acc.length (flatA acc) rfl (HO.out.alloc _) ⟨W1.heap.size, 0, none⟩ 1 1 [.int .i64 a.s, .int .i64 a.f, .int .i64 a.cs, .int .i64 a.co, .int .i64 a.cf, .int .i64 a.ct, .int .i64 a.cl, .int .i64 a.o] rfl rfl ?e0 ?e1 ?e2 ?e3 ?e4 ?_)
        case e0 => exact (Blk.new' 66 [.int .i64 a.s, .int .i64 a.f, .int .i64 a.cs, .int .i64 a.co, .int .i64 a.cf, .int .i64 a.ct, .int .i64 a.cl, .int .i64 a.o] rfl).news
        case e1 => exact ints_one (l := [a.s, a.f, a.cs, a.co, a.cf, a.ct, a.cl, a.o])
        case e2 => unfold maxLen; omega
        case e3 => omega
        case e4 => simp; omega
        intro v3 w3 ho3 hg3 hnil3 hat3
        clear hnil3 hat3
        have hb3 : Below N w w3 := (hb1.alloc (by omega) _).grown hg3 (by simp; omega) (by intro g hg; have := HV.out g hg; omega)
        have hz3 : N + 1 ≤ w3.heap.size := by have := hg3.size; simp at this; omega
        have O3 : w3.ownsRow (N + 1) 66 8 v3 (acc ++ [a]).length (flatA (acc ++ [a])) := by simpa [flatA, Att.row] using ho3
        obtain ⟨A3, c3, hv3⟩ := own_form ho3
        clear ho3 hg3 HO
        subst hv3
        go_wp2_with fail
        go_roundw
        case rel => exact ⟨k + 1, acc ++ [a], _, rfl, by omega, by go_num, by simp; omega, O3, hb3, hz3, hst'⟩
        case measure => simp [intOf]; omega
      · have hst' : Hid (F = acc ++ ofFrame (al.drop (k + 1)) flow frame) := Lib.hid (by
          rw [hst.out, hd.out]
          have : (a.cl == flow && a.f == frame) = false := by
            rw [Bool.eq_false_iff]
            intro h
            simp at h
            exact hm h
          simp only [ofFrame, List.filter_cons, this, Bool.false_eq_true, if_false])
        clear hst
        by_cases h1 : a.cl = flow
        · have h2 : ¬ a.f = frame := fun h => hm ⟨h1, h⟩
          have e1 : (a.cl == flow) = true := by simp [h1]
          have e2 : (a.f == frame) = false := by simp [h2]
          go_wp2_with fail
          go_roundw
          case rel => exact ⟨k + 1, acc, _, rfl, by omega, by go_num, by omega, hown1, hb1, by omega, hst'⟩
          case measure => simp [intOf]; omega
        · have e1 : (a.cl == flow) = false := by simp [h1]
          go_wp2_with fail
          go_roundw
          case rel => exact ⟨k + 1, acc, _, rfl, by omega, by go_num, by omega, hown1, hb1, by omega, hst'⟩
          case measure => simp [intOf]; omega
    · have hst' : Hid (F = acc) := Lib.hid (by rw [hst.out, List.drop_of_length_le (by rw [← HA.out]; omega)]; simp [ofFrame])
      obtain ⟨A3, c3, hv3⟩ := own_form hown
      have HO := Lib.hid hown
      clear hst hown
      subst hv3
      go_wp2_with fail
      go_ret
      exact ⟨by rw [← HN.out]; exact hb, _, rfl, by rw [hst'.out, ← HN.out]; exact own_weak HO.out (by omega)⟩

end Go.Proofs.Ytkdigdnacggknaa
/- Walk: Losses of package record, with its closure. -/
namespace Go.Proofs.Ytkdigdnacggknaa
open Go.RowKit
open Rc

def flush (run : List Int) (out : List (List Int)) : List (List Int) := if run.length = 0 then out else out ++ [run]

/-- The runs of attempts of a link that are not acknowledged. -/
def lossGo (fr to_ : Int) : List Att → List Int → List (List Int) → List (List Int)
  | [], run, out => flush run out
  | a :: l, run, out => if ¬ a.cf = fr ∨ ¬ a.ct = to_ then lossGo fr to_ l run out else if a.o = 1 then lossGo fr to_ l [] (flush run out) else lossGo fr to_ l (run ++ [a.s]) out

def lossP (l : List Att) (flow frame fr to_ : Int) : List (List Int) := lossGo fr to_ (ofFrame l flow frame) [] []

/-- The values vs are slices that own the runs out, each in a block below R. -/
def Runs (w : World) (B R : Nat) (vs : List Value) (out : List (List Int)) : Prop :=
  vs.length = out.length ∧ ∀ (i : Nat) (v : Value) (l : List Int), vs[i]? = some v → out[i]? = some l → w.ownsRow B 3 1 v l.length (l.map (Value.int .i64)) ∧ ∀ g, v.ownBlock = some g → g < R

theorem Runs.kept {w w' : World} {B R R' : Nat} {vs : List Value} {out : List (List Int)} (h : Runs w B R vs out) (hR : R ≤ R') (hk : ∀ g cs, B ≤ g → g < R → Blk w g 3 cs → Blk w' g 3 cs) : Runs w' B R' vs out :=
  ⟨h.1, fun i v l hv hl => by
    obtain ⟨h1, h2⟩ := h.2 i v l hv hl
    exact ⟨own_kept h1 fun g cs hg hb => hk g cs (h1.lt g hg).1 (h2 g hg) hb, fun g hg => Nat.lt_of_lt_of_le (h2 g hg) hR⟩⟩
theorem Runs.nil (w : World) (B R : Nat) : Runs w B R [] [] := ⟨rfl, fun i v l hv => by simp at hv⟩
theorem Runs.snoc {w : World} {B R : Nat} {vs : List Value} {out : List (List Int)} {v : Value} {l : List Int} (h : Runs w B R vs out) (h1 : w.ownsRow B 3 1 v l.length (l.map (Value.int .i64))) (h2 : ∀ g, v.ownBlock = some g → g < R) : Runs w B R (vs ++ [v]) (out ++ [l]) := by
  refine ⟨by simp [h.1], fun i u m hu hm => ?_⟩
  by_cases hi : i < vs.length
  · rw [List.getElem?_append_left hi] at hu
    rw [List.getElem?_append_left (by rw [← h.1]; exact hi)] at hm
    exact h.2 i u m hu hm
  · rw [List.getElem?_append_right (by omega)] at hu
    rw [List.getElem?_append_right (by rw [← h.1]; omega)] at hm
    rw [← h.1] at hm
    cases hj : i - vs.length with
    | zero =>
      rw [hj] at hu hm
      simp at hu hm
      subst hu hm
      exact ⟨h1, h2⟩
    | succ j =>
      rw [hj] at hu
      simp at hu

theorem Try.infoInts : (Try.prog.info? 42).map (fun i => (i.zero, i.size, i.bytes)) = some (some (.slice none 0 0), 1, 24) := by kernel_rfl

def endVs (n : Nat) (vr : Value) (vs : List Value) : List Value := if n = 0 then vs else vs ++ [vr]

/-- The closure ends a run: gr is the run's variable, go_ the result's. -/
theorem end_any (gr go_ B n c : Nat) (A : Option Addr) (vo : Value) (vs : List Value) (w : World) (hr : Blk w gr 42 [.slice A n c]) (ho : Blk w go_ 40 [vo]) (hne : gr ≠ go_) (hgr : gr < B) (hgo : go_ < B) (hown : w.ownsRow B 42 1 vo vs.length vs) (hvs : vs.length ≤ 1000000) (hB : B ≤ w.heap.size) :
    Calls Try.prog 76 #[.pointer (some ⟨gr, 0, none⟩), .pointer (some ⟨go_, 0, none⟩)] w fun e w' => e = .returned (.tuple #[]) ∧ ∃ vo', Blk w' gr 42 [.slice none 0 0] ∧ Blk w' go_ 40 [vo'] ∧ w'.ownsRow B 42 1 vo' (endVs n (.slice A n c) vs).length (endVs n (.slice A n c) vs) ∧
      (∀ g t cs, g ≠ gr → g ≠ go_ → some g ≠ vo.ownBlock → Blk w g t cs → Blk w' g t cs) ∧ (∀ N, N ≤ gr → N ≤ go_ → Below N w w') ∧ w.heap.size ≤ w'.heap.size := by
  obtain ⟨i0, hi, hz0, hz1, hz2⟩ := info_parts Try.infoInts
  have cr := hr.row 0
  have fr := hr.frozen 0
  have co := ho.row 0
  have fo := ho.frozen 0
  obtain ⟨Ao, cao, hvo⟩ := own_form hown
  have hvl : ∀ g, vo.ownBlock = some g → B ≤ g ∧ g < w.heap.size := hown.lt
  have HV := Lib.hid hvl
  clear hvl
  simp only [List.getElem?_cons_zero] at cr co
  cases n with
  | zero =>
    clear hvo
    have HO := Lib.hid hown
    clear hown
    go_enter Try.func76, Try.ntmps76
    go_wp2_with fail
    go_end0
    refine ⟨rfl, vo, hr.set_ 0 _, ho.far (p := ⟨gr, 0, none⟩) (by dsimp only; omega) _, ?_, fun g t cs h1 h2 h3 h => h.far (p := ⟨gr, 0, none⟩) h1 _, fun N h1 h2 => (Below.refl _ _).setCell (p := ⟨gr, 0, none⟩) h1 _, by simp [World.setCell]⟩
    show World.ownsRow _ _ _ _ _ vs.length vs
    exact own_kept HO.out fun g cs hg h => h.far (p := ⟨gr, 0, none⟩) (by have := (HO.out.lt g hg).1; dsimp only; omega) _
  | succ n =>
    have hpos : decide ((0 : Int) < ((n + 1 : Nat) : Int)) = true := by simp
    have HO := Lib.hid hown
    clear hown hvo
    go_enter Try.func76, Try.ntmps76
    go_wp2_with (at_builtin; refine wpList_append_own_at _ rfl (.tmp 5) (.tmp 7) 40 rfl B 42 i0 (.slice none 0 0) 1 24 Try.underlying40 hi hz0 hz1 hz2 rfl (by decide) vo vs.length vs rfl (HO.out.alloc _) ⟨w.heap.size, 0, none⟩ 1 1 [.slice A (n + 1) c] rfl rfl ?e0 ?e1 ?e2 ?e3 ?e4 ?_)
    case e0 => exact (Blk.new' 42 [.slice A (n + 1) c] rfl).news
    case e1 => intro u hu; simp at hu; subst hu; rfl
    case e2 => unfold maxLen; omega
    case e3 => omega
    case e4 => simp; omega
    intro v3 w3 ho3 hg3 hnil3 hat3
    clear hnil3 hat3
    have hbk : ∀ g t cs, g < B → Blk w g t cs → Blk w3 g t cs := fun g t cs h1 h => (h.alloc _).grown_ hg3 (by intro e; have := HV.out g e.symm; omega)
    have o3 := hbk _ _ _ hgo ho
    have r3 := hbk _ _ _ hgr hr
    have co3 := o3.row 0
    have fo3 := o3.frozen 0
    have cr3 := r3.row 0
    have fr3 := r3.frozen 0
    simp only [List.getElem?_cons_zero] at cr3 co3
    have hne' : ¬ go_ = gr := fun h => hne h.symm
    obtain ⟨A3, c3, hv3⟩ := own_form ho3
    have HO3 := Lib.hid ho3
    have hsz := hg3.size
    have HG := Lib.hid hg3
    clear ho3 hg3 cr fr co fo
    subst hv3
    go_wp2_with fail
    go_end0
    refine ⟨rfl, _, (r3.far (p := ⟨go_, 0, none⟩) hne _).set_ 0 _, (o3.set_ 0 _).far (p := ⟨gr, 0, none⟩) hne' _, ?_, fun g t cs h1 h2 h3 h => (((h.alloc _).grown_ HG.out h3).far (p := ⟨go_, 0, none⟩) h2 _).far (p := ⟨gr, 0, none⟩) h1 _, fun N h1 h2 => ?_, ?_⟩
    · have : endVs (n + 1) (.slice A (n + 1) c) vs = vs ++ [.slice A (n + 1) c] := by simp [endVs]
      rw [this]
      have h := HO3.out
      refine own_kept (by simpa using h) fun g cs hg h' => ?_
      have := (h.lt g hg).1
      exact (h'.far (p := ⟨go_, 0, none⟩) (by dsimp only; omega) _).far (p := ⟨gr, 0, none⟩) (by dsimp only; omega) _
    · exact ((((Below.refl _ _).alloc (by omega) _).grown HG.out (by simp; omega) (by intro g hg; have := HV.out g hg; omega)).setCell (p := ⟨go_, 0, none⟩) h2 _).setCell (p := ⟨gr, 0, none⟩) h1 _
    · simp [World.setCell] at hsz ⊢
      omega

set_option maxRecDepth 100000 in
set_option maxHeartbeats 8000000 in
theorem losses_any (r : Rec) (A D : Option Addr) (ca cd : Nat) (flow frame fr to_ : Int) (w : World) (hA : LiesA w w.heap.size A r.al) (hla : r.al.length ≤ 1000000) :
    Calls Try.prog 51 #[.agg #[.int .i64 r.slots, .slice A r.al.length ca, .slice D r.dl.length cd], .int .i64 flow, .int .i64 frame, .int .i64 fr, .int .i64 to_] w fun e w' => Below w.heap.size w w' ∧ ∃ vo vs, e = .returned vo ∧ w'.ownsRow w.heap.size 42 1 vo vs.length vs ∧ Runs w' w.heap.size w'.heap.size vs (lossP r.al flow frame fr to_) := by
  have hcon := fun W (h : Below w.heap.size w W) => attempts2_any r A D ca cd flow frame W ((hA.below h).more h.size) hla
  obtain ⟨slots, al, dl⟩ := r
  dsimp only at *
  obtain ⟨F, hF⟩ : ∃ F, F = ofFrame al flow frame := ⟨_, rfl⟩
  have hFl : F.length ≤ 1000000 := by rw [hF]; exact Nat.le_trans (List.length_filter_le _ _) hla
  obtain ⟨na, hna⟩ : ∃ n, n = al.length := ⟨_, rfl⟩
  obtain ⟨nd, hnd⟩ : ∃ n, n = dl.length := ⟨_, rfl⟩
  unfold lossP
  rw [← hF, ← hna, ← hnd] at hcon
  rw [← hF, ← hna, ← hnd]
  have Con := Lib.hid hcon
  clear hF hcon hna hnd hA
  obtain ⟨T, hT⟩ : ∃ T, T = lossGo fr to_ F [] [] := ⟨_, rfl⟩
  rw [← hT]
  have HT := Lib.hid hT
  clear hT
  obtain ⟨n, hn⟩ : ∃ n, n = F.length := ⟨_, rfl⟩
  rw [← hn] at hFl
  have HL := Lib.hid hn
  clear hn
  obtain ⟨i0, hi, hz0, hz1, hz2⟩ := info_parts Try.infoInt
  go_enter Try.func51, Try.ntmps51
  go_wp2_with fail
  generalize hW0 : World.alloc _ _ = W0
  have bR : Blk W0 w.heap.size 28 [.int .i64 slots, .slice A na ca, .slice D nd cd] := by rw [← hW0]; exact ((Blk.new' _ [.int .i64 slots, .slice A na ca, .slice D nd cd] rfl).alloc _).alloc _
  have bo : Blk W0 (w.heap.size + 1) 40 [.slice none 0 0] := by rw [← hW0]; exact (Blk.new' _ [.slice none 0 0] (by simp)).alloc _
  have br : Blk W0 (w.heap.size + 1 + 1) 42 [.slice none 0 0] := by rw [← hW0]; exact Blk.new' _ [.slice none 0 0] (by simp)
  have hb0 : Below w.heap.size w W0 := by rw [← hW0]; exact (((Below.refl _ _).alloc (Nat.le_refl _) _).alloc (by simp) _).alloc (by simp; omega) _
  have hz : W0.heap.size = w.heap.size + 1 + 1 + 1 := by rw [← hW0]; simp
  clear hW0
  refine (Con.out W0 hb0).mono ?_
  rintro e w1 ⟨hb1, va, rfl, hva⟩
  rw [hz] at hb1 hva
  obtain ⟨N, hN⟩ : ∃ N, N = w.heap.size := ⟨_, rfl⟩
  rw [← hN] at bR bo br hb0 hb1 hva ⊢
  have HN := Lib.hid hN
  replace bo := bo.below hb1 (by omega)
  replace br := br.below hb1 (by omega)
  replace hb0 := hb0.trans (hb1.mono (by omega))
  have hM : N + 1 + 1 + 1 ≤ w1.heap.size := by have := hb1.size; omega
  have hva1 : ∀ g, va.ownBlock = some g → N + 1 + 1 + 1 ≤ g ∧ g < w1.heap.size := hva.lt
  clear hb1 bR hN hz
  obtain ⟨M, hMe⟩ : ∃ M, M = w1.heap.size := ⟨_, rfl⟩
  rw [← hMe] at hM hva1
  have HM := Lib.hid hMe
  have HV1 := Lib.hid hva1
  clear hMe hva1
  rw [← HL.out] at hva
  obtain ⟨A1, cA, hv1⟩ := own_form hva
  have HVA := Lib.hid hva
  clear hva
  subst hv1
  go_wp2_with fail
  obtain ⟨Rel, hRel⟩ : ∃ Rel : Nat → World → Prop, Rel = fun k wr => ∃ (R : Nat) (run : List Int) (out : List (List Int)) (vs : List Value) (vr vo : Value), run.length ≤ k ∧ out.length ≤ k ∧ M ≤ R ∧ R ≤ wr.heap.size ∧ Blk wr (N + 1) 40 [vo] ∧ Blk wr (N + 1 + 1) 42 [vr] ∧
      wr.ownsRow (N + 1 + 1 + 1) 66 8 (.slice A1 n cA) n (flatA F) ∧ wr.ownsRow M 42 1 vo vs.length vs ∧ wr.ownsRow R 3 1 vr run.length (run.map (Value.int .i64)) ∧ Runs wr M R vs out ∧ Below N w wr ∧ Hid (T = lossGo fr to_ (F.drop k) run out) := ⟨_, rfl⟩
  have HRel := Lib.hid hRel
  clear hRel
  have hst0 : Rel 0 w1 := by
    rw [HRel.out]
    exact ⟨M, [], [], [], _, _, Nat.le_refl _, Nat.le_refl _, Nat.le_refl _, by rw [HM.out]; exact Nat.le_refl _, bo, br, HVA.out, World.ownsRow_nil _ _ _ _, World.ownsRow_nil _ _ _ _, Runs.nil _ _ _, hb0, Lib.hid (by rw [HT.out]; simp)⟩
  go_loopw [22] (fun i wr => ∃ (k : Nat), k ≤ n ∧ i = .int .i64 k ∧ Rel k wr) (fun i _ => n - (intOf i).toNat)
  case atStart => exact ⟨0, Nat.zero_le _, rfl, hst0⟩
  case round =>
    clear bo br HVA hb0
    obtain ⟨k, hk, rfl, hrel⟩ := hrel
    rw [HRel.out] at hrel
    obtain ⟨R, run, out, vs, vr, vo, hrl, hol, hMR, hRw, bo, br, hoa, hoo, hor, hrs, hb, hst⟩ := hrel
    clear hst0
    have hvl : vs.length = out.length := hrs.1
    by_cases hlt : k < n
    · obtain ⟨a, ha⟩ := get_of_lt (l := F) (k := k) (by rw [← HL.out]; exact hlt)
      have hoa2 := hoa
      rw [HL.out] at hoa2
      obtain ⟨A2, cB, he2, hl2, _⟩ := own_lies (f := Att.row) row_len_A hoa2
      injection he2 with he2 he3 he4
      clear he3 he4
      subst he2
      have hl2' : LiesA wr wr.heap.size A1 F := hl2
      obtain ⟨b, off, rfl, hbB, hcs⟩ := hl2'.at_ ha
      obtain ⟨c0, c1, c2, c3, c4, c5, c6, c7⟩ := hcs k a ha
      have hd := Lib.hid (drop_of_get ha)
      have HVO : Hid (∀ g, vo.ownBlock = some g → M ≤ g ∧ g < wr.heap.size) := Lib.hid hoo.lt
      have HVR : Hid (∀ g, vr.ownBlock = some g → R ≤ g ∧ g < wr.heap.size) := Lib.hid hor.lt
      clear hcs ha hl2 hl2' hoa2
      go_upto_region 8 with fail
      generalize hW1 : wr.alloc _ = W1
      have ba : Blk W1 wr.heap.size 66 [.int .i64 a.s, .int .i64 a.f, .int .i64 a.cs, .int .i64 a.co, .int .i64 a.cf, .int .i64 a.ct, .int .i64 a.cl, .int .i64 a.o] := by rw [← hW1]; exact Blk.new' _ [.int .i64 a.s, .int .i64 a.f, .int .i64 a.cs, .int .i64 a.co, .int .i64 a.cf, .int .i64 a.ct, .int .i64 a.cl, .int .i64 a.o] rfl
      have hb1 : Below N w W1 := by rw [← hW1]; exact hb.alloc (by omega) _
      have hsz : wr.heap.size + 1 ≤ W1.heap.size := by rw [← hW1]; simp
      have hoa1 : W1.ownsRow (N + 1 + 1 + 1) 66 8 (.slice (some ⟨b, off, none⟩) n cA) n (flatA F) := by rw [← hW1]; exact hoa.alloc _
      have hoo1 : W1.ownsRow M 42 1 vo vs.length vs := by rw [← hW1]; exact hoo.alloc _
      have hor1 : W1.ownsRow R 3 1 vr run.length (run.map (Value.int .i64)) := by rw [← hW1]; exact hor.alloc _
      have hrs1 : Runs W1 M R vs out := hrs.kept (Nat.le_refl _) fun g cs _ _ h => by rw [← hW1]; exact h.alloc _
      have bo1 : Blk W1 (N + 1) 40 [vo] := by rw [← hW1]; exact bo.alloc _
      have br1 : Blk W1 (N + 1 + 1) 42 [vr] := by rw [← hW1]; exact br.alloc _
      have ca := ba.row
      unfold Row at ca
      have HO1 := Lib.hid hoo1
      have HR1 := Lib.hid hor1
      have HA1 := Lib.hid hoa1
      have HRS := Lib.hid hrs1
      clear hW1 c0 c1 c2 c3 c4 c5 c6 c7 hoa hoo hor hrs bo br hoo1 hor1 hoa1 hrs1
      by_cases hskip : ¬ a.cf = fr ∨ ¬ a.ct = to_
      · have hst' : Hid (T = lossGo fr to_ (F.drop (k + 1)) run out) := Lib.hid (by rw [hst.out, hd.out]; simp only [lossGo]; rw [if_pos hskip])
        clear hst
        have hnew : Rel (k + 1) W1 := by
          rw [HRel.out]
          exact ⟨R, run, out, vs, vr, vo, by omega, by omega, hMR, by omega, bo1, br1, HA1.out, HO1.out, HR1.out, HRS.out, hb1, hst'⟩
        by_cases h1 : a.cf = fr
        · have h2 : ¬ a.ct = to_ := by rcases hskip with h | h; exact absurd h1 h; exact h
          go_wp2_with fail
          go_roundw
          case rel => exact ⟨k + 1, by omega, by go_num, hnew⟩
          case measure => simp [intOf]; omega
        · go_wp2_with fail
          go_roundw
          case rel => exact ⟨k + 1, by omega, by go_num, hnew⟩
          case measure => simp [intOf]; omega
      · have hs1 : a.cf = fr := Classical.byContradiction fun h => hskip (Or.inl h)
        have hs2 : a.ct = to_ := Classical.byContradiction fun h => hskip (Or.inr h)
        by_cases hack : a.o = 1
        · have hst' : Hid (T = lossGo fr to_ (F.drop (k + 1)) [] (flush run out)) := Lib.hid (by rw [hst.out, hd.out]; simp only [lossGo]; rw [if_neg hskip, if_pos hack])
          clear hst
          obtain ⟨Ar, cr, hvr⟩ := own_form HR1.out
          subst hvr
          have hend := end_any (N + 1 + 1) (N + 1) M run.length cr Ar vo vs W1 br1 bo1 (by omega) (by omega) (by omega) HO1.out (by omega) (by omega)
          have HE := Lib.hid hend
          clear hend
          go_wp2_with fail
          refine HE.out.mono ?_
          clear HE
          rintro e w2 ⟨rfl, vo2, br2, bo2, hoo2, hk2, hb2, hz2⟩
          have hb2' : Below N w w2 := hb1.trans (hb2 N (by omega) (by omega))
          have rs2 : Runs w2 M W1.heap.size (endVs run.length (.slice Ar run.length cr) vs) (flush run out) := by
            have h1 : Runs w2 M W1.heap.size vs out := HRS.out.kept (by omega) fun g cs hg1 hg2 h => hk2 g _ cs (by omega) (by omega) (by intro e; have := own_type HO1.out e h; revert this; decide) h
            by_cases h0 : run.length = 0
            · simp only [endVs, flush, h0, if_true]
              exact h1
            · simp only [endVs, flush, h0, if_false]
              refine h1.snoc (own_weak (own_kept HR1.out fun g cs hg h => hk2 g _ cs ?_ ?_ (by intro e; have := own_type HO1.out e h; revert this; decide) h) hMR) fun g hg => (HR1.out.lt g hg).2
              · have := (HR1.out.lt g hg).1; omega
              · have := (HR1.out.lt g hg).1; omega
          have oa2 : w2.ownsRow (N + 1 + 1 + 1) 66 8 (.slice (some ⟨b, off, none⟩) n cA) n (flatA F) := own_kept HA1.out fun g cs hg h => hk2 g _ cs (by have := (HA1.out.lt g hg).1; omega) (by have := (HA1.out.lt g hg).1; omega) (by intro e; have := own_type HO1.out e h; revert this; decide) h
          have OA2 := Lib.hid oa2
          have RS2 := Lib.hid rs2
          have OO2 := Lib.hid hoo2
          have hfl : (flush run out).length ≤ k + 1 := by
            unfold flush
            split
            · omega
            · simp; omega
          have hnew : Rel (k + 1) w2 := by
            rw [HRel.out]
            exact ⟨W1.heap.size, [], flush run out, endVs run.length (.slice Ar run.length cr) vs, _, vo2, by simp, hfl, by omega, hz2, bo2, br2, OA2.out, OO2.out, World.ownsRow_nil _ _ _ _, RS2.out, hb2', hst'⟩
          clear hk2 hb2 oa2 rs2 hoo2 HRS HO1 HR1 HA1
          go_wp2_with fail
          go_roundw
          case rel => exact ⟨k + 1, by omega, by go_num, hnew⟩
          case measure => simp [intOf]; omega
        · have hst' : Hid (T = lossGo fr to_ (F.drop (k + 1)) (run ++ [a.s]) out) := Lib.hid (by rw [hst.out, hd.out]; simp only [lossGo]; rw [if_neg hskip, if_neg hack])
          clear hst
          have co1 := bo1.row 0
          have cr1 := br1.row 0
          have fr1 := br1.frozen 0
          simp only [List.getElem?_cons_zero] at co1 cr1
          go_wp2_with (at_builtin; refine wpList_append_own_at _ rfl (.tmp 26) (.tmp 29) 42 rfl R 3 i0 (.int .i64 0) 1 8 Try.underlying42 hi hz0 hz1 hz2 rfl (by decide) vr run.length (run.map (Value.int .i64)) rfl (HR1.out.alloc _) ⟨W1.heap.size, 0, none⟩ 1 1 [.int .i64 a.s] rfl rfl ?e0 ?e1 ?e2 ?e3 ?e4 ?_)
          case e0 => exact (Blk.new' 3 [.int .i64 a.s] rfl).news
          case e1 => exact ints_one (l := [a.s])
          case e2 => unfold maxLen; omega
          case e3 => omega
          case e4 => simp; omega
          intro v3 w3 ho3 hg3 hnil3 hat3
          clear hnil3 hat3
          have hkp : ∀ g t cs, g < R ∨ t ≠ 3 → Blk W1 g t cs → Blk w3 g t cs := fun g t cs h1 h => (h.alloc _).grown_ hg3 (by
            intro e
            rcases h1 with h1 | h1
            · have := HVR.out g e.symm; omega
            · exact h1 (own_type HR1.out e h))
          have bo3 := hkp _ _ _ (Or.inl (by omega)) bo1
          have br3 := hkp _ _ _ (Or.inl (by omega)) br1
          have oa3 := own_kept HA1.out fun g cs _ h => hkp g _ cs (Or.inr (by decide)) h
          have oo3 := own_kept HO1.out fun g cs _ h => hkp g _ cs (Or.inr (by decide)) h
          have rs3 := HRS.out.kept (Nat.le_refl _) fun g cs _ h1 h => hkp g _ cs (Or.inl h1) h
          have hb3 : Below N w w3 := (hb1.alloc (by omega) _).grown hg3 (by simp; omega) (by intro g hg; have := HVR.out g hg; omega)
          have hz3 : R ≤ w3.heap.size := by have := hg3.size; simp at this; omega
          have cr3 := br3.row 0
          have fr3 := br3.frozen 0
          simp only [List.getElem?_cons_zero] at cr3
          obtain ⟨A3, c3, hv3⟩ := own_form ho3
          have O4 : (w3.setCell ⟨N + 1 + 1, 0, none⟩ v3).ownsRow R 3 1 v3 (run ++ [a.s]).length ((run ++ [a.s]).map (Value.int .i64)) := own_kept (w := w3) (by simpa using ho3) fun g cs hg h => h.far (p := ⟨N + 1 + 1, 0, none⟩) (by have := (ho3.lt g hg).1; dsimp only; omega) _
          have OA4 : (w3.setCell ⟨N + 1 + 1, 0, none⟩ v3).ownsRow _ _ _ _ _ _ := own_kept oa3 fun g cs hg h => h.far (p := ⟨N + 1 + 1, 0, none⟩) (by have := (oa3.lt g hg).1; dsimp only; omega) _
          have OO4 : (w3.setCell ⟨N + 1 + 1, 0, none⟩ v3).ownsRow _ _ _ _ _ _ := own_kept oo3 fun g cs hg h => h.far (p := ⟨N + 1 + 1, 0, none⟩) (by have := (oo3.lt g hg).1; dsimp only; omega) _
          have RS4 : Runs (w3.setCell ⟨N + 1 + 1, 0, none⟩ v3) _ _ _ _ := rs3.kept (Nat.le_refl _) fun g cs hg _ h => h.far (p := ⟨N + 1 + 1, 0, none⟩) (by dsimp only; omega) _
          have BR4 := br3.set_ 0 v3
          have BO4 := bo3.far (p := ⟨N + 1 + 1, 0, none⟩) (by dsimp only; omega) v3
          have hb4 : Below N w (w3.setCell ⟨N + 1 + 1, 0, none⟩ v3) := hb3.setCell (p := ⟨N + 1 + 1, 0, none⟩) (by dsimp only; omega) _
          have hz4 : R ≤ (w3.setCell ⟨N + 1 + 1, 0, none⟩ v3).heap.size := by simp [World.setCell]; omega
          have h4 := Lib.hid (And.intro O4 (And.intro OA4 (And.intro OO4 RS4)))
          clear O4 OA4 OO4 RS4 oa3 oo3 rs3 ho3 hg3 hkp HRS HO1 HR1 HA1 bo1 br1 co1 cr1 fr1
          have hnew : Rel (k + 1) (w3.setCell ⟨N + 1 + 1, 0, none⟩ v3) := by
            rw [HRel.out]
            exact ⟨R, run ++ [a.s], out, vs, _, vo, by simp; omega, by omega, hMR, hz4, BO4, BR4, h4.out.2.1, h4.out.2.2.1, h4.out.1, h4.out.2.2.2, hb4, hst'⟩
          subst hv3
          go_wp2_with fail
          go_roundw
          case rel => exact ⟨k + 1, by omega, by go_num, hnew⟩
          case measure => simp [intOf]; omega
    · have hst' : Hid (T = flush run out) := Lib.hid (by rw [hst.out, List.drop_of_length_le (by rw [← HL.out]; omega)]; rfl)
      clear hst
      obtain ⟨Ar, cr, hvr⟩ := own_form hor
      have HR1 := Lib.hid hor
      have HRS := Lib.hid hrs
      have HO1 := Lib.hid hoo
      subst hvr
      have hend := end_any (N + 1 + 1) (N + 1) M run.length cr Ar vo vs wr br bo (by omega) (by omega) (by omega) HO1.out (by omega) (by omega)
      have HE := Lib.hid hend
      clear hend hor hrs hoo hoa
      go_wp2_with fail
      refine HE.out.mono ?_
      clear HE
      rintro e w2 ⟨rfl, vo2, br2, bo2, hoo2, hk2, hb2, hz2⟩
      have hb2' : Below N w w2 := hb.trans (hb2 N (by omega) (by omega))
      have rs2 : Runs w2 M w2.heap.size (endVs run.length (.slice Ar run.length cr) vs) (flush run out) := by
        have h1 : Runs w2 M w2.heap.size vs out := HRS.out.kept (by omega) fun g cs hg1 hg2 h => hk2 g _ cs (by omega) (by omega) (by intro e; have := own_type HO1.out e h; revert this; decide) h
        by_cases h0 : run.length = 0
        · simp only [endVs, flush, h0, if_true]
          exact h1
        · simp only [endVs, flush, h0, if_false]
          refine h1.snoc (own_weak (own_kept HR1.out fun g cs hg h => hk2 g _ cs ?_ ?_ (by intro e; have := own_type HO1.out e h; revert this; decide) h) hMR) fun g hg => (by have := (HR1.out.lt g hg).2; omega)
          · have := (HR1.out.lt g hg).1; omega
          · have := (HR1.out.lt g hg).1; omega
      have co2 := bo2.row 0
      simp only [List.getElem?_cons_zero] at co2
      obtain ⟨A3, c3, hv3⟩ := own_form hoo2
      have fin := Lib.hid (And.intro hoo2 rs2)
      clear rs2 hoo2 hk2 HR1 HO1 HRS
      subst hv3
      go_wp2_with fail
      go_ret
      refine ⟨by rw [← HN.out]; exact hb2', _, _, rfl, own_weak fin.out.1 (by rw [← HN.out]; omega), ?_⟩
      rw [hst'.out]
      obtain ⟨r1, r2⟩ := fin.out.2
      exact ⟨r1, fun i v l h1 h2 => ⟨own_weak (r2 i v l h1 h2).1 (by rw [← HN.out]; omega), (r2 i v l h1 h2).2⟩⟩

end Go.Proofs.Ytkdigdnacggknaa

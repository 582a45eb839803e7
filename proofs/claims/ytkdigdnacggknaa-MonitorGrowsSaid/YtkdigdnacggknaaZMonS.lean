import Derived.Test.YtkdigdnacggknaaZMonM
import Derived.Test.YtkdigdnacggknaaZMon3
/- Sets of frames: a map from frames to truth values that the call makes. (After the text NodM.) -/
namespace Go.Proofs.Ytkdigdnacggknaa
open Go.RowKit Go.WideMaps
open Go.Maps (Keyed)
theorem Try.bZero (w : World) : (zeroValue 4).run Try.prog w = .ok (.bool false) w := by kernel_rfl

theorem plainElem_bool_inv {H : Type} {P : Program} {e : TypeId} (he : P.underlying e = some .bool) {v : Value} {z : DataW H × List MemPlace} (h : plainElem P e v = some z) : ∃ a, v = .bool a ∧ z = (.lit (.bool a), []) := by
  unfold plainElem at h
  rw [he] at h
  cases v <;> simp_all

/-- Block b is a map that holds true at the pairs of S and nothing else that is true. -/
def OwnsSet (w : World) (b n : Nat) (S : List (Int × Int)) : Prop :=
  ∃ D : DataW Unit, w.ownsMap Try.prog 93 (plainElem Try.prog 4) b n D ∧ Go.Maps.IsMap D ∧ (∀ p ∈ S, Num64 p.1 ∧ Num64 p.2) ∧ ∀ a c, Num64 a → Num64 c → D.atKey (frKey a c) (.lit (.bool false)) = .lit (.bool (decide ((a, c) ∈ S)))

theorem OwnsSet.made (w : World) : OwnsSet (w.alloc (.map #[] 0)) w.heap.size 0 [] :=
  ⟨.map [], World.ownsMap_made w _ _ _, Go.Maps.isMap_empty, fun _ h => by simp at h, fun a c _ _ => by simp [DataW.atKey]⟩
theorem OwnsSet.kept {w w' : World} {b n : Nat} {S : List (Int × Int)} {row : Option Nat} (h : OwnsSet w b n S) (hg : w.grownBy w' row) (hne : some b ≠ row) : OwnsSet w' b n S := by
  obtain ⟨D, h1, h2⟩ := h
  exact ⟨D, h1.kept hg hne, h2⟩
theorem OwnsSet.below {w w' : World} {b n N : Nat} {S : List (Int × Int)} (h : OwnsSet w b n S) (hb : Below N w w') (hN : b < N) : OwnsSet w' b n S := by
  obtain ⟨D, ⟨es, clock, hb1, F, hs, hD⟩, h2⟩ := h
  exact ⟨D, ⟨es, clock, (hb.block b hN).trans hb1, F, hs, hD⟩, h2⟩
theorem OwnsSet.lt {w : World} {b n : Nat} {S : List (Int × Int)} (h : OwnsSet w b n S) : b < w.heap.size := by
  obtain ⟨D, h1, _⟩ := h
  exact h1.lt
theorem OwnsSet.look {w : World} {b n : Nat} {S : List (Int × Int)} (h : OwnsSet w b n S) {a c : Int} (ha : Num64 a) (hc : Num64 c) : (Instr.lookup 116 (.map (some b)) (.agg #[.int .i64 a, .int .i64 c]) false).run Try.prog w = .ok (.bool (decide ((a, c) ∈ S))) w := by
  obtain ⟨D, h1, _, _, h3⟩ := h
  obtain ⟨v, ps, hrun, hv⟩ := h1.lookup Try.kKeyed Try.underlying116 (Try.bZero w) (plainElem_bool Try.underlying4 false) (keyOf_fr ha hc)
  obtain ⟨x, rfl, hx⟩ := plainElem_bool_inv Try.underlying4 hv
  rw [h3 a c ha hc] at hx
  simp only [Prod.mk.injEq] at hx
  rw [hrun]
  simpa using hx.1.symm
theorem OwnsSet.put {w : World} {b n : Nat} {S : List (Int × Int)} (h : OwnsSet w b n S) (hn : n < maxLen) {a c : Int} (ha : Num64 a) (hc : Num64 c) :
    ∃ w', (Instr.mapUpdate 116 (.map (some b)) (.agg #[.int .i64 a, .int .i64 c]) (.bool true)).run Try.prog w = .ok () w' ∧ OwnsSet w' b (n + 1) ((a, c) :: S) ∧ w.grownBy w' (some b) := by
  obtain ⟨D, h1, h2, h4, h3⟩ := h
  obtain ⟨w', hrun, r1, r2⟩ := h1.update Try.kKeyed Try.underlying116 hn (keyOf_fr ha hc) (plainElem_bool (H := Unit) Try.underlying4 true)
  refine ⟨w', hrun, ⟨_, r1, h2.put _ _, ?_, ?_⟩, r2⟩
  · intro p hp
    rcases List.mem_cons.1 hp with rfl | hp
    · exact ⟨ha, hc⟩
    · exact h4 p hp
  · intro a' c' ha' hc'
    by_cases e : frKey a' c' = frKey a c
    · obtain ⟨e1, e2⟩ := frKey_inj ha' hc' ha hc e
      subst e1 e2
      rw [Go.Maps.atKey_put_same h2 (by trivial)]
      simp
    · rw [Go.Maps.atKey_put_other e, h3 a' c' ha' hc']
      have hne : ¬ (a' = a ∧ c' = c) := fun ⟨e1, e2⟩ => e (by rw [e1, e2])
      simp [hne]
theorem OwnsSet.mono {w : World} {b n n' : Nat} {S : List (Int × Int)} (h : OwnsSet w b n S) (hn : n ≤ n') : OwnsSet w b n' S := by
  obtain ⟨D, h1, h2⟩ := h
  exact ⟨D, h1.mono hn, h2⟩
/-- A store into the map leaves every row of cells as it was. -/
theorem OwnsSet.cell {w w' : World} {b n : Nat} {S : List (Int × Int)} (h : OwnsSet w b n S) (hg : w.grownBy w' (some b)) {p : Addr} {u : Value} (hp : p.block < w.heap.size) (hc : w.cell? p = some u) : w'.cell? p = some u := by
  obtain ⟨D, ⟨es, clock, hb, _⟩, _⟩ := h
  have hne : p.block ≠ b := fun e => by
    subst e
    simp [World.cell?, hb] at hc
  have := hg.block p.block hp (fun e => hne (by injection e))
  unfold World.cell? at hc ⊢
  rw [this]
  exact hc
theorem OwnsSet.lies {w w' : World} {b n sz : Nat} {S : List (Int × Int)} {A : Option Addr} {xs : List (List Value)} (h : OwnsSet w b n S) (hg : w.grownBy w' (some b)) (hl : Lies w w.heap.size sz A xs) : Lies w' w'.heap.size sz A xs := by
  intro hne
  obtain ⟨bb, off, e, hb, hc⟩ := hl hne
  exact ⟨bb, off, e, Nat.lt_of_lt_of_le hb hg.size, fun k row hr j u hu => h.cell hg hb (hc k row hr j u hu)⟩
theorem Below.grown_map {M b : Nat} {w0 w w' : World} (h : Below M w0 w) (hg : w.grownBy w' (some b)) (hb : M ≤ b) (hw : M ≤ w.heap.size) : Below M w0 w' :=
  ⟨hg.os.trans h.os, hg.tape.trans h.tape, hg.output.trans h.output, Nat.le_trans h.size hg.size, fun i hi => (hg.block i (by omega) (fun e => by injection e; omega)).trans (h.block i hi)⟩
/-- The map's block is no row of cells. -/
theorem OwnsSet.notRow {w : World} {b n : Nat} {S : List (Int × Int)} (h : OwnsSet w b n S) {base s k : Nat} {e : TypeId} {v : Value} {xs : List Value} (ho : w.ownsRow base e s v k xs) : v.ownBlock = some b → False := fun hb => by
  obtain ⟨D, ⟨es, clock, hb1, _⟩, _⟩ := h
  rcases ho.2 with ⟨rfl, _⟩ | ⟨g, cap, cur, rfl, _, hg, _⟩
  · cases hb
  · simp only [Value.ownBlock, Option.some.injEq] at hb
    subst hb
    rw [hb1] at hg
    cases hg
end Go.Proofs.Ytkdigdnacggknaa
/- Walk: Twice of package monitor. -/
namespace Go.Proofs.Ytkdigdnacggknaa
open Go.RowKit
open Nd Rc Mo

theorem Try.infoD : (Try.prog.info? 54).map (fun i => (i.zero, i.size, i.bytes)) = some (some (.agg #[.int .i64 0, .int .i64 0, .int .i64 0]), 3, 24) := by kernel_rfl
theorem twGo_len : ∀ (l S : List Dlv), (twGo S l).length ≤ l.length
  | [], _ => Nat.le_refl _
  | d :: l, S => by
    unfold twGo
    have := twGo_len l (S ++ [d])
    split <;> simp <;> omega
/-- The frames of some deliveries. -/
def frs (l : List Dlv) : List (Int × Int) := l.map (fun d => (d.fl, d.fr))
theorem mem_frs (l : List Dlv) (d : Dlv) : decide ((d.fl, d.fr) ∈ frs l) = l.any (sameFr d) := by
  rw [Bool.eq_iff_iff, decide_eq_true_eq, List.any_eq_true]
  constructor
  · intro h
    obtain ⟨x, hx, e⟩ := List.mem_map.1 h
    simp only [Prod.mk.injEq] at e
    exact ⟨x, hx, by simp [sameFr, e.1, e.2]⟩
  · rintro ⟨x, hx, e⟩
    rw [sameFr, Bool.and_eq_true, beq_iff_eq, beq_iff_eq] at e
    exact List.mem_map.2 ⟨x, hx, by rw [e.1, e.2]⟩
theorem OwnsSet.same {w : World} {b n : Nat} {S S' : List (Int × Int)} (h : OwnsSet w b n S) (hs : ∀ p, p ∈ S ↔ p ∈ S') : OwnsSet w b n S' := by
  obtain ⟨D, h1, h2, h3, h4⟩ := h
  refine ⟨D, h1, h2, fun p hp => h3 p ((hs p).2 hp), fun a c ha hc => ?_⟩
  rw [h4 a c ha hc]
  have : decide ((a, c) ∈ S) = decide ((a, c) ∈ S') := decide_eq_decide.2 (hs _)
  rw [this]

set_option maxRecDepth 100000 in
set_option maxHeartbeats 4000000 in
theorem twice_any (r : Rec) (A D : Option Addr) (ca cd : Nat) (w : World) (hA : LiesA w w.heap.size A r.al) (hD : LiesD w w.heap.size D r.dl) (hla : r.al.length ≤ 1000000) (hld : r.dl.length ≤ 1000000) :
    Calls Try.prog 19 #[.agg #[.int .i64 r.slots, .slice A r.al.length ca, .slice D r.dl.length cd]] w fun e w' => Below w.heap.size w w' ∧ ∃ v, e = .returned (.tuple #[v, .int .i64 (twice r).2]) ∧ w'.ownsRow w.heap.size 54 3 v (twice r).1.length ((twice r).1.flatMap Dlv.row) := by
  obtain ⟨i0, hi, hz0, hz1, hz2⟩ := info_parts Try.infoD
  obtain ⟨N, hN⟩ : ∃ N, N = w.heap.size := ⟨_, rfl⟩
  obtain ⟨na, hna⟩ : ∃ n, n = r.al.length := ⟨_, rfl⟩
  obtain ⟨nd, hnd⟩ : ∃ n, n = r.dl.length := ⟨_, rfl⟩
  obtain ⟨slots, hsl⟩ : ∃ s, s = r.slots := ⟨_, rfl⟩
  obtain ⟨W1, hW1⟩ : ∃ W1, W1 = w.alloc (.cells #[.int .i64 slots, .slice A na ca, .slice D nd cd] 28) := ⟨_, rfl⟩
  have hb1 : Below N w W1 := by rw [hW1, hN]; exact (Below.refl _ _).alloc (Nat.le_refl _) _
  have bR : Blk W1 N 28 [.int .i64 slots, .slice A na ca, .slice D nd cd] := by rw [hW1]; exact Blk.new2 _ [.int .i64 slots, .slice A na ca, .slice D nd cd] hN
  have HW := Lib.hid (fun W (h' : Below W1.heap.size W1 W) => (show Below w.heap.size w W ∧ Row W N [.int .i64 slots, .slice A na ca, .slice D nd cd] from ⟨by rw [← hN]; exact hb1.trans (h'.mono (by have := bR.lt; omega)), (bR.below h' bR.lt).row⟩))
  have HA := Lib.hid (fun W (h' : Below W1.heap.size W1 W) => (show LiesA W W.heap.size A r.al from (hA.below (HW.out W h').1).more (HW.out W h').1.size))
  have HD := Lib.hid (fun W (h' : Below W1.heap.size W1 W) => (show LiesD W W.heap.size D r.dl from (hD.below (HW.out W h').1).more (HW.out W h').1.size))
  have HRt := Lib.hid (check_any r A D ca cd W1 (HA.out _ (Below.refl _ _)) (HD.out _ (Below.refl _ _)) (by omega) (by omega))
  rw [← hna, ← hnd, ← hsl] at HRt ⊢
  rw [← hnd] at hld
  have HSl := Lib.hid hsl
  have HNd := Lib.hid hnd
  have HNa := Lib.hid hna
  have HW1 := Lib.hid hW1
  have HN := Lib.hid hN
  have hNlt : N < W1.heap.size := bR.lt
  clear hA hD hna hnd hsl hb1 bR hN hla
  have r1 := (HW.out _ (Below.refl _ _)).2
  unfold Row at r1
  have hmm := @run_makeMap Try.prog
  obtain ⟨E, hE⟩ : ∃ E, E = checkE r := ⟨_, rfl⟩
  have HE : Hid ((good r = true ∧ E = 0) ∨ (good r = false ∧ E = 1)) := Lib.hid (by rw [hE]; unfold checkE; cases good r <;> simp)
  rw [← hE] at HRt
  clear hE
  subst hW1
  go_enter Try.func19, Try.ntmps19
  clear r1
  go_wp2_with fail
  rw [← HN.out]
  refine HRt.out.mono ?_
  rintro e w2 ⟨rfl, hb2⟩
  clear HRt
  rcases HE.out with ⟨hr, rfl⟩ | ⟨hr, rfl⟩
  case inr =>
    have hl : Hid (twice r = ([], 1)) := Lib.hid (by unfold twice; rw [hr]; rfl)
    clear hr HE
    go_wp2_with fail
    go_ret2
    exact ⟨(HW.out _ hb2).1, _, by rw [hl.out]; rfl, by rw [hl.out]; exact World.ownsRow_nil _ _ _ _⟩
  have hl : Hid (twice r = (twGo [] r.dl, 0)) := Lib.hid (by unfold twice; rw [if_pos hr])
  have HNum := Lib.hid (fun d (hd : d ∈ r.dl) => (by
    obtain ⟨a1, a2, a3, a4, a5, a6⟩ := good_dlv hr hd
    exact ⟨num_small (by omega), num_small (by omega)⟩ : Num64 d.fl ∧ Num64 d.fr))
  have r2 := (HW.out _ hb2).2
  unfold Row at r2
  obtain ⟨B, hB⟩ : ∃ B, B = w2.heap.size := ⟨_, rfl⟩
  have HB := Lib.hid hB
  have HS := Lib.hid (show OwnsSet (w2.alloc (.map #[] 0)) B 0 [] from by rw [hB]; exact OwnsSet.made w2)
  have HX := Lib.hid (fun W (h' : Below w2.heap.size w2 W) => (show Below w.heap.size w W ∧ Row W N [.int .i64 slots, .slice A na ca, .slice D nd cd] ∧ LiesD W W.heap.size D r.dl from ⟨(HW.out _ (hb2.trans (h'.mono hb2.size))).1, (HW.out _ (hb2.trans (h'.mono hb2.size))).2, HD.out _ (hb2.trans (h'.mono hb2.size))⟩))
  have hMN : N < w2.heap.size := Nat.lt_of_lt_of_le hNlt hb2.size
  have hw2N : w.heap.size ≤ w2.heap.size := (HW.out _ hb2).1.size
  clear hr HW HA HD hb2 HW1 HE
  go_wp2_with fail
  rw [← hB]
  clear r2 hB
  go_loopw [4, 17] (fun s4 i wr => ∃ (k : Nat) (v : Value) (acc : List Dlv), v = s4 ∧ k ≤ nd ∧ i = .int .i64 k ∧ Below w2.heap.size w2 wr ∧ B < wr.heap.size ∧ Hid (OwnsSet wr B k (frs (r.dl.take k))) ∧ Hid (wr.ownsRow w2.heap.size 54 3 v acc.length (acc.flatMap Dlv.row)) ∧ Hid (twGo [] r.dl = acc ++ twGo (r.dl.take k) (r.dl.drop k))) (fun _ i _ => nd - (intOf i).toNat)
  case atStart => exact ⟨0, _, [], rfl, by omega, rfl, (Below.refl _ _).alloc (Nat.le_refl _) _, by have := HB.out; simp; omega, HS, Lib.hid (World.ownsRow_nil _ _ _ _), Lib.hid rfl⟩
  case round =>
    clear HS
    obtain ⟨k, v, acc, rfl, hk, rfl, hb, hBw, HSt, HO, HT⟩ := hrel
    by_cases hlt : k < nd
    · obtain ⟨a, hak⟩ := get_of_lt (l := r.dl) (k := k) (by rw [← HNd.out]; exact hlt)
      obtain ⟨ab, aoff, rfl, haB, hcs⟩ := (HX.out _ hb).2.2.at_ hak
      obtain ⟨c0, c1, c2⟩ := hcs k a hak
      obtain ⟨n1, n2⟩ := HNum.out a (List.mem_of_getElem? hak)
      have HT' : Hid (twGo [] r.dl = acc ++ (if (r.dl.take k).any (sameFr a) = true then a :: twGo (r.dl.take (k + 1)) (r.dl.drop (k + 1)) else twGo (r.dl.take (k + 1)) (r.dl.drop (k + 1)))) := Lib.hid (by rw [HT.out, drop_of_get hak, take_snoc hak]; rfl)
      have HFr : Hid (frs (r.dl.take (k + 1)) = frs (r.dl.take k) ++ [(a.fl, a.fr)]) := Lib.hid (by rw [take_snoc hak]; simp [frs])
      have HAcl : Hid (acc.length ≤ 1000000) := Lib.hid (by
        have h1 := congrArg List.length HT.out
        rw [List.length_append] at h1
        have h2 := twGo_len r.dl []
        have := HNd.out
        omega)
      clear hcs hak HT
      go_upto_region 9 with fail
      clear c0 c1 c2
      obtain ⟨X, hX⟩ : ∃ X, X = wr.heap.size := ⟨_, rfl⟩
      generalize hWa : World.alloc _ _ = Wa
      have b1 : Blk Wa X 54 [.int .i64 a.fl, .int .i64 a.fr, .int .i64 a.sl] := by rw [← hWa]; exact Blk.alloc (Blk.new2 _ [.int .i64 a.fl, .int .i64 a.fr, .int .i64 a.sl] hX) _
      have b2 : Blk Wa (X + 1) 93 [.int .i64 a.fl, .int .i64 a.fr] := by rw [← hWa]; exact Blk.new2 _ [.int .i64 a.fl, .int .i64 a.fr] (by simp [hX])
      have hbw : Below wr.heap.size wr Wa := by rw [← hWa]; exact ((Below.refl _ _).alloc (Nat.le_refl _) _).alloc (by simp) _
      have hba : Below w2.heap.size w2 Wa := hb.trans (hbw.mono hb.size)
      have HOa : Hid (Wa.ownsRow w2.heap.size 54 3 v acc.length (acc.flatMap Dlv.row)) := Lib.hid (own_below HO.out hbw (Nat.le_refl _))
      have HSa : Hid (OwnsSet Wa B k (frs (r.dl.take k))) := Lib.hid (HSt.out.below hbw hBw)
      have hBa : B < Wa.heap.size := Nat.lt_of_lt_of_le hBw hbw.size
      have HvX : Hid (∀ g, v.ownBlock = some g → g < X) := Lib.hid (fun g hg => by have := (HO.out.lt g hg).2; omega)
      rw [← hX]
      clear hWa hX HO hb HSt hBw hbw
      have hlook := HSa.out.look n1 n2
      rw [mem_frs] at hlook
      have rX := b1.row
      have rY := b2.row
      unfold Row at rX rY
      cases hq : (r.dl.take k).any (sameFr a) with
      | false =>
        have HT2 : Hid (twGo [] r.dl = acc ++ twGo (r.dl.take (k + 1)) (r.dl.drop (k + 1))) := Lib.hid (by rw [HT'.out, hq]; rfl)
        rw [hq] at hlook
        clear hq HT'
        obtain ⟨w3, hput, hS3, hg3⟩ := HSa.out.put (by unfold maxLen; omega) n1 n2
        have hb3 : Below w2.heap.size w2 w3 := hba.grown hg3 hba.size (fun j hj => by injection hj with hj; have := HB.out; omega)
        have HS3 : Hid (OwnsSet w3 B (k + 1) (frs (r.dl.take (k + 1)))) := Lib.hid (hS3.same (fun p => by rw [HFr.out]; simp [or_comm]))
        have HO3 : Hid (w3.ownsRow w2.heap.size 54 3 v acc.length (acc.flatMap Dlv.row)) := Lib.hid (HOa.out.kept hg3 (by
          cases hvb : v.ownBlock with
          | none => exact .inl rfl
          | some g =>
            refine .inr (fun e => ?_)
            injection e with e
            subst e
            exact HSa.out.notRow HOa.out hvb))
        have hB3 : B < w3.heap.size := Nat.lt_of_lt_of_le hBa hg3.size
        clear hS3 hg3 HSa HOa HFr b1 b2 hba
        go_wp2_with fail
        go_roundw
        case rel => exact ⟨k + 1, v, acc, rfl, by omega, by go_num, hb3, hB3, HS3, HO3, HT2⟩
        case measure => simp [intOf]; omega
      | true =>
        have HT2 : Hid (twGo [] r.dl = (acc ++ [a]) ++ twGo (r.dl.take (k + 1)) (r.dl.drop (k + 1))) := Lib.hid (by rw [HT'.out, hq, List.append_assoc]; rfl)
        rw [hq] at hlook
        clear hq HT'
        have hl7 := HAcl.out
        go_wp2_with (at_builtin; refine wpList_append_own_at _ rfl (.tmp 29) (.tmp 31) 24 rfl w2.heap.size 54 i0 (.agg #[.int .i64 0, .int .i64 0, .int .i64 0]) 3 24 Try.underlying24 hi hz0 hz1 hz2 rfl (by decide) v _ _ rfl (HOa.out.alloc _) ⟨Wa.heap.size, 0, none⟩ 1 1 [.int .i64 a.fl, .int .i64 a.fr, .int .i64 a.sl] rfl rfl ?e0 ?e1 ?e2 ?e3 ?e4 ?_)
        case e0 => exact (Blk.new2 54 [.int .i64 a.fl, .int .i64 a.fr, .int .i64 a.sl] rfl).news2
        case e1 => intro u hu; simp only [List.mem_cons, List.not_mem_nil, or_false] at hu; rcases hu with rfl | rfl | rfl <;> rfl
        case e2 => unfold maxLen; omega
        case e3 => omega
        case e4 => simp; have := hba.size; omega
        intro v7 w7 ho7 hg7 hnil7 hat7
        clear hnil7 hat7
        have hB6 : Below w2.heap.size w2 (Wa.alloc (.cells #[.int .i64 a.fl, .int .i64 a.fr, .int .i64 a.sl] 54)) := hba.alloc hba.size _
        have hB7 : Below w2.heap.size w2 w7 := hB6.grown hg7 hB6.size (fun j hj => (HOa.out.lt j hj).1)
        have hne : ∀ g, v.ownBlock = some g → g ≠ B := fun g hg e => by subst e; exact HSa.out.notRow HOa.out hg
        have HS7 : OwnsSet w7 B k (frs (r.dl.take k)) := (HSa.out.below ((Below.refl _ _).alloc (Nat.le_refl _) (.cells #[.int .i64 a.fl, .int .i64 a.fr, .int .i64 a.sl] 54)) hBa).kept hg7 (fun e => hne B e.symm rfl)
        have b7 : Blk w7 (X + 1) 93 [.int .i64 a.fl, .int .i64 a.fr] := (hg7.block (X + 1) (by have := b2.lt; simp; omega) (fun e => by have := HvX.out _ e.symm; omega)).trans (b2.alloc _)
        obtain ⟨w8, hput, hS8, hg8⟩ := HS7.put (by unfold maxLen; omega) n1 n2
        have hb8 : Below w2.heap.size w2 w8 := hB7.grown hg8 hB7.size (fun j hj => by injection hj with hj; have := HB.out; omega)
        have HS8 : Hid (OwnsSet w8 B (k + 1) (frs (r.dl.take (k + 1)))) := Lib.hid (hS8.same (fun p => by rw [HFr.out]; simp [or_comm]))
        have ho7' : w7.ownsRow w2.heap.size 54 3 v7 (acc ++ [a]).length ((acc ++ [a]).flatMap Dlv.row) := by simpa [Rc.Dlv.row] using ho7
        have HO8 : Hid (w8.ownsRow w2.heap.size 54 3 v7 (acc ++ [a]).length ((acc ++ [a]).flatMap Dlv.row)) := Lib.hid (ho7'.kept hg8 (by
          cases hvb : v7.ownBlock with
          | none => exact .inl rfl
          | some g =>
            refine .inr (fun e => ?_)
            injection e with e
            subst e
            exact HS7.notRow ho7' hvb))
        have hB8 : B < w8.heap.size := Nat.lt_of_lt_of_le hBa (Nat.le_trans (by simp) (Nat.le_trans hg7.size hg8.size))
        obtain ⟨A7, c7, hv7⟩ := own_form2 ho7'
        have rZ := b7.row
        unfold Row at rZ
        clear hS8 hg8 HSa HOa HFr b1 b2 hba ho7 ho7' hg7 HS7 hB6 hB7 hne b7 rX rY
        subst hv7
        go_wp2_with fail
        go_roundw
        case rel => exact ⟨k + 1, _, acc ++ [a], by simp, by omega, by go_num, hb8, hB8, HS8, HO8, HT2⟩
        case measure => simp [intOf]; omega
    · have h1 : k = nd := by omega
      subst h1
      have hto : r.dl.drop k = [] := List.drop_of_length_le (by rw [← HNd.out]; exact Nat.le_refl _)
      have hf : Hid (twGo [] r.dl = acc) := Lib.hid (by rw [HT.out, hto]; simp [twGo])
      obtain ⟨A7, c7, hv7⟩ := own_form2 HO.out
      subst hv7
      go_wp2_with fail
      go_ret2
      exact ⟨(HX.out _ hb).1, _, by rw [hl.out]; rfl, by rw [hl.out]; dsimp only; rw [hf.out]; exact own_base HO.out hw2N⟩
end Go.Proofs.Ytkdigdnacggknaa

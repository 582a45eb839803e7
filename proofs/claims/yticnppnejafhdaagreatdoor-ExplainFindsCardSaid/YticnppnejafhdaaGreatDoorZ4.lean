import Derived.WideKeyEntry
import Derived.Test.YticnppnejafhdaaGreatDoorZ3
set_option linter.unusedVariables false
set_option linter.unusedSimpArgs false
/- 'm[k] = append(m[k], v)' on a map of frames: the entry, the append, the store. -/
namespace Go.Proofs.YticnppnejafhdaaGreatDoor
open Go.RowKit Go.WideMaps Go.Maps Go.WideElems Go.ChangeMaps
open Go.Maps (Keyed)

theorem Tryz.kLaw : KeyLaw Tryz.prog 150 := deep_law_laid Tryz.kLaid (m := 2) (by omega) Tryz.kRow (by kernel_rfl) (by rw [Tryz.underlying150])

section
variable {H : Type} {P : Program} {w w' : World} {t k e : TypeId} {R : Value → Option (DataW H × List MemPlace)} {b : Nat} {es : Array MapEntry} {clock : Nat}
theorem setBlock_inj {o o' : Obj} (hb : b < w.heap.size) (h : setBlock w b o = setBlock w b o') : o = o' := by
  have h1 := congrArg (fun w : World => w.heap[b]?) h
  simpa [setBlock, hb] using h1
/-- A store into a map hangs on the map's block alone. -/
theorem update_same (K : KeyLaw P k) (ht : P.underlying t = some (.map k e)) (hb : w.heap[b]? = some (.map es clock)) (hb' : w'.heap[b]? = some (.map es clock)) (F : Fit P k R es clock)
    {key val : Value} {kl : Lit} (hkey : keyOf P k key = some kl) {o : Obj} (h : (Instr.mapUpdate t (.map (some b)) key val).run P w = .ok () (setBlock w b o)) :
    (Instr.mapUpdate t (.map (some b)) key val).run P w' = .ok () (setBlock w' b o) := by
  obtain ⟨_, _, s3⟩ := F.stamped
  have hlt : b < w.heap.size := (Array.getElem?_eq_some_iff.1 hb).1
  have none_ : ∀ (u : World), u.heap[b]? = some (.map es clock) → (Instr.findKey k key es.toList).run P u = .ok none u → (Instr.mapUpdate t (.map (some b)) key val).run P u = .ok () (setBlock u b (.map (es.push ⟨key, val, clock⟩) (clock + 1))) := fun u hu h1 => by
    simp [Instr.mapUpdate, run_underlying ht, MapKept.run_getObj_map hu, K.check u false hkey, h1, MapKept.run_setObj_map _ hu, Result.andThen, setBlock]
  have some_ : ∀ (u : World) (j : Nat) (e0 : MapEntry), u.heap[b]? = some (.map es clock) → (Instr.findKey k key es.toList).run P u = .ok (some (j, e0.val)) u → es.toList[j]? = some e0 → e0.key = key → (Instr.mapUpdate t (.map (some b)) key val).run P u = .ok () (setBlock u b (.map (es.modify j (fun e' => { e' with key := key, val := val })) clock)) := fun u j e0 hu h1 h2 h3 => by
    have hj : es[j]? = some e0 := by simpa using h2
    simp [Instr.mapUpdate, run_underlying ht, MapKept.run_getObj_map hu, K.check u false hkey, h1, hj, h3, K.stays u hkey, MapKept.run_setObj_map _ hu, Result.andThen, setBlock]
  have out : ∀ {o' : Obj}, (Instr.mapUpdate t (.map (some b)) key val).run P w = .ok () (setBlock w b o') → o' = o := fun h' => by
    rw [h] at h'
    injection h' with _ h'
    exact (setBlock_inj hlt h').symm
  rcases K.find w hkey es.toList F.keys with ⟨h1, h2⟩ | ⟨j, e0, h1, h2, h3⟩
  · rcases K.find w' hkey es.toList F.keys with ⟨h1', _⟩ | ⟨j', e0', _, h2', h3'⟩
    · rw [none_ w' hb' h1', out (none_ w hb h1)]
    · exact absurd h3' (h2 e0' (List.mem_of_getElem? h2'))
  · rcases K.find w' hkey es.toList F.keys with ⟨_, h2'⟩ | ⟨j', e0', h1', h2', h3'⟩
    · exact absurd h3 (h2' e0 (List.mem_of_getElem? h2))
    · have hjj : j = j' := by
        obtain ⟨a1, a2⟩ := List.getElem?_eq_some_iff.1 h2
        obtain ⟨b1, b2⟩ := List.getElem?_eq_some_iff.1 h2'
        have hnd := List.pairwise_iff_getElem.1 (List.nodup_iff_pairwise_ne.1 s3)
        rcases Nat.lt_trichotomy j j' with hlt | heq | hgt
        · exact (hnd j j' (by simpa using a1) (by simpa using b1) hlt (by simp [a2, b2, h3, h3'])).elim
        · exact heq
        · exact (hnd j' j (by simpa using b1) (by simpa using a1) hgt (by simp [a2, b2, h3, h3'])).elim
      subst hjj
      rw [some_ w' j e0' hb' h1' h2' h3', out (some_ w j e0 hb h1 h2 h3)]
end

/-- The list at one frame is turned. -/
def updG (G : Int → Int → List Int) (a c : Int) (zs : List Int) : Int → Int → List Int := fun x y => if x = a ∧ y = c then zs else G x y
theorem OwnsGr.entry {w : World} {base b n : Nat} {G : Int → Int → List Int} (h : OwnsGr w base b n G) (hn : n < maxLen) {a c : Int} (ha : Num64 a) (hc : Num64 c) :
    ∃ v w1 st, (Instr.mapEntry 145 (.map (some b)) (.agg #[.int .i64 a, .int .i64 c])).run Tryz.prog w = .ok (.tuple #[v, goInt (st : Nat)]) w1 ∧ w.grownBy w1 (some b) ∧ w1.heap.size = w.heap.size ∧ w1.ownsInts base 3 .i64 v (G a c) ∧ (G a c).length ≤ n ∧
      ∀ (w2 : World) (v' : Value) (zs' : List Int), w1.grownBy w2 v.ownBlock → w2.ownsInts base 3 .i64 v' zs' → zs' ≠ [] → zs'.length ≤ n + 1 → (v'.ownBlock = v.ownBlock ∨ ∃ g, v'.ownBlock = some g ∧ w.heap.size ≤ g) →
        ∃ w3, (Instr.entryStore 145 (.map (some b)) (goInt (st : Nat)) v').run Tryz.prog w2 = .ok () w3 ∧ OwnsGr w3 base b (n + 1) (updG G a c zs') ∧ w2.grownBy w3 (some b) := by
  obtain ⟨D, h1, hm, h3⟩ := h
  have hkey := keyOf_fr ha hc
  obtain ⟨v, zs, hlook, hat, hoi, hzl, hback⟩ := h1.at Tryz.kKeyed Tryz.underlying145 (Tryz.sZero w) hn hkey
  rw [h3 a c ha hc] at hat
  have hzs := gd_row hoi hat.symm
  subst hzs
  obtain ⟨es, clock, hb, F, hs, hD, hbb, hlen, hap⟩ := h1
  have hlt : b < w.heap.size := (Array.getElem?_eq_some_iff.1 hb).1
  obtain ⟨v0, st, es1, clock1, hent, hv0, hst⟩ := entry_then_store Tryz.kLaw Tryz.underlying145 (fun u => Tryz.sZero u) hb F hkey
  have hbw : ∀ (u : World) (o : Obj), b < u.heap.size → u.grownBy (setBlock u b o) (some b) := fun u o hu => ⟨rfl, rfl, rfl, by simp [setBlock], fun i _ hi => by
    have : b ≠ i := fun e => hi (by rw [e])
    simp [setBlock, this]⟩
  -- the value that the entry hands over is the look-up's
  have hv : v0 = v := by
    rcases Maps.fit_look false Tryz.kKeyed Tryz.underlying145 (Tryz.sZero w) hb F hkey with ⟨hrun, hno, _⟩ | ⟨e0, y, hm0, hk0, hrun, _, _, _⟩
    · have e1 : v = .slice none 0 0 := by rw [hlook] at hrun; injection hrun
      rcases hv0 with ⟨x, hx, hxk, _⟩ | ⟨_, hz⟩
      · exact absurd hxk (hno x hx)
      · rw [hz, e1]
    · have e1 : v = e0.val := by rw [hlook] at hrun; injection hrun
      rcases hv0 with ⟨x, hx, hxk, hxv⟩ | ⟨hno, _⟩
      · obtain ⟨_, _, s3⟩ := F.stamped
        obtain ⟨i, hi, hxi⟩ := List.getElem_of_mem hx
        obtain ⟨j, hj, hej⟩ := List.getElem_of_mem hm0
        have hnd := List.pairwise_iff_getElem.1 (List.nodup_iff_pairwise_ne.1 s3)
        have : i = j := by
          rcases Nat.lt_trichotomy i j with hlt | heq | hgt
          · exact (hnd i j (by simpa using hi) (by simpa using hj) hlt (by simp [hxi, hej, hxk, hk0])).elim
          · exact heq
          · exact (hnd j i (by simpa using hj) (by simpa using hi) hgt (by simp [hxi, hej, hxk, hk0])).elim
        subst this
        rw [hxv, e1, ← hxi, hej]
      · exact absurd hk0 (hno e0 hm0)
  subst hv
  have hvb : v0.ownBlock ≠ some b := fun e => by
    have := (hoi.1.lt b e).1
    omega
  refine ⟨v0, _, st, hent, hbw w _ hlt, by simp [setBlock], hoi.kept (hbw w _ hlt) (.inr hvb), hzl, fun w2 v' zs' hg ho' hne hl' hloc => ?_⟩
  have hw2b : w2.heap[b]? = some (.map es1 clock1) := by
    rw [hg.block b (by simp [setBlock]; exact hlt) (fun e => hvb e.symm)]
    simp [setBlock, hlt]
  have hlt2 : b < w2.heap.size := (Array.getElem?_eq_some_iff.1 hw2b).1
  obtain ⟨es', clock', hstore, hupd⟩ := hst w2 v' hw2b
  -- the world w2 with the old map in it
  obtain ⟨u, hu⟩ : ∃ u, u = setBlock w2 b (.map es clock) := ⟨_, rfl⟩
  have hub : u.heap[b]? = some (.map es clock) := by rw [hu]; simp [setBlock, hlt2]
  have hwu : w.grownBy u v0.ownBlock := by
    refine ⟨by rw [hu]; exact hg.os, by rw [hu]; exact hg.tape, by rw [hu]; exact hg.output, by rw [hu]; have := hg.size; simpa [setBlock] using this, fun i hi hio => ?_⟩
    by_cases hib : i = b
    · subst hib; rw [hub, hb]
    · have h5 : u.heap[i]? = w2.heap[i]? := by rw [hu]; simp [setBlock, Ne.symm hib]
      rw [h5, hg.block i (by simpa [setBlock] using hi) hio]
      simp [setBlock, Ne.symm hib]
  have huo : u.ownsInts base 3 .i64 v' zs' := by
    rw [hu]
    refine ho'.kept (hbw w2 _ hlt2) ?_
    cases hvo : v'.ownBlock with
    | none => exact .inl rfl
    | some g =>
      refine .inr (fun e => ?_)
      injection e with e
      have := (ho'.1.lt g hvo).1
      omega
  obtain ⟨u2, hrun2, hown2, hgr2⟩ := hback u v' zs' hwu huo hl' hloc
  have hupd2 := update_same Tryz.kLaw Tryz.underlying145 hb hub F hkey hupd
  rw [hrun2] at hupd2
  injection hupd2 with _ hupd2
  have hfin : u2 = setBlock w2 b (.map es' clock') := by rw [hupd2, hu]; simp [setBlock]
  rw [hfin] at hown2
  refine ⟨_, hstore, ⟨_, hown2, hm.put _ _, fun x y hx hy => ?_⟩, hbw w2 _ hlt2⟩
  have hgd : rowDatum (H := Unit) .i64 v' zs' = gd zs' := by
    unfold gd
    rw [if_neg hne]
    rcases ho'.1.2 with ⟨_, h0⟩ | ⟨g, cap, cur, rfl, _⟩
    · exact absurd (List.eq_nil_of_length_eq_zero h0) hne
    · rfl
  by_cases e : frKey x y = frKey a c
  · obtain ⟨e1, e2⟩ := frKey_inj hx hy ha hc e
    subst e1 e2
    rw [Go.Maps.atKey_put_same hm (by trivial)]
    simp [updG, hgd]
  · rw [Go.Maps.atKey_put_other e, h3 x y hx hy]
    have hne : ¬ (x = a ∧ y = c) := fun ⟨e1, e2⟩ => e (by rw [e1, e2])
    simp [updG, hne]
end Go.Proofs.YticnppnejafhdaaGreatDoor
/- Walks: the flows and the record are right; where a frame arrived; the slots of deliveries by frame. -/
namespace Go.Proofs.YticnppnejafhdaaGreatDoor
open Go.RowKit
open Nd Rc Mo

theorem Tryz.infoInt : (Tryz.prog.info? 3).map (fun i => (i.zero, i.size, i.bytes)) = some (some (.int .i64 0), 1, 8) := by kernel_rfl

set_option maxHeartbeats 1000000 in
theorem right_any (fs : List Fl) (r : Rec) (F A D : Option Addr) (cf ca cd : Nat) (w : World) (hF : Lies w w.heap.size 6 F (fs.map Fl.row)) (hf : fs.length ≤ 1000000) (hA : LiesA w w.heap.size A r.al) (hD : LiesD w w.heap.size D r.dl) (hla : r.al.length ≤ 1000000) (hld : r.dl.length ≤ 1000000) :
    Calls Tryz.prog 102 #[.slice F fs.length cf, .agg #[.int .i64 r.slots, .slice A r.al.length ca, .slice D r.dl.length cd]] w fun e w' => e = .returned (.bool (right fs r)) ∧ Below w.heap.size w w' := by
  obtain ⟨slots, al, dl⟩ := r
  dsimp only at *
  obtain ⟨na, hna⟩ : ∃ n, n = al.length := ⟨_, rfl⟩
  obtain ⟨nd, hnd⟩ : ∃ n, n = dl.length := ⟨_, rfl⟩
  obtain ⟨W1, hW1⟩ : ∃ W1, W1 = w.alloc (.cells #[.int .i64 slots, .slice A na ca, .slice D nd cd] 35) := ⟨_, rfl⟩
  have hb1 : Below w.heap.size w W1 := by rw [hW1]; exact (Below.refl _ _).alloc (Nat.le_refl _) _
  have bR : Blk W1 w.heap.size 35 [.int .i64 slots, .slice A na ca, .slice D nd cd] := by rw [hW1]; exact Blk.new2 _ [.int .i64 slots, .slice A na ca, .slice D nd cd] rfl
  have Con := Lib.hid (fCheck_any fs F cf W1 (Lies.later hF hb1) hf)
  have Con2 := Lib.hid (fun W (h' : Below W1.heap.size W1 W) => check_any ⟨slots, al, dl⟩ A D ca cd W ((hA.below hb1).more hb1.size |>.below h' |>.more h'.size) ((hD.below hb1).more hb1.size |>.below h' |>.more h'.size) (by dsimp only; omega) (by dsimp only; omega))
  have hT : right fs ⟨slots, al, dl⟩ = (decide ((chkF fs).2 = 0) && (checkE ⟨slots, al, dl⟩ == 0)) := by
    unfold right checkE
    cases good ⟨slots, al, dl⟩ <;> rfl
  rw [hT]
  generalize chkF fs = T at *
  generalize hE : checkE ⟨slots, al, dl⟩ = E at *
  dsimp only at Con2
  rw [← hna, ← hnd] at Con2 ⊢
  generalize fs.length = m at *
  have HR := Lib.hid (fun W (h' : Below W1.heap.size W1 W) => (bR.below h' bR.lt).row)
  have HB1 := Lib.hid hb1
  have hlt : w.heap.size < W1.heap.size := bR.lt
  clear hF hA hD hna hnd hT hE hb1 bR
  subst hW1
  go_enter Tryz.func102, Tryz.ntmps102
  go_wp2_with fail
  refine Con.out.mono ?_
  rintro e w2 ⟨rfl, hb2⟩
  have r2 := HR.out _ hb2
  unfold Row at r2
  have hfin := HB1.out.trans (hb2.mono HB1.out.size)
  have Con3 := Lib.hid (Con2.out _ hb2)
  by_cases hc : T.2 = 0
  · have e1 : (T.2 == 0) = true := by simpa using hc
    have e2 : decide (T.2 = 0) = true := decide_eq_true hc
    have E2 := Lib.hid e2
    clear hc e2 Con Con2 HR
    go_wp2_with (go_at_call 56; (with_reducible refine Con3.out.mono ?_); rintro e w3 ⟨rfl, hb3⟩)
    go_ret
    exact ⟨ret_bool (by rw [E2.out]; first | rfl | simp), hfin.trans (hb3.mono hfin.size)⟩
  · have e1 : (T.2 == 0) = false := by simpa using hc
    have e2 : decide (T.2 = 0) = false := decide_eq_false hc
    have E2 := Lib.hid e2
    clear hc e2 Con Con2 HR Con3
    go_wp2_with fail
    go_ret
    exact ⟨ret_bool (by rw [E2.out]; first | rfl | simp), hfin⟩

set_option maxRecDepth 100000 in
set_option maxHeartbeats 2000000 in
theorem arrival_any (f : Fl) (n : Int) (l : List Int) (A : Option Addr) (c : Nat) (w : World) (hf : fault f = 0) (h0 : 0 ≤ n) (h1 : n ≤ 1000000) (hA : LiesI w w.heap.size A l) (hl : l.length ≤ 1000000) :
    Calls Tryz.prog 105 #[.agg #[.int .i64 f.id, .int .i64 f.fr, .int .i64 f.tn, .int .i64 f.pe, .int .i64 f.ph, .int .i64 f.dl], .int .i64 n, .slice A l.length c] w fun e w' => e = .returned (.tuple #[.int .i64 (arrival f n l).1, .bool (arrival f n l).2]) ∧ Below w.heap.size w w' := by
  obtain ⟨W1, hW1⟩ : ∃ W1, W1 = w.alloc (.cells #[.int .i64 f.id, .int .i64 f.fr, .int .i64 f.tn, .int .i64 f.pe, .int .i64 f.ph, .int .i64 f.dl] 28) := ⟨_, rfl⟩
  have hb1 : Below w.heap.size w W1 := by rw [hW1]; exact (Below.refl _ _).alloc (Nat.le_refl _) _
  have bF : Blk W1 w.heap.size 28 [.int .i64 f.id, .int .i64 f.fr, .int .i64 f.tn, .int .i64 f.pe, .int .i64 f.ph, .int .i64 f.dl] := by rw [hW1]; exact Blk.new2 _ [.int .i64 f.id, .int .i64 f.fr, .int .i64 f.tn, .int .i64 f.pe, .int .i64 f.ph, .int .i64 f.dl] rfl
  have Con := Lib.hid (fun W => Window_any f n hf h0 h1 W)
  have Con2 := Lib.hid (fun W => Due_any f n hf h0 h1 W)
  obtain ⟨q, hq⟩ : ∃ q, q = l.length := ⟨_, rfl⟩
  obtain ⟨T, hT⟩ : ∃ T, T = arrival f n l := ⟨_, rfl⟩
  rw [← hT, ← hq]
  unfold arrival at hT
  have HA := Lib.hid (fun W (h' : Below W1.heap.size W1 W) => (hA.below hb1).more hb1.size |>.below h' |>.more h'.size)
  have HR := Lib.hid (fun W (h' : Below W1.heap.size W1 W) => (bF.below h' bF.lt).row)
  have HB1 := Lib.hid hb1
  obtain ⟨id, fr, tn, pe, ph, dl⟩ := f
  dsimp only at *
  generalize rel ⟨id, fr, tn, pe, ph, dl⟩ n = a at *
  generalize a + dl - 1 = due at *
  generalize a + pe - 1 = last at *
  have HT := Lib.hid hT
  have HQ := Lib.hid hq
  have hlq : q ≤ 1000000 := by rw [hq]; exact hl
  clear hT hA hf hb1 bF hq h0 h1 hl
  subst hW1
  go_enter Tryz.func105, Tryz.ntmps105
  go_wp2_with fail
  refine (Con.out _).mono ?_
  rintro e w2 ⟨rfl, hb2⟩
  have r2 := HR.out _ hb2
  unfold Row at r2
  go_wp2_with fail
  refine (Con2.out _).mono ?_
  rintro e w3 ⟨rfl, hb3⟩
  have hb23 := hb2.trans (hb3.mono hb2.size)
  have HF3 := Lib.hid (HB1.out.trans (hb23.mono HB1.out.size))
  have HA3 := Lib.hid (HA.out _ hb23)
  clear r2 Con Con2 HR HA
  go_wp2_with fail
  go_loopw [13, 31] (fun s13 i wr => ∃ (k : Nat) (late : Int), k ≤ q ∧ s13 = .int .i64 late ∧ i = .int .i64 k ∧ wr = w3 ∧ Hid (T = arrGo a due last (l.drop k) late)) (fun _ i _ => q - (intOf i).toNat)
  case atStart => exact ⟨0, -1, Nat.zero_le _, rfl, rfl, rfl, Lib.hid (by rw [HT.out]; rfl)⟩
  case round =>
    obtain ⟨k, late, hk, rfl, rfl, rfl, hst⟩ := hrel
    by_cases hlt : k < q
    · obtain ⟨s, hs⟩ := get_of_lt (l := l) (k := k) (by rw [← HQ.out]; exact hlt)
      obtain ⟨b, off, rfl, _, hcs⟩ := HA3.out.at_ hs
      have c0 := hcs k s hs
      have hst' : Hid (T = if a ≤ s ∧ s ≤ due then (s, true) else if due < s ∧ s ≤ last ∧ late < 0 then arrGo a due last (l.drop (k + 1)) s else arrGo a due last (l.drop (k + 1)) late) := Lib.hid (by rw [hst.out, drop_of_get hs]; rfl)
      clear hcs hs hst
      by_cases g1 : a ≤ s
      · have d1 : decide (a ≤ s) = true := decide_eq_true g1
        by_cases g2 : s ≤ due
        · have d2 : decide (s ≤ due) = true := decide_eq_true g2
          have hf := Lib.hid (show T = (s, true) by rw [hst'.out, if_pos (by omega)])
          clear hst' g1 g2
          go_wp2_with fail
          go_ret2
          exact ⟨by rw [hf.out]; rfl, HF3.out⟩
        · have d2 : decide (s ≤ due) = false := decide_eq_false g2
          by_cases g3 : due < s
          · have d3 : decide (due < s) = true := decide_eq_true g3
            by_cases g4 : s ≤ last
            · have d4 : decide (s ≤ last) = true := decide_eq_true g4
              by_cases g5 : late < 0
              · have d5 : decide (late < 0) = true := decide_eq_true g5
                have hf := Lib.hid (show T = arrGo a due last (l.drop (k + 1)) s by rw [hst'.out, if_neg (by omega), if_pos (by omega)])
                clear hst' g1 g2 g3 g4 g5
                go_wp2_with fail
                go_roundw
                case rel => exact ⟨k + 1, s, by omega, rfl, by go_num, by trivial, hf⟩
                case measure => simp [intOf]; omega
              · have d5 : decide (late < 0) = false := decide_eq_false g5
                have hf := Lib.hid (show T = arrGo a due last (l.drop (k + 1)) late by rw [hst'.out, if_neg (by omega), if_neg (by omega)])
                clear hst' g1 g2 g3 g4 g5
                go_wp2_with fail
                go_roundw
                case rel => exact ⟨k + 1, late, by omega, rfl, by go_num, by trivial, hf⟩
                case measure => simp [intOf]; omega
            · have d4 : decide (s ≤ last) = false := decide_eq_false g4
              have hf := Lib.hid (show T = arrGo a due last (l.drop (k + 1)) late by rw [hst'.out, if_neg (by omega), if_neg (by omega)])
              clear hst' g1 g2 g3 g4
              go_wp2_with fail
              go_roundw
              case rel => exact ⟨k + 1, late, by omega, rfl, by go_num, by trivial, hf⟩
              case measure => simp [intOf]; omega
          · have d3 : decide (due < s) = false := decide_eq_false g3
            have hf := Lib.hid (show T = arrGo a due last (l.drop (k + 1)) late by rw [hst'.out, if_neg (by omega), if_neg (by omega)])
            clear hst' g1 g2 g3
            go_wp2_with fail
            go_roundw
            case rel => exact ⟨k + 1, late, by omega, rfl, by go_num, by trivial, hf⟩
            case measure => simp [intOf]; omega
      · have d1 : decide (a ≤ s) = false := decide_eq_false g1
        by_cases g3 : due < s
        · have d3 : decide (due < s) = true := decide_eq_true g3
          by_cases g4 : s ≤ last
          · have d4 : decide (s ≤ last) = true := decide_eq_true g4
            by_cases g5 : late < 0
            · have d5 : decide (late < 0) = true := decide_eq_true g5
              have hf := Lib.hid (show T = arrGo a due last (l.drop (k + 1)) s by rw [hst'.out, if_neg (by omega), if_pos (by omega)])
              clear hst' g1 g3 g4 g5
              go_wp2_with fail
              go_roundw
              case rel => exact ⟨k + 1, s, by omega, rfl, by go_num, by trivial, hf⟩
              case measure => simp [intOf]; omega
            · have d5 : decide (late < 0) = false := decide_eq_false g5
              have hf := Lib.hid (show T = arrGo a due last (l.drop (k + 1)) late by rw [hst'.out, if_neg (by omega), if_neg (by omega)])
              clear hst' g1 g3 g4 g5
              go_wp2_with fail
              go_roundw
              case rel => exact ⟨k + 1, late, by omega, rfl, by go_num, by trivial, hf⟩
              case measure => simp [intOf]; omega
          · have d4 : decide (s ≤ last) = false := decide_eq_false g4
            have hf := Lib.hid (show T = arrGo a due last (l.drop (k + 1)) late by rw [hst'.out, if_neg (by omega), if_neg (by omega)])
            clear hst' g1 g3 g4
            go_wp2_with fail
            go_roundw
            case rel => exact ⟨k + 1, late, by omega, rfl, by go_num, by trivial, hf⟩
            case measure => simp [intOf]; omega
        · have d3 : decide (due < s) = false := decide_eq_false g3
          have hf := Lib.hid (show T = arrGo a due last (l.drop (k + 1)) late by rw [hst'.out, if_neg (by omega), if_neg (by omega)])
          clear hst' g1 g3
          go_wp2_with fail
          go_roundw
          case rel => exact ⟨k + 1, late, by omega, rfl, by go_num, by trivial, hf⟩
          case measure => simp [intOf]; omega
    · have hf : Hid (T = (late, false)) := Lib.hid (by rw [hst.out, List.drop_of_length_le (by rw [← HQ.out]; omega)]; rfl)
      go_wp2_with fail
      go_ret2
      exact ⟨by rw [hf.out]; rfl, HF3.out⟩

theorem slots_succ {dl : List Dlv} {k : Nat} {d : Dlv} (h : dl[k]? = some d) (x y : Int) : slotsOf (dl.take (k + 1)) x y = updG (slotsOf (dl.take k)) d.fl d.fr (slotsOf (dl.take k) d.fl d.fr ++ [d.sl]) x y := by
  obtain ⟨hk, rfl⟩ := List.getElem?_eq_some_iff.1 h
  unfold updG slotsOf
  rw [List.take_succ_eq_append_getElem hk, List.filter_append, List.map_append]
  by_cases hq : x = dl[k].fl ∧ y = dl[k].fr
  · rw [if_pos hq, hq.1, hq.2]
    simp
  · rw [if_neg hq]
    have : ¬ ((dl[k].fl == x && dl[k].fr == y) = true) := by
      rw [Bool.and_eq_true, beq_iff_eq, beq_iff_eq]
      exact fun h => hq ⟨h.1.symm, h.2.symm⟩
    have h2 : List.filter (fun d : Dlv => d.fl == x && d.fr == y) [dl[k]] = [] := by
      rw [List.filter_eq_nil_iff]
      intro d hd
      rw [List.mem_singleton.1 hd]
      exact this
    rw [h2]
    simp

set_option maxRecDepth 100000 in
set_option maxHeartbeats 2000000 in
theorem arrivals_any (r : Rec) (A D : Option Addr) (ca cd : Nat) (w : World) (hD : LiesD w w.heap.size D r.dl) (hl : r.dl.length ≤ 1000000) (hn : ∀ d ∈ r.dl, Num64 d.fl ∧ Num64 d.fr ∧ Num64 d.sl) :
    Calls Tryz.prog 103 #[.agg #[.int .i64 r.slots, .slice A r.al.length ca, .slice D r.dl.length cd]] w fun e w' => Below w.heap.size w w' ∧ ∃ b, e = .returned (.map (some b)) ∧ w.heap.size ≤ b ∧ OwnsGr w' (b + 1) b r.dl.length (slotsOf r.dl) := by
  obtain ⟨slots, al, dl⟩ := r
  dsimp only at *
  obtain ⟨i0, hi, hz0, hz1, hz2⟩ := info_parts Tryz.infoInt
  obtain ⟨na, hna⟩ : ∃ n, n = al.length := ⟨_, rfl⟩
  obtain ⟨n, hnd⟩ : ∃ n, n = dl.length := ⟨_, rfl⟩
  rw [← hna, ← hnd]
  rw [← hnd] at hl
  have HN := Lib.hid hnd
  have HNum := Lib.hid hn
  have HD := Lib.hid (fun W (h' : Below w.heap.size w W) => (hD.below h').more h'.size)
  obtain ⟨B, hB⟩ : ∃ B, B = w.heap.size + 1 := ⟨_, rfl⟩
  have HB := Lib.hid hB
  have HS := Lib.hid (OwnsGr.made (w.alloc (.cells #[.int .i64 slots, .slice A na ca, .slice D n cd] 35)))
  have hs1 : (w.alloc (.cells #[.int .i64 slots, .slice A na ca, .slice D n cd] 35)).heap.size = B := by rw [hB]; simp
  rw [hs1] at HS
  clear hna hnd hn hD
  have hmm := @run_makeMap Tryz.prog
  go_enter Tryz.func103, Tryz.ntmps103
  go_wp2_with fail
  rw [← hB]
  clear hB hs1
  go_loopw [12] (fun i wr => ∃ (k : Nat), k ≤ n ∧ i = .int .i64 k ∧ Below w.heap.size w wr ∧ B + 1 ≤ wr.heap.size ∧ Hid (OwnsGr wr (B + 1) B k (slotsOf (dl.take k)))) (fun i _ => n - (intOf i).toNat)
  case atStart => exact ⟨0, Nat.zero_le _, rfl, by repeat (first | exact Below.refl _ _ | refine Below.alloc ?_ (by simp) _), by have := HB.out; simp; omega, HS⟩
  case round =>
    clear HS
    obtain ⟨k, hk, rfl, hb, hBw, HO⟩ := hrel
    by_cases hlt : k < n
    · obtain ⟨a, ha⟩ := get_of_lt (l := dl) (k := k) (by rw [← HN.out]; exact hlt)
      obtain ⟨b, off, rfl, hbB, hcs⟩ := (HD.out _ hb).at_ ha
      obtain ⟨c0, c1, c2⟩ := hcs k a ha
      obtain ⟨n1, n2, n3⟩ := HNum.out a (List.mem_of_getElem? ha)
      have HSt := Lib.hid (fun x y => slots_succ ha x y)
      clear hcs ha
      go_upto_region 6 with fail
      clear c0 c1 c2
      generalize hW1 : World.alloc _ _ = W1
      have b1 : Blk W1 wr.heap.size 137 [.int .i64 a.fl, .int .i64 a.fr, .int .i64 a.sl] := by rw [← hW1]; exact Blk.alloc (Blk.new2 _ [.int .i64 a.fl, .int .i64 a.fr, .int .i64 a.sl] rfl) _
      have b2 : Blk W1 (wr.heap.size + 1) 150 [.int .i64 a.fl, .int .i64 a.fr] := by rw [← hW1]; exact Blk.new2 _ [.int .i64 a.fl, .int .i64 a.fr] (by simp)
      have hbw : Below wr.heap.size wr W1 := by rw [← hW1]; exact ((Below.refl _ _).alloc (Nat.le_refl _) _).alloc (by simp) _
      have hb1 : Below w.heap.size w W1 := hb.trans (hbw.mono hb.size)
      have HO1 := Lib.hid (HO.out.below hbw)
      have hBw1 : B + 1 ≤ W1.heap.size := Nat.le_trans hBw hbw.size
      clear hW1 HO
      obtain ⟨W2, hW2⟩ : ∃ W2, W2 = W1.alloc (.cells #[.int .i64 a.sl] 3) := ⟨_, rfl⟩
      have hbw2 : Below W1.heap.size W1 W2 := by rw [hW2]; exact (Below.refl _ _).alloc (Nat.le_refl _) _
      have b3 : Blk W2 W1.heap.size 3 [.int .i64 a.sl] := by rw [hW2]; exact Blk.new2 _ [.int .i64 a.sl] rfl
      have hb2 : Below w.heap.size w W2 := hb1.trans (hbw2.mono hb1.size)
      have hBw2 : B + 1 ≤ W2.heap.size := Nat.le_trans hBw1 hbw2.size
      obtain ⟨v, w1, st, hent, hg1, hs1, hoi, hzl, hback⟩ := (HO1.out.below hbw2).entry (by unfold maxLen; omega) n1 n2
      have b4 : Blk w1 W1.heap.size 3 [.int .i64 a.sl] := (hg1.block _ b3.lt (fun e => by injection e; omega)).trans b3
      have hb4 : Below w.heap.size w w1 := hb2.grown hg1 hb2.size (fun j hj => by injection hj with hj; have := HB.out; omega)
      have HOI := Lib.hid hoi
      have HBack := Lib.hid hback
      have HB4 := Lib.hid hb4
      have HB4' := Lib.hid b4
      have HZ := Lib.hid hzl
      have hs1' : Hid (w1.heap.size = W2.heap.size) := Lib.hid hs1
      have c1 := b1.row
      have c2 := b2.row
      unfold Row at c1 c2
      clear hoi hback hb4 b4 b3 hzl hs1 hg1 hbw hbw2 HO1 hb2
      subst hW2
      go_wp2_with (at_builtin; refine wpList_append_own_at _ rfl (.tmp 23) (.tmp 26) 24 rfl (B + 1) 3 i0 (.int .i64 0) 1 8 Tryz.underlying24 hi hz0 hz1 hz2 rfl (by decide) v _ _ rfl HOI.out.1 ⟨W1.heap.size, 0, none⟩ 1 1 [.int .i64 a.sl] rfl rfl ?e0 ?e1 ?e2 ?e3 ?e4 ?_)
      case e0 => exact HB4'.out.news2
      case e1 => intro u hu; simp only [List.mem_cons, List.not_mem_nil, or_false] at hu; subst hu; rfl
      case e2 => have := HZ.out; unfold maxLen; omega
      case e3 => have := HZ.out; omega
      case e4 => have := hs1'.out; omega
      intro v' w2 hown' hgrow hnil hloc
      have hint : w2.ownsInts (B + 1) 3 .i64 v' (slotsOf (dl.take k) a.fl a.fr ++ [a.sl]) := ⟨by rw [List.length_append, List.map_append]; exact hown', fun z hz => by
        rcases List.mem_append.1 hz with h | h
        · exact HOI.out.2 z h
        · rw [List.mem_singleton.1 h]; exact n3⟩
      obtain ⟨w3, hsto, ho3, hg3⟩ := HBack.out w2 v' _ hgrow hint (by simp) (by rw [List.length_append]; have := HZ.out; simpa using this) (hloc.imp id (fun h => ⟨_, h, by rw [hs1'.out]; exact Nat.le_refl _⟩))
      have hb5 : Below w.heap.size w w2 := HB4.out.grown hgrow HB4.out.size (fun j hj => by have h1 := (HOI.out.1.lt j hj).1; have := HB.out; omega)
      have hb6 : Below w.heap.size w w3 := hb5.grown hg3 hb5.size (fun j hj => by injection hj with hj; have := HB.out; omega)
      have HB6 : Hid (B + 1 ≤ w3.heap.size) := Lib.hid (by have h1 := hgrow.size; have h2 := hg3.size; have := hs1'.out; omega)
      have HO3 : Hid (OwnsGr w3 (B + 1) B (k + 1) (slotsOf (dl.take (k + 1)))) := Lib.hid (by rw [show slotsOf (dl.take (k + 1)) = _ from funext fun x => funext fun y => HSt.out x y]; exact ho3)
      have hsto' : (Instr.entryStore 145 (.map (some B)) (.int .i64 (st : Int)) v').run Tryz.prog w2 = .ok () w3 := hsto
      clear hint hown' hgrow hnil hloc ho3 hg3 HBack HOI HB4 HB4' HZ HSt hb5 c1 c2 b1 b2 hsto
      go_wp2_with fail
      go_roundw
      case rel => exact ⟨k + 1, by omega, by go_num, hb6, HB6.out, HO3⟩
      case measure => simp [intOf]; omega
    · have hf : Hid (OwnsGr wr (B + 1) B n (slotsOf dl)) := Lib.hid (by
        have h1 : k = n := by omega
        subst h1
        have := HO.out
        rwa [List.take_of_length_le (by rw [← HN.out]; exact Nat.le_refl _)] at this)
      go_wp2_with fail
      go_ret
      exact ⟨hb, B, rfl, by have := HB.out; omega, hf.out⟩
end Go.Proofs.YticnppnejafhdaaGreatDoor
/- Walk: Late of package monitor. -/
namespace Go.Proofs.YticnppnejafhdaaGreatDoor
open Go.RowKit
open Nd Rc Mo

def Mo.Lt.row (x : Lt) : List Value := [.int .i64 x.fl, .int .i64 x.fr, .int .i64 x.sl]
theorem Tryz.infoL : (Tryz.prog.info? 39).map (fun i => (i.zero, i.size, i.bytes)) = some (some (.agg #[.int .i64 0, .int .i64 0, .int .i64 0]), 3, 24) := by kernel_rfl
theorem lateN_len (f : Fl) (dl : List Dlv) (n : Nat) : (lateN f dl n).length ≤ 1 := by unfold lateN; split <;> simp
theorem range_len (f : Fl) (dl : List Dlv) : ∀ n : Nat, ((List.range n).flatMap (lateN f dl)).length ≤ n
  | 0 => by simp
  | n + 1 => by
    rw [List.range_succ, List.flatMap_append, List.length_append]
    have := range_len f dl n
    have h := lateN_len f dl n
    simp only [List.flatMap_cons, List.flatMap_nil, List.append_nil]
    omega
theorem late_len {r : Rec} (hs : r.slots ≤ 4096) : ∀ (l : List Fl), (∀ f ∈ l, fault f = 0) → (l.flatMap (fun f => lateF f r)).length ≤ l.length * 4096
  | [], _ => by simp
  | f :: l, h => by
    rw [List.flatMap_cons, List.length_append, List.length_cons]
    have h1 := late_len hs l (fun g hg => h g (List.mem_cons_of_mem _ hg))
    have h2 := range_len f r.dl (complete f r.slots).toNat
    have h3 := complete_bounds (h f List.mem_cons_self) hs
    have : (lateF f r).length ≤ 4096 := by unfold lateF; omega
    omega
theorem take_snoc {α : Type} {l : List α} {k : Nat} {a : α} (h : l[k]? = some a) : l.take (k + 1) = l.take k ++ [a] := by
  obtain ⟨hk, rfl⟩ := List.getElem?_eq_some_iff.1 h
  rw [List.take_succ_eq_append_getElem hk]
/-- What has been found behind n frames of flow k. -/
def lateQ (fs : List Fl) (r : Rec) (k : Nat) (f : Fl) (n : Nat) : List Lt := (fs.take k).flatMap (fun f => lateF f r) ++ (List.range n).flatMap (lateN f r.dl)
theorem lateQ_succ (fs : List Fl) (r : Rec) (k : Nat) (f : Fl) (n : Nat) : lateQ fs r k f (n + 1) = lateQ fs r k f n ++ lateN f r.dl n := by
  unfold lateQ
  rw [List.range_succ, List.flatMap_append, ← List.append_assoc]
  simp
theorem lateQ_end {fs : List Fl} {r : Rec} {k : Nat} {f : Fl} (h : fs[k]? = some f) : lateQ fs r k f (complete f r.slots).toNat = (fs.take (k + 1)).flatMap (fun f => lateF f r) := by
  unfold lateQ
  rw [take_snoc h, List.flatMap_append]
  simp [lateF]
theorem num_small {a : Int} (h : 0 ≤ a ∧ a ≤ 1000000000) : Num64 a := num64_of (by omega)

set_option maxRecDepth 100000 in
set_option maxHeartbeats 4000000 in
theorem late_any (fs : List Fl) (r : Rec) (F A D : Option Addr) (cf ca cd : Nat) (w : World) (hF : Lies w w.heap.size 6 F (fs.map Fl.row)) (hf : fs.length ≤ 1000000) (hA : LiesA w w.heap.size A r.al) (hD : LiesD w w.heap.size D r.dl) (hla : r.al.length ≤ 1000000) (hld : r.dl.length ≤ 1000000) :
    Calls Tryz.prog 67 #[.slice F fs.length cf, .agg #[.int .i64 r.slots, .slice A r.al.length ca, .slice D r.dl.length cd]] w fun e w' => Below w.heap.size w w' ∧ ∃ v, e = .returned (.tuple #[v, .int .i64 (late fs r).2]) ∧ w'.ownsRow w.heap.size 39 3 v (late fs r).1.length ((late fs r).1.flatMap Lt.row) := by
  obtain ⟨i0, hi, hz0, hz1, hz2⟩ := info_parts Tryz.infoL
  obtain ⟨N, hN⟩ : ∃ N, N = w.heap.size := ⟨_, rfl⟩
  obtain ⟨na, hna⟩ : ∃ n, n = r.al.length := ⟨_, rfl⟩
  obtain ⟨nd, hnd⟩ : ∃ n, n = r.dl.length := ⟨_, rfl⟩
  obtain ⟨m, hm⟩ : ∃ m, m = fs.length := ⟨_, rfl⟩
  obtain ⟨slots, hsl⟩ : ∃ s, s = r.slots := ⟨_, rfl⟩
  obtain ⟨W1, hW1⟩ : ∃ W1, W1 = w.alloc (.cells #[.int .i64 slots, .slice A na ca, .slice D nd cd] 35) := ⟨_, rfl⟩
  have hb1 : Below N w W1 := by rw [hW1, hN]; exact (Below.refl _ _).alloc (Nat.le_refl _) _
  have bR : Blk W1 N 35 [.int .i64 slots, .slice A na ca, .slice D nd cd] := by rw [hW1]; exact Blk.new2 _ [.int .i64 slots, .slice A na ca, .slice D nd cd] hN
  have HW := Lib.hid (fun W (h' : Below W1.heap.size W1 W) => (show Below w.heap.size w W ∧ Row W N [.int .i64 slots, .slice A na ca, .slice D nd cd] from ⟨by rw [← hN]; exact hb1.trans (h'.mono (by have := bR.lt; omega)), (bR.below h' bR.lt).row⟩))
  have HF := Lib.hid (fun W (h' : Below W1.heap.size W1 W) => Lies.later hF (HW.out W h').1)
  have HRt := Lib.hid (right_any fs r F A D cf ca cd W1 (HF.out _ (Below.refl _ _)) hf ((hA.below (HW.out _ (Below.refl _ _)).1).more (HW.out _ (Below.refl _ _)).1.size) ((hD.below (HW.out _ (Below.refl _ _)).1).more (HW.out _ (Below.refl _ _)).1.size) hla hld)
  have HAr := Lib.hid (fun (hg : good r = true) W (h' : Below W1.heap.size W1 W) => arrivals_any r A D ca cd W ((hD.below (HW.out W h').1).more (HW.out W h').1.size) hld (fun d hd => by
    obtain ⟨a1, a2, a3, a4, a5, a6⟩ := good_dlv hg hd
    have := (good_slots hg).2
    exact ⟨num_small (by omega), num_small (by omega), num_small (by omega)⟩))
  rw [← hna, ← hnd, ← hsl] at HRt HAr ⊢
  rw [← hm] at HRt ⊢
  rw [← hnd] at hld
  have HM := Lib.hid hm
  have HSl := Lib.hid hsl
  have HNd := Lib.hid hnd
  have HW1 := Lib.hid hW1
  have HN := Lib.hid hN
  have hNlt : N < W1.heap.size := bR.lt
  clear hF hA hD hna hnd hm hsl hb1 bR hN hf hla
  have r1 := (HW.out _ (Below.refl _ _)).2
  unfold Row at r1
  subst hW1
  go_enter Tryz.func67, Tryz.ntmps67
  clear r1
  go_wp2_with fail
  rw [← HN.out]
  refine HRt.out.mono ?_
  rintro e w2 ⟨rfl, hb2⟩
  clear HRt
  cases hr : right fs r with
  | false =>
    have hl : Hid (late fs r = ([], 1)) := Lib.hid (by unfold late; rw [hr]; rfl)
    clear hr HAr
    go_wp2_with fail
    go_ret2
    exact ⟨(HW.out _ hb2).1, _, by rw [hl.out]; rfl, by rw [hl.out]; exact World.ownsRow_nil _ _ _ _⟩
  | true =>
    have hl : Hid (late fs r = (fs.flatMap (fun f => lateF f r), 0)) := Lib.hid (by unfold late; rw [if_pos hr])
    obtain ⟨hc, hg⟩ := right_inv hr
    obtain ⟨hfa, _, hm16⟩ := chkF_ok hc
    obtain ⟨hs0, hs1⟩ := good_slots hg
    have HFa := Lib.hid hfa
    have HAr := Lib.hid (HAr.out hg _ hb2)
    rw [← HSl.out] at hs0 hs1
    have hm16' : m ≤ 16 := by rw [HM.out]; exact hm16
    have r2 := (HW.out _ hb2).2
    unfold Row at r2
    clear hc hg hfa hr hm16
    go_wp2_with fail
    refine HAr.out.mono ?_
    rintro e w3 ⟨hb3, b, rfl, hbb, hO⟩
    clear HAr r2
    have hB3 : Below (World.heap (w.alloc (.cells #[.int .i64 slots, .slice A na ca, .slice D nd cd] 35))).size (w.alloc (.cells #[.int .i64 slots, .slice A na ca, .slice D nd cd] 35)) w3 := hb2.trans (hb3.mono hb2.size)
    have HG := Lib.hid (fun W (h' : Below w3.heap.size w3 W) => (show OwnsGr W (b + 1) b nd (slotsOf r.dl) from hO.below h'))
    have HX := Lib.hid (fun W (h' : Below w3.heap.size w3 W) => (show Below w.heap.size w W ∧ Row W N [.int .i64 slots, .slice A na ca, .slice D nd cd] ∧ Lies W W.heap.size 6 F (fs.map Fl.row) ∧ w3.heap.size ≤ W.heap.size from ⟨(HW.out _ (hB3.trans (h'.mono hB3.size))).1, (HW.out _ (hB3.trans (h'.mono hB3.size))).2, HF.out _ (hB3.trans (h'.mono hB3.size)), h'.size⟩))
    have hMN : N < w3.heap.size := Nat.lt_of_lt_of_le hNlt hB3.size
    have hbM : b < w3.heap.size := by
      obtain ⟨D0, h1, _⟩ := hO
      obtain ⟨es, clock, hb0, _⟩ := h1
      exact (Array.getElem?_eq_some_iff.1 hb0).1
    clear hO hb3 hb2 HW HF hbb
    go_wp2_with fail
    go_loopw [7, 21] (fun s7 i wr => ∃ (k : Nat) (v : Value), v = s7 ∧ k ≤ m ∧ i = .int .i64 k ∧ Below w3.heap.size w3 wr ∧ Hid (wr.ownsRow w3.heap.size 39 3 v ((fs.take k).flatMap (fun f => lateF f r)).length (((fs.take k).flatMap (fun f => lateF f r)).flatMap Lt.row))) (fun _ i _ => m - (intOf i).toNat)
    case atStart => exact ⟨0, _, rfl, by omega, rfl, Below.refl _ _, Lib.hid (World.ownsRow_nil _ _ _ _)⟩
    case round =>
      obtain ⟨k, v, rfl, hk, rfl, hb, HO⟩ := hrel
      by_cases hlt : k < m
      · obtain ⟨f, hfk⟩ := get_of_lt (l := fs) (k := k) (by rw [← HM.out]; exact hlt)
        have hff := HFa.out f (List.mem_of_getElem? hfk)
        obtain ⟨fb, foff, rfl, hfB, hcs⟩ := (HX.out _ hb).2.2.1.at_ hfk
        have c0 := hcs k f hfk 0 _ rfl
        have c1 := hcs k f hfk 1 _ rfl
        have c2 := hcs k f hfk 2 _ rfl
        have c3 := hcs k f hfk 3 _ rfl
        have c4 := hcs k f hfk 4 _ rfl
        have c5 := hcs k f hfk 5 _ rfl
        simp only [Nat.add_zero] at c0 c1 c2 c3 c4 c5
        have HFk := Lib.hid hfk
        clear hcs
        go_upto_region 8 with fail
        clear c0 c1 c2 c3 c4 c5 hfk
        obtain ⟨X, hX⟩ : ∃ X, X = wr.heap.size := ⟨_, rfl⟩
        generalize hWa : World.alloc _ _ = Wa
        have bX : Blk Wa X 28 [.int .i64 f.id, .int .i64 f.fr, .int .i64 f.tn, .int .i64 f.pe, .int .i64 f.ph, .int .i64 f.dl] := by rw [← hWa]; exact Blk.new2 _ [.int .i64 f.id, .int .i64 f.fr, .int .i64 f.tn, .int .i64 f.pe, .int .i64 f.ph, .int .i64 f.dl] hX
        have hba : Below w3.heap.size w3 Wa := by rw [← hWa]; exact hb.alloc hb.size _
        have HOa : Hid (Wa.ownsRow w3.heap.size 39 3 v ((fs.take k).flatMap (fun f => lateF f r)).length (((fs.take k).flatMap (fun f => lateF f r)).flatMap Lt.row)) := Lib.hid (by rw [← hWa]; exact HO.out.alloc _)
        rw [← hX]
        have hXM : w3.heap.size ≤ X := by rw [hX]; exact hb.size
        clear hWa hX HO hb
        have Con := Lib.hid (complete_any f slots (.slice A na ca) (.slice D nd cd) hff hs0 hs1 rfl rfl Wa)
        have hcb := complete_bounds hff hs1
        obtain ⟨cn, hcn⟩ : ∃ cn : Nat, complete f slots = (cn : Int) := ⟨(complete f slots).toNat, by omega⟩
        have HCN : Hid (cn = (complete f r.slots).toNat) := Lib.hid (by rw [← HSl.out, hcn]; rfl)
        have hcn4 : cn ≤ 4096 := by omega
        rw [hcn] at Con
        have rX := bX.row
        have r3 := (HX.out _ hba).2.1
        unfold Row at rX r3
        clear hcb hcn
        go_wp2_with fail
        refine Con.out.mono ?_
        rintro e w4 ⟨rfl, hb4⟩
        have hB4 : Below w3.heap.size w3 w4 := hba.trans (hb4.mono hba.size)
        have HX4 : Hid (Blk w4 X 28 [.int .i64 f.id, .int .i64 f.fr, .int .i64 f.tn, .int .i64 f.pe, .int .i64 f.ph, .int .i64 f.dl]) := Lib.hid (bX.below hb4 bX.lt)
        have HO4 : Hid (w4.ownsRow w3.heap.size 39 3 v (lateQ fs r k f 0).length ((lateQ fs r k f 0).flatMap Lt.row)) := Lib.hid (by have := own_below HOa.out hb4 (Nat.le_refl _); unfold lateQ; simpa using this)
        have HQl : Hid (∀ n, n ≤ 4096 → (lateQ fs r k f n).length ≤ 100000) := Lib.hid (fun n hn => by
          unfold lateQ
          rw [List.length_append]
          have h1 := late_len (r := r) (by rw [← HSl.out]; exact hs1) (fs.take k) (fun g hg => HFa.out g (List.mem_of_mem_take hg))
          have h2 := range_len f r.dl n
          have h3 := List.length_take_le k fs
          rw [List.length_take] at h1
          have h4 : min k fs.length ≤ 16 := by omega
          omega)
        clear Con rX r3 bX hba HOa hb4
        go_wp2_with fail
        go_loopw [7, 28] (fun s7 j wr => ∃ (n : Nat) (v : Value), v = s7 ∧ n ≤ cn ∧ j = .int .i64 n ∧ Below w3.heap.size w3 wr ∧ Hid (Blk wr X 28 [.int .i64 f.id, .int .i64 f.fr, .int .i64 f.tn, .int .i64 f.pe, .int .i64 f.ph, .int .i64 f.dl]) ∧ Hid (wr.ownsRow w3.heap.size 39 3 v (lateQ fs r k f n).length ((lateQ fs r k f n).flatMap Lt.row))) (fun _ j _ => cn - (intOf j).toNat)
        case atStart => exact ⟨0, _, rfl, by omega, rfl, hB4, HX4, HO4⟩
        case round =>
          clear HX4 HO4 hB4
          obtain ⟨n, v2, rfl, hn, rfl, hb, HXb, HO⟩ := hrel
          by_cases hlt2 : n < cn
          · obtain ⟨wd, hwd⟩ : ∃ wd, wd = wr.drew := ⟨_, rfl⟩
            have hbd : Below wr.heap.size wr wd := by rw [hwd]; exact (Below.refl _ _).drew
            obtain ⟨u5, hlook', hoi⟩ := (HG.out wd (hb.trans (hbd.mono hb.size))).look (by unfold maxLen; omega) (a := f.id) (c := (n : Int)) (num_small (by obtain ⟨h1, _⟩ := fault_zero hff; omega)) (num_small (by omega))
            obtain ⟨A5, c5, hu5⟩ := own_form2 hoi.1
            have hl5 : (slotsOf r.dl f.id (n : Int)).length ≤ 1000000 := by
              have h1 : (slotsOf r.dl f.id (n : Int)).length ≤ r.dl.length := by unfold slotsOf; rw [List.length_map]; exact List.length_filter_le _ _
              have := HNd.out
              omega
            have hI5 : LiesI wd wd.heap.size A5 (slotsOf r.dl f.id (n : Int)) := by
              have h1 := hoi.1
              rw [hu5] at h1
              exact own_I (by rw [flatI_map]; exact h1)
            have Con := Lib.hid (arrival_any f n (slotsOf r.dl f.id (n : Int)) A5 c5 wd hff (by omega) (by omega) hI5 hl5)
            rw [hu5] at hlook'
            obtain ⟨T5, hT5⟩ : ∃ T5, T5 = arrival f n (slotsOf r.dl f.id (n : Int)) := ⟨_, rfl⟩
            rw [← hT5] at Con
            have HT5 : Hid (lateN f r.dl n = if T5.2 = true then [] else [⟨f.id, n, T5.1⟩]) := Lib.hid (by unfold lateN; rw [← hT5])
            obtain ⟨q5, hq5⟩ : ∃ q, q = (slotsOf r.dl f.id (n : Int)).length := ⟨_, rfl⟩
            rw [← hq5] at Con hlook'
            have HXd : Hid (Blk wd X 28 [.int .i64 f.id, .int .i64 f.fr, .int .i64 f.tn, .int .i64 f.pe, .int .i64 f.ph, .int .i64 f.dl]) := Lib.hid (by rw [hwd]; exact HXb.out.drew)
            have hXl : X < wr.heap.size := HXb.out.lt
            have HDZ : Hid (wr.heap.size = wd.heap.size) := Lib.hid (by rw [hwd]; rfl)
            have hBd : Below w3.heap.size w3 wd := hb.trans (hbd.mono hb.size)
            have HOd : Hid (wd.ownsRow w3.heap.size 39 3 v2 (lateQ fs r k f n).length ((lateQ fs r k f n).flatMap Lt.row)) := Lib.hid (own_below HO.out hbd (Nat.le_refl _))
            have hn6 : (n : Int) ≤ 1000000 := by omega
            clear hoi hu5 hI5 hl5 hT5 hq5 hbd
            go_upto_region 11 with fail
            refine wp_region_rough (wr.heap.size) 14 [] #[false, false, false, false, false, false, false, false, false, false, false, false, false, false] (by kernel_rfl) rfl rfl ?_
            rw [← hwd]
            clear hwd
            have y0 : ∀ (x' : ExtW wr.heap.size wd), x'.val.cell? ⟨X, 0, none⟩ = some (.int .i64 f.id) := fun x' => (x'.cell _ hXl).trans (HXd.out.row 0)
            have y1 : ∀ (x' : ExtW wr.heap.size wd), x'.val.cell? ⟨X, 1, none⟩ = some (.int .i64 f.fr) := fun x' => (x'.cell _ hXl).trans (HXd.out.row 1)
            have y2 : ∀ (x' : ExtW wr.heap.size wd), x'.val.cell? ⟨X, 2, none⟩ = some (.int .i64 f.tn) := fun x' => (x'.cell _ hXl).trans (HXd.out.row 2)
            have y3 : ∀ (x' : ExtW wr.heap.size wd), x'.val.cell? ⟨X, 3, none⟩ = some (.int .i64 f.pe) := fun x' => (x'.cell _ hXl).trans (HXd.out.row 3)
            have y4 : ∀ (x' : ExtW wr.heap.size wd), x'.val.cell? ⟨X, 4, none⟩ = some (.int .i64 f.ph) := fun x' => (x'.cell _ hXl).trans (HXd.out.row 4)
            have y5 : ∀ (x' : ExtW wr.heap.size wd), x'.val.cell? ⟨X, 5, none⟩ = some (.int .i64 f.dl) := fun x' => (x'.cell _ hXl).trans (HXd.out.row 5)
            refine anyR_take 0 _ (nth0) rfl (by kernel_rfl) (by kernel_rfl) (by kernel_rfl) (by kernel_rfl) (l' := #[true, false, false, false, false, false, false, false, false, false, false, false, false, false]) rfl rfl ?_; intro K hK; go_big_quiet_op; go_big_quiet_on
            refine anyR_take0 1 _ (nthS (nth0)) rfl (by kernel_rfl) (by kernel_rfl) (by kernel_rfl) (l' := #[true, true, false, false, false, false, false, false, false, false, false, false, false, false]) rfl rfl ?_; intro K hK; go_big_quiet_op; go_big_quiet_on
            refine anyR_take0 2 _ (nthS (nthS (nth0))) rfl (by kernel_rfl) (by kernel_rfl) (by kernel_rfl) (l' := #[true, true, true, false, false, false, false, false, false, false, false, false, false, false]) rfl rfl ?_; intro K hK; go_big_quiet_op; go_big_quiet_on
            refine anyR_take0 3 _ (nthS (nthS (nthS (nth0)))) rfl (by kernel_rfl) (by kernel_rfl) (by kernel_rfl) (l' := #[true, true, true, true, false, false, false, false, false, false, false, false, false, false]) rfl rfl ?_; intro K hK; go_big_quiet_op; go_big_quiet_on
            refine anyR_take 4 _ (nthS (nthS (nthS (nthS (nth0))))) rfl (by kernel_rfl) (by kernel_rfl) (by kernel_rfl) (by kernel_rfl) (l' := #[true, true, true, true, true, false, false, false, false, false, false, false, false, false]) rfl rfl ?_; intro K hK; go_big_quiet_op; go_big_quiet_on
            refine anyR_take0 5 _ (nthS (nthS (nthS (nthS (nthS (nth0)))))) rfl (by kernel_rfl) (by kernel_rfl) (by kernel_rfl) (l' := #[true, true, true, true, true, true, false, false, false, false, false, false, false, false]) rfl rfl ?_; intro K hK; go_big_quiet_op; go_big_quiet_on
            refine anyR_take0 6 _ (nthS (nthS (nthS (nthS (nthS (nthS (nth0))))))) rfl (by kernel_rfl) (by kernel_rfl) (by kernel_rfl) (l' := #[true, true, true, true, true, true, true, false, false, false, false, false, false, false]) rfl rfl ?_; intro K hK; go_big_quiet_op; go_big_quiet_on
            refine anyR_one 7 _ (nthS (nthS (nthS (nthS (nthS (nthS (nthS (nth0)))))))) (by kernel_rfl) (l' := #[true, true, true, true, true, true, true, true, false, false, false, false, false, false]) rfl ?_
            clear y0 y1 y2 y3 y4 y5
            go_wp2_with fail
            clear hlook'
            refine OneR_mk (Below.refl _ _) ?_
            refine anyR_one 8 _ (nthS (nthS (nthS (nthS (nthS (nthS (nthS (nthS (nth0))))))))) (by kernel_rfl) (l' := #[true, true, true, true, true, true, true, true, true, false, false, false, false, false]) rfl ?_
            go_wp2_with fail
            refine Con.out.mono ?_
            rintro e w5 ⟨rfl, hb5⟩
            clear Con
            go_wp2_with fail
            refine OneR_mk (hb5.mono (Nat.le_of_eq HDZ.out)) ?_
            refine anyR_take0 9 _ (nthS (nthS (nthS (nthS (nthS (nthS (nthS (nthS (nthS (nth0)))))))))) rfl (by kernel_rfl) (by kernel_rfl) (by kernel_rfl) (l' := #[true, true, true, true, true, true, true, true, true, true, false, false, false, false]) rfl rfl ?_; intro K hK; go_big_quiet_op; go_big_quiet_on
            refine anyR_take0 10 _ (nthS (nthS (nthS (nthS (nthS (nthS (nthS (nthS (nthS (nthS (nth0))))))))))) rfl (by kernel_rfl) (by kernel_rfl) (by kernel_rfl) (l' := #[true, true, true, true, true, true, true, true, true, true, true, false, false, false]) rfl rfl ?_; intro K hK; go_big_quiet_op; go_big_quiet_on
            refine anyR_take0 11 _ (nthS (nthS (nthS (nthS (nthS (nthS (nthS (nthS (nthS (nthS (nthS (nth0)))))))))))) rfl (by kernel_rfl) (by kernel_rfl) (by kernel_rfl) (l' := #[true, true, true, true, true, true, true, true, true, true, true, true, false, false]) rfl rfl ?_; intro K hK; go_big_quiet_op; go_big_quiet_on
            refine anyR_take0 12 _ (nthS (nthS (nthS (nthS (nthS (nthS (nthS (nthS (nthS (nthS (nthS (nthS (nth0))))))))))))) rfl (by kernel_rfl) (by kernel_rfl) (by kernel_rfl) (l' := #[true, true, true, true, true, true, true, true, true, true, true, true, true, false]) rfl rfl ?_; intro K hK; go_big_quiet_op; go_big_quiet_on
            refine anyR_take0 13 _ (nthS (nthS (nthS (nthS (nthS (nthS (nthS (nthS (nthS (nthS (nthS (nthS (nthS (nth0)))))))))))))) rfl (by kernel_rfl) (by kernel_rfl) (by kernel_rfl) (l' := #[true, true, true, true, true, true, true, true, true, true, true, true, true, true]) rfl rfl ?_; intro K hK; go_big_quiet_op; go_big_quiet_on
            refine anyR_end (by kernel_rfl) ?_
            have hB5 : Below w3.heap.size w3 w5 := hBd.trans (hb5.mono hBd.size)
            have HX5 : Hid (Blk w5 X 28 [.int .i64 f.id, .int .i64 f.fr, .int .i64 f.tn, .int .i64 f.pe, .int .i64 f.ph, .int .i64 f.dl]) := Lib.hid (HXd.out.below hb5 HXd.out.lt)
            have HO5 : Hid (w5.ownsRow w3.heap.size 39 3 v2 (lateQ fs r k f n).length ((lateQ fs r k f n).flatMap Lt.row)) := Lib.hid (own_below HOd.out hb5 (Nat.le_refl _))
            clear HOd HXd hBd HDZ hb5 HO HXb hb hXl hn6
            cases hok : T5.2 with
            | true =>
              have hQ : Hid (lateQ fs r k f (n + 1) = lateQ fs r k f n) := Lib.hid (by rw [lateQ_succ, HT5.out, hok]; simp)
              clear hok
              go_wp2_with fail
              go_roundw
              case rel => exact ⟨n + 1, v2, rfl, by omega, by go_num, hB5, HX5, Lib.hid (by rw [hQ.out]; exact HO5.out)⟩
              case measure => simp [intOf]; omega
            | false =>
              have hQ : Hid (lateQ fs r k f (n + 1) = lateQ fs r k f n ++ [⟨f.id, n, T5.1⟩]) := Lib.hid (by rw [lateQ_succ, HT5.out, hok]; simp)
              clear hok
              have hl5 := HQl.out n (by omega)
              have rX := HX5.out.row
              unfold Row at rX
              go_wp2_with (at_builtin; refine wpList_append_own_at _ rfl (.tmp 45) (.tmp 51) 117 rfl w3.heap.size 39 i0 (.agg #[.int .i64 0, .int .i64 0, .int .i64 0]) 3 24 Tryz.underlying117 hi hz0 hz1 hz2 rfl (by decide) v2 _ _ rfl (HO5.out.alloc _) ⟨w5.heap.size, 0, none⟩ 1 1 [.int .i64 f.id, .int .i64 (n : Int), .int .i64 T5.1] rfl rfl ?e0 ?e1 ?e2 ?e3 ?e4 ?_)
              case e0 => exact (Blk.new2 39 [.int .i64 f.id, .int .i64 (n : Int), .int .i64 T5.1] rfl).news2
              case e1 => intro u hu; simp only [List.mem_cons, List.not_mem_nil, or_false] at hu; rcases hu with rfl | rfl | rfl <;> rfl
              case e2 => unfold maxLen; omega
              case e3 => omega
              case e4 => simp; have := hB5.size; omega
              intro v7 w7 ho7 hg7 hnil7 hat7
              clear hnil7 hat7
              have hB6 : Below w3.heap.size w3 (w5.alloc (.cells #[.int .i64 f.id, .int .i64 (n : Int), .int .i64 T5.1] 39)) := hB5.alloc hB5.size _
              have hB7 : Below w3.heap.size w3 w7 := hB6.grown hg7 hB6.size (fun j hj => (HO5.out.lt j hj).1)
              have HX7 : Hid (Blk w7 X 28 [.int .i64 f.id, .int .i64 f.fr, .int .i64 f.tn, .int .i64 f.pe, .int .i64 f.ph, .int .i64 f.dl]) := Lib.hid ((hg7.block X (by have := HX5.out.lt; simp; omega) (fun e => by have := own_type2 HO5.out e HX5.out; revert this; decide)).trans (HX5.out.alloc _))
              have HO7 : Hid (w7.ownsRow w3.heap.size 39 3 v7 (lateQ fs r k f (n + 1)).length ((lateQ fs r k f (n + 1)).flatMap Lt.row)) := Lib.hid (by rw [hQ.out]; simpa [Mo.Lt.row] using ho7)
              obtain ⟨A7, c7, hv7⟩ := own_form2 ho7
              clear ho7 hg7 hB6 rX hl5
              subst hv7
              go_wp2_with fail
              go_roundw
              case rel => exact ⟨n + 1, _, rfl, by omega, by go_num, hB7, HX7, HO7⟩
              case measure => simp [intOf]; omega
          · have h1 : n = cn := by omega
            subst h1
            have HOn : Hid (wr.ownsRow w3.heap.size 39 3 v2 ((fs.take (k + 1)).flatMap (fun f => lateF f r)).length (((fs.take (k + 1)).flatMap (fun f => lateF f r)).flatMap Lt.row)) := Lib.hid (by rw [← lateQ_end HFk.out, ← HCN.out]; exact HO.out)
            clear HO HXb
            go_wp2_with fail
            go_roundw
            case rel => exact ⟨k + 1, v2, rfl, by omega, by go_num, hb, HOn⟩
            case measure => simp [intOf]; omega
      · have h1 : k = m := by omega
        subst h1
        have hto : fs.take k = fs := List.take_of_length_le (by rw [← HM.out]; exact Nat.le_refl _)
        rw [hto] at HO
        obtain ⟨A7, c7, hv7⟩ := own_form2 HO.out
        subst hv7
        go_wp2_with fail
        go_ret2
        exact ⟨(HX.out _ hb).1, _, by rw [hl.out]; rfl, by rw [hl.out]; exact own_base HO.out (by have := HN.out; omega)⟩
end Go.Proofs.YticnppnejafhdaaGreatDoor
/- Walks: in, attempt, keys, less of the reference. -/
namespace Go.Proofs.YticnppnejafhdaaGreatDoor
open Go.RowKit
open Rc

theorem in_any (n lo hi : Int) (w : World) : Calls Tryz.prog 117 #[.int .i64 n, .int .i64 lo, .int .i64 hi] w fun e w' => e = .returned (.bool (inB n lo hi)) ∧ w = w' := by
  go_enter Tryz.func117, Tryz.ntmps117
  by_cases h : lo ≤ n
  · go_wp2
    go_ret
    simp [h, inB]
  · go_wp2
    go_ret
    simp [inB]; omega

set_option maxHeartbeats 1000000 in
theorem rattempt_any (slots : Int) (x1 x2 : Value) (a : Att) (w : World) (h0 : 0 ≤ slots) (h1 : slots ≤ 4096) : Calls Tryz.prog 118 #[.agg #[.int .i64 slots, x1, x2], .agg #[.int .i64 a.s, .int .i64 a.f, .int .i64 a.cs, .int .i64 a.co, .int .i64 a.cf, .int .i64 a.ct, .int .i64 a.cl, .int .i64 a.o]] w fun e w' => e = .returned (.bool (attR slots a)) ∧ Below w.heap.size w w' := by
  obtain ⟨s, f, cs, co, cf, ct, cl, o⟩ := a
  go_enter Tryz.func118, Tryz.ntmps118
  go_wp2_with (go_at_call 117; refine (in_any _ _ _ _).mono ?_; rintro e w' ⟨rfl, rfl⟩)
  all_goals
    go_ret
    exact ⟨ret_bool (by first | (simp [attR, *]; done) | (simp [attR, bne, *]; done)), by repeat (first | exact Below.refl _ _ | refine Below.alloc ?_ (by simp; try omega) _ )⟩

theorem keys_any (a : Att) (w : World) : Calls Tryz.prog 156 #[.agg #[.int .i64 a.s, .int .i64 a.f, .int .i64 a.cs, .int .i64 a.co, .int .i64 a.cf, .int .i64 a.ct, .int .i64 a.cl, .int .i64 a.o]] w fun e w' => e = .returned (.agg #[.int .i64 a.s, .int .i64 a.cs, .int .i64 a.co, .int .i64 a.cf, .int .i64 a.ct, .int .i64 a.cl]) ∧ Below w.heap.size w w' := by
  obtain ⟨s, f, cs, co, cf, ct, cl, o⟩ := a
  go_enter Tryz.func156, Tryz.ntmps156
  go_wp2
  exact bodyPost_ret (v := .agg #[.int .i64 s, .int .i64 cs, .int .i64 co, .int .i64 cf, .int .i64 ct, .int .i64 cl]) (by simp [results, Tryz.results156, go_sem]) rfl ⟨rfl, ((Below.refl _ _).alloc (Nat.le_refl _) _).alloc (by simp) _⟩

def fl50 : Nat → Option (Tmp × Obj)
  | 4 => some (5, .cells #[.int .i64 0, .int .i64 0, .int .i64 0, .int .i64 0, .int .i64 0, .int .i64 0] 190)
  | 5 => some (6, .cells #[.int .i64 0, .int .i64 0, .int .i64 0, .int .i64 0, .int .i64 0, .int .i64 0] 190)
  | _ => none
set_option maxRecDepth 100000 in
set_option maxHeartbeats 2000000 in
theorem less_any (x y : Att) (w : World) : Calls Tryz.prog 119 #[.agg #[.int .i64 x.s, .int .i64 x.f, .int .i64 x.cs, .int .i64 x.co, .int .i64 x.cf, .int .i64 x.ct, .int .i64 x.cl, .int .i64 x.o], .agg #[.int .i64 y.s, .int .i64 y.f, .int .i64 y.cs, .int .i64 y.co, .int .i64 y.cf, .int .i64 y.ct, .int .i64 y.cl, .int .i64 y.o]] w
    fun e w' => e = .returned (.bool (lessA x y)) ∧ Below w.heap.size w w' := by
  have kx := fun W => keys_any x W
  have ky := fun W => keys_any y W
  have Kx := Lib.hid kx
  have Ky := Lib.hid ky
  clear kx ky
  go_enter Tryz.func119, Tryz.ntmps119
  go_upto_region 1 with fail
  generalize hW1 : World.alloc _ _ = W1
  have hb1 : Below w.heap.size w W1 := by rw [← hW1]; exact ((Below.refl _ _).alloc (Nat.le_refl _) _).alloc (by simp) _
  have r2 : Row W1 w.heap.size [.int .i64 x.s, .int .i64 x.f, .int .i64 x.cs, .int .i64 x.co, .int .i64 x.cf, .int .i64 x.ct, .int .i64 x.cl, .int .i64 x.o] := by rw [← hW1]; exact (Row.new _ _ _).alloc (by simp) _
  have r3 : Row W1 (w.heap.size + 1) [.int .i64 y.s, .int .i64 y.f, .int .i64 y.cs, .int .i64 y.co, .int .i64 y.cf, .int .i64 y.ct, .int .i64 y.cl, .int .i64 y.o] := by rw [← hW1]; exact Row.new' _ _ (by simp)
  have hz1 : w.heap.size + 2 ≤ W1.heap.size := by rw [← hW1]; simp
  clear hW1
  go_cut [5, 6] (fun s5 s6 W => ∃ g5 g6 : Nat, s5 = .pointer (some ⟨g5, 0, none⟩) ∧ s6 = .pointer (some ⟨g6, 0, none⟩) ∧ Below W1.heap.size W1 W ∧ Row W g5 [.int .i64 x.s, .int .i64 x.cs, .int .i64 x.co, .int .i64 x.cf, .int .i64 x.ct, .int .i64 x.cl] ∧ Row W g6 [.int .i64 y.s, .int .i64 y.cs, .int .i64 y.co, .int .i64 y.cf, .int .i64 y.ct, .int .i64 y.cl])
  case first =>
    have c2 := r2
    have c3 := r3
    unfold Row at c2 c3
    --GEN
    have x2 : ∀ (x : ExtW W1.heap.size W1.drew) (i : Nat), x.val.cell? ⟨w.heap.size, i, none⟩ = _ := (r2.drew).ext (by omega)
    have x3 : ∀ (x : ExtW W1.heap.size W1.drew) (i : Nat), x.val.cell? ⟨w.heap.size + 1, i, none⟩ = _ := (r3.drew).ext (by omega)
    refine wp_region_float (W1.heap.size) 6 #[false, false, false, false, false, false, false, false] fl50 (by kernel_rfl) (Nat.le_refl _) ⟨by kernel_rfl, by kernel_rfl, by kernel_rfl, by decide, fun i d ob h => by unfold fl50 at h; split at h <;> first | (cases h; exact ⟨_, rfl, rfl, rfl, fun _ _ => by kernel_rfl⟩) | cases h⟩ rfl ?_; intro Hok
    refine FS_plain 0 _ (nth0) rfl Hok (by kernel_rfl) (by kernel_rfl) (l' := #[true, false, false, false, false, false, false, false]) rfl rfl (by decide) rfl ?_; intro K hK; go_big_quiet_op; go_big_quiet_on
    refine FS_call 1 _ (nthS (nth0)) Hok (Nat.le_refl _) (by kernel_rfl) (by kernel_rfl) (l' := #[true, true, false, false, false, false, false, false]) rfl rfl (by decide) rfl (fun _ => by kernel_rfl) (fun x => Kx.out x.val) ?_; simp only [Act.put, List.setIfInBounds_toArray, List.set_cons_succ, List.set_cons_zero]
    refine FS_plain 2 _ (nthS (nthS (nth0))) rfl Hok (by kernel_rfl) (by kernel_rfl) (l' := #[true, true, true, false, false, false, false, false]) rfl rfl (by decide) rfl ?_; intro K hK; go_big_quiet_op; go_big_quiet_on
    refine FS_call 3 _ (nthS (nthS (nthS (nth0)))) Hok (Nat.le_refl _) (by kernel_rfl) (by kernel_rfl) (l' := #[true, true, true, true, false, false, false, false]) rfl rfl (by decide) rfl (fun _ => by kernel_rfl) (fun x => Ky.out x.val) ?_; simp only [Act.put, List.setIfInBounds_toArray, List.set_cons_succ, List.set_cons_zero]
    refine FS_float2 4 5 5 6 _ _ (by kernel_rfl) (l1 := #[true, true, true, true, true, false, false, false]) (l2 := #[true, true, true, true, false, true, false, false]) rfl rfl rfl rfl (by decide) (by decide) ?_ ?_
    · intro g5 hg5 _
      refine FS_float 5 6 _ (by kernel_rfl) (l' := #[true, true, true, true, true, true, false, false]) rfl rfl (by decide) ?_
      intro g6 hg6 hne
      refine FS_end (by kernel_rfl) ?_
      intro W hW hG
      simp only [Act.put, List.setIfInBounds_toArray, List.set_cons_succ, List.set_cons_zero, List.drop_succ_cons, List.drop_zero]
      have b5 : Blk W g5 190 [.int .i64 0, .int .i64 0, .int .i64 0, .int .i64 0, .int .i64 0, .int .i64 0] := hG _ _ (by simp)
      have b6 : Blk W g6 190 [.int .i64 0, .int .i64 0, .int .i64 0, .int .i64 0, .int .i64 0, .int .i64 0] := hG _ _ (by simp)
      have hne' : g5 ≠ g6 := by exact fun h => hne g5 _ (List.mem_cons_self) h.symm
      clear hne hG Hok x2 x3 c2 c3
      have e5 := b5.row
      have e6 := b6.row
      have q5 := b5.frozen
      have q6 := b6.frozen
      unfold Row at e5 e6
      have hne2 : ¬ g6 = g5 := fun h => hne' h.symm
      go_wp2_with fail
      go_meet
      exact ⟨g5, g6, rfl, rfl, (((((((((((((((Below.refl _ _).drew).trans hW).setCell (p := ⟨_, 0, none⟩) hg5 _).setCell (p := ⟨_, 1, none⟩) hg5 _).setCell (p := ⟨_, 2, none⟩) hg5 _).setCell (p := ⟨_, 3, none⟩) hg5 _).setCell (p := ⟨_, 4, none⟩) hg5 _).setCell (p := ⟨_, 5, none⟩) hg5 _).setCell (p := ⟨_, 0, none⟩) hg6 _).setCell (p := ⟨_, 1, none⟩) hg6 _).setCell (p := ⟨_, 2, none⟩) hg6 _).setCell (p := ⟨_, 3, none⟩) hg6 _).setCell (p := ⟨_, 4, none⟩) hg6 _).setCell (p := ⟨_, 5, none⟩) hg6 _), ((((((((((((b5.set_ 0 _).set_ 1 _).set_ 2 _).set_ 3 _).set_ 4 _).set_ 5 _).far (p := ⟨_, 0, none⟩) hne' _).far (p := ⟨_, 1, none⟩) hne' _).far (p := ⟨_, 2, none⟩) hne' _).far (p := ⟨_, 3, none⟩) hne' _).far (p := ⟨_, 4, none⟩) hne' _).far (p := ⟨_, 5, none⟩) hne' _).row, ((((((((((((b6.far (p := ⟨_, 0, none⟩) hne2 _).far (p := ⟨_, 1, none⟩) hne2 _).far (p := ⟨_, 2, none⟩) hne2 _).far (p := ⟨_, 3, none⟩) hne2 _).far (p := ⟨_, 4, none⟩) hne2 _).far (p := ⟨_, 5, none⟩) hne2 _).set_ 0 _).set_ 1 _).set_ 2 _).set_ 3 _).set_ 4 _).set_ 5 _).row⟩
    · intro g6 hg6 _
      refine FS_float 4 5 _ (by kernel_rfl) (l' := #[true, true, true, true, true, true, false, false]) rfl rfl (by decide) ?_
      intro g5 hg5 hne
      refine FS_end (by kernel_rfl) ?_
      intro W hW hG
      simp only [Act.put, List.setIfInBounds_toArray, List.set_cons_succ, List.set_cons_zero, List.drop_succ_cons, List.drop_zero]
      have b5 : Blk W g5 190 [.int .i64 0, .int .i64 0, .int .i64 0, .int .i64 0, .int .i64 0, .int .i64 0] := hG _ _ (by simp)
      have b6 : Blk W g6 190 [.int .i64 0, .int .i64 0, .int .i64 0, .int .i64 0, .int .i64 0, .int .i64 0] := hG _ _ (by simp)
      have hne' : g5 ≠ g6 := by exact hne g6 _ (List.mem_cons_self)
      clear hne hG Hok x2 x3 c2 c3
      have e5 := b5.row
      have e6 := b6.row
      have q5 := b5.frozen
      have q6 := b6.frozen
      unfold Row at e5 e6
      have hne2 : ¬ g6 = g5 := fun h => hne' h.symm
      go_wp2_with fail
      go_meet
      exact ⟨g5, g6, rfl, rfl, (((((((((((((((Below.refl _ _).drew).trans hW).setCell (p := ⟨_, 0, none⟩) hg5 _).setCell (p := ⟨_, 1, none⟩) hg5 _).setCell (p := ⟨_, 2, none⟩) hg5 _).setCell (p := ⟨_, 3, none⟩) hg5 _).setCell (p := ⟨_, 4, none⟩) hg5 _).setCell (p := ⟨_, 5, none⟩) hg5 _).setCell (p := ⟨_, 0, none⟩) hg6 _).setCell (p := ⟨_, 1, none⟩) hg6 _).setCell (p := ⟨_, 2, none⟩) hg6 _).setCell (p := ⟨_, 3, none⟩) hg6 _).setCell (p := ⟨_, 4, none⟩) hg6 _).setCell (p := ⟨_, 5, none⟩) hg6 _), ((((((((((((b5.set_ 0 _).set_ 1 _).set_ 2 _).set_ 3 _).set_ 4 _).set_ 5 _).far (p := ⟨_, 0, none⟩) hne' _).far (p := ⟨_, 1, none⟩) hne' _).far (p := ⟨_, 2, none⟩) hne' _).far (p := ⟨_, 3, none⟩) hne' _).far (p := ⟨_, 4, none⟩) hne' _).far (p := ⟨_, 5, none⟩) hne' _).row, ((((((((((((b6.far (p := ⟨_, 0, none⟩) hne2 _).far (p := ⟨_, 1, none⟩) hne2 _).far (p := ⟨_, 2, none⟩) hne2 _).far (p := ⟨_, 3, none⟩) hne2 _).far (p := ⟨_, 4, none⟩) hne2 _).far (p := ⟨_, 5, none⟩) hne2 _).set_ 0 _).set_ 1 _).set_ 2 _).set_ 3 _).set_ 4 _).set_ 5 _).row⟩
  case rest =>
    obtain ⟨g5, g6, rfl, rfl, hb2, r5, r6⟩ := hcut
    have q5 : ∀ k v, (keysA x)[k]? = some v → wc.cell? ⟨g5, k, none⟩ = some (.int .i64 v) := fun k v hv => (r5 k).trans (ints_get hv)
    have q6 : ∀ k v, (keysA y)[k]? = some v → wc.cell? ⟨g6, k, none⟩ = some (.int .i64 v) := fun k v hv => (r6 k).trans (ints_get hv)
    have Q5 := Lib.hid q5
    have Q6 := Lib.hid q6
    have hbw : Below w.heap.size w wc := hb1.trans (hb2.mono (by omega))
    clear q5 q6 r5 r6 r2 r3
    go_wp2_with fail
    go_loopw [4, 7] (fun s4 i wr => ∃ (k m : Nat), k ≤ 6 ∧ i = .int .i64 k ∧ s4 = .bool false ∧ wr = wc.drewN m ∧ Hid (lessA x y = lessL ((keysA x).drop k) ((keysA y).drop k))) (fun _ i _ => 6 - (intOf i).toNat)
    case atStart => exact ⟨0, 0, by omega, rfl, rfl, rfl, Lib.hid rfl⟩
    case round =>
      obtain ⟨k, m, hk, rfl, rfl, rfl, hst⟩ := hrel
      by_cases hlt : k < 6
      · obtain ⟨vx, hx⟩ := get_of_lt (l := keysA x) (k := k) (by simpa [keysA] using hlt)
        obtain ⟨vy, hy⟩ := get_of_lt (l := keysA y) (k := k) (by simpa [keysA] using hlt)
        have cx := Q5.out k vx hx
        have cy := Q6.out k vy hy
        have hst' := hst.out
        rw [drop_of_get hx, drop_of_get hy] at hst'
        simp only [lessL] at hst'
        have hki : (k : Int) < 6 := by omega
        by_cases he : vx = vy
        · rw [if_pos he] at hst'
          have hf := Lib.hid hst'
          clear hst' hx hy
          subst he
          go_wp2_with fail
          go_quiet (fail)
          go_wp2_with fail
          go_roundw
          case rel => exact ⟨k + 1, m + nq, by omega, by go_num, rfl, by simp, hf⟩
          case measure => simp [intOf]; omega
        · rw [if_neg he] at hst'
          have hf := Lib.hid hst'
          have hne : (vx == vy) = false := by simpa using he
          have hne2 : (vx != vy) = true := by simpa using he
          clear hst' hx hy
          go_wp2_with fail
          go_quiet (fail)
          go_wp2_with fail
          go_quiet (fail)
          go_wp2_with fail
          go_ret
          exact ⟨ret_bool (by rw [hf.out]), below_drewN (below_drewN (below_drewN hbw _) _) _⟩
      · have hk6 : k = 6 := by omega
        subst hk6
        go_wp2_with fail
        go_ret
        exact ⟨ret_bool (by rw [hst.out]; simp [keysA, lessL]), below_drewN hbw _⟩

end Go.Proofs.YticnppnejafhdaaGreatDoor
/- The reference's Check, in plain Lean. -/
namespace Go.Proofs.YticnppnejafhdaaGreatDoor
namespace Rc

def notLess (rev : List Att) (a : Att) : Bool :=
  match rev with
  | p :: _ => !lessA p a
  | [] => false
def sameFrom : List Att → Att → Bool
  | [], _ => false
  | p :: r, a => if p.s = a.s then (if p.cf = a.cf then true else sameFrom r a) else false
def attsRGo (slots : Int) : List Att → List Att → Bool
  | _, [] => true
  | rev, a :: l => if (!attR slots a || notLess rev a) = true then false else if sameFrom rev a = true then false else attsRGo slots (a :: rev) l
def dlvR (slots : Int) (d : Dlv) : Bool := inB d.sl 0 (slots - 1) && (inB d.fl 0 255 && inB d.fr 0 1048575)
def backD (p d : Dlv) : Bool := decide (d.sl < p.sl) || ((d.sl == p.sl) && decide (d.fl ≤ p.fl))
def backO (p : Option Dlv) (d : Dlv) : Bool :=
  match p with
  | some q => backD q d
  | none => false
def dlvsRGo (slots : Int) : Option Dlv → List Dlv → Bool
  | _, [] => true
  | p, d :: l => if dlvR slots d = false then false else if backO p d = true then false else dlvsRGo slots (some d) l
def goodR (r : Rec) : Bool := inB r.slots 0 4096 && (decide (r.al.length ≤ 65536) && (decide (r.dl.length ≤ 65536) && (attsRGo r.slots [] r.al && dlvsRGo r.slots none r.dl)))
def rcheckE (r : Rec) : Int := if goodR r then 0 else 1

/-! ### the two agree -/
theorem belowB_inB (n m : Int) : belowB n m = inB n 0 (m - 1) := by
  unfold belowB inB
  congr 1
  rw [Bool.eq_iff_iff]; simp; omega

theorem attB_attR (a : Att) (slots : Int) : attB a slots = attR slots a := by
  unfold attB attR
  simp only [belowB_inB]
  simp [inB]

theorem lessL_orI : ∀ (xs ys : List Int), xs.length = ys.length → lessL xs ys = decide (orI (List.zipWith cmpI xs ys) < 0)
  | [], [], _ => by simp [lessL, orI]
  | x :: xs, y :: ys, h => by
    have ih := lessL_orI xs ys (by simpa using h)
    simp only [lessL, List.zipWith_cons_cons, orI]
    by_cases hxy : x = y
    · subst hxy
      simp [cmpI, ih]
    · rw [if_neg hxy]
      unfold cmpI
      by_cases h1 : x < y
      · simp [h1]
      · have h2 : y < x := by omega
        simp [h1, h2]

theorem lessA_cmpA (p a : Att) : lessA p a = decide (cmpA p a < 0) := lessL_orI _ _ rfl

theorem prevBad_notLess (rev : List Att) (a : Att) : prevBad rev.head? a = notLess rev a := by
  cases rev with
  | nil => rfl
  | cons p r =>
    simp only [prevBad, notLess, List.head?_cons, lessA_cmpA]
    rw [Bool.eq_iff_iff]; simp

/-- the senders of the slot of the last attempt -/
def sendersOf : List Att → Int → List Int
  | [], _ => []
  | p :: r, s => if p.s = s then p.cf :: sendersOf r s else []

theorem sameFrom_senders : ∀ (rev : List Att) (a : Att), sameFrom rev a = decide (a.cf ∈ sendersOf rev a.s)
  | [], a => by simp [sameFrom, sendersOf]
  | p :: r, a => by
    have ih := sameFrom_senders r a
    rw [Bool.eq_iff_iff] at ih ⊢
    rw [decide_eq_true_iff] at ih ⊢
    by_cases h : p.s = a.s
    · have hs : sendersOf (p :: r) a.s = p.cf :: sendersOf r a.s := by simp [sendersOf, h]
      rw [hs]
      simp only [sameFrom, h, if_true, List.mem_cons]
      by_cases h2 : p.cf = a.cf
      · simp [h2]
      · have : ¬ a.cf = p.cf := fun e => h2 e.symm
        simp [h2, this, ih]
    · have hs : sendersOf (p :: r) a.s = [] := by simp [sendersOf, h]
      rw [hs]
      simp [sameFrom, h]

theorem attsGo_attsRGo (slots : Int) : ∀ (l rev : List Att) (S : List Int) (at_ : Int), S = sendersOf rev at_ → (∀ p, rev.head? = some p → p.s = at_) → (rev = [] → ∀ a, attB a slots = true → a.s ≠ at_) →
    attsGo slots rev.head? S at_ l = attsRGo slots rev l
  | [], _, _, _, _, _, _ => by simp [attsGo, attsRGo]
  | a :: l, rev, S, at_, hS, hat, hno => by
    simp only [attsGo, attsRGo]
    rw [prevBad_notLess, attB_attR]
    by_cases hb : (!attR slots a || notLess rev a) = true
    · rw [if_pos hb, if_pos hb]
    · rw [if_neg hb, if_neg hb]
      have hga : attB a slots = true := by
        rw [attB_attR]
        revert hb
        cases attR slots a <;> simp
      by_cases hs : a.s = at_
      · subst hs
        rw [if_pos rfl, sameFrom_senders, hS]
        by_cases hin : a.cf ∈ sendersOf rev a.s
        · simp [hin]
        · simp only [hin, if_false, decide_false, Bool.false_eq_true]
          exact attsGo_attsRGo slots l (a :: rev) _ _ (by simp [sendersOf]) (by simp) (by simp)
      · rw [if_neg hs]
        have hsf : sameFrom rev a = false := by
          rw [sameFrom_senders]
          cases rev with
          | nil => simp [sendersOf]
          | cons p r =>
            have : ¬ p.s = a.s := by rw [hat p rfl]; exact fun e => hs e.symm
            simp [sendersOf, this]
        rw [hsf]
        simp only [Bool.false_eq_true, if_false]
        refine attsGo_attsRGo slots l (a :: rev) _ _ ?_ (by simp) (by simp)
        cases rev with
        | nil => simp [sendersOf]
        | cons p r =>
          have : ¬ p.s = a.s := by rw [hat p rfl]; exact fun e => hs e.symm
          simp [sendersOf, this]

theorem attB_slot {a : Att} {slots : Int} (h : attB a slots = true) : a.s ≠ -1 := by
  simp [attB, belowB] at h
  omega

theorem attsB_attsR (l : List Att) (slots : Int) : attsB l slots = attsRGo slots [] l :=
  attsGo_attsRGo slots l [] [] (-1) rfl (by simp) (fun _ _ h => attB_slot h)

theorem dlvB_dlvR (d : Dlv) (slots : Int) : dlvB d slots = dlvR slots d := by
  unfold dlvB dlvR
  simp only [belowB_inB]
  simp [inB, Bool.and_comm, Bool.and_left_comm]

theorem cmpD_backD (p d : Dlv) : decide (0 ≤ cmpD p d) = backD p d := by
  unfold cmpD backD orI orI orI cmpI
  rw [Bool.eq_iff_iff]
  simp
  by_cases h1 : p.sl < d.sl
  · simp [h1]; omega
  · by_cases h2 : d.sl < p.sl
    · simp [h1, h2]
    · have h3 : d.sl = p.sl := by omega
      simp [h3]
      by_cases h4 : p.fl < d.fl
      · simp [h4]
      · by_cases h5 : d.fl < p.fl
        · simp [h4, h5]; omega
        · simp [h4, h5]; omega

theorem dlvsGo_dlvsR (slots : Int) : ∀ (l : List Dlv) (p : Option Dlv), dlvsGo slots p l = dlvsRGo slots p l
  | [], _ => by simp [dlvsGo, dlvsRGo]
  | d :: l, p => by
    simp only [dlvsGo, dlvsRGo]
    rw [dlvB_dlvR, dlvsGo_dlvsR slots l (some d)]
    have : prevBadD p d = backO p d := by
      cases p with
      | none => rfl
      | some q => exact cmpD_backD q d
    rw [this]

theorem check_agree (r : Rec) : checkE r = rcheckE r := by
  unfold checkE rcheckE
  have : good r = goodR r := by
    unfold good goodR
    rw [attsB_attsR, dlvsB, dlvsGo_dlvsR]
    simp [inB, Bool.and_assoc]
  rw [this]
end Rc
end Go.Proofs.YticnppnejafhdaaGreatDoor
/- Walk: Check of the reference. -/
namespace Go.Proofs.YticnppnejafhdaaGreatDoor
open Go.RowKit
open Rc

theorem rcheck_short {r : Rec} (h : ¬ (0 ≤ r.slots ∧ r.slots ≤ 4096 ∧ r.al.length ≤ 65536 ∧ r.dl.length ≤ 65536)) : rcheckE r = 1 := by
  unfold rcheckE
  rw [if_neg]
  intro hg
  simp [goodR, inB] at hg
  exact h ⟨hg.1.1, hg.1.2, hg.2.1, hg.2.2.1⟩
theorem rcheck_long {r : Rec} (h0 : 0 ≤ r.slots) (h1 : r.slots ≤ 4096) (h2 : r.al.length ≤ 65536) (h3 : r.dl.length ≤ 65536) : rcheckE r = if attsRGo r.slots [] r.al && dlvsRGo r.slots none r.dl then 0 else 1 := by
  unfold rcheckE
  congr 1
  simp [goodR, inB, h0, h1, h2, h3]

theorem revTake_succ {α : Type} {l : List α} {j : Nat} {p : α} (h : l[j]? = some p) : (l.take (j + 1)).reverse = p :: (l.take j).reverse := by
  have hj : j < l.length := (List.getElem?_eq_some_iff.1 h).1
  rw [List.take_succ_eq_append_getElem hj, (List.getElem?_eq_some_iff.1 h).2]
  simp

set_option maxRecDepth 100000 in
set_option maxHeartbeats 4000000 in
theorem rcheck_any (r : Rec) (A D : Option Addr) (ca cd : Nat) (w : World) (hA : LiesA w w.heap.size A r.al) (hD : LiesD w w.heap.size D r.dl) (hla : r.al.length ≤ 9223372036854775807) (hld : r.dl.length ≤ 9223372036854775807) :
    Calls Tryz.prog 84 #[.agg #[.int .i64 r.slots, .slice A r.al.length ca, .slice D r.dl.length cd]] w fun e w' => e = .returned (.int .i64 (rcheckE r)) ∧ Below w.heap.size w w' := by
  obtain ⟨slots, al, dl⟩ := r
  dsimp only at *
  have hshort := @rcheck_short ⟨slots, al, dl⟩
  have hlong := @rcheck_long ⟨slots, al, dl⟩
  dsimp only at hshort hlong
  obtain ⟨na, hna⟩ : ∃ n, n = al.length := ⟨_, rfl⟩
  obtain ⟨nd, hnd⟩ : ∃ n, n = dl.length := ⟨_, rfl⟩
  rw [← hna, ← hnd] at hshort hlong ⊢
  rw [← hna] at hla
  rw [← hnd] at hld
  have HA := Lib.hid hna
  have HD := Lib.hid hnd
  clear hna hnd
  by_cases hbad : ¬ (0 ≤ slots ∧ slots ≤ 4096 ∧ na ≤ 65536 ∧ nd ≤ 65536)
  · have hfin := Lib.hid (hshort hbad)
    clear hshort hlong
    have hin : inB slots 0 4096 = decide (0 ≤ slots ∧ slots ≤ 4096) := by unfold inB; rw [Bool.decide_and]
    have con := fun W => in_any slots 0 4096 W
    by_cases hs : 0 ≤ slots ∧ slots ≤ 4096
    · have hin2 : inB slots 0 4096 = true := by rw [hin]; simp [hs]
      rw [hin2] at con
      have Con := Lib.hid con
      clear hin hin2 con
      by_cases h2 : 65536 < na
      · go_enter Tryz.func84, Tryz.ntmps84
        go_wp2_with (go_at_call 117; refine (Con.out _).mono ?_; rintro e w' ⟨rfl, rfl⟩)
        go_ret
        exact ⟨ret_int (by rw [hfin.out]), (Below.refl _ _).alloc (Nat.le_refl _) _⟩
      · have h3 : 65536 < nd := by omega
        go_enter Tryz.func84, Tryz.ntmps84
        go_wp2_with (go_at_call 117; refine (Con.out _).mono ?_; rintro e w' ⟨rfl, rfl⟩)
        go_ret
        exact ⟨ret_int (by rw [hfin.out]), (Below.refl _ _).alloc (Nat.le_refl _) _⟩
    · have hin2 : inB slots 0 4096 = false := by rw [hin]; simpa using hs
      rw [hin2] at con
      have Con := Lib.hid con
      clear hin hin2 con
      go_enter Tryz.func84, Tryz.ntmps84
      go_wp2_with (go_at_call 117; refine (Con.out _).mono ?_; rintro e w' ⟨rfl, rfl⟩)
      go_ret
      exact ⟨ret_int (by rw [hfin.out]), (Below.refl _ _).alloc (Nat.le_refl _) _⟩
  obtain ⟨h0, h1, h2, h3⟩ : 0 ≤ slots ∧ slots ≤ 4096 ∧ na ≤ 65536 ∧ nd ≤ 65536 := by omega
  have hfin := Lib.hid (hlong h0 h1 h2 h3)
  clear hshort hlong hbad
  have con : ∀ W, Calls Tryz.prog 117 #[.int .i64 slots, .int .i64 0, .int .i64 4096] W fun e w' => e = .returned (.bool true) ∧ W = w' := fun W => by
    have := in_any slots 0 4096 W
    rwa [show inB slots 0 4096 = true by simp [inB, h0, h1]] at this
  have Con := Lib.hid con
  clear con
  go_enter Tryz.func84, Tryz.ntmps84
  go_wp2_with (go_at_call 117; refine (Con.out _).mono ?_; rintro e w' ⟨rfl, rfl⟩)
  generalize hw1 : w.alloc _ = w1
  have row1 : Row w1 w.heap.size [.int .i64 slots, .slice A na ca, .slice D nd cd] := by rw [← hw1]; exact Row.new _ _ _
  have hbw : Below w.heap.size w w1 := by rw [← hw1]; exact (Below.refl _ _).alloc (Nat.le_refl _) _
  have hz : w.heap.size < w1.heap.size := by rw [← hw1]; simp
  have R1 := Lib.hid row1
  clear hw1 row1
  go_loopw [2, 3] (fun s2 i wr => ∃ (k : Nat), k ≤ na ∧ i = .int .i64 k ∧ s2 = .int .i64 0 ∧ Below w1.heap.size w1 wr ∧
      Hid (attsRGo slots [] al = attsRGo slots (al.take k).reverse (al.drop k))) (fun _ i _ => na - (intOf i).toNat)
  case atStart => exact ⟨0, Nat.zero_le _, rfl, rfl, Below.refl _ _, Lib.hid rfl⟩
  case round =>
    obtain ⟨k, hk, rfl, rfl, hb, hst⟩ := hrel
    have row1 := R1.out.below hb (by omega)
    have hb0 : Below w.heap.size w wr := hbw.trans (hb.mono hbw.size)
    unfold Row at row1
    by_cases hlt : k < na
    · obtain ⟨a, ha⟩ := get_of_lt (l := al) (k := k) (by rw [← HA.out]; exact hlt)
      obtain ⟨b, off, rfl, hbB, hcs⟩ := (hA.below hb0).at_ ha
      obtain ⟨c0, c1, c2, c3, c4, c5, c6, c7⟩ := hcs k a ha
      have hd := Lib.hid (drop_of_get ha)
      have Hcs := Lib.hid hcs
      have Ha := Lib.hid ha
      clear hcs ha
      have hst' := hst.out
      rw [hd.out] at hst'
      simp only [attsRGo] at hst'
      have Hst := Lib.hid hst'
      clear hst'
      go_upto_region 7 with fail
      generalize hW1 : wr.alloc _ = W1
      have hb1 : Below w1.heap.size w1 W1 := by rw [← hW1]; exact hb.alloc hb.size _
      have hz1 : wr.heap.size < W1.heap.size := by rw [← hW1]; simp
      have row4 : Row W1 wr.heap.size [.int .i64 a.s, .int .i64 a.f, .int .i64 a.cs, .int .i64 a.co, .int .i64 a.cf, .int .i64 a.ct, .int .i64 a.cl, .int .i64 a.o] := by rw [← hW1]; exact Row.new wr _ _
      have hkeep : ∀ p : Addr, p.block < w1.heap.size → W1.cell? p = wr.cell? p := fun p hp => by rw [← hW1]; exact World.cell?_alloc_lt wr _ p (Nat.lt_of_lt_of_le hp hb.size)
      have HK := Lib.hid hkeep
      have R4 := Lib.hid row4
      have hzr := hb.size
      clear hkeep c0 c1 c2 c3 c4 c5 c6 c7 hW1 row1
      have hbb : b < W1.heap.size := Nat.lt_of_lt_of_le (Nat.lt_of_lt_of_le hbB hbw.size) hb1.size
      go_cut [60] (fun s60 W => s60 = .bool (!attR slots a || notLess (al.take k).reverse a) ∧ Below W1.heap.size W1 W)
      case first =>
        have x1 := (R1.out.below hb1 hz).ext (B := W1.heap.size) (by omega)
        have x4 := R4.out.ext (B := W1.heap.size) hz1
        have con := fun W => rattempt_any slots (.slice (some ⟨b, off, none⟩) na ca) (.slice D nd cd) a W h0 h1
        cases hat : attR slots a with
        | false =>
          rw [hat] at con
          have Con2 := Lib.hid con
          clear con
          refine wp_region_ext W1.heap.size (by kernel_rfl) (by kernel_rfl) ?_
          repeat (go_big_quiet_step ((go_at_call 118; exact Calls.ext_of (Con2.out _) (Nat.le_refl _))))
          refine wpQuiet_nil ?_
          rintro _ ⟨x, rfl⟩
          go_wp2_with fail
          go_meet
          exact ⟨by rw [hat]; rfl, x.below⟩
        | true =>
          rw [hat] at con
          have Con2 := Lib.hid con
          clear con
          by_cases hk0 : k = 0
          · subst hk0
            have hd0 : decide ((0 : Int) < ((0 : Nat) : Int)) = false := rfl
            refine wp_region_ext W1.heap.size (by kernel_rfl) (by kernel_rfl) ?_
            repeat (go_big_quiet_step ((go_at_call 118; exact Calls.ext_of (Con2.out _) (Nat.le_refl _))))
            refine wpQuiet_nil ?_
            rintro _ ⟨x, rfl⟩
            go_wp2_with fail
            go_meet
            exact ⟨by rw [hat]; rfl, x.below⟩
          · obtain ⟨j, rfl⟩ : ∃ j, k = j + 1 := ⟨k - 1, by omega⟩
            obtain ⟨p, hp⟩ := get_of_lt (l := al) (k := j) (by rw [← HA.out]; omega)
            have hx : ∀ (x : ExtW W1.heap.size W1) (j : Nat), x.val.cell? ⟨b, j, none⟩ = wr.cell? ⟨b, j, none⟩ := fun x j => (x.cell _ hbb).trans (HK.out _ (Nat.lt_of_lt_of_le hbB hbw.size))
            obtain ⟨p0, p1, p2, p3, p4, p5, p6, p7⟩ := Hcs.out j p hp
            have hki : decide ((0 : Int) < ((j + 1 : Nat) : Int)) = true := by simp
            have hw2 : IntKind.i64.wrap (((j + 1 : Nat) : Int) - 1) = (j : Int) := by rw [IntWalk.i64_in _ (by omega)]; omega
            have hjn : (j : Int) < (na : Int) := by omega
            have con3 := fun W => less_any p a W
            have Con3 := Lib.hid con3
            have HP := Lib.hid hp
            clear con3 hp
            refine wp_region_ext W1.heap.size (by kernel_rfl) (by kernel_rfl) ?_
            repeat (go_big_quiet_step ((first | (go_at_call 118; exact Calls.ext_of (Con2.out _) (Nat.le_refl _)) | (go_at_call 119; exact Calls.ext_of (Con3.out _) (Nat.le_refl _)))))
            refine wpQuiet_nil ?_
            rintro _ ⟨x, rfl⟩
            go_wp2_with fail
            go_meet
            exact ⟨by rw [revTake_succ HP.out, hat]; simp [notLess], x.below⟩
      case rest =>
        obtain ⟨rfl, hb2⟩ := hcut
        obtain ⟨wo, hwo⟩ : ∃ wo : World, wo = wc := ⟨_, rfl⟩
        subst hwo
        have hb3 : Below w1.heap.size w1 wo := hb1.trans (hb2.mono hb1.size)
        have hbo : Below w.heap.size w wo := hbw.trans (hb3.mono hbw.size)
        have row1 := R1.out.below hb3 hz
        have row4 := R4.out.below hb2 hz1
        have HK2 : Hid (∀ j : Nat, wo.cell? ⟨b, j, none⟩ = wr.cell? ⟨b, j, none⟩) := Lib.hid fun j => (hb2.cell (p := ⟨b, j, none⟩) hbb).trans (HK.out _ (Nat.lt_of_lt_of_le hbB hbw.size))
        unfold Row at row1 row4
        generalize hbad : (!attR slots a || notLess (al.take k).reverse a) = bad
        have hst' := Hst.out
        rw [hbad] at hst'
        cases bad with
        | true =>
          have hf := Lib.hid hst'
          clear hst' hbad
          go_wp2
          go_ret
          exact ⟨ret_int (by rw [hfin.out, hf.out]; rfl), hbo⟩
        | false =>
          simp only [Bool.false_eq_true, if_false] at hst'
          have hf := Lib.hid hst'
          clear hst' hbad
          go_wp2_with fail
          go_loopw [2, 5] (fun s2 s5 wr => ∃ (j m : Nat), j ≤ k ∧ s5 = .int .i64 ((j : Int) - 1) ∧ s2 = .int .i64 0 ∧ wr = wo.drewN m ∧ Hid (sameFrom (al.take k).reverse a = sameFrom (al.take j).reverse a)) (fun _ s5 _ => (intOf s5 + 1).toNat)
          case atStart => exact ⟨k, 0, Nat.le_refl _, rfl, rfl, rfl, Lib.hid rfl⟩
          case round =>
            obtain ⟨j, m, hj, rfl, rfl, rfl, hsf⟩ := hrel
            rcases Nat.eq_zero_or_pos j with hj0 | hj0
            · subst hj0
              have hd0 : decide ((0 : Int) ≤ ((0 : Nat) : Int) - 1) = false := rfl
              have hsf' : sameFrom (al.take k).reverse a = false := by rw [hsf.out]; rfl
              have hf' := hf.out
              rw [hsf'] at hf'
              have hf2 := Lib.hid hf'
              clear hf' hsf'
              go_wp2_with fail
              go_quiet (fail)
              go_wp2_with fail
              go_roundw
              case rel => exact ⟨k + 1, by omega, by go_num, rfl, by first | exact below_drewN hb3 _ | exact below_drewN (below_drewN hb3 _) _, Lib.hid (by rw [hf2.out, revTake_succ Ha.out]; rfl)⟩
              case measure => simp [intOf]; omega
            · obtain ⟨i, rfl⟩ : ∃ i, j = i + 1 := ⟨j - 1, by omega⟩
              obtain ⟨p, hp⟩ := get_of_lt (l := al) (k := i) (by rw [← HA.out]; omega)
              obtain ⟨p0, _, _, _, p4, _⟩ := Hcs.out i p hp
              have q0 := (HK2.out (off + i * 8)).trans p0
              have q4 := (HK2.out (off + i * 8 + 4)).trans p4
              have hsf' := hsf.out
              rw [revTake_succ hp] at hsf'
              simp only [sameFrom] at hsf'
              have e1 : (((i + 1 : Nat) : Int) - 1) = (i : Int) := by omega
              rw [e1]
              have hd1 : decide ((0 : Int) ≤ (i : Int)) = true := by simp
              have hin : (i : Int) < (na : Int) := by omega
              clear e1 p0 p4 hp
              by_cases hs : p.s = a.s
              · rw [if_pos hs] at hsf'
                have hse : (p.s == a.s) = true := by simpa using hs
                by_cases hc : p.cf = a.cf
                · rw [if_pos hc] at hsf'
                  have hce : (p.cf == a.cf) = true := by simpa using hc
                  have hf' := hf.out
                  rw [hsf'] at hf'
                  have hf2 := Lib.hid hf'
                  clear hf' hsf' hs hc
                  go_wp2_with fail
                  go_quiet (fail)
                  go_wp2_with fail
                  go_quiet (fail)
                  go_wp2_with fail
                  go_ret
                  exact ⟨ret_int (by rw [hfin.out, hf2.out]; rfl), by repeat (first | exact hbo | refine below_drewN ?_ _)⟩
                · rw [if_neg hc] at hsf'
                  have hce : (p.cf == a.cf) = false := by simpa using hc
                  have hsf2 := Lib.hid hsf'
                  clear hsf' hs hc
                  go_wp2_with fail
                  go_quiet (fail)
                  go_wp2_with fail
                  go_quiet (fail)
                  go_wp2_with fail
                  go_roundw
                  case rel => exact ⟨i, _, by omega, by go_num, rfl, by first | rfl | (simp; done), hsf2⟩
                  case measure => simp [intOf]
              · rw [if_neg hs] at hsf'
                have hse : (p.s == a.s) = false := by simpa using hs
                have hf' := hf.out
                rw [hsf'] at hf'
                have hf2 := Lib.hid hf'
                clear hf' hsf' hs
                go_wp2_with fail
                go_quiet (fail)
                go_wp2_with fail
                go_roundw
                case rel => exact ⟨k + 1, by omega, by go_num, rfl, by first | exact below_drewN hb3 _ | exact below_drewN (below_drewN hb3 _) _, Lib.hid (by rw [hf2.out, revTake_succ Ha.out]; rfl)⟩
                case measure => simp [intOf]; omega
    · have hal : attsRGo slots [] al = true := by rw [hst.out, List.drop_of_length_le (by rw [← HA.out]; omega)]; simp [attsRGo]
      have hfin' := hfin.out
      rw [hal] at hfin'
      have hfn := Lib.hid hfin'
      clear hfin' hal hst
      obtain ⟨w2, hw2⟩ : ∃ w2 : World, w2 = wr := ⟨_, rfl⟩
      subst hw2
      have R1' := Lib.hid (R1.out.below hb hz)
      have hz2 : w.heap.size < w2.heap.size := Nat.lt_of_lt_of_le hz hb.size
      go_wp2_with fail
      go_loopw [2, 6] (fun s2 i wr => ∃ (k : Nat), k ≤ nd ∧ i = .int .i64 k ∧ s2 = .int .i64 0 ∧ Below w2.heap.size w2 wr ∧
        Hid (dlvsRGo slots none dl = dlvsRGo slots (if k = 0 then none else dl[k - 1]?) (dl.drop k))) (fun _ i _ => nd - (intOf i).toNat)
      case atStart => exact ⟨0, Nat.zero_le _, rfl, rfl, Below.refl _ _, Lib.hid rfl⟩
      case round =>
        clear row1
        obtain ⟨k, hk, rfl, rfl, hbr, hst⟩ := hrel
        have row1 := R1'.out.below hbr hz2
        have hbd : Below w.heap.size w wr := hb0.trans (hbr.mono hb0.size)
        unfold Row at row1
        by_cases hltd : k < nd
        · obtain ⟨d, hd0⟩ := get_of_lt (l := dl) (k := k) (by rw [← HD.out]; exact hltd)
          obtain ⟨b, off, rfl, hbB, hcs⟩ := (hD.below hbd).at_ hd0
          obtain ⟨c0, c1, c2⟩ := hcs k d hd0
          have hd := Lib.hid (drop_of_get hd0)
          have Hcs := Lib.hid hcs
          have Hd0 := Lib.hid hd0
          clear hcs hd0
          have hst' := hst.out
          rw [hd.out] at hst'
          simp only [dlvsRGo] at hst'
          have Hst := Lib.hid hst'
          clear hst'
          go_upto_region 18 with fail
          generalize hW1 : wr.alloc _ = W1
          have hb1 : Below w2.heap.size w2 W1 := by rw [← hW1]; exact hbr.alloc hbr.size _
          have hz1 : wr.heap.size < W1.heap.size := by rw [← hW1]; simp
          have row7 : Row W1 wr.heap.size [.int .i64 d.fl, .int .i64 d.fr, .int .i64 d.sl] := by rw [← hW1]; exact Row.new wr _ _
          have hkeep : ∀ p : Addr, p.block < w2.heap.size → W1.cell? p = wr.cell? p := fun p hp => by rw [← hW1]; exact World.cell?_alloc_lt wr _ p (Nat.lt_of_lt_of_le hp hbr.size)
          have HK := Lib.hid hkeep
          have hbW : Below w.heap.size w W1 := hb0.trans (hb1.mono hb0.size)
          clear hkeep c0 c1 c2 hW1 row1
          have row1 := R1'.out.below hb1 hz2
          unfold Row at row1 row7
          go_cut [123] (fun s123 W => s123 = .bool (!dlvR slots d) ∧ W = W1)
          case first =>
            go_wp2_with (go_at_call 117; refine (in_any _ _ _ _).mono ?_; rintro e w' ⟨rfl, rfl⟩)
            all_goals
              go_meet
              exact ⟨by simp [dlvR, *], rfl⟩
          case rest =>
            obtain ⟨rfl, hwc⟩ := hcut
            subst wc
            have hst' := Hst.out
            cases hdl : dlvR slots d with
            | false =>
              rw [hdl] at hst'
              have hf := Lib.hid hst'
              clear hst'
              go_wp2
              go_ret
              exact ⟨ret_int (by rw [hfn.out, hf.out]; rfl), hbW⟩
            | true =>
              rw [hdl] at hst'
              simp only [Bool.true_eq_false, if_false] at hst'
              have hf := Lib.hid hst'
              clear hst'
              by_cases hk0 : k = 0
              · subst hk0
                go_wp2
                go_roundw
                case rel => exact ⟨1, by omega, rfl, rfl, hb1, Lib.hid (by rw [hf.out]; simp [Hd0.out, backO])⟩
                case measure => simp [intOf]; omega
              · obtain ⟨j, rfl⟩ : ∃ j, k = j + 1 := ⟨k - 1, by omega⟩
                obtain ⟨p, hp⟩ := get_of_lt (l := dl) (k := j) (by rw [← HD.out]; omega)
                obtain ⟨p0, p1, p2⟩ := Hcs.out j p hp
                have hlb : b < w2.heap.size := Nat.lt_of_lt_of_le hbB hb0.size
                have q0 := (HK.out ⟨b, off + j * 3, none⟩ hlb).trans p0
                have q1 := (HK.out ⟨b, off + j * 3 + 1, none⟩ hlb).trans p1
                have q2 := (HK.out ⟨b, off + j * 3 + 2, none⟩ hlb).trans p2
                have hf' := hf.out
                rw [if_neg (show ¬ (j + 1 = 0) by omega), show j + 1 - 1 = j from rfl, hp] at hf'
                have hk1 : (0 : Int) < ((j + 1 : Nat) : Int) := by omega
                have hf1 := Lib.hid hf'
                clear p0 p1 p2 hp hf'
                go_upto_region 22 with fail
                generalize hW2 : W1.alloc _ = W2
                have row8 : Row W2 W1.heap.size [.int .i64 p.fl, .int .i64 p.fr, .int .i64 p.sl] := by rw [← hW2]; exact Row.new W1 _ _
                have row7' : Row W2 wr.heap.size [.int .i64 d.fl, .int .i64 d.fr, .int .i64 d.sl] := by rw [← hW2]; exact Row.alloc row7 hz1 _
                have hbW2 : Below w2.heap.size w2 W2 := by rw [← hW2]; exact hb1.alloc hb1.size _
                clear hW2 q0 q1 q2 row7 row1
                unfold Row at row8 row7'
                go_cut [151] (fun s151 W => s151 = .bool (backD p d) ∧ W = W2)
                case first =>
                  go_wp2
                  all_goals
                    go_meet
                    exact ⟨by simp [backD, *], rfl⟩
                case rest =>
                  obtain ⟨rfl, hwc⟩ := hcut
                  subst wc
                  have hf' := hf1.out
                  cases hbk : backD p d with
                  | true =>
                    rw [show backO (some p) d = true from hbk] at hf'
                    have hf2 := Lib.hid hf'
                    clear hf'
                    go_wp2
                    go_ret
                    exact ⟨ret_int (by rw [hfn.out, hf2.out]; rfl), hb0.trans (hbW2.mono hb0.size)⟩
                  | false =>
                    rw [show backO (some p) d = false from hbk] at hf'
                    simp only [Bool.false_eq_true, if_false] at hf'
                    have hf2 := Lib.hid hf'
                    clear hf'
                    go_wp2
                    go_roundw
                    case rel => exact ⟨j + 1 + 1, by omega, by go_num, rfl, hbW2, Lib.hid (by rw [hf2.out, if_neg (by omega), show j + 1 + 1 - 1 = j + 1 from rfl, Hd0.out])⟩
                    case measure => simp [intOf]; omega
        · go_wp2
          go_ret
          exact ⟨ret_int (by rw [hfn.out, hst.out, List.drop_of_length_le (by rw [← HD.out]; omega)]; simp [dlvsRGo]), hbd⟩

end Go.Proofs.YticnppnejafhdaaGreatDoor
/- Walks: the reference of the monitor layer: the check, where a frame was delivered. -/
namespace Go.Proofs.YticnppnejafhdaaGreatDoor
open Go.RowKit
open Nd Rc Mo

set_option maxHeartbeats 1000000 in
theorem rfchk_any (fs : List Fl) (r : Rec) (F A D : Option Addr) (cf ca cd : Nat) (w : World) (hF : Lies w w.heap.size 6 F (fs.map Fl.row)) (hf : fs.length ≤ 1000000) (hA : LiesA w w.heap.size A r.al) (hD : LiesD w w.heap.size D r.dl) (hla : r.al.length ≤ 1000000) (hld : r.dl.length ≤ 1000000) :
    Calls Tryz.prog 109 #[.slice F fs.length cf, .agg #[.int .i64 r.slots, .slice A r.al.length ca, .slice D r.dl.length cd]] w fun e w' => e = .returned (.int .i64 (if right fs r = true then 0 else 1)) ∧ Below w.heap.size w w' := by
  obtain ⟨slots, al, dl⟩ := r
  dsimp only at *
  obtain ⟨na, hna⟩ : ∃ n, n = al.length := ⟨_, rfl⟩
  obtain ⟨nd, hnd⟩ : ∃ n, n = dl.length := ⟨_, rfl⟩
  obtain ⟨W1, hW1⟩ : ∃ W1, W1 = w.alloc (.cells #[.int .i64 slots, .slice A na ca, .slice D nd cd] 35) := ⟨_, rfl⟩
  have hb1 : Below w.heap.size w W1 := by rw [hW1]; exact (Below.refl _ _).alloc (Nat.le_refl _) _
  have bR : Blk W1 w.heap.size 35 [.int .i64 slots, .slice A na ca, .slice D nd cd] := by rw [hW1]; exact Blk.new2 _ [.int .i64 slots, .slice A na ca, .slice D nd cd] rfl
  have Con := Lib.hid (rCheck_any fs F cf W1 (Lies.later hF hb1) hf)
  have Con2 := Lib.hid (fun W (h' : Below W1.heap.size W1 W) => rcheck_any ⟨slots, al, dl⟩ A D ca cd W ((hA.below hb1).more hb1.size |>.below h' |>.more h'.size) ((hD.below hb1).more hb1.size |>.below h' |>.more h'.size) (by dsimp only; omega) (by dsimp only; omega))
  obtain ⟨V, hV⟩ : ∃ V : Int, V = if right fs ⟨slots, al, dl⟩ = true then 0 else 1 := ⟨_, rfl⟩
  have hT : right fs ⟨slots, al, dl⟩ = (decide ((chkF fs).2 = 0) && (rcheckE ⟨slots, al, dl⟩ == 0)) := by
    rw [← check_agree]
    unfold right checkE
    cases good ⟨slots, al, dl⟩ <;> rfl
  rw [← hV]
  rw [hT] at hV
  generalize chkF fs = T at *
  generalize hE : rcheckE ⟨slots, al, dl⟩ = E at *
  dsimp only at Con2
  rw [← hna, ← hnd] at Con2 ⊢
  generalize fs.length = m at *
  have HR := Lib.hid (fun W (h' : Below W1.heap.size W1 W) => (bR.below h' bR.lt).row)
  have HB1 := Lib.hid hb1
  have HV := Lib.hid hV
  have hlt : w.heap.size < W1.heap.size := bR.lt
  clear hF hA hD hna hnd hT hE hV hb1 bR
  subst hW1
  go_enter Tryz.func109, Tryz.ntmps109
  go_wp2_with fail
  refine Con.out.mono ?_
  rintro e w2 ⟨rfl, hb2⟩
  have r2 := HR.out _ hb2
  unfold Row at r2
  have hfin := HB1.out.trans (hb2.mono HB1.out.size)
  have Con3 := Lib.hid (Con2.out _ hb2)
  by_cases hc : T.2 = 0
  · have e1 : (T.2 != 0) = false := by simpa using hc
    have e2 : decide (T.2 = 0) = true := decide_eq_true hc
    by_cases hE : E = 0
    · have e3 : (E != 0) = false := by simpa using hE
      have E2 : Hid (V = 0) := Lib.hid (by rw [HV.out, e2, hE]; rfl)
      clear hc hE e2 Con Con2 HR
      go_wp2_with (go_at_call 84; (with_reducible refine Con3.out.mono ?_); rintro e w3 ⟨rfl, hb3⟩)
      go_ret
      exact ⟨ret_int (by rw [E2.out]), hfin.trans (hb3.mono hfin.size)⟩
    · have e3 : (E != 0) = true := by simpa using hE
      have E2 : Hid (V = 1) := Lib.hid (by rw [HV.out, e2, show (E == 0) = false from by simpa using hE]; rfl)
      clear hc hE e2 Con Con2 HR
      go_wp2_with (go_at_call 84; (with_reducible refine Con3.out.mono ?_); rintro e w3 ⟨rfl, hb3⟩)
      go_ret
      exact ⟨ret_int (by rw [E2.out]), hfin.trans (hb3.mono hfin.size)⟩
  · have e1 : (T.2 != 0) = true := by simpa using hc
    have E2 : Hid (V = 1) := Lib.hid (by rw [HV.out, decide_eq_false hc]; rfl)
    clear hc Con Con2 HR Con3
    go_wp2_with fail
    go_ret
    exact ⟨ret_int (by rw [E2.out]), hfin⟩

theorem deliv_cons (d : Dlv) (l : List Dlv) (fl fr a b : Int) : deliv (d :: l) fl fr a b = if (d.fl == fl && d.fr == fr && decide (a ≤ d.sl) && decide (d.sl ≤ b)) = true then d.sl else deliv l fl fr a b := by
  unfold deliv slotsOf
  cases h1 : (d.fl == fl && d.fr == fr) with
  | false => rw [List.filter_cons_of_neg (by simp [h1])]; simp
  | true =>
    rw [List.filter_cons_of_pos (by simpa using h1), List.map_cons, Bool.true_and]
    cases h2 : (decide (a ≤ d.sl) && decide (d.sl ≤ b)) with
    | false => rw [List.find?_cons_of_neg (by simp [h2])]; simp
    | true => rw [List.find?_cons_of_pos (by simpa using h2)]; rfl

set_option maxRecDepth 100000 in
set_option maxHeartbeats 2000000 in
theorem deliv_any (r : Rec) (f : Fl) (fr x y : Int) (A D : Option Addr) (ca cd : Nat) (w : World) (hD : LiesD w w.heap.size D r.dl) (hld : r.dl.length ≤ 1000000) :
    Calls Tryz.prog 110 #[.agg #[.int .i64 r.slots, .slice A r.al.length ca, .slice D r.dl.length cd], .agg #[.int .i64 f.id, .int .i64 f.fr, .int .i64 f.tn, .int .i64 f.pe, .int .i64 f.ph, .int .i64 f.dl], .int .i64 fr, .int .i64 x, .int .i64 y] w fun e w' => e = .returned (.int .i64 (deliv r.dl f.id fr x y)) ∧ Below w.heap.size w w' := by
  obtain ⟨N, hN⟩ : ∃ N, N = w.heap.size := ⟨_, rfl⟩
  obtain ⟨na, hna⟩ : ∃ n, n = r.al.length := ⟨_, rfl⟩
  obtain ⟨nd, hnd⟩ : ∃ n, n = r.dl.length := ⟨_, rfl⟩
  obtain ⟨slots, hsl⟩ : ∃ s, s = r.slots := ⟨_, rfl⟩
  obtain ⟨T, hT⟩ : ∃ T, T = deliv r.dl f.id fr x y := ⟨_, rfl⟩
  obtain ⟨W1, hW1⟩ : ∃ W1, W1 = (w.alloc (.cells #[.int .i64 slots, .slice A na ca, .slice D nd cd] 35)).alloc (.cells #[.int .i64 f.id, .int .i64 f.fr, .int .i64 f.tn, .int .i64 f.pe, .int .i64 f.ph, .int .i64 f.dl] 28) := ⟨_, rfl⟩
  have hb1 : Below N w W1 := by rw [hW1, hN]; exact ((Below.refl _ _).alloc (Nat.le_refl _) _).alloc (by simp) _
  have bR : Blk W1 N 35 [.int .i64 slots, .slice A na ca, .slice D nd cd] := by rw [hW1]; exact Blk.alloc (Blk.new2 _ [.int .i64 slots, .slice A na ca, .slice D nd cd] hN) _
  have bF : Blk W1 (N + 1) 28 [.int .i64 f.id, .int .i64 f.fr, .int .i64 f.tn, .int .i64 f.pe, .int .i64 f.ph, .int .i64 f.dl] := by rw [hW1]; exact Blk.new2 _ [.int .i64 f.id, .int .i64 f.fr, .int .i64 f.tn, .int .i64 f.pe, .int .i64 f.ph, .int .i64 f.dl] (by simp [hN])
  have HW := Lib.hid (fun W (h' : Below W1.heap.size W1 W) => (show Below w.heap.size w W ∧ Row W N [.int .i64 slots, .slice A na ca, .slice D nd cd] ∧ Row W (N + 1) [.int .i64 f.id, .int .i64 f.fr, .int .i64 f.tn, .int .i64 f.pe, .int .i64 f.ph, .int .i64 f.dl] ∧ LiesD W W.heap.size D r.dl from by
    have hB : Below w.heap.size w W := by rw [← hN]; exact hb1.trans (h'.mono (by have := bR.lt; omega))
    exact ⟨hB, (bR.below h' bR.lt).row, (bF.below h' bF.lt).row, (hD.below hB).more hB.size⟩))
  rw [← hT, ← hna, ← hnd, ← hsl]
  rw [← hnd] at hld
  have HT := Lib.hid (show T = deliv (r.dl.drop 0) f.id fr x y from hT)
  have HNd := Lib.hid hnd
  have HW1 := Lib.hid hW1
  have HN := Lib.hid hN
  have hNlt : N + 1 < W1.heap.size := bF.lt
  clear hD hT hna hnd hsl hN hW1 hb1 bR bF
  go_enter Tryz.func110, Tryz.ntmps110
  go_wp2_with fail
  rw [← HW1.out, ← HN.out]
  go_loopw [11] (fun i wr => ∃ (k : Nat), k ≤ nd ∧ i = .int .i64 k ∧ Below W1.heap.size W1 wr ∧ Hid (T = deliv (r.dl.drop k) f.id fr x y)) (fun i _ => nd - (intOf i).toNat)
  case atStart => exact ⟨0, by omega, rfl, Below.refl _ _, HT⟩
  case round =>
    clear HT
    obtain ⟨k, hk, rfl, hb, HTk⟩ := hrel
    by_cases hlt : k < nd
    · obtain ⟨d, hdk⟩ := get_of_lt (l := r.dl) (k := k) (by rw [← HNd.out]; exact hlt)
      have r1 := (HW.out _ hb).2.1
      obtain ⟨ab, aoff, rfl, haB, hcs⟩ := (HW.out _ hb).2.2.2.at_ hdk
      obtain ⟨c0, c1, c2⟩ := hcs k d hdk
      have HT' : Hid (T = if (d.fl == f.id && d.fr == fr && decide (x ≤ d.sl) && decide (d.sl ≤ y)) = true then d.sl else deliv (r.dl.drop (k + 1)) f.id fr x y) := Lib.hid (by rw [HTk.out, drop_of_get hdk, deliv_cons])
      unfold Row at r1
      clear hcs hdk HTk
      go_upto_region 5 with fail
      clear c0 c1 c2 r1
      obtain ⟨X, hX⟩ : ∃ X, X = wr.heap.size := ⟨_, rfl⟩
      generalize hWa : World.alloc _ _ = Wa
      have b1 : Blk Wa X 137 [.int .i64 d.fl, .int .i64 d.fr, .int .i64 d.sl] := by rw [← hWa]; exact Blk.new2 _ [.int .i64 d.fl, .int .i64 d.fr, .int .i64 d.sl] hX
      have hba : Below W1.heap.size W1 Wa := by rw [← hWa]; exact hb.alloc hb.size _
      rw [← hX]
      clear hWa hX hb
      have r1 := (HW.out _ hba).2.1
      have r2 := (HW.out _ hba).2.2.1
      have r3 := b1.row
      unfold Row at r1 r2 r3
      clear b1
      by_cases h1 : d.fl = f.id
      case neg =>
        have e1 : (d.fl == f.id) = false := by simpa using h1
        have HN2 : Hid (T = deliv (r.dl.drop (k + 1)) f.id fr x y) := Lib.hid (by rw [HT'.out, if_neg (by simp only [Bool.and_eq_true, beq_iff_eq, decide_eq_true_eq]; omega)])
        clear HT'
        go_wp2_with fail
        go_roundw
        case rel => exact ⟨k + 1, by omega, by go_num, hba, HN2⟩
        case measure => simp [intOf]; omega
      have e1 : (d.fl == f.id) = true := by simpa using h1
      by_cases h2 : d.fr = fr
      case neg =>
        have e2 : (d.fr == fr) = false := by simpa using h2
        have HN2 : Hid (T = deliv (r.dl.drop (k + 1)) f.id fr x y) := Lib.hid (by rw [HT'.out, if_neg (by simp only [Bool.and_eq_true, beq_iff_eq, decide_eq_true_eq]; omega)])
        clear HT'
        go_wp2_with fail
        go_roundw
        case rel => exact ⟨k + 1, by omega, by go_num, hba, HN2⟩
        case measure => simp [intOf]; omega
      have e2 : (d.fr == fr) = true := by simpa using h2
      by_cases h3 : x ≤ d.sl
      case neg =>
        have e3 : decide (x ≤ d.sl) = false := by simpa using h3
        have HN2 : Hid (T = deliv (r.dl.drop (k + 1)) f.id fr x y) := Lib.hid (by rw [HT'.out, if_neg (by simp only [Bool.and_eq_true, beq_iff_eq, decide_eq_true_eq]; omega)])
        clear HT'
        go_wp2_with fail
        go_roundw
        case rel => exact ⟨k + 1, by omega, by go_num, hba, HN2⟩
        case measure => simp [intOf]; omega
      have e3 : decide (x ≤ d.sl) = true := by simpa using h3
      by_cases h4 : d.sl ≤ y
      case neg =>
        have e4 : decide (d.sl ≤ y) = false := by simpa using h4
        have HN2 : Hid (T = deliv (r.dl.drop (k + 1)) f.id fr x y) := Lib.hid (by rw [HT'.out, if_neg (by simp only [Bool.and_eq_true, beq_iff_eq, decide_eq_true_eq]; omega)])
        clear HT'
        go_wp2_with fail
        go_roundw
        case rel => exact ⟨k + 1, by omega, by go_num, hba, HN2⟩
        case measure => simp [intOf]; omega
      have e4 : decide (d.sl ≤ y) = true := by simpa using h4
      have hf : Hid (T = d.sl) := Lib.hid (by rw [HT'.out, if_pos (by simp only [Bool.and_eq_true, beq_iff_eq, decide_eq_true_eq]; omega)])
      clear HT'
      go_wp2_with fail
      go_ret
      exact ⟨ret_int (by rw [hf.out]), (HW.out _ hba).1⟩
    · have hf : Hid (T = -1) := Lib.hid (by rw [HTk.out, List.drop_of_length_le (by rw [← HNd.out]; omega)]; rfl)
      have r1 := (HW.out _ hb).2.1
      unfold Row at r1
      go_wp2_with fail
      go_ret
      exact ⟨ret_int (by rw [hf.out]), (HW.out _ hb).1⟩
end Go.Proofs.YticnppnejafhdaaGreatDoor
/- Walk: the reference of Late. -/
namespace Go.Proofs.YticnppnejafhdaaGreatDoor
open Go.RowKit
open Nd Rc Mo

theorem Calls.ext_below {P : Program} {g : FuncId} {args : Array Value} {w : World} {B : Nat} {x : ExtW B w} {v : Value}
    (h : Calls P g args x.val fun e w' => e = .returned v ∧ Below x.val.heap.size x.val w') (hB : B ≤ w.heap.size) : Calls P g args x.val fun e w'' => e = .returned v ∧ ∃ y : ExtW B w, w'' = y.val :=
  h.mono fun _ w2 ⟨he, hb⟩ => ⟨he, ⟨w2, x.below.trans (hb.mono (Nat.le_trans hB x.below.size))⟩, rfl⟩
theorem lateN_ref {f : Fl} {dl : List Dlv} (hd : ∀ d ∈ dl, 0 ≤ d.sl) (n : Nat) : lateN f dl n = if deliv dl f.id n (rel f n) (rel f n + f.dl - 1) < 0 then [⟨f.id, n, deliv dl f.id n (rel f n + f.dl) (rel f n + f.pe - 1)⟩] else [] := by
  unfold lateN
  rw [arrival_eq hd n]
  split <;> simp

set_option maxRecDepth 100000 in
set_option maxHeartbeats 4000000 in
theorem rlate_any (fs : List Fl) (r : Rec) (F A D : Option Addr) (cf ca cd : Nat) (w : World) (hF : Lies w w.heap.size 6 F (fs.map Fl.row)) (hf : fs.length ≤ 1000000) (hA : LiesA w w.heap.size A r.al) (hD : LiesD w w.heap.size D r.dl) (hla : r.al.length ≤ 1000000) (hld : r.dl.length ≤ 1000000) :
    Calls Tryz.prog 78 #[.slice F fs.length cf, .agg #[.int .i64 r.slots, .slice A r.al.length ca, .slice D r.dl.length cd]] w fun e w' => Below w.heap.size w w' ∧ ∃ v, e = .returned (.tuple #[v, .int .i64 (late fs r).2]) ∧ w'.ownsRow w.heap.size 39 3 v (late fs r).1.length ((late fs r).1.flatMap Lt.row) := by
  obtain ⟨i0, hi, hz0, hz1, hz2⟩ := info_parts Tryz.infoL
  obtain ⟨N, hN⟩ : ∃ N, N = w.heap.size := ⟨_, rfl⟩
  obtain ⟨na, hna⟩ : ∃ n, n = r.al.length := ⟨_, rfl⟩
  obtain ⟨nd, hnd⟩ : ∃ n, n = r.dl.length := ⟨_, rfl⟩
  obtain ⟨m, hm⟩ : ∃ m, m = fs.length := ⟨_, rfl⟩
  obtain ⟨slots, hsl⟩ : ∃ s, s = r.slots := ⟨_, rfl⟩
  obtain ⟨W1, hW1⟩ : ∃ W1, W1 = w.alloc (.cells #[.int .i64 slots, .slice A na ca, .slice D nd cd] 35) := ⟨_, rfl⟩
  have hb1 : Below N w W1 := by rw [hW1, hN]; exact (Below.refl _ _).alloc (Nat.le_refl _) _
  have bR : Blk W1 N 35 [.int .i64 slots, .slice A na ca, .slice D nd cd] := by rw [hW1]; exact Blk.new2 _ [.int .i64 slots, .slice A na ca, .slice D nd cd] hN
  have HW := Lib.hid (fun W (h' : Below W1.heap.size W1 W) => (show Below w.heap.size w W ∧ Row W N [.int .i64 slots, .slice A na ca, .slice D nd cd] from ⟨by rw [← hN]; exact hb1.trans (h'.mono (by have := bR.lt; omega)), (bR.below h' bR.lt).row⟩))
  have HF := Lib.hid (fun W (h' : Below W1.heap.size W1 W) => Lies.later hF (HW.out W h').1)
  have HRt := Lib.hid (rfchk_any fs r F A D cf ca cd W1 (HF.out _ (Below.refl _ _)) hf ((hA.below (HW.out _ (Below.refl _ _)).1).more (HW.out _ (Below.refl _ _)).1.size) ((hD.below (HW.out _ (Below.refl _ _)).1).more (HW.out _ (Below.refl _ _)).1.size) hla hld)
  have HDv := Lib.hid (fun (f : Fl) (n : Int) (x y : Int) W (h' : Below W1.heap.size W1 W) => deliv_any r f n x y A D ca cd W ((hD.below (HW.out W h').1).more (HW.out W h').1.size) hld)
  rw [← hna, ← hnd, ← hsl] at HRt HDv ⊢
  rw [← hm] at HRt ⊢
  obtain ⟨E, hE⟩ : ∃ E : Int, E = if right fs r = true then 0 else 1 := ⟨_, rfl⟩
  have HE : Hid ((right fs r = true ∧ E = 0) ∨ (right fs r = false ∧ E = 1)) := Lib.hid (by rw [hE]; cases right fs r <;> simp)
  rw [← hE] at HRt
  have HM := Lib.hid hm
  have HSl := Lib.hid hsl
  have HW1 := Lib.hid hW1
  have HN := Lib.hid hN
  have hNlt : N < W1.heap.size := bR.lt
  have r1 := (HW.out _ (Below.refl _ _)).2
  unfold Row at r1
  clear hF hA hD hna hnd hm hsl hb1 bR hN hf hla hld hE
  subst hW1
  go_enter Tryz.func78, Tryz.ntmps78
  clear r1
  go_wp2_with fail
  rw [← HN.out]
  refine HRt.out.mono ?_
  rintro e w2 ⟨rfl, hb2⟩
  clear HRt
  rcases HE.out with ⟨hr, rfl⟩ | ⟨hr, rfl⟩
  case inr =>
    have hl : Hid (late fs r = ([], 1)) := Lib.hid (by unfold late; rw [hr]; rfl)
    clear hr HE
    go_wp2_with fail
    go_ret2
    exact ⟨(HW.out _ hb2).1, _, by rw [hl.out]; rfl, by rw [hl.out]; exact World.ownsRow_nil _ _ _ _⟩
  have hl : Hid (late fs r = (fs.flatMap (fun f => lateF f r), 0)) := Lib.hid (by unfold late; rw [if_pos hr])
  obtain ⟨hc, hg⟩ := right_inv hr
  obtain ⟨hfa, _, hm16⟩ := chkF_ok hc
  obtain ⟨hs0, hs1⟩ := good_slots hg
  have HFa := Lib.hid hfa
  have HLn := Lib.hid (fun (f : Fl) (n : Nat) => @lateN_ref f r.dl (fun d hd => (good_dlv hg hd).1) n)
  rw [← HSl.out] at hs0 hs1
  have hm16' : m ≤ 16 := by rw [HM.out]; exact hm16
  have HX := Lib.hid (fun W (h' : Below w2.heap.size w2 W) => (show Below w.heap.size w W ∧ Row W N [.int .i64 slots, .slice A na ca, .slice D nd cd] ∧ Lies W W.heap.size 6 F (fs.map Fl.row) from ⟨(HW.out _ (hb2.trans (h'.mono hb2.size))).1, (HW.out _ (hb2.trans (h'.mono hb2.size))).2, HF.out _ (hb2.trans (h'.mono hb2.size))⟩))
  have HDv2 := Lib.hid (fun (f : Fl) (n : Int) (x y : Int) W (h' : Below w2.heap.size w2 W) => HDv.out f n x y W (hb2.trans (h'.mono hb2.size)))
  have hMN : N < w2.heap.size := Nat.lt_of_lt_of_le hNlt hb2.size
  clear hc hg hfa hr hm16 HE hb2 HW HF HW1 HDv
  go_wp2_with fail
  go_loopw [7, 8] (fun s7 i wr => ∃ (k : Nat) (v : Value), v = s7 ∧ k ≤ m ∧ i = .int .i64 k ∧ Below w2.heap.size w2 wr ∧ Hid (wr.ownsRow w2.heap.size 39 3 v ((fs.take k).flatMap (fun f => lateF f r)).length (((fs.take k).flatMap (fun f => lateF f r)).flatMap Lt.row))) (fun _ i _ => m - (intOf i).toNat)
  case atStart => exact ⟨0, _, rfl, by omega, rfl, Below.refl _ _, Lib.hid (World.ownsRow_nil _ _ _ _)⟩
  case round =>
    obtain ⟨k, v, rfl, hk, rfl, hb, HO⟩ := hrel
    by_cases hlt : k < m
    · obtain ⟨f, hfk⟩ := get_of_lt (l := fs) (k := k) (by rw [← HM.out]; exact hlt)
      have hff := HFa.out f (List.mem_of_getElem? hfk)
      obtain ⟨fb, foff, rfl, hfB, hcs⟩ := (HX.out _ hb).2.2.at_ hfk
      have c0 := hcs k f hfk 0 _ rfl
      have c1 := hcs k f hfk 1 _ rfl
      have c2 := hcs k f hfk 2 _ rfl
      have c3 := hcs k f hfk 3 _ rfl
      have c4 := hcs k f hfk 4 _ rfl
      have c5 := hcs k f hfk 5 _ rfl
      simp only [Nat.add_zero] at c0 c1 c2 c3 c4 c5
      have HFk := Lib.hid hfk
      clear hcs
      go_upto_region 9 with fail
      clear c0 c1 c2 c3 c4 c5 hfk
      obtain ⟨X, hX⟩ : ∃ X, X = wr.heap.size := ⟨_, rfl⟩
      generalize hWa : World.alloc _ _ = Wa
      have bX : Blk Wa X 28 [.int .i64 f.id, .int .i64 f.fr, .int .i64 f.tn, .int .i64 f.pe, .int .i64 f.ph, .int .i64 f.dl] := by rw [← hWa]; exact Blk.new2 _ [.int .i64 f.id, .int .i64 f.fr, .int .i64 f.tn, .int .i64 f.pe, .int .i64 f.ph, .int .i64 f.dl] hX
      have hba : Below w2.heap.size w2 Wa := by rw [← hWa]; exact hb.alloc hb.size _
      have HO4 : Hid (Wa.ownsRow w2.heap.size 39 3 v (lateQ fs r k f 0).length ((lateQ fs r k f 0).flatMap Lt.row)) := Lib.hid (by rw [← hWa]; have := HO.out.alloc (.cells #[.int .i64 f.id, .int .i64 f.fr, .int .i64 f.tn, .int .i64 f.pe, .int .i64 f.ph, .int .i64 f.dl] 28); unfold lateQ; simpa using this)
      rw [← hX]
      clear hWa hX HO hb
      have HX4 := Lib.hid bX
      have hcb := complete_bounds hff hs1
      obtain ⟨cn, hcn⟩ : ∃ cn : Nat, complete f slots = (cn : Int) := ⟨(complete f slots).toNat, by omega⟩
      have HCN : Hid (cn = (complete f r.slots).toNat) := Lib.hid (by rw [← HSl.out, hcn]; rfl)
      have hcn4 : cn ≤ 4096 := by omega
      have HCi := Lib.hid (fun n : Nat => (complete_iff hff slots n).trans (by rw [hcn]; rfl : n < (complete f slots).toNat ↔ n < cn))
      have HQl : Hid (∀ n, n ≤ 4096 → (lateQ fs r k f n).length ≤ 100000) := Lib.hid (fun n hn => by
        unfold lateQ
        rw [List.length_append]
        have h1 := late_len (r := r) (by rw [← HSl.out]; exact hs1) (fs.take k) (fun g hg => HFa.out g (List.mem_of_mem_take hg))
        have h2 := range_len f r.dl n
        have h3 := List.length_take_le k fs
        rw [List.length_take] at h1
        have h4 : min k fs.length ≤ 16 := by omega
        omega)
      have HRl := Lib.hid (fun (n : Nat) (hn : n ≤ 4096) W => rrel_any f n hff (by omega) (by omega) W)
      have HRb : Hid (∀ n : Nat, n ≤ 4096 → 0 ≤ rel f n ∧ rel f n ≤ 10000000) := Lib.hid (fun n hn => by
        obtain ⟨_, _, _, hp, hq, hdl, _⟩ := fault_zero hff
        have hm0 : 0 ≤ (n : Int) * f.pe := Int.mul_nonneg (by omega) (by omega)
        have hm1 : (n : Int) * f.pe ≤ 4096 * f.pe := Int.mul_le_mul_of_nonneg_right (by omega) (by omega)
        unfold rel
        omega)
      have hfb : 0 ≤ f.dl ∧ f.dl ≤ 1000000 ∧ 0 ≤ f.pe ∧ f.pe ≤ 1000000 := by
        obtain ⟨_, _, _, hp, hq, hdl, _⟩ := fault_zero hff
        omega
      clear hcb hcn bX hff
      go_wp2_with fail
      go_loopw [7, 10] (fun s7 j wr => ∃ (n : Nat) (v : Value), v = s7 ∧ n ≤ cn ∧ j = .int .i64 n ∧ Below w2.heap.size w2 wr ∧ Hid (Blk wr X 28 [.int .i64 f.id, .int .i64 f.fr, .int .i64 f.tn, .int .i64 f.pe, .int .i64 f.ph, .int .i64 f.dl]) ∧ Hid (wr.ownsRow w2.heap.size 39 3 v (lateQ fs r k f n).length ((lateQ fs r k f n).flatMap Lt.row))) (fun _ j _ => cn - (intOf j).toNat)
      case atStart => exact ⟨0, _, rfl, by omega, rfl, hba, HX4, HO4⟩
      case round =>
        clear HX4 HO4 hba
        obtain ⟨n, v2, rfl, hn, rfl, hb, HXb, HO⟩ := hrel
        have hn4 : n ≤ 4096 := by omega
        obtain ⟨R, hR⟩ : ∃ R, R = rel f n := ⟨_, rfl⟩
        have Con := Lib.hid (HRl.out n hn4)
        have hRb := HRb.out n hn4
        have HCn := Lib.hid (HCi.out n)
        have HLn2 := Lib.hid (HLn.out f n)
        rw [← hR] at Con hRb HCn HLn2
        clear hR
        have hw1 : IntKind.i64.wrap (R + f.dl) = R + f.dl := by rw [IntKind.wrap_i64]; omega
        have hw2 : IntKind.i64.wrap (R + f.dl - 1) = R + f.dl - 1 := by rw [IntKind.wrap_i64]; omega
        have hw3 : IntKind.i64.wrap (R + f.pe) = R + f.pe := by rw [IntKind.wrap_i64]; omega
        have hw4 : IntKind.i64.wrap (R + f.pe - 1) = R + f.pe - 1 := by rw [IntKind.wrap_i64]; omega
        have xY := HXb.out.row.ext (B := wr.heap.size) HXb.out.lt
        have xN := (show Row wr N [.int .i64 slots, .slice A na ca, .slice D nd cd] from (HX.out _ hb).2.1).ext (B := wr.heap.size) (Nat.lt_of_lt_of_le hMN hb.size)
        go_upto_region 10 with fail
        refine wp_region_ext wr.heap.size (by kernel_rfl) (by kernel_rfl) ?_
        repeat (go_big_quiet_step ((go_at_call 79; exact Calls.ext_below (Con.out _) (Nat.le_refl _))))
        refine wpQuiet_nil ?_
        rintro w3 ⟨x, hw3⟩
        have hx3 : Below wr.heap.size wr w3 := by rw [hw3]; exact x.below
        clear hw3 x
        have hB3 : Below w2.heap.size w2 w3 := hb.trans (hx3.mono hb.size)
        have HX3 : Hid (Blk w3 X 28 [.int .i64 f.id, .int .i64 f.fr, .int .i64 f.tn, .int .i64 f.pe, .int .i64 f.ph, .int .i64 f.dl]) := Lib.hid (HXb.out.below hx3 HXb.out.lt)
        have HO3 : Hid (w3.ownsRow w2.heap.size 39 3 v2 (lateQ fs r k f n).length ((lateQ fs r k f n).flatMap Lt.row)) := Lib.hid (own_below HO.out hx3 (Nat.le_refl _))
        clear HO HXb hx3 hb xY xN
        by_cases hlt2 : n < cn
        · have d0 : decide (R + f.dl ≤ slots) = true := decide_eq_true (HCn.out.2 hlt2)
          rw [d0]
          obtain ⟨D1, hD1⟩ : ∃ D1, D1 = deliv r.dl f.id n R (R + f.dl - 1) := ⟨_, rfl⟩
          obtain ⟨D2, hD2⟩ : ∃ D2, D2 = deliv r.dl f.id n (R + f.dl) (R + f.pe - 1) := ⟨_, rfl⟩
          have C1 := Lib.hid (HDv2.out f n R (R + f.dl - 1))
          have C2 := Lib.hid (HDv2.out f n (R + f.dl) (R + f.pe - 1))
          rw [← hD1] at C1 HLn2
          rw [← hD2] at C2 HLn2
          have r3 := HX3.out.row
          unfold Row at r3
          clear hD1 hD2
          go_wp2_with fail
          refine (Con.out _).mono ?_
          rintro e w4 ⟨rfl, hb4⟩
          have hB4 : Below w2.heap.size w2 w4 := hB3.trans (hb4.mono hB3.size)
          have HX4 : Hid (Blk w4 X 28 [.int .i64 f.id, .int .i64 f.fr, .int .i64 f.tn, .int .i64 f.pe, .int .i64 f.ph, .int .i64 f.dl]) := Lib.hid (HX3.out.below hb4 HX3.out.lt)
          have HO4 : Hid (w4.ownsRow w2.heap.size 39 3 v2 (lateQ fs r k f n).length ((lateQ fs r k f n).flatMap Lt.row)) := Lib.hid (own_below HO3.out hb4 (Nat.le_refl _))
          clear HO3 HX3 hb4 r3 d0 Con hB3
          have r4 := HX4.out.row
          have n4 := (HX.out _ hB4).2.1
          unfold Row at r4 n4
          go_wp2_with fail
          refine (C1.out _ hB4).mono ?_
          rintro e w5 ⟨rfl, hb5⟩
          have hB5 : Below w2.heap.size w2 w5 := hB4.trans (hb5.mono hB4.size)
          have HX5 : Hid (Blk w5 X 28 [.int .i64 f.id, .int .i64 f.fr, .int .i64 f.tn, .int .i64 f.pe, .int .i64 f.ph, .int .i64 f.dl]) := Lib.hid (HX4.out.below hb5 HX4.out.lt)
          have HO5 : Hid (w5.ownsRow w2.heap.size 39 3 v2 (lateQ fs r k f n).length ((lateQ fs r k f n).flatMap Lt.row)) := Lib.hid (own_below HO4.out hb5 (Nat.le_refl _))
          clear HO4 HX4 hb5 r4 n4 C1 hB4
          by_cases hD : D1 < 0
          · have d1 : decide (D1 < 0) = true := decide_eq_true hD
            have hQ : Hid (lateQ fs r k f (n + 1) = lateQ fs r k f n ++ [⟨f.id, n, D2⟩]) := Lib.hid (by rw [lateQ_succ, HLn2.out, if_pos hD])
            obtain ⟨wd, hwd⟩ : ∃ wd, wd = w5.drew := ⟨_, rfl⟩
            have hbd : Below w5.heap.size w5 wd := by rw [hwd]; exact (Below.refl _ _).drew
            have HDZ : Hid (w5.heap.size = wd.heap.size) := Lib.hid (by rw [hwd]; rfl)
            have hBd : Below w2.heap.size w2 wd := hB5.trans (hbd.mono hB5.size)
            have HXd : Hid (Blk wd X 28 [.int .i64 f.id, .int .i64 f.fr, .int .i64 f.tn, .int .i64 f.pe, .int .i64 f.ph, .int .i64 f.dl]) := Lib.hid (HX5.out.below hbd HX5.out.lt)
            have HOd : Hid (wd.ownsRow w2.heap.size 39 3 v2 (lateQ fs r k f n).length ((lateQ fs r k f n).flatMap Lt.row)) := Lib.hid (own_below HO5.out hbd (Nat.le_refl _))
            have xY := HXd.out.row.ext (B := w5.heap.size) HX5.out.lt
            have xN := (show Row wd N [.int .i64 slots, .slice A na ca, .slice D nd cd] from (HX.out _ hBd).2.1).ext (B := w5.heap.size) (Nat.lt_of_lt_of_le hMN hB5.size)
            clear hbd
            go_upto_region 14 with fail
            refine wp_region_mixT (w5.heap.size) 19 2 #[false, false, false, false, false, false, false, false, false, false, false, false, false, false, false, false, false, false, false, false, false] (by kernel_rfl) rfl rfl ?_
            rw [← hwd]
            clear hwd
            refine anyT_take 0 _ (nth0) rfl (by kernel_rfl) (by kernel_rfl) (by kernel_rfl) (by kernel_rfl) (l' := #[true, false, false, false, false, false, false, false, false, false, false, false, false, false, false, false, false, false, false, false, false]) rfl rfl ?_; intro K hK; go_big_quiet_op; go_big_quiet_on
            refine anyT_take 1 _ (nthS (nth0)) rfl (by kernel_rfl) (by kernel_rfl) (by kernel_rfl) (by kernel_rfl) (l' := #[true, true, false, false, false, false, false, false, false, false, false, false, false, false, false, false, false, false, false, false, false]) rfl rfl ?_; intro K hK; go_big_quiet_op; go_big_quiet_on
            refine anyT_take 2 _ (nthS (nthS (nth0))) rfl (by kernel_rfl) (by kernel_rfl) (by kernel_rfl) (by kernel_rfl) (l' := #[true, true, true, false, false, false, false, false, false, false, false, false, false, false, false, false, false, false, false, false, false]) rfl rfl ?_; intro K hK; go_big_quiet_op; go_big_quiet_on
            refine anyT_take 3 _ (nthS (nthS (nthS (nth0)))) rfl (by kernel_rfl) (by kernel_rfl) (by kernel_rfl) (by kernel_rfl) (l' := #[true, true, true, true, false, false, false, false, false, false, false, false, false, false, false, false, false, false, false, false, false]) rfl rfl ?_; intro K hK; go_big_quiet_op; go_big_quiet_on
            refine anyT_take 4 _ (nthS (nthS (nthS (nthS (nth0))))) rfl (by kernel_rfl) (by kernel_rfl) (by kernel_rfl) (by kernel_rfl) (l' := #[true, true, true, true, true, false, false, false, false, false, false, false, false, false, false, false, false, false, false, false, false]) rfl rfl ?_; intro K hK; go_big_quiet_op; go_big_quiet_on
            refine anyT_take 5 _ (nthS (nthS (nthS (nthS (nthS (nth0)))))) rfl (by kernel_rfl) (by kernel_rfl) (by kernel_rfl) (by kernel_rfl) (l' := #[true, true, true, true, true, true, false, false, false, false, false, false, false, false, false, false, false, false, false, false, false]) rfl rfl ?_; intro K hK; go_big_quiet_op; go_big_quiet_on
            refine anyT_take 6 _ (nthS (nthS (nthS (nthS (nthS (nthS (nth0))))))) rfl (by kernel_rfl) (by kernel_rfl) (by kernel_rfl) (by kernel_rfl) (l' := #[true, true, true, true, true, true, true, false, false, false, false, false, false, false, false, false, false, false, false, false, false]) rfl rfl ?_; intro K hK; go_big_quiet_op; go_big_quiet_on
            refine anyT_take 7 _ (nthS (nthS (nthS (nthS (nthS (nthS (nthS (nth0)))))))) rfl (by kernel_rfl) (by kernel_rfl) (by kernel_rfl) (by kernel_rfl) (l' := #[true, true, true, true, true, true, true, true, false, false, false, false, false, false, false, false, false, false, false, false, false]) rfl rfl ?_; intro K hK; go_big_quiet_op; go_big_quiet_on
            refine anyT_take 8 _ (nthS (nthS (nthS (nthS (nthS (nthS (nthS (nthS (nth0))))))))) rfl (by kernel_rfl) (by kernel_rfl) (by kernel_rfl) (by kernel_rfl) (l' := #[true, true, true, true, true, true, true, true, true, false, false, false, false, false, false, false, false, false, false, false, false]) rfl rfl ?_; intro K hK; go_big_quiet_op; go_big_quiet_on
            refine anyT_take 9 _ (nthS (nthS (nthS (nthS (nthS (nthS (nthS (nthS (nthS (nth0)))))))))) rfl (by kernel_rfl) (by kernel_rfl) (by kernel_rfl) (by kernel_rfl) (l' := #[true, true, true, true, true, true, true, true, true, true, false, false, false, false, false, false, false, false, false, false, false]) rfl rfl ?_; intro K hK; go_big_quiet_op; go_big_quiet_on
            refine anyT_take 10 _ (nthS (nthS (nthS (nthS (nthS (nthS (nthS (nthS (nthS (nthS (nth0))))))))))) rfl (by kernel_rfl) (by kernel_rfl) (by kernel_rfl) (by kernel_rfl) (l' := #[true, true, true, true, true, true, true, true, true, true, true, false, false, false, false, false, false, false, false, false, false]) rfl rfl ?_; intro K hK; go_big_quiet_op; go_big_quiet_on
            refine anyT_take 11 _ (nthS (nthS (nthS (nthS (nthS (nthS (nthS (nthS (nthS (nthS (nthS (nth0)))))))))))) rfl (by kernel_rfl) (by kernel_rfl) (by kernel_rfl) (by kernel_rfl) (l' := #[true, true, true, true, true, true, true, true, true, true, true, true, false, false, false, false, false, false, false, false, false]) rfl rfl ?_; intro K hK; go_big_quiet_op; go_big_quiet_on
            refine anyT_take 12 _ (nthS (nthS (nthS (nthS (nthS (nthS (nthS (nthS (nthS (nthS (nthS (nthS (nth0))))))))))))) rfl (by kernel_rfl) (by kernel_rfl) (by kernel_rfl) (by kernel_rfl) (l' := #[true, true, true, true, true, true, true, true, true, true, true, true, true, false, false, false, false, false, false, false, false]) rfl rfl ?_; intro K hK; go_big_quiet_op; go_big_quiet_on
            refine anyT_take 13 _ (nthS (nthS (nthS (nthS (nthS (nthS (nthS (nthS (nthS (nthS (nthS (nthS (nthS (nth0)))))))))))))) rfl (by kernel_rfl) (by kernel_rfl) (by kernel_rfl) (by kernel_rfl) (l' := #[true, true, true, true, true, true, true, true, true, true, true, true, true, true, false, false, false, false, false, false, false]) rfl rfl ?_; intro K hK; go_big_quiet_op; go_big_quiet_on
            refine anyT_take 14 _ (nthS (nthS (nthS (nthS (nthS (nthS (nthS (nthS (nthS (nthS (nthS (nthS (nthS (nthS (nth0))))))))))))))) rfl (by kernel_rfl) (by kernel_rfl) (by kernel_rfl) (by kernel_rfl) (l' := #[true, true, true, true, true, true, true, true, true, true, true, true, true, true, true, false, false, false, false, false, false]) rfl rfl ?_; intro K hK; go_big_quiet_op; go_big_quiet_on
            refine anyT_take 15 _ (nthS (nthS (nthS (nthS (nthS (nthS (nthS (nthS (nthS (nthS (nthS (nthS (nthS (nthS (nthS (nth0)))))))))))))))) rfl (by kernel_rfl) (by kernel_rfl) (by kernel_rfl) (by kernel_rfl) (l' := #[true, true, true, true, true, true, true, true, true, true, true, true, true, true, true, true, false, false, false, false, false]) rfl rfl ?_; intro K hK; go_big_quiet_op; go_big_quiet_on
            refine anyT_one 16 _ (nthS (nthS (nthS (nthS (nthS (nthS (nthS (nthS (nthS (nthS (nthS (nthS (nthS (nthS (nthS (nthS (nth0))))))))))))))))) (by kernel_rfl) (l' := #[true, true, true, true, true, true, true, true, true, true, true, true, true, true, true, true, true, false, false, false, false]) rfl (by kernel_rfl) ?_
            go_wp2_with fail
            refine (C2.out _ hBd).mono ?_
            rintro e w6 ⟨rfl, hb6⟩
            have hz6 : w5.heap.size ≤ w6.heap.size := by rw [HDZ.out]; exact hb6.size
            clear xY xN
            go_wp2_with fail
            refine OneT_mk (hb6.mono (Nat.le_of_eq HDZ.out)) ?_
            refine anyT_take 17 _ (nthS (nthS (nthS (nthS (nthS (nthS (nthS (nthS (nthS (nthS (nthS (nthS (nthS (nthS (nthS (nthS (nthS (nth0)))))))))))))))))) rfl (by kernel_rfl) (by kernel_rfl) (by kernel_rfl) (by kernel_rfl) (l' := #[true, true, true, true, true, true, true, true, true, true, true, true, true, true, true, true, true, true, false, false, false]) rfl rfl ?_; intro K hK; go_big_quiet_op; go_big_quiet_on
            refine anyT_one 18 _ (nthS (nthS (nthS (nthS (nthS (nthS (nthS (nthS (nthS (nthS (nthS (nthS (nthS (nthS (nthS (nthS (nthS (nthS (nth0))))))))))))))))))) (by kernel_rfl) (l' := #[true, true, true, true, true, true, true, true, true, true, true, true, true, true, true, true, true, true, true, false, false]) rfl (by kernel_rfl) ?_
            go_wp2_with fail
            refine OneT_mk ((Below.refl _ _).alloc hz6 _) ?_
            refine anyT_end (by kernel_rfl) ?_
            simp only [List.drop_succ_cons, List.drop_zero]
            have hB6 : Below w2.heap.size w2 w6 := hBd.trans (hb6.mono hBd.size)
            have HX6 : Hid (Blk w6 X 28 [.int .i64 f.id, .int .i64 f.fr, .int .i64 f.tn, .int .i64 f.pe, .int .i64 f.ph, .int .i64 f.dl]) := Lib.hid (HXd.out.below hb6 (by have := HXd.out.lt; omega))
            have HO6 : Hid (w6.ownsRow w2.heap.size 39 3 v2 (lateQ fs r k f n).length ((lateQ fs r k f n).flatMap Lt.row)) := Lib.hid (own_below HOd.out hb6 (Nat.le_refl _))
            clear HO5 HX5 HXd HOd hb6 hBd hB5 d1
            have hl5 := HQl.out n hn4
            go_wp2_with (at_builtin; refine wpList_append_own_at _ rfl (.tmp 53) (.tmp 71) 117 rfl w2.heap.size 39 i0 (.agg #[.int .i64 0, .int .i64 0, .int .i64 0]) 3 24 Tryz.underlying117 hi hz0 hz1 hz2 rfl (by decide) v2 _ _ rfl (HO6.out.alloc _) ⟨w6.heap.size, 0, none⟩ 1 1 [.int .i64 f.id, .int .i64 (n : Int), .int .i64 D2] rfl rfl ?e0 ?e1 ?e2 ?e3 ?e4 ?_)
            case e0 => exact (Blk.new2 39 [.int .i64 f.id, .int .i64 (n : Int), .int .i64 D2] rfl).news2
            case e1 => intro u hu; simp only [List.mem_cons, List.not_mem_nil, or_false] at hu; rcases hu with rfl | rfl | rfl <;> rfl
            case e2 => unfold maxLen; omega
            case e3 => omega
            case e4 => simp; have := hB6.size; omega
            intro v7 w7 ho7 hg7 hnil7 hat7
            clear hnil7 hat7
            have hB61 : Below w2.heap.size w2 (w6.alloc (.cells #[.int .i64 f.id, .int .i64 (n : Int), .int .i64 D2] 39)) := hB6.alloc hB6.size _
            have hB7 : Below w2.heap.size w2 w7 := hB61.grown hg7 hB61.size (fun j hj => (HO6.out.lt j hj).1)
            have HX7 : Hid (Blk w7 X 28 [.int .i64 f.id, .int .i64 f.fr, .int .i64 f.tn, .int .i64 f.pe, .int .i64 f.ph, .int .i64 f.dl]) := Lib.hid ((hg7.block X (by have := HX6.out.lt; simp; omega) (fun e => by have := own_type2 HO6.out e HX6.out; revert this; decide)).trans (HX6.out.alloc _))
            have HO7 : Hid (w7.ownsRow w2.heap.size 39 3 v7 (lateQ fs r k f (n + 1)).length ((lateQ fs r k f (n + 1)).flatMap Lt.row)) := Lib.hid (by rw [hQ.out]; simpa [Mo.Lt.row] using ho7)
            obtain ⟨A7, c7, hv7⟩ := own_form2 ho7
            clear ho7 hg7 hB61 hl5
            subst hv7
            go_wp2_with fail
            refine NoPanic.normal ?_
            go_wp2_with fail
            go_roundw
            case rel => exact ⟨n + 1, _, rfl, by omega, by go_num, hB7, HX7, HO7⟩
            case measure => simp [intOf]; omega
          · have d1 : decide (D1 < 0) = false := decide_eq_false hD
            have HO7 : Hid (w5.ownsRow w2.heap.size 39 3 v2 (lateQ fs r k f (n + 1)).length ((lateQ fs r k f (n + 1)).flatMap Lt.row)) := Lib.hid (by rw [lateQ_succ, HLn2.out, if_neg hD, List.append_nil]; exact HO5.out)
            go_wp2_with fail
            go_roundw
            case rel => exact ⟨n + 1, v2, rfl, by omega, by go_num, hB5, HX5, HO7⟩
            case measure => simp [intOf]; omega
        · have d0 : decide (R + f.dl ≤ slots) = false := decide_eq_false (fun h => hlt2 (HCn.out.1 h))
          rw [d0]
          have h1 : n = cn := by omega
          subst h1
          have HOn : Hid (w3.ownsRow w2.heap.size 39 3 v2 ((fs.take (k + 1)).flatMap (fun f => lateF f r)).length (((fs.take (k + 1)).flatMap (fun f => lateF f r)).flatMap Lt.row)) := Lib.hid (by rw [← lateQ_end HFk.out, ← HCN.out]; exact HO3.out)
          go_wp2_with fail
          go_roundw
          case rel => exact ⟨k + 1, v2, rfl, by omega, by go_num, hB3, HOn⟩
          case measure => simp [intOf]; omega
    · have h1 : k = m := by omega
      subst h1
      have hto : fs.take k = fs := List.take_of_length_le (by rw [← HM.out]; exact Nat.le_refl _)
      rw [hto] at HO
      obtain ⟨A7, c7, hv7⟩ := own_form2 HO.out
      subst hv7
      go_wp2_with fail
      go_ret2
      exact ⟨(HX.out _ hb).1, _, by rw [hl.out]; rfl, by rw [hl.out]; exact own_base HO.out (HX.out _ (Below.refl _ _)).1.size⟩
end Go.Proofs.YticnppnejafhdaaGreatDoor
/- Abstract data: records, flows, late frames. -/
namespace Go.Proofs.YticnppnejafhdaaGreatDoor
open Go.RowKit
open Nd Rc Mo
open Av
set_option maxRecDepth 100000
set_option linter.unusedSimpArgs false

abbrev iv (n : Int) : AV := .v (.int .i64 n)
abbrev ip (n : Int) : PV := .v (.int .i64 n)
abbrev bv (b : Bool) : AV := .v (.bool b)
def Rc.Att.pv (a : Att) : List PV := [ip a.s, ip a.f, ip a.cs, ip a.co, ip a.cf, ip a.ct, ip a.cl, ip a.o]
def Rc.Dlv.pv (d : Dlv) : List PV := [ip d.fl, ip d.fr, ip d.sl]
def Nd.Fl.pv (f : Fl) : List PV := [ip f.id, ip f.fr, ip f.tn, ip f.pe, ip f.ph, ip f.dl]
def Mo.Lt.pv (x : Lt) : List PV := [ip x.fl, ip x.fr, ip x.sl]
def Rc.Rec.pv (r : Rec) : List PV := [ip r.slots, .sl 8 (r.al.map Att.pv), .sl 3 (r.dl.map Dlv.pv)]
theorem map_pv {α : Type} {f : α → List PV} {g : α → List Value} (h : ∀ x, f x = (g x).map PV.v) (l : List α) : l.map f = (l.map g).map fun row => row.map PV.v := by
  rw [List.map_map]
  exact List.map_congr_left fun x _ => h x
theorem att_pv (l : List Att) : l.map Att.pv = (l.map Att.row).map fun row => row.map PV.v := map_pv (f := Att.pv) (g := Att.row) (fun _ => rfl) l
theorem dlv_pv (l : List Dlv) : l.map Dlv.pv = (l.map Dlv.row).map fun row => row.map PV.v := map_pv (f := Dlv.pv) (g := Dlv.row) (fun _ => rfl) l
theorem fl_pv (l : List Fl) : l.map Fl.pv = (l.map Fl.row).map fun row => row.map PV.v := map_pv (f := Fl.pv) (g := Fl.row) (fun _ => rfl) l
theorem lt_pv (l : List Lt) : l.map Lt.pv = (l.map Lt.row).map fun row => row.map PV.v := map_pv (f := Lt.pv) (g := Lt.row) (fun _ => rfl) l
theorem rec_rep {w : World} {R : Reader} {bx : Nat → Nat} {r : Rec} {u : Value} (hR : ∀ p v, R p = some v → w.cell? p = some v) (h : RepA R bx (.agg r.pv) u) :
    ∃ A D ca cd, u = .agg #[.int .i64 r.slots, .slice A r.al.length ca, .slice D r.dl.length cd] ∧ LiesA w w.heap.size A r.al ∧ LiesD w w.heap.size D r.dl := by
  obtain ⟨us, rfl, h⟩ := h
  cases h with
  | cons h1 h =>
    cases h with
    | cons h2 h =>
      cases h with
      | cons h3 h =>
        cases h
        cases h1
        rw [att_pv] at h2
        rw [dlv_pv] at h3
        obtain ⟨A, ca, rfl, hA⟩ := lies_of_rep hR (by decide) h2
        obtain ⟨D, cd, rfl, hD⟩ := lies_of_rep hR (by decide) h3
        rw [List.length_map, List.length_map]
        exact ⟨A, D, ca, cd, rfl, hA, hD⟩
theorem fls_rep {w : World} {R : Reader} {bx : Nat → Nat} {fs : List Fl} {u : Value} (hR : ∀ p v, R p = some v → w.cell? p = some v) (h : RepA R bx (.sl 6 (fs.map Fl.pv)) u) :
    ∃ A c, u = .slice A fs.length c ∧ Lies w w.heap.size 6 A (fs.map Fl.row) := by
  have h' : RepP R (.sl 6 (fs.map Fl.pv)) u := h
  rw [fl_pv] at h'
  obtain ⟨A, c, rfl, hA⟩ := lies_of_rep hR (by decide) h'
  rw [List.length_map]
  exact ⟨A, c, rfl, hA⟩
theorem fl_rep {R : Reader} {bx : Nat → Nat} {f : Fl} {u : Value} (h : RepA R bx (.agg f.pv) u) : u = .agg #[.int .i64 f.id, .int .i64 f.fr, .int .i64 f.tn, .int .i64 f.pe, .int .i64 f.ph, .int .i64 f.dl] := by
  obtain ⟨us, rfl, h⟩ := h
  rw [show f.pv = [.int .i64 f.id, .int .i64 f.fr, .int .i64 f.tn, .int .i64 f.pe, .int .i64 f.ph, .int .i64 f.dl].map PV.v from rfl] at h
  rw [rep_vs h]
/-- A result that is a value, or values. -/
theorem res_v {R : Reader} {w w' : World} {x : Value} : ResRep R w w' ⟨.v x, none⟩ x := ⟨rfl, rfl⟩
theorem res_vv {R : Reader} {w w' : World} {x y : Value} (hx : x.oneCell' = true) (hy : y.oneCell' = true) : ResRep R w w' ⟨.tup [.c (.v x), .c (.v y)], none⟩ (.tuple #[x, y]) := ⟨rfl, [x, y], rfl, .cons (.c (.v x hx)) (.cons (.c (.v y hy)) .nil)⟩
theorem res_rows {R : Reader} {w w' : World} {e : TypeId} {sz : Nat} {v : Value} {xs : List (List Value)} {n : Int} (hs : 0 < sz) (h : w'.ownsRow w.heap.size e sz v xs.length xs.flatten) (hl : ∀ row ∈ xs, row.length = sz) (h1 : ∀ row ∈ xs, ∀ x ∈ row, x.oneCell' = true) :
    ResRep R w w' ⟨.tup [.c (.sl sz (xs.map fun row => row.map PV.v)), .c (ip n)], none⟩ (.tuple #[v, .int .i64 n]) := by
  obtain ⟨q, _, h2⟩ := owns_rep (R := R) hs h hl h1
  have h3 := h2 none (.inl rfl)
  refine ⟨rfl, [v, .int .i64 n], rfl, .cons (.c (h3.mono fun p y hp => ?_)) (.cons (.c (.v _ rfl)) .nil)⟩
  unfold fresh at hp ⊢
  split at hp
  · rename_i hb; rw [if_pos hb]; exact hp
  · rename_i hb
    rw [if_neg hb, if_neg (by rintro ⟨h4, _⟩; cases h4)]
    split at hp
    · cases hp
    · exact hp
end Go.Proofs.YticnppnejafhdaaGreatDoor
/- Contracts that were proved over memory, lifted: flows, records, the monitor. -/
namespace Go.Proofs.YticnppnejafhdaaGreatDoor
open Go.RowKit
open Nd Rc Mo
open Av
set_option maxRecDepth 100000
set_option linter.unusedSimpArgs false

theorem late_ok (fs : List Fl) (r : Rec) (hf : fs.length ≤ 1000000) (hla : r.al.length ≤ 1000000) (hld : r.dl.length ≤ 1000000) : FnOK Tryz.prog 67 [.sl 6 (fs.map Fl.pv), .agg r.pv] ⟨.tup [.c (.sl 3 ((late fs r).1.map Lt.pv)), .c (ip (late fs r).2)], none⟩ := fn_of ⟨Tryz.f67, _, Tryz.func67, by kernel_rfl, rfl⟩ fun w R hR us hus => by
  cases hus with | cons h0 _ hus =>
  cases hus with | cons h1 _ hus =>
  cases hus
  obtain ⟨F, cf, rfl, hF⟩ := fls_rep hR h0
  obtain ⟨A, D, ca, cd, rfl, hA, hD⟩ := rec_rep hR h1
  refine (late_any fs r F A D cf ca cd w hF hf hA hD hla hld).mono ?_
  rintro e w' ⟨hb, v, rfl, hown⟩
  refine ⟨_, rfl, hb, ?_⟩
  rw [lt_pv]
  rw [List.flatMap_def, ← List.length_map (f := Lt.row)] at hown
  exact res_rows (by decide) hown (fun row hr => by obtain ⟨x, _, rfl⟩ := List.mem_map.1 hr; rfl) (fun row hr x hx => by obtain ⟨y, _, rfl⟩ := List.mem_map.1 hr; simp only [Lt.row, List.mem_cons, List.not_mem_nil, or_false] at hx; rcases hx with rfl | rfl | rfl <;> rfl)

theorem rlate_ok (fs : List Fl) (r : Rec) (hf : fs.length ≤ 1000000) (hla : r.al.length ≤ 1000000) (hld : r.dl.length ≤ 1000000) : FnOK Tryz.prog 78 [.sl 6 (fs.map Fl.pv), .agg r.pv] ⟨.tup [.c (.sl 3 ((late fs r).1.map Lt.pv)), .c (ip (late fs r).2)], none⟩ := fn_of ⟨Tryz.f78, _, Tryz.func78, by kernel_rfl, rfl⟩ fun w R hR us hus => by
  cases hus with | cons h0 _ hus =>
  cases hus with | cons h1 _ hus =>
  cases hus
  obtain ⟨F, cf, rfl, hF⟩ := fls_rep hR h0
  obtain ⟨A, D, ca, cd, rfl, hA, hD⟩ := rec_rep hR h1
  refine (rlate_any fs r F A D cf ca cd w hF hf hA hD hla hld).mono ?_
  rintro e w' ⟨hb, v, rfl, hown⟩
  refine ⟨_, rfl, hb, ?_⟩
  rw [lt_pv]
  rw [List.flatMap_def, ← List.length_map (f := Lt.row)] at hown
  exact res_rows (by decide) hown (fun row hr => by obtain ⟨x, _, rfl⟩ := List.mem_map.1 hr; rfl) (fun row hr x hx => by obtain ⟨y, _, rfl⟩ := List.mem_map.1 hr; simp only [Lt.row, List.mem_cons, List.not_mem_nil, or_false] at hx; rcases hx with rfl | rfl | rfl <;> rfl)

theorem rcheck_ok (r : Rec) (hla : r.al.length ≤ 1000000) (hld : r.dl.length ≤ 1000000) : FnOK Tryz.prog 84 [.agg r.pv] ⟨iv (rcheckE r), none⟩ := fn_of ⟨Tryz.f84, _, Tryz.func84, by kernel_rfl, rfl⟩ fun w R hR us hus => by
  cases hus with | cons h0 _ hus =>
  cases hus
  obtain ⟨A, D, ca, cd, rfl, hA, hD⟩ := rec_rep hR h0
  refine (rcheck_any r A D ca cd w hA hD (by omega) (by omega)).mono ?_
  rintro e w' ⟨rfl, hb⟩
  exact ⟨_, rfl, hb, res_v⟩

theorem check_ok (r : Rec) (hla : r.al.length ≤ 1000000) (hld : r.dl.length ≤ 1000000) : FnOK Tryz.prog 56 [.agg r.pv] ⟨iv (checkE r), none⟩ := fn_of ⟨Tryz.f56, _, Tryz.func56, by kernel_rfl, rfl⟩ fun w R hR us hus => by
  cases hus with | cons h0 _ hus =>
  cases hus
  obtain ⟨A, D, ca, cd, rfl, hA, hD⟩ := rec_rep hR h0
  refine (check_any r A D ca cd w hA hD (by omega) (by omega)).mono ?_
  rintro e w' ⟨rfl, hb⟩
  exact ⟨_, rfl, hb, res_v⟩

end Go.Proofs.YticnppnejafhdaaGreatDoor
/- Plain: networks, and what Check says of them. No program's numbers. -/
namespace Go.Proofs.YticnppnejafhdaaGreatDoor
namespace Mo
open Nd
structure Lk where
  (fr tt ls : Int)
structure Net where
  (nodes noise thr : Int)
  (pow : List (List Int))
  (lk : List Lk)
  (mg : List Int)
def outP (p : Int) : Bool := decide (p < 0) || decide (68719476736 < p)
def powE (nodes : Int) (pow : List (List Int)) : Int :=
  if ((pow.length : Nat) : Int) ≠ nodes ∨ pow.any (fun r => !(((r.length : Nat) : Int) == nodes)) = true then 1 else if pow.any (fun r => r.any outP) = true then 2 else 0
def lkB (nodes : Int) (l : Lk) : Bool := inB l.fr 0 (nodes - 1) && (inB l.tt 0 (nodes - 1) && (!(l.fr == l.tt) && inB l.ls 0 7))
def prevBadL (p : Option Lk) (l : Lk) : Bool := match p with
  | none => false
  | some q => decide (l.fr < q.fr) || (q.fr == l.fr && decide (l.tt ≤ q.tt))
def powAt (pow : List (List Int)) (a b : Int) : Int := (pow.getD a.toNat []).getD b.toNat 0
def lkE (nodes : Int) (pow : List (List Int)) (p : Option Lk) (l : Lk) (m : Int) : Int :=
  if lkB nodes l = false then 2 else if prevBadL p l = true then 5 else if m < 0 ∨ powAt pow l.fr l.tt < m then 2 else 0
def lkGo (nodes : Int) (pow : List (List Int)) : Option Lk → List Lk → List Int → Int
  | _, [], _ => 0
  | p, l :: ls, ms => if lkE nodes pow p l (ms.headD 0) = 0 then lkGo nodes pow (some l) ls ms.tail else lkE nodes pow p l (ms.headD 0)
/-- The first fault of a network. -/
def chkN (n : Net) : Int :=
  if n.nodes < 2 ∨ 32 < n.nodes then 2
  else if powE n.nodes n.pow ≠ 0 then powE n.nodes n.pow
  else if inB n.noise 0 68719476736 = false ∨ inB n.thr 1000 100000 = false then 2
  else if 128 < n.lk.length then 8
  else if n.mg.length ≠ n.lk.length then 11
  else lkGo n.nodes n.pow none n.lk n.mg
end Mo
end Go.Proofs.YticnppnejafhdaaGreatDoor

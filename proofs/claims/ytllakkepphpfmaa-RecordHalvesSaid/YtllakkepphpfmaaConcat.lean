/- Walks: Concat of package slices, of two slices; an append whose source may be nil. -/
import Derived.Test.YtllakkepphpfmaaJn
namespace Go.Proofs.Ytllakkepphpfmaa
open Go.RowKit
open Rc

section
variable {P : Program} (w : World)
/-- append(v, x...) onto a row of the call's own; x may be nil. (After the guide's forms.) -/
theorem run_append_src (base : Nat) (t ty e : TypeId) (i : TypeInfo) (z : Value) (size bytes : Nat) (ht : P.underlying t = some (.slice e)) (hi : P.info? e = some i) (hz : i.zero = some z)
    (hsize : i.size = size) (hby : i.bytes = bytes) (hzs : z.cells.size = size) (hsz : 0 < size)
    (v : Value) (n : Nat) (xs : List Value) (hown : w.ownsRow base e size v n xs)
    (A : Option Addr) (m c : Nat) (news : List Value) (hl : news.length = m * size) (hnil : A = none → m = 0) (hc : ∀ ad, A = some ad → ∀ j u, news[j]? = some u → w.cell? (ad.add j) = some u) (h1 : ∀ u ∈ news, u.oneCell' = true)
    (h63 : n + m ≤ maxLen) (hbytes : (n + m) * bytes ≤ 140737488355328) (hbase : base ≤ w.heap.size) :
    ∃ v' w', (Builtin.append_ #[t, t] ty #[v, .slice A m c]).run P w = .ok v' w' ∧ w'.ownsRow base e size v' (n + m) (xs ++ news) ∧ w.grownBy w' v.ownBlock := by
  cases A with
  | none =>
    have hm := hnil rfl
    subst hm
    have hn : news = [] := List.eq_nil_of_length_eq_zero (by simpa using hl)
    subst hn
    refine ⟨v, w, ?_, by simpa using hown, World.grownBy.refl w _⟩
    rcases hown.2 with ⟨rfl, rfl⟩ | ⟨g, cap, cur, rfl, _, _, hnc, _⟩
    · simp [Builtin.append_, run_underlying ht, sizeOf, typeInfo, hi, Builtin.lenOf, Builtin.firstCells]
    · simp [Builtin.append_, run_underlying ht, sizeOf, typeInfo, hi, Builtin.lenOf, Builtin.firstCells, hnc, storeCells]
  | some ad =>
    obtain ⟨v', w', hrun, h2, h3, _, _⟩ := run_append_own_at (P := P) w base t ty e i z size bytes ht hi hz hsize hby hzs hsz v n xs hown ad m c news hl (hc ad rfl) h1 h63 hbytes hbase
    exact ⟨v', w', hrun, h2, h3⟩

theorem wpList_append_src {ops : Array Oper} {rest : List Oper} {o : Oper} {a : Act} {Q : Exit → Act → World → Prop} (hgd : o.guard = none) (s x : Operand) (t : TypeId)
    (ho : o.op = .call { callee := .builtin .append, args := #[s, x], argTypes := #[t, t] })
    (base : Nat) (e : TypeId) (i : TypeInfo) (z : Value) (size bytes : Nat) (ht : P.underlying t = some (.slice e)) (hi : P.info? e = some i) (hz : i.zero = some z)
    (hsize : i.size = size) (hby : i.bytes = bytes) (hzs : z.cells.size = size) (hsz : 0 < size)
    (v : Value) (n : Nat) (xs : List Value) (hs : a.eval s = v) (hown : w.ownsRow base e size v n xs)
    (A : Option Addr) (m c : Nat) (news : List Value) (hx : a.eval x = .slice A m c) (hl : news.length = m * size) (hnil : A = none → m = 0) (hc : ∀ ad, A = some ad → ∀ j u, news[j]? = some u → w.cell? (ad.add j) = some u) (h1 : ∀ u ∈ news, u.oneCell' = true)
    (h63 : n + m ≤ maxLen) (hbytes : (n + m) * bytes ≤ 140737488355328) (hbase : base ≤ w.heap.size)
    (h : ∀ v' w', w'.ownsRow base e size v' (n + m) (xs ++ news) → w.grownBy w' v.ownBlock → wpList P ops Q rest (a.put o.dst v') w') : wpList P ops Q (o :: rest) a w := by
  obtain ⟨v', w', hrun, h2, h3⟩ := run_append_src (P := P) w base t o.type e i z size bytes ht hi hz hsize hby hzs hsz v n xs hown A m c news hl hnil hc h1 h63 hbytes hbase
  exact Lib.wpList_append_run w hgd s x t t ho v (.slice A m c) hs hx v' w' hrun (h v' w' h2 h3)
end

set_option maxRecDepth 100000 in
set_option maxHeartbeats 4000000 in
theorem concatA_any (l1 l2 : List Att) (A1 A2 : Option Addr) (c1 c2 g : Nat) (w : World) (h1 : LiesA w w.heap.size A1 l1) (h2 : LiesA w w.heap.size A2 l2) (hl1 : l1.length ≤ 100000) (hl2 : l2.length ≤ 100000) (hn1 : A1 = none → l1 = []) (hn2 : A2 = none → l2 = [])
    (hr : Row w g [.slice A1 l1.length c1, .slice A2 l2.length c2]) (hg : g < w.heap.size) :
    Calls Try.prog 56 #[.slice (some ⟨g, 0, none⟩) 2 2] w fun e w' => Below w.heap.size w w' ∧ ∃ v, e = .returned v ∧ w'.ownsRow w.heap.size 45 8 v (l1 ++ l2).length (flatA (l1 ++ l2)) := by
  obtain ⟨n1, e1⟩ : ∃ n, n = l1.length := ⟨_, rfl⟩
  obtain ⟨n2, e2⟩ : ∃ n, n = l2.length := ⟨_, rfl⟩
  rw [← e1] at hl1 hr
  rw [← e2] at hl2 hr
  have E1 := Lib.hid e1
  have E2 := Lib.hid e2
  have HL : Hid ((l1 ++ l2).length = n1 + n2) := Lib.hid (by rw [List.length_append, e1, e2])
  have H1 : Hid (∀ W, Below w.heap.size w W → ∀ ad, A1 = some ad → ∀ j u, (flatA l1)[j]? = some u → W.cell? (ad.add j) = some u) := Lib.hid fun W h ad ha => by
    subst ha
    exact Lies.news (f := Att.row) row_len_A (by decide) (h1.below h)
  have H2 : Hid (∀ W, Below w.heap.size w W → ∀ ad, A2 = some ad → ∀ j u, (flatA l2)[j]? = some u → W.cell? (ad.add j) = some u) := Lib.hid fun W h ad ha => by
    subst ha
    exact Lies.news (f := Att.row) row_len_A (by decide) (h2.below h)
  have N1 : Hid (A1 = none → n1 = 0) := Lib.hid fun h => by rw [e1, hn1 h]; rfl
  have N2 : Hid (A2 = none → n2 = 0) := Lib.hid fun h => by rw [e2, hn2 h]; rfl
  have F1 : Hid ((flatA l1).length = n1 * 8) := Lib.hid (by rw [e1]; exact flat_len (f := Att.row) row_len_A l1)
  have F2 : Hid ((flatA l2).length = n2 * 8) := Lib.hid (by rw [e2]; exact flat_len (f := Att.row) row_len_A l2)
  have HR : Hid (∀ W, Below w.heap.size w W → Row W g [.slice A1 n1 c1, .slice A2 n2 c2]) := Lib.hid fun W h => hr.below h hg
  obtain ⟨i0, hi, hz0, hz1, hz2⟩ := info_parts Try.infoAtt
  have HI := Lib.hid (And.intro hi (And.intro hz0 (And.intro hz1 hz2)))
  rw [HL.out]
  clear e1 e2 hn1 hn2 h1 h2 hr hi hz0 hz1 hz2
  have c0 := HR.out w (Below.refl _ _)
  unfold Row at c0
  go_enter Try.func56, Try.ntmps56
  go_wp2_with fail
  go_loop [3, 11] (fun s3 s11 => (s3 = .int .i64 0 ∧ s11 = .int .i64 0) ∨ (s3 = .int .i64 (n1 : Nat) ∧ s11 = .int .i64 1) ∨ (s3 = .int .i64 ((n1 : Int) + (n2 : Int)) ∧ s11 = .int .i64 2)) (fun _ s11 => 2 - (intOf s11).toNat)
  case atStart => exact .inl ⟨rfl, rfl⟩
  case round =>
    rcases hrel with ⟨rfl, rfl⟩ | ⟨rfl, rfl⟩ | ⟨rfl, rfl⟩
    · have d0 : ¬ (n1 : Int) < 0 := by omega
      go_wp2_with fail
      go_round
      case rel => exact .inr (.inl ⟨rfl, rfl⟩)
      case measure => simp [intOf]
    · have d0 : ¬ (n1 : Int) + (n2 : Int) < 0 := by omega
      go_wp2_with fail
      go_round
      case rel => exact .inr (.inr ⟨rfl, rfl⟩)
      case measure => simp [intOf]
    · have hgrow := growA_any (n1 + n2) w (by omega)
      rw [show ((n1 + n2 : Nat) : Int) = (n1 : Int) + (n2 : Int) by omega] at hgrow
      have HG := Lib.hid hgrow
      clear hgrow
      go_wp2_with fail
      refine HG.out.mono ?_
      rintro e w1 ⟨hb1, v1, rfl, ho1⟩
      have hz1 : w.heap.size ≤ w1.heap.size := hb1.size
      have c1' := HR.out w1 hb1
      unfold Row at c1'
      obtain ⟨K, hK⟩ : ∃ K, K = w.heap.size := ⟨_, rfl⟩
      rw [← hK] at hb1 ho1 hz1 hg
      have HK := Lib.hid hK
      have HO1 := Lib.hid ho1
      have HV1 : Hid (∀ g, v1.ownBlock = some g → K ≤ g ∧ g < w1.heap.size) := Lib.hid ho1.lt
      clear c0 hK ho1
      obtain ⟨Rel, hRel⟩ : ∃ Rel : Nat → Value → World → Prop, Rel = fun k v W => Below K w W ∧ ((k = 0 ∧ W.ownsRow K 45 8 v 0 []) ∨ (k = 1 ∧ W.ownsRow K 45 8 v n1 (flatA l1)) ∨ (k = 2 ∧ W.ownsRow K 45 8 v (n1 + n2) (flatA l1 ++ flatA l2))) := ⟨_, rfl⟩
      have HRel := Lib.hid hRel
      have hst0 : Rel 0 v1 w1 := by rw [hRel]; exact ⟨hb1, .inl ⟨rfl, HO1.out⟩⟩
      clear hRel HO1 HV1 c1'
      go_wp2_with fail
      go_loopw [6, 27] (fun s6 i wr => ∃ (k : Nat) (v : Value), v = s6 ∧ k ≤ 2 ∧ i = .int .i64 k ∧ Rel k v wr) (fun _ i _ => 2 - (intOf i).toNat)
      case atStart => exact ⟨0, _, rfl, by omega, rfl, hst0⟩
      case round =>
        clear hst0 hb1 hz1
        obtain ⟨k, v, rfl, hk, rfl, hrel⟩ := hrel
        rw [HRel.out] at hrel
        obtain ⟨hb, hrel⟩ := hrel
        have hz : K ≤ wr.heap.size := by have := hb.size; have := HK.out; omega
        have c2' := HR.out wr (by rw [← HK.out]; exact hb)
        unfold Row at c2'
        have hbK := hb
        rw [HK.out] at hbK
        have HBK := Lib.hid hbK
        clear hbK
        rcases hrel with ⟨rfl, ho⟩ | ⟨rfl, ho⟩ | ⟨rfl, ho⟩
        · have HO := Lib.hid ho
          have HV : Hid (∀ g, v.ownBlock = some g → K ≤ g ∧ g < wr.heap.size) := Lib.hid ho.lt
          clear ho
          go_wp2_with (at_builtin; refine wpList_append_src _ rfl (.tmp 31) (.tmp 32) 23 rfl K 45 i0 (.agg #[.int .i64 0, .int .i64 0, .int .i64 0, .int .i64 0, .int .i64 0, .int .i64 0, .int .i64 0, .int .i64 0]) 8 64 Try.underlying23 HI.out.1 HI.out.2.1 HI.out.2.2.1 HI.out.2.2.2 rfl (by decide) v 0 [] rfl HO.out A1 n1 c1 (flatA l1) rfl F1.out N1.out (H1.out _ HBK.out) (flatA_one l1) ?e2 ?e3 ?e4 ?_)
          case e2 => unfold maxLen; omega
          case e3 => omega
          case e4 => exact hz
          intro v3 w3 ho3 hg3
          have hb3 : Below K w w3 := hb.grown hg3 hz (by intro g hg; have := HV.out g hg; omega)
          obtain ⟨A3, c3, hv3⟩ := own_form ho3
          have hnew : Rel 1 v3 w3 := by rw [HRel.out]; exact ⟨hb3, .inr (.inl ⟨rfl, by simpa using ho3⟩)⟩
          have HNEW := Lib.hid hnew
          clear hnew ho3 hg3 HO c2'
          subst hv3
          go_wp2_with fail
          go_roundw
          case rel => exact ⟨1, _, rfl, by omega, by rfl, HNEW.out⟩
          case measure => simp [intOf]
        · have HO := Lib.hid ho
          have HV : Hid (∀ g, v.ownBlock = some g → K ≤ g ∧ g < wr.heap.size) := Lib.hid ho.lt
          clear ho
          go_wp2_with (at_builtin; refine wpList_append_src _ rfl (.tmp 31) (.tmp 32) 23 rfl K 45 i0 (.agg #[.int .i64 0, .int .i64 0, .int .i64 0, .int .i64 0, .int .i64 0, .int .i64 0, .int .i64 0, .int .i64 0]) 8 64 Try.underlying23 HI.out.1 HI.out.2.1 HI.out.2.2.1 HI.out.2.2.2 rfl (by decide) v n1 (flatA l1) rfl HO.out A2 n2 c2 (flatA l2) rfl F2.out N2.out (H2.out _ HBK.out) (flatA_one l2) ?e2 ?e3 ?e4 ?_)
          case e2 => unfold maxLen; omega
          case e3 => omega
          case e4 => exact hz
          intro v3 w3 ho3 hg3
          have hb3 : Below K w w3 := hb.grown hg3 hz (by intro g hg; have := HV.out g hg; omega)
          obtain ⟨A3, c3, hv3⟩ := own_form ho3
          have hnew : Rel 2 v3 w3 := by rw [HRel.out]; exact ⟨hb3, .inr (.inr ⟨rfl, ho3⟩)⟩
          have HNEW := Lib.hid hnew
          clear hnew ho3 hg3 HO c2'
          subst hv3
          go_wp2_with fail
          go_roundw
          case rel => exact ⟨2, _, rfl, by omega, by rfl, HNEW.out⟩
          case measure => simp [intOf]
        · obtain ⟨A3, c3, hv3⟩ := own_form ho
          have HO := Lib.hid ho
          clear ho
          subst hv3
          go_wp2_with fail
          go_ret
          exact ⟨by rw [← HK.out]; exact hb, _, rfl, by rw [← HK.out]; have := HO.out; simpa [flatA] using this⟩

set_option maxRecDepth 100000 in
set_option maxHeartbeats 4000000 in
theorem concatD_any (l1 l2 : List Dlv) (A1 A2 : Option Addr) (c1 c2 g : Nat) (w : World) (h1 : LiesD w w.heap.size A1 l1) (h2 : LiesD w w.heap.size A2 l2) (hl1 : l1.length ≤ 100000) (hl2 : l2.length ≤ 100000) (hn1 : A1 = none → l1 = []) (hn2 : A2 = none → l2 = [])
    (hr : Row w g [.slice A1 l1.length c1, .slice A2 l2.length c2]) (hg : g < w.heap.size) :
    Calls Try.prog 57 #[.slice (some ⟨g, 0, none⟩) 2 2] w fun e w' => Below w.heap.size w w' ∧ ∃ v, e = .returned v ∧ w'.ownsRow w.heap.size 62 3 v (l1 ++ l2).length (flatD (l1 ++ l2)) := by
  obtain ⟨n1, e1⟩ : ∃ n, n = l1.length := ⟨_, rfl⟩
  obtain ⟨n2, e2⟩ : ∃ n, n = l2.length := ⟨_, rfl⟩
  rw [← e1] at hl1 hr
  rw [← e2] at hl2 hr
  have E1 := Lib.hid e1
  have E2 := Lib.hid e2
  have HL : Hid ((l1 ++ l2).length = n1 + n2) := Lib.hid (by rw [List.length_append, e1, e2])
  have H1 : Hid (∀ W, Below w.heap.size w W → ∀ ad, A1 = some ad → ∀ j u, (flatD l1)[j]? = some u → W.cell? (ad.add j) = some u) := Lib.hid fun W h ad ha => by
    subst ha
    exact Lies.news (f := Dlv.row) row_len_D (by decide) (h1.below h)
  have H2 : Hid (∀ W, Below w.heap.size w W → ∀ ad, A2 = some ad → ∀ j u, (flatD l2)[j]? = some u → W.cell? (ad.add j) = some u) := Lib.hid fun W h ad ha => by
    subst ha
    exact Lies.news (f := Dlv.row) row_len_D (by decide) (h2.below h)
  have N1 : Hid (A1 = none → n1 = 0) := Lib.hid fun h => by rw [e1, hn1 h]; rfl
  have N2 : Hid (A2 = none → n2 = 0) := Lib.hid fun h => by rw [e2, hn2 h]; rfl
  have F1 : Hid ((flatD l1).length = n1 * 3) := Lib.hid (by rw [e1]; exact flat_len (f := Dlv.row) row_len_D l1)
  have F2 : Hid ((flatD l2).length = n2 * 3) := Lib.hid (by rw [e2]; exact flat_len (f := Dlv.row) row_len_D l2)
  have HR : Hid (∀ W, Below w.heap.size w W → Row W g [.slice A1 n1 c1, .slice A2 n2 c2]) := Lib.hid fun W h => hr.below h hg
  obtain ⟨i0, hi, hz0, hz1, hz2⟩ := info_parts Try.infoDlv
  have HI := Lib.hid (And.intro hi (And.intro hz0 (And.intro hz1 hz2)))
  rw [HL.out]
  clear e1 e2 hn1 hn2 h1 h2 hr hi hz0 hz1 hz2
  have c0 := HR.out w (Below.refl _ _)
  unfold Row at c0
  go_enter Try.func57, Try.ntmps57
  go_wp2_with fail
  go_loop [3, 11] (fun s3 s11 => (s3 = .int .i64 0 ∧ s11 = .int .i64 0) ∨ (s3 = .int .i64 (n1 : Nat) ∧ s11 = .int .i64 1) ∨ (s3 = .int .i64 ((n1 : Int) + (n2 : Int)) ∧ s11 = .int .i64 2)) (fun _ s11 => 2 - (intOf s11).toNat)
  case atStart => exact .inl ⟨rfl, rfl⟩
  case round =>
    rcases hrel with ⟨rfl, rfl⟩ | ⟨rfl, rfl⟩ | ⟨rfl, rfl⟩
    · have d0 : ¬ (n1 : Int) < 0 := by omega
      go_wp2_with fail
      go_round
      case rel => exact .inr (.inl ⟨rfl, rfl⟩)
      case measure => simp [intOf]
    · have d0 : ¬ (n1 : Int) + (n2 : Int) < 0 := by omega
      go_wp2_with fail
      go_round
      case rel => exact .inr (.inr ⟨rfl, rfl⟩)
      case measure => simp [intOf]
    · have hgrow := growD_any (n1 + n2) w (by omega)
      rw [show ((n1 + n2 : Nat) : Int) = (n1 : Int) + (n2 : Int) by omega] at hgrow
      have HG := Lib.hid hgrow
      clear hgrow
      go_wp2_with fail
      refine HG.out.mono ?_
      rintro e w1 ⟨hb1, v1, rfl, ho1⟩
      have hz1 : w.heap.size ≤ w1.heap.size := hb1.size
      have c1' := HR.out w1 hb1
      unfold Row at c1'
      obtain ⟨K, hK⟩ : ∃ K, K = w.heap.size := ⟨_, rfl⟩
      rw [← hK] at hb1 ho1 hz1 hg
      have HK := Lib.hid hK
      have HO1 := Lib.hid ho1
      have HV1 : Hid (∀ g, v1.ownBlock = some g → K ≤ g ∧ g < w1.heap.size) := Lib.hid ho1.lt
      clear c0 hK ho1
      obtain ⟨Rel, hRel⟩ : ∃ Rel : Nat → Value → World → Prop, Rel = fun k v W => Below K w W ∧ ((k = 0 ∧ W.ownsRow K 62 3 v 0 []) ∨ (k = 1 ∧ W.ownsRow K 62 3 v n1 (flatD l1)) ∨ (k = 2 ∧ W.ownsRow K 62 3 v (n1 + n2) (flatD l1 ++ flatD l2))) := ⟨_, rfl⟩
      have HRel := Lib.hid hRel
      have hst0 : Rel 0 v1 w1 := by rw [hRel]; exact ⟨hb1, .inl ⟨rfl, HO1.out⟩⟩
      clear hRel HO1 HV1 c1'
      go_wp2_with fail
      go_loopw [6, 27] (fun s6 i wr => ∃ (k : Nat) (v : Value), v = s6 ∧ k ≤ 2 ∧ i = .int .i64 k ∧ Rel k v wr) (fun _ i _ => 2 - (intOf i).toNat)
      case atStart => exact ⟨0, _, rfl, by omega, rfl, hst0⟩
      case round =>
        clear hst0 hb1 hz1
        obtain ⟨k, v, rfl, hk, rfl, hrel⟩ := hrel
        rw [HRel.out] at hrel
        obtain ⟨hb, hrel⟩ := hrel
        have hz : K ≤ wr.heap.size := by have := hb.size; have := HK.out; omega
        have c2' := HR.out wr (by rw [← HK.out]; exact hb)
        unfold Row at c2'
        have hbK := hb
        rw [HK.out] at hbK
        have HBK := Lib.hid hbK
        clear hbK
        rcases hrel with ⟨rfl, ho⟩ | ⟨rfl, ho⟩ | ⟨rfl, ho⟩
        · have HO := Lib.hid ho
          have HV : Hid (∀ g, v.ownBlock = some g → K ≤ g ∧ g < wr.heap.size) := Lib.hid ho.lt
          clear ho
          go_wp2_with (at_builtin; refine wpList_append_src _ rfl (.tmp 31) (.tmp 32) 24 rfl K 62 i0 (.agg #[.int .i64 0, .int .i64 0, .int .i64 0]) 3 24 Try.underlying24 HI.out.1 HI.out.2.1 HI.out.2.2.1 HI.out.2.2.2 rfl (by decide) v 0 [] rfl HO.out A1 n1 c1 (flatD l1) rfl F1.out N1.out (H1.out _ HBK.out) (flatD_one l1) ?e2 ?e3 ?e4 ?_)
          case e2 => unfold maxLen; omega
          case e3 => omega
          case e4 => exact hz
          intro v3 w3 ho3 hg3
          have hb3 : Below K w w3 := hb.grown hg3 hz (by intro g hg; have := HV.out g hg; omega)
          obtain ⟨A3, c3, hv3⟩ := own_form ho3
          have hnew : Rel 1 v3 w3 := by rw [HRel.out]; exact ⟨hb3, .inr (.inl ⟨rfl, by simpa using ho3⟩)⟩
          have HNEW := Lib.hid hnew
          clear hnew ho3 hg3 HO c2'
          subst hv3
          go_wp2_with fail
          go_roundw
          case rel => exact ⟨1, _, rfl, by omega, by rfl, HNEW.out⟩
          case measure => simp [intOf]
        · have HO := Lib.hid ho
          have HV : Hid (∀ g, v.ownBlock = some g → K ≤ g ∧ g < wr.heap.size) := Lib.hid ho.lt
          clear ho
          go_wp2_with (at_builtin; refine wpList_append_src _ rfl (.tmp 31) (.tmp 32) 24 rfl K 62 i0 (.agg #[.int .i64 0, .int .i64 0, .int .i64 0]) 3 24 Try.underlying24 HI.out.1 HI.out.2.1 HI.out.2.2.1 HI.out.2.2.2 rfl (by decide) v n1 (flatD l1) rfl HO.out A2 n2 c2 (flatD l2) rfl F2.out N2.out (H2.out _ HBK.out) (flatD_one l2) ?e2 ?e3 ?e4 ?_)
          case e2 => unfold maxLen; omega
          case e3 => omega
          case e4 => exact hz
          intro v3 w3 ho3 hg3
          have hb3 : Below K w w3 := hb.grown hg3 hz (by intro g hg; have := HV.out g hg; omega)
          obtain ⟨A3, c3, hv3⟩ := own_form ho3
          have hnew : Rel 2 v3 w3 := by rw [HRel.out]; exact ⟨hb3, .inr (.inr ⟨rfl, ho3⟩)⟩
          have HNEW := Lib.hid hnew
          clear hnew ho3 hg3 HO c2'
          subst hv3
          go_wp2_with fail
          go_roundw
          case rel => exact ⟨2, _, rfl, by omega, by rfl, HNEW.out⟩
          case measure => simp [intOf]
        · obtain ⟨A3, c3, hv3⟩ := own_form ho
          have HO := Lib.hid ho
          clear ho
          subst hv3
          go_wp2_with fail
          go_ret
          exact ⟨by rw [← HK.out]; exact hb, _, rfl, by rw [← HK.out]; have := HO.out; simpa [flatD] using this⟩

end Go.Proofs.Ytllakkepphpfmaa

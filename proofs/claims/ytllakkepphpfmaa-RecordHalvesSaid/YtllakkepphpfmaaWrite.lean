/- Walk: write of package record. -/
import Derived.Test.YtllakkepphpfmaaProg
import Derived.Test.YtllakkepphpfmaaFloat
import Derived.Test.YtllakkepphpfmaaVar
namespace Go.Proofs.Ytllakkepphpfmaa
open Go.RowKit
open Rc

theorem Try.infoU8 : (Try.prog.info? 5).map (fun i => (i.zero, i.size, i.bytes)) = some (some (.int .u8 0), 1, 1) := by kernel_rfl

set_option maxRecDepth 100000 in
set_option maxHeartbeats 2000000 in
/-- b = append(b, the bytes of numbers..) -/
theorem write_any (ns : List Nat) (base : Nat) (v : Value) (xs : List UInt8) (nb c : Nat) (w : World) (hns : ∀ n ∈ ns, n < 9223372036854775808) (hlen : ns.length ≤ 1000) (hxs : xs.length ≤ 1000000000)
    (hown : w.ownsRow base 5 1 v xs.length (xs.map B8)) (hbase : base ≤ w.heap.size) (hnb : nb < w.heap.size) (hne : some nb ≠ v.ownBlock) (hc : ∀ k n, ns[k]? = some n → w.cell? ⟨nb, k, none⟩ = some (.int .i64 (n : Nat))) :
    Calls Try.prog 40 #[v, .slice (some ⟨nb, 0, none⟩) ns.length c] w fun e w' => ∃ v', e = .returned v' ∧ w'.ownsRow base 5 1 v' (xs ++ ns.flatMap varN).length ((xs ++ ns.flatMap varN).map B8) ∧ Grew w v w' v' := by
  obtain ⟨i0, hi, hz0, hz1, hz2⟩ := info_parts Try.infoU8
  obtain ⟨nn, hnn⟩ : ∃ n, n = ns.length := ⟨_, rfl⟩
  rw [← hnn] at hlen ⊢
  have HN := Lib.hid hnn
  have HC := Lib.hid hc
  have HNS := Lib.hid hns
  clear hnn hc hns
  go_enter Try.func40, Try.ntmps40
  go_wp2_with fail
  go_loopw [0, 9] (fun s0 i wr => ∃ (k : Nat) (ys : List UInt8), k ≤ nn ∧ i = .int .i64 k ∧ wr.ownsRow base 5 1 s0 ys.length (ys.map B8) ∧ Grew w v wr s0 ∧ ys.length ≤ xs.length + 10 * k ∧ Hid (ys = xs ++ (ns.take k).flatMap varN)) (fun _ i _ => nn - (intOf i).toNat)
  case atStart => exact ⟨0, xs, Nat.zero_le _, rfl, hown, Grew.refl _ _, by omega, Lib.hid (by simp)⟩
  case round =>
    obtain ⟨k, ys, hk, rfl, hyo, hg, hyl, hy⟩ := hrel
    by_cases hlt : k < nn
    · obtain ⟨n, hn⟩ := get_of_lt (l := ns) (k := k) (by rw [← HN.out]; exact hlt)
      have cn : wr.cell? ⟨nb, k, none⟩ = some (.int .i64 (n : Nat)) := (hg.cell hnb hne).trans (HC.out k n hn)
      have hnl := HNS.out n (List.mem_of_getElem? hn)
      have hnl10 := varN_length n
      have hbw := hg.by_.size
      clear hown
      go_wp2_with fail
      go_loopw [0, 6] (fun s0 s6 wi => ∃ (m : Nat) (zs : List UInt8), m < 9223372036854775808 ∧ s6 = .int .i64 m ∧ (∃ v1, v1 = s0 ∧ wi.ownsRow base 5 1 v1 zs.length (zs.map B8) ∧ Grew w v wi v1) ∧ zs.length + (varN m).length = ys.length + (varN n).length ∧ Hid (ys ++ varN n = zs ++ varN m)) (fun _ s6 _ => (intOf s6).toNat)
      case atStart => exact ⟨n, ys, hnl, rfl, ⟨_, rfl, hyo, hg⟩, rfl, Lib.hid rfl⟩
      case round =>
        obtain ⟨m, zs, hm, rfl, ⟨v1, rfl, hzo, hgz⟩, hzl, hz⟩ := hrel
        have hml := varN_length m
        have hzw := hgz.by_.size
        by_cases h128 : 128 ≤ m
        · have hst := varN_step h128 hm
          have hst2 := Lib.hid hst
          have hl2 : (varN m).length = 1 + (varN (m / 128)).length := by rw [hst]; simp; omega
          clear hst
          go_wp2_with (at_builtin; refine wpList_append_own_at _ rfl (.tmp 17) (.tmp 21) 74 rfl base 5 i0 (.int .u8 0) 1 1 Try.underlying74 hi hz0 hz1 hz2 rfl (by decide) v1 zs.length (zs.map B8) rfl (hzo.alloc _) ⟨wr.heap.size, 0, none⟩ 1 1 [.int .u8 (bits .or .u8 ((m : Int) % 256) 128)] rfl rfl (cell_one_new _ _ _) ?c1 ?c2 ?c3 ?c4 ?_)
          case c1 => intro u hu; simp at hu; subst hu; rfl
          case c2 => unfold maxLen; omega
          case c3 => omega
          case c4 => simp; omega
          intro v2 w2 ho2 hg2 _ hat2
          have ho3 := own_push (c := UInt8.ofNat (m % 128 + 128)) ho2 (by rw [byte_high]; rfl)
          have hg3 := hgz.appended hg2 hat2 (by simp)
          clear ho2 hg2 hat2 hzo
          go_wp2_with fail
          go_roundw
          case rel => exact ⟨m / 128, zs ++ [UInt8.ofNat (m % 128 + 128)], by omega, by go_num, ⟨v2, rfl, ho3, hg3⟩, by simp; omega, Lib.hid (by rw [hz.out, hst2.out]; simp)⟩
          case measure => simp [intOf]; omega
        · have h1 := varN_one (n := m) (by omega)
          have h1' := Lib.hid h1
          have hl1 : (varN m).length = 1 := by rw [h1]; rfl
          clear h1
          go_wp2_with (at_builtin; refine wpList_append_own_at _ rfl (.tmp 23) (.tmp 26) 74 rfl base 5 i0 (.int .u8 0) 1 1 Try.underlying74 hi hz0 hz1 hz2 rfl (by decide) v1 zs.length (zs.map B8) rfl (hzo.alloc _) ⟨wr.heap.size, 0, none⟩ 1 1 [.int .u8 (m : Int)] rfl rfl (cell_one_new _ _ _) ?d1 ?d2 ?d3 ?d4 ?_)
          case d1 => intro u hu; simp at hu; subst hu; rfl
          case d2 => unfold maxLen; omega
          case d3 => omega
          case d4 => simp; omega
          intro v2 w2 ho2 hg2 _ hat2
          have ho3 := own_push (c := UInt8.ofNat m) ho2 (by rw [byte_same m (by omega)]; rfl)
          have hg3 := hgz.appended hg2 hat2 (by simp)
          clear ho2 hg2 hat2 hzo
          have hfin : Hid (zs ++ [UInt8.ofNat m] = xs ++ (ns.take (k + 1)).flatMap varN) := Lib.hid (by
            have := hz.out
            rw [h1'.out] at this
            rw [← this, hy.out, List.take_succ_eq_append_getElem (by rw [← HN.out]; exact hlt), (List.getElem?_eq_some_iff.1 hn).2]
            simp)
          clear hn cn
          go_wp2_with fail
          go_roundw
          case rel => exact ⟨k + 1, zs ++ [UInt8.ofNat m], by omega, by go_num, ho3, hg3, by simp; omega, hfin⟩
          case measure => simp [intOf]; omega
    · have hfin : xs ++ ns.flatMap varN = ys := by rw [hy.out, List.take_of_length_le (by rw [← HN.out]; omega)]
      have Hf := Lib.hid hfin
      clear hfin
      go_wp2_with fail
      go_ret
      exact ⟨_, rfl, by rw [Hf.out]; exact hyo, hg⟩

end Go.Proofs.Ytllakkepphpfmaa

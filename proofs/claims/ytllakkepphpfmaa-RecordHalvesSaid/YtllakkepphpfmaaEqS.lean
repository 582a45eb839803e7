/- Comparisons of structs: attempts and deliveries. -/
import Derived.Test.YtllakkepphpfmaaEqual
namespace Go.Proofs.Ytllakkepphpfmaa
open Go.RowKit
open Rc

/-- A comparison of two structs, in a quiet walk. -/
theorem quiet_neq {P : Program} {o : Oper} {a : Act} {C : World → Prop} {K : Act → Prop} (t t' : TypeId) (x y : Operand) (xs ys : Array Value) (b : Bool) (ho : o.op = .binOp .neq t x y t') (hx : a.eval x = .agg xs) (hy : a.eval y = .agg ys)
    (hg : P.eqGuardType P.depth t = false) (heq : ∀ W, (Op.equalIn 10000 t (.agg xs) (.agg ys)).run P W = .ok b W) (hk : K (a.put o.dst (.bool (!b)))) : o.quiet P a C K := by
  refine ⟨.bool (!b), fun W _ => ?_, hk⟩
  unfold Oper.quietAt execOp
  simp only [ho, hx, hy, Sem.run_bind, run_eqGuard_agg _ _ _ _ _ _ _ hg, Result.andThen_ok, run_neq_struct, heq, Sem.run_pure, Oper.quietUpon, and_self]

theorem Try.eqAtt (a a' : Att) (W : World) : (Op.equalIn 10000 45 (.agg #[.int .i64 a.s, .int .i64 a.f, .int .i64 a.cs, .int .i64 a.co, .int .i64 a.cf, .int .i64 a.ct, .int .i64 a.cl, .int .i64 a.o]) (.agg #[.int .i64 a'.s, .int .i64 a'.f, .int .i64 a'.cs, .int .i64 a'.co, .int .i64 a'.cf, .int .i64 a'.ct, .int .i64 a'.cl, .int .i64 a'.o])).run Try.prog W = .ok (decide (a = a')) W := by
  simp [go_sem]
  have h : decide (a = a') = decide (a.s = a'.s ∧ a.f = a'.f ∧ a.cs = a'.cs ∧ a.co = a'.co ∧ a.cf = a'.cf ∧ a.ct = a'.ct ∧ a.cl = a'.cl ∧ a.o = a'.o) := by rw [Bool.eq_iff_iff]; simp [Att.ext_iff']
  rw [h]
  repeat' split
  all_goals simp_all
theorem Try.eqDlv (a a' : Dlv) (W : World) : (Op.equalIn 10000 62 (.agg #[.int .i64 a.fl, .int .i64 a.fr, .int .i64 a.sl]) (.agg #[.int .i64 a'.fl, .int .i64 a'.fr, .int .i64 a'.sl])).run Try.prog W = .ok (decide (a = a')) W := by
  simp [go_sem]
  have h : decide (a = a') = decide (a.fl = a'.fl ∧ a.fr = a'.fr ∧ a.sl = a'.sl) := by rw [Bool.eq_iff_iff]; simp [Dlv.ext_iff']
  rw [h]
  repeat' split
  all_goals simp_all
end Go.Proofs.Ytllakkepphpfmaa

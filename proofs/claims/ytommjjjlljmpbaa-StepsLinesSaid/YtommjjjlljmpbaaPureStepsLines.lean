/- The plain law of StepsLines: what the printed function answers, over lists alone. No conditions. -/
import Derived.Test.YtommjjjlljmpbaaTot
import Derived.Test.YtommjjjlljmpbaaPStepsx5
set_option linter.unusedVariables false
set_option linter.unusedSimpArgs false
namespace Go.Proofs.Ytommjjjlljmpbaa.PSteps
open Go.RowKit Go.Proofs.YtommjjjlljmpbaaW.PrintWords Go.Proofs.YtommjjjlljmpbaaW.PrintLast Go.Proofs.YtommjjjlljmpbaaW.PrintMore
theorem and_bit (a : Int) : Go.bits BinOp.and IntKind.i64 a 1 = 0 ∨ Go.bits BinOp.and IntKind.i64 a 1 = 1 := by
  have h16 : (BitVec.ofInt 64 1).toNat = 2 ^ 1 - 1 := by decide
  have key : (BitVec.ofInt 64 a &&& BitVec.ofInt 64 1).toNat = (a % ((2 ^ 64 : Nat) : Int)).toNat % 2 ^ 1 := by
    rw [BitVec.toNat_and, BitVec.toNat_ofInt, h16, Nat.and_two_pow_sub_one_eq_mod]
  have e : Go.bits BinOp.and IntKind.i64 a 1 = IntKind.i64.wrap ((BitVec.ofInt 64 a &&& BitVec.ofInt 64 1).toNat : Nat) := rfl
  rw [e, key, IntKind.wrap_i64]
  omega
theorem tmod_20 (x : Int) : -1048575 ≤ Int.tmod x 1048576 ∧ Int.tmod x 1048576 ≤ 1048575 := by
  have h2 : (Int.tmod x 1048576).natAbs = x.natAbs % 1048576 := Int.natAbs_tmod x 1048576
  omega
theorem mul_20 (x y : Int) (hx : -1048575 ≤ x ∧ x ≤ 1048575) (hy : -1048575 ≤ y ∧ y ≤ 1048575) : -1099511627776 ≤ x * y ∧ x * y ≤ 1099511627776 := by
  have h1 : (x * y).natAbs = x.natAbs * y.natAbs := Int.natAbs_mul _ _
  have h2 : x.natAbs * y.natAbs ≤ 1048575 * 1048575 := Nat.mul_le_mul (by omega) (by omega)
  omega
theorem lines_j (p v y a b : Int) (hp : p = 0 ∨ p = 1) (hv : -1048575 ≤ v ∧ v ≤ 1048575) (ha : -1048575 ≤ a ∧ a ≤ 1048575) (hb : -1048575 ≤ b ∧ b ≤ 1048575) (r : List Int) (hr : r = if p = 0 then [a * v + b, v, y] else [v, a * v + b, y]) :
    secateurlaw15_StepsLines.j0 500 y v r false 1 p 0 a b = some true := by
  show secateurlaw15_StepsLines.j0 (499 + 1) y v r false 1 p 0 a b = some true
  have hm := mul_20 a v ha hv
  rw [secateurlaw15_StepsLines.j0, if_neg (by simp), wrap_id (a * v) (by omega), wrap_id (a * v + b) (by omega)]
  simp only [Option.bind_some]
  rcases hp with rfl | rfl
  · rw [if_pos rfl] at hr
    subst hr
    have hn : secateurref02_Nums.f 499 ([] ++ List.take (0 : Int).toNat [a * v + b, v, y] ++ List.drop (wrap64 (0 + 1)).toNat [a * v + b, v, y]) [v, y] = some true := by
      rw [wrap_id _ (by omega)]
      exact nums_eq 499 [v, y] [v, y] (by simp) (by simp) |>.trans (by simp)
    rw [hn]
    rw [wrap_id (0 + 1) (by omega)]
    simp [rd]
    rfl
  · rw [if_neg (by omega)] at hr
    subst hr
    have hn : secateurref02_Nums.f 499 ([] ++ List.take (1 : Int).toNat [v, a * v + b, y] ++ List.drop (wrap64 (1 + 1)).toNat [v, a * v + b, y]) [v, y] = some true := by
      rw [wrap_id _ (by omega)]
      exact nums_eq 499 [v, y] [v, y] (by simp) (by simp) |>.trans (by simp)
    rw [hn]
    rw [wrap_id (1 + 1) (by omega)]
    simp [rd]
    rfl
theorem StepsLines_pure (a0 a1 a2 a3 a4 x y : Int) : secateurlaw15_StepsLines.f 500 a0 a1 a2 a3 a4 x y = some true := by
  unfold secateurlaw15_StepsLines.f
  have hv := tmod_20 x
  have ha := tmod_20 a3
  have hb := tmod_20 a4
  have hp := and_bit a1
  generalize Int.tmod x 1048576 = v at *
  generalize Int.tmod a3 1048576 = a at *
  generalize Int.tmod a4 1048576 = b at *
  generalize Go.bits BinOp.and IntKind.i64 a1 1 = p at *
  have hm := mul_20 a v ha hv
  have hbk := back_total 500 (by omega) ⟨1, p, 0, a, b⟩ [v, y] (by simp)
  have hval : valueS 1 0 a b [v, y] = (a * v + b, true) := by
    have e1 : rd [v, y] 0 = v := rfl
    have e2 : mulS a v = (a * v, true) := if_pos ⟨S_iff.2 (by omega), S_iff.2 (by omega), S_iff.2 (by omega)⟩
    have e3 : addS (a * v) b = (a * v + b, true) := if_pos ⟨S_iff.2 (by omega), S_iff.2 (by omega), S_iff.2 (by omega)⟩
    unfold valueS
    rw [if_pos rfl, e1, e2, if_pos rfl, e3]
  have hbs : backS ⟨1, p, 0, a, b⟩ [v, y] = (if p = 0 then [a * v + b, v, y] else [v, a * v + b, y], 0) := by
    unfold backS
    have hok : okS 1 p 0 a (([v, y] : List Int).length) := ⟨by simp, by omega, by simp; omega, .inr ⟨rfl, by omega, by simp⟩⟩
    rw [if_pos hok, hval, if_pos rfl]
    rcases hp with rfl | rfl <;> simp
  rw [hbs] at hbk
  rw [show steps_Back.f 500 1 p 0 a b [v, y] = _ from hbk]
  simp only [Option.bind_some]
  first | rw [if_pos rfl] | rw [if_pos trivial]
  have hl : ((((if p = 0 then [a * v + b, v, y] else [v, a * v + b, y]) : List Int).length : Int) != 3) = false := by
    rcases hp with rfl | rfl <;> simp
  rw [hl]
  exact lines_j p v y a b hp hv ha hb _ rfl
end Go.Proofs.Ytommjjjlljmpbaa.PSteps

/- The plain law of StepsChecks: what the printed function answers, over lists alone. No conditions. -/
import Derived.Test.YtommjjjlljmpbaaTot
import Derived.Test.YtommjjjlljmpbaaPStepsx4
set_option linter.unusedVariables false
set_option linter.unusedSimpArgs false
namespace Go.Proofs.Ytommjjjlljmpbaa.PSteps
open Go.RowKit Go.Proofs.YtommjjjlljmpbaaW.PrintWords Go.Proofs.YtommjjjlljmpbaaW.PrintLast Go.Proofs.YtommjjjlljmpbaaW.PrintMore
theorem goS_append (a b : List S23) : ∀ xs : List Int, goS (a ++ b) xs = if (goS a xs).2 = 0 then goS b (goS a xs).1 else goS a xs := by
  induction a with
  | nil => intro xs; simp [goS]
  | cons s a ih =>
    intro xs
    rw [List.cons_append, goS, goS]
    by_cases h : (backS s xs).2 = 0
    · rw [if_pos h, if_pos h, ih]
    · rw [if_neg h, if_neg h, if_neg h]
theorem goS_len (l : List S23) : ∀ xs : List Int, (goS l xs).2 = 0 → (goS l xs).1.length = xs.length + l.length := by
  induction l with
  | nil => intro xs _; simp [goS]
  | cons s l ih =>
    intro xs h
    rw [goS] at h ⊢
    by_cases h0 : (backS s xs).2 = 0
    · rw [if_pos h0] at h ⊢
      rw [ih _ h, back_len s xs h0]
      simp; omega
    · rw [if_neg h0] at h
      exact absurd h h0
theorem back_err (s : S23) (xs : List Int) (h : (backS s xs).2 ≠ 0) : (backS s xs).2 = 150 ∨ (backS s xs).2 = 10 := by
  unfold backS at *
  split
  · rename_i hc
    rw [if_pos hc] at h
    split
    · rename_i hv
      rw [if_pos hv] at h
      simp at h
    · exact .inr rfl
  · exact .inl rfl
theorem goS_err (l : List S23) : ∀ xs : List Int, (goS l xs).2 ≠ 0 → (goS l xs).1 = [] ∧ ((goS l xs).2 = 150 ∨ (goS l xs).2 = 10) := by
  induction l with
  | nil => intro xs h; exact absurd rfl h
  | cons s l ih =>
    intro xs h
    rw [goS] at h ⊢
    by_cases h0 : (backS s xs).2 = 0
    · rw [if_pos h0] at h ⊢
      exact ih _ h
    · rw [if_neg h0]
      exact ⟨rfl, back_err s xs h0⟩
theorem replayS_cons (s : S23) (l : List S23) (xs : List Int) : replayS (s :: l) xs = if (replayS l xs).2 = 0 then backS s (replayS l xs).1 else replayS l xs := by
  unfold replayS
  rw [List.reverse_cons, goS_append]
  by_cases h : (goS l.reverse xs).2 = 0
  · rw [if_pos h, if_pos h, goS]
    by_cases h2 : (backS s (goS l.reverse xs).1).2 = 0
    · rw [if_pos h2, goS]; exact Prod.ext rfl h2.symm
    · rw [if_neg h2]
      refine Prod.ext ?_ rfl
      have : ∀ s xs, (backS s xs).2 ≠ 0 → (backS s xs).1 = [] := by
        intro s xs h
        unfold backS at *
        split
        · rename_i hc
          rw [if_pos hc] at h
          split
          · rename_i hv
            rw [if_pos hv] at h
            simp at h
          · rfl
        · rfl
      exact (this _ _ h2).symm
  · rw [if_neg h, if_neg h]
theorem replayS_len (l : List S23) (xs : List Int) (h : (replayS l xs).2 = 0) : (replayS l xs).1.length = xs.length + l.length := by
  have := goS_len l.reverse xs h; rw [List.length_reverse] at this; exact this
theorem replayS_err (l : List S23) (xs : List Int) (h : (replayS l xs).2 ≠ 0) : (replayS l xs).1 = [] ∧ ((replayS l xs).2 = 150 ∨ (replayS l xs).2 = 10) := goS_err _ xs h
theorem replayS_append (l m : List S23) (xs : List Int) : replayS (l ++ m) xs = if (replayS m xs).2 = 0 then replayS l (replayS m xs).1 else replayS m xs := by
  unfold replayS
  rw [List.reverse_append, goS_append]
theorem mnc (c n : Nat) : mn (n : Int) (c : Int) = ((min n c : Nat) : Int) := by unfold mn; split <;> omega
theorem fixed_f (k : Nat) (hk : 400 ≤ k) : secateurlaw15_fixed.f k = some true := if_pos hk
theorem and_low (a : Int) : ∃ c : Int, Go.bits BinOp.and IntKind.i64 a 65535 = c ∧ 0 ≤ c ∧ c ≤ 65535 := by
  refine ⟨a % 65536, ?_, by omega, by omega⟩
  have h16 : (BitVec.ofInt 64 65535).toNat = 2 ^ 16 - 1 := by decide
  have key : (BitVec.ofInt 64 a &&& BitVec.ofInt 64 65535).toNat = (a % ((2 ^ 64 : Nat) : Int)).toNat % 2 ^ 16 := by
    rw [BitVec.toNat_and, BitVec.toNat_ofInt, h16, Nat.and_two_pow_sub_one_eq_mod]
  show IntKind.i64.wrap ((BitVec.ofInt 64 a &&& BitVec.ofInt 64 65535).toNat : Nat) = a % 65536
  rw [key, IntKind.wrap_i64]
  omega
theorem StepsChecks_pure (a b c d e n m : Int) : secateurlaw15_StepsChecks.f 500 a b c d e n m = some true := by
  unfold secateurlaw15_StepsChecks.f
  obtain ⟨k, hk, k0, k1⟩ := and_low n
  obtain ⟨q, hq, q0, q1⟩ := and_low m
  rw [hk, hq, wrap_id (k + q) (by omega), check_total _ (by omega), check_total _ (by omega)]
  simp only [Option.bind_some]
  have tail : secateurlaw15_StepsChecks.j0 500 k q false = some true := by
    show secateurlaw15_StepsChecks.j0 (499 + 1) k q false = some true
    rw [secateurlaw15_StepsChecks.j0, if_neg (by simp), wrap_id (k + 1) (by omega), wrap_id (k + 1 + q) (by omega), wrap_id (k + q) (by omega), check_total _ (by omega), check_total _ (by omega), check_total _ (by omega)]
    simp only [Option.bind_some]
    have h1 : ¬ okS 0 (k + 1 + q) 0 0 k := fun h => by have := h.2.2.1; omega
    have h2 : ¬ okS 1 0 (k + q) 1 k := fun h => by
      rcases h.2.2.2 with h | h <;> omega
    have h3 : okS 0 k 0 0 k := ⟨by omega, by omega, by omega, .inl ⟨rfl, rfl, rfl⟩⟩
    rw [if_neg h1, if_neg h2, if_pos h3]
    rfl
  by_cases h : okS a b c d k
  · have h' : okS a b c d (k + q) := ⟨by omega, h.2.1, by have := h.2.2.1; omega, by
      rcases h.2.2.2 with g | g
      · exact .inl g
      · exact .inr ⟨g.1, g.2.1, by omega⟩⟩
    rw [if_pos h, if_pos rfl, if_pos h']
    exact tail
  · rw [if_neg h, if_neg (by omega)]
    exact tail
end Go.Proofs.Ytommjjjlljmpbaa.PSteps

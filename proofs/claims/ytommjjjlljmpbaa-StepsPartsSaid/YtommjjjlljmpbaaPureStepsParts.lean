/- The plain law of StepsParts: what the printed function answers, over lists alone. No conditions. -/
import Derived.Test.YtommjjjlljmpbaaTot
import Derived.Test.YtommjjjlljmpbaaPStepsx12
set_option linter.unusedVariables false
set_option linter.unusedSimpArgs false
namespace Go.Proofs.Ytommjjjlljmpbaa.PSteps
open Go.RowKit Go.Proofs.YtommjjjlljmpbaaW.PrintWords Go.Proofs.YtommjjjlljmpbaaW.PrintLast Go.Proofs.YtommjjjlljmpbaaW.PrintMore
theorem goS_append (a b : List S23) : ∀ xs : List Int, goS (a ++ b) xs = if (goS a xs).2 = 0 then goS b (goS a xs).1 else goS a xs := by
  induction a with
  | nil => intro xs; simp [goS]
  | cons s a ih =>
    intro xs
    rw [List.cons_append, goS, goS]
    by_cases h : (backS s xs).2 = 0
    · rw [if_pos h, if_pos h, ih]
    · rw [if_neg h, if_neg h, if_neg h]
theorem goS_len (l : List S23) : ∀ xs : List Int, (goS l xs).2 = 0 → (goS l xs).1.length = xs.length + l.length := by
  induction l with
  | nil => intro xs _; simp [goS]
  | cons s l ih =>
    intro xs h
    rw [goS] at h ⊢
    by_cases h0 : (backS s xs).2 = 0
    · rw [if_pos h0] at h ⊢
      rw [ih _ h, back_len s xs h0]
      simp; omega
    · rw [if_neg h0] at h
      exact absurd h h0
theorem back_err (s : S23) (xs : List Int) (h : (backS s xs).2 ≠ 0) : (backS s xs).2 = 150 ∨ (backS s xs).2 = 10 := by
  unfold backS at *
  split
  · rename_i hc
    rw [if_pos hc] at h
    split
    · rename_i hv
      rw [if_pos hv] at h
      simp at h
    · exact .inr rfl
  · exact .inl rfl
theorem goS_err (l : List S23) : ∀ xs : List Int, (goS l xs).2 ≠ 0 → (goS l xs).1 = [] ∧ ((goS l xs).2 = 150 ∨ (goS l xs).2 = 10) := by
  induction l with
  | nil => intro xs h; exact absurd rfl h
  | cons s l ih =>
    intro xs h
    rw [goS] at h ⊢
    by_cases h0 : (backS s xs).2 = 0
    · rw [if_pos h0] at h ⊢
      exact ih _ h
    · rw [if_neg h0]
      exact ⟨rfl, back_err s xs h0⟩
theorem replayS_cons (s : S23) (l : List S23) (xs : List Int) : replayS (s :: l) xs = if (replayS l xs).2 = 0 then backS s (replayS l xs).1 else replayS l xs := by
  unfold replayS
  rw [List.reverse_cons, goS_append]
  by_cases h : (goS l.reverse xs).2 = 0
  · rw [if_pos h, if_pos h, goS]
    by_cases h2 : (backS s (goS l.reverse xs).1).2 = 0
    · rw [if_pos h2, goS]; exact Prod.ext rfl h2.symm
    · rw [if_neg h2]
      refine Prod.ext ?_ rfl
      have : ∀ s xs, (backS s xs).2 ≠ 0 → (backS s xs).1 = [] := by
        intro s xs h
        unfold backS at *
        split
        · rename_i hc
          rw [if_pos hc] at h
          split
          · rename_i hv
            rw [if_pos hv] at h
            simp at h
          · rfl
        · rfl
      exact (this _ _ h2).symm
  · rw [if_neg h, if_neg h]
theorem replayS_len (l : List S23) (xs : List Int) (h : (replayS l xs).2 = 0) : (replayS l xs).1.length = xs.length + l.length := by
  have := goS_len l.reverse xs h; rw [List.length_reverse] at this; exact this
theorem replayS_err (l : List S23) (xs : List Int) (h : (replayS l xs).2 ≠ 0) : (replayS l xs).1 = [] ∧ ((replayS l xs).2 = 150 ∨ (replayS l xs).2 = 10) := goS_err _ xs h
theorem replayS_append (l m : List S23) (xs : List Int) : replayS (l ++ m) xs = if (replayS m xs).2 = 0 then replayS l (replayS m xs).1 else replayS m xs := by
  unfold replayS
  rw [List.reverse_append, goS_append]
theorem mnc (c n : Nat) : mn (n : Int) (c : Int) = ((min n c : Nat) : Int) := by unfold mn; split <;> omega
theorem fixed_f (k : Nat) (hk : 400 ≤ k) : secateurlaw15_fixed.f k = some true := if_pos hk
theorem parts_main (k : Nat) (hk : 450 ≤ k) (l m : List S23) (xs : List Int) (hl : l.length ≤ 20) (hm : m.length ≤ 20) (hx : xs.length ≤ 40) :
    secateurlaw15_StepsParts.j0 k l (replayS m xs).1 (replayS m xs).2 (replayS (l ++ m) xs).1 (replayS (l ++ m) xs).2 false = some true := by
  obtain ⟨k, rfl⟩ : ∃ q, k = q + 1 := ⟨k - 1, by omega⟩
  rw [secateurlaw15_StepsParts.j0, if_neg (by simp), replayS_append]
  by_cases h : (replayS m xs).2 = 0
  · have hlen := replayS_len m xs h
    rw [if_pos h, if_pos h, replay_total k (by omega) _ _ (by omega)]
    simp only [Option.bind_some]
    first | rw [if_pos rfl] | rw [if_pos trivial]
    have hl2 : (replayS l (replayS m xs).1).1.length ≤ 100 := by
      by_cases h2 : (replayS l (replayS m xs).1).2 = 0
      · rw [replayS_len _ _ h2]; omega
      · rw [(replayS_err _ _ h2).1]; simp
    rw [nums_eq k _ _ (by omega) (by omega), fixed_f k (by omega)]
    simp
  · rw [if_neg h, if_neg h, if_pos rfl, fixed_f k (by omega)]
    rfl
theorem StepsParts_pure (l m : List S23) (xs : List Int) : secateurlaw15_StepsParts.f 500 l m xs = some true := by
  unfold secateurlaw15_StepsParts.f
  rw [show (20 : Int) = ((20 : Nat) : Int) from rfl, show (40 : Int) = ((40 : Nat) : Int) from rfl, mnc, mnc, mnc]
  simp only [Int.toNat_natCast]
  have hl : (l.take (min l.length 20)).length ≤ 20 := by rw [List.length_take]; omega
  have hm : (m.take (min m.length 20)).length ≤ 20 := by rw [List.length_take]; omega
  have hx : (xs.take (min xs.length 40)).length ≤ 40 := by rw [List.length_take]; omega
  rw [if_pos (by omega), if_pos (by omega), Option.bind_some, if_pos (by omega), if_pos (by omega), Option.bind_some, if_pos (by omega), if_pos (by omega)]
  generalize l.take (min l.length 20) = l at *
  generalize m.take (min m.length 20) = m at *
  generalize xs.take (min xs.length 40) = xs at *
  simp only [Option.bind_some, List.length_nil, List.nil_append]
  rw [if_pos (by omega), if_pos (by omega), replay_total _ (by omega) _ _ (by omega), replay_total _ (by omega) _ _ (by simp; omega), replay_total _ (by omega) _ _ (by simp; omega)]
  simp only [Option.bind_some]
  have h0 : replayS [] xs = (xs, 0) := rfl
  rw [h0]
  simp only []
  first | rw [if_pos rfl] | rw [if_pos trivial]
  rw [nums_eq _ _ _ (by omega) (by omega)]
  simp only [Option.bind_some, decide_true, Bool.not_true]
  exact parts_main 500 (by omega) l m xs hl hm hx
end Go.Proofs.Ytommjjjlljmpbaa.PSteps

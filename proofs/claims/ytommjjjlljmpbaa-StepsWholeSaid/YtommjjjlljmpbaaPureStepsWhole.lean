/- The plain law of StepsWhole: what the printed function answers, over lists alone. No conditions. -/
import Derived.Test.YtommjjjlljmpbaaTot
import Derived.Test.YtommjjjlljmpbaaPStepsx11
set_option linter.unusedVariables false
set_option linter.unusedSimpArgs false
namespace Go.Proofs.Ytommjjjlljmpbaa.PSteps
open Go.RowKit Go.Proofs.YtommjjjlljmpbaaW.PrintWords Go.Proofs.YtommjjjlljmpbaaW.PrintLast Go.Proofs.YtommjjjlljmpbaaW.PrintMore
theorem goS_append (a b : List S23) : ∀ xs : List Int, goS (a ++ b) xs = if (goS a xs).2 = 0 then goS b (goS a xs).1 else goS a xs := by
  induction a with
  | nil => intro xs; simp [goS]
  | cons s a ih =>
    intro xs
    rw [List.cons_append, goS, goS]
    by_cases h : (backS s xs).2 = 0
    · rw [if_pos h, if_pos h, ih]
    · rw [if_neg h, if_neg h, if_neg h]
theorem goS_len (l : List S23) : ∀ xs : List Int, (goS l xs).2 = 0 → (goS l xs).1.length = xs.length + l.length := by
  induction l with
  | nil => intro xs _; simp [goS]
  | cons s l ih =>
    intro xs h
    rw [goS] at h ⊢
    by_cases h0 : (backS s xs).2 = 0
    · rw [if_pos h0] at h ⊢
      rw [ih _ h, back_len s xs h0]
      simp; omega
    · rw [if_neg h0] at h
      exact absurd h h0
theorem back_err (s : S23) (xs : List Int) (h : (backS s xs).2 ≠ 0) : (backS s xs).2 = 150 ∨ (backS s xs).2 = 10 := by
  unfold backS at *
  split
  · rename_i hc
    rw [if_pos hc] at h
    split
    · rename_i hv
      rw [if_pos hv] at h
      simp at h
    · exact .inr rfl
  · exact .inl rfl
theorem goS_err (l : List S23) : ∀ xs : List Int, (goS l xs).2 ≠ 0 → (goS l xs).1 = [] ∧ ((goS l xs).2 = 150 ∨ (goS l xs).2 = 10) := by
  induction l with
  | nil => intro xs h; exact absurd rfl h
  | cons s l ih =>
    intro xs h
    rw [goS] at h ⊢
    by_cases h0 : (backS s xs).2 = 0
    · rw [if_pos h0] at h ⊢
      exact ih _ h
    · rw [if_neg h0]
      exact ⟨rfl, back_err s xs h0⟩
theorem replayS_cons (s : S23) (l : List S23) (xs : List Int) : replayS (s :: l) xs = if (replayS l xs).2 = 0 then backS s (replayS l xs).1 else replayS l xs := by
  unfold replayS
  rw [List.reverse_cons, goS_append]
  by_cases h : (goS l.reverse xs).2 = 0
  · rw [if_pos h, if_pos h, goS]
    by_cases h2 : (backS s (goS l.reverse xs).1).2 = 0
    · rw [if_pos h2, goS]; exact Prod.ext rfl h2.symm
    · rw [if_neg h2]
      refine Prod.ext ?_ rfl
      have : ∀ s xs, (backS s xs).2 ≠ 0 → (backS s xs).1 = [] := by
        intro s xs h
        unfold backS at *
        split
        · rename_i hc
          rw [if_pos hc] at h
          split
          · rename_i hv
            rw [if_pos hv] at h
            simp at h
          · rfl
        · rfl
      exact (this _ _ h2).symm
  · rw [if_neg h, if_neg h]
theorem replayS_len (l : List S23) (xs : List Int) (h : (replayS l xs).2 = 0) : (replayS l xs).1.length = xs.length + l.length := by
  have := goS_len l.reverse xs h; rw [List.length_reverse] at this; exact this
theorem replayS_err (l : List S23) (xs : List Int) (h : (replayS l xs).2 ≠ 0) : (replayS l xs).1 = [] ∧ ((replayS l xs).2 = 150 ∨ (replayS l xs).2 = 10) := goS_err _ xs h
theorem replayS_append (l m : List S23) (xs : List Int) : replayS (l ++ m) xs = if (replayS m xs).2 = 0 then replayS l (replayS m xs).1 else replayS m xs := by
  unfold replayS
  rw [List.reverse_append, goS_append]
theorem mnc (c n : Nat) : mn (n : Int) (c : Int) = ((min n c : Nat) : Int) := by unfold mn; split <;> omega
theorem fixed_f (k : Nat) (hk : 400 ≤ k) : secateurlaw15_fixed.f k = some true := if_pos hk
theorem back_dropAt (s : S23) (xs : List Int) (h : (backS s xs).2 = 0) : 0 ≤ s.f1 ∧ s.f1 ≤ xs.length ∧ dropAt (backS s xs).1 s.f1.toNat = xs := by
  unfold backS at *
  by_cases hc : okS s.f0 s.f1 s.f2 s.f3 xs.length
  · rw [if_pos hc] at h ⊢
    by_cases hv : (valueS s.f0 s.f2 s.f3 s.f4 xs).2 = true
    · rw [if_pos hv]
      have h1 := hc.2.1
      have h2 := hc.2.2.1
      refine ⟨h1, h2, ?_⟩
      have ht : (xs.take s.f1.toNat).length = s.f1.toNat := by rw [List.length_take]; omega
      unfold dropAt
      dsimp only
      rw [List.take_append_of_le_length (by omega), List.take_of_length_le (by omega), List.drop_append, List.drop_of_length_le (by omega), ht]
      simp [List.take_append_drop]
    · rw [if_neg hv] at h; simp at h
  · rw [if_neg hc] at h; simp at h
theorem without_back (s : S23) (xs : List Int) (h : (backS s xs).2 = 0) : withoutS s (backS s xs).1 = (xs, true) := by
  obtain ⟨h1, h2, h3⟩ := back_dropAt s xs h
  have hl := back_len s xs h
  unfold withoutS
  rw [h3, if_pos ⟨h1, by omega, Prod.ext rfl h⟩]
theorem whole_loop (l : List S23) (xs : List Int) (hl : l.length ≤ 40) (hx : xs.length ≤ 40) (d : Nat) : ∀ (k i : Nat), d + i = l.length → d + 460 ≤ k → (replayS (l.drop i) xs).2 = 0 →
    secateurlaw15_StepsWhole.l0 k l xs (replayS (l.drop i) xs).1 i = some true := by
  induction d with
  | zero =>
    intro k i hd hk h
    obtain ⟨k, rfl⟩ : ∃ q, k = q + 1 := ⟨k - 1, by omega⟩
    rw [secateurlaw15_StepsWhole.l0, if_neg (by omega), List.drop_of_length_le (by omega)]
    have h0 : replayS [] xs = (xs, 0) := rfl
    rw [h0, nums_eq _ _ _ (by omega) (by omega), fixed_f k (by omega)]
    simp
  | succ d ih =>
    intro k i hd hk h
    obtain ⟨k, rfl⟩ : ∃ q, k = q + 1 := ⟨k - 1, by omega⟩
    have hi : i < l.length := by omega
    have ed : l.drop i = rd_T23 l i :: l.drop (i + 1) := by
      rw [List.drop_eq_getElem_cons hi]
      simp [rd_T23, List.getD_eq_getElem?_getD, List.getElem?_eq_getElem hi]
    rw [ed] at h ⊢
    generalize hs : rd_T23 l i = s at *
    rw [replayS_cons] at h ⊢
    have h1 : (replayS (l.drop (i + 1)) xs).2 = 0 := by
      by_cases h1 : (replayS (l.drop (i + 1)) xs).2 = 0
      · exact h1
      · rw [if_neg h1] at h; exact h
    rw [if_pos h1] at h ⊢
    have hlen := replayS_len _ xs h1
    rw [List.length_drop] at hlen
    have hbl := back_len s _ h
    rw [secateurlaw15_StepsWhole.l0, if_pos (by omega), if_pos (by omega), hs, without_total k s _ (by omega) (by omega), without_back s _ h]
    simp only [Option.bind_some]
    rw [back_total k (by omega) s _ (by omega)]
    simp only [Option.bind_some]
    rw [if_pos trivial, if_pos h, nums_eq _ _ _ (by omega) (by omega)]
    simp only [Option.bind_some, decide_true, if_true]
    rw [wrap_id _ (by omega), if_pos (by omega)]
    have hw : wrap64 ((i : Int) + 1) = ((i + 1 : Nat) : Int) := by rw [wrap_id _ (by omega)]; omega
    rw [hw]
    exact ih k (i + 1) (by omega) (by omega) h1
theorem StepsWhole_pure (l : List S23) (xs : List Int) : secateurlaw15_StepsWhole.f 600 l xs = some true := by
  unfold secateurlaw15_StepsWhole.f
  rw [show (40 : Int) = ((40 : Nat) : Int) from rfl, mnc, mnc]
  simp only [Int.toNat_natCast]
  have hl : (l.take (min l.length 40)).length ≤ 40 := by rw [List.length_take]; omega
  have hx : (xs.take (min xs.length 40)).length ≤ 40 := by rw [List.length_take]; omega
  rw [if_pos (by omega), if_pos (by omega), Option.bind_some, if_pos (by omega), if_pos (by omega)]
  generalize l.take (min l.length 40) = l at *
  generalize xs.take (min xs.length 40) = xs at *
  simp only [Option.bind_some]
  rw [replay_total _ (by omega) _ _ (by omega), fixed_f _ (by omega)]
  simp only [Option.bind_some]
  by_cases h : (replayS l xs).2 = 0
  · have hlen := replayS_len l xs h
    rw [if_pos h, wrap_id _ (by omega), if_pos (by omega)]
    have := whole_loop l xs hl hx l.length 600 0 (by omega) (by omega) (by simpa using h)
    simpa using this
  · obtain ⟨h1, h2⟩ := replayS_err l xs h
    rw [if_neg h, h1, if_pos (by simp)]
    rcases h2 with h2 | h2
    · rw [if_pos h2]
    · rw [if_neg (by omega), if_pos h2]
end Go.Proofs.Ytommjjjlljmpbaa.PSteps

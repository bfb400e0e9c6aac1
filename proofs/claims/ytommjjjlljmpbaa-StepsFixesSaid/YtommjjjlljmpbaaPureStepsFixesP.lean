/- The plain law of StepsFixesP: what the printed function answers, over lists alone. No conditions. -/
import Derived.Test.YtommjjjlljmpbaaTot
import Derived.Test.YtommjjjlljmpbaaPStepsx13
set_option linter.unusedVariables false
set_option linter.unusedSimpArgs false
namespace Go.Proofs.Ytommjjjlljmpbaa.PSteps
open Go.RowKit Go.Proofs.YtommjjjlljmpbaaW.PrintWords Go.Proofs.YtommjjjlljmpbaaW.PrintLast Go.Proofs.YtommjjjlljmpbaaW.PrintMore
theorem goS_append (a b : List S23) : ∀ xs : List Int, goS (a ++ b) xs = if (goS a xs).2 = 0 then goS b (goS a xs).1 else goS a xs := by
  induction a with
  | nil => intro xs; simp [goS]
  | cons s a ih =>
    intro xs
    rw [List.cons_append, goS, goS]
    by_cases h : (backS s xs).2 = 0
    · rw [if_pos h, if_pos h, ih]
    · rw [if_neg h, if_neg h, if_neg h]
theorem goS_len (l : List S23) : ∀ xs : List Int, (goS l xs).2 = 0 → (goS l xs).1.length = xs.length + l.length := by
  induction l with
  | nil => intro xs _; simp [goS]
  | cons s l ih =>
    intro xs h
    rw [goS] at h ⊢
    by_cases h0 : (backS s xs).2 = 0
    · rw [if_pos h0] at h ⊢
      rw [ih _ h, back_len s xs h0]
      simp; omega
    · rw [if_neg h0] at h
      exact absurd h h0
theorem back_err (s : S23) (xs : List Int) (h : (backS s xs).2 ≠ 0) : (backS s xs).2 = 150 ∨ (backS s xs).2 = 10 := by
  unfold backS at *
  split
  · rename_i hc
    rw [if_pos hc] at h
    split
    · rename_i hv
      rw [if_pos hv] at h
      simp at h
    · exact .inr rfl
  · exact .inl rfl
theorem goS_err (l : List S23) : ∀ xs : List Int, (goS l xs).2 ≠ 0 → (goS l xs).1 = [] ∧ ((goS l xs).2 = 150 ∨ (goS l xs).2 = 10) := by
  induction l with
  | nil => intro xs h; exact absurd rfl h
  | cons s l ih =>
    intro xs h
    rw [goS] at h ⊢
    by_cases h0 : (backS s xs).2 = 0
    · rw [if_pos h0] at h ⊢
      exact ih _ h
    · rw [if_neg h0]
      exact ⟨rfl, back_err s xs h0⟩
theorem replayS_cons (s : S23) (l : List S23) (xs : List Int) : replayS (s :: l) xs = if (replayS l xs).2 = 0 then backS s (replayS l xs).1 else replayS l xs := by
  unfold replayS
  rw [List.reverse_cons, goS_append]
  by_cases h : (goS l.reverse xs).2 = 0
  · rw [if_pos h, if_pos h, goS]
    by_cases h2 : (backS s (goS l.reverse xs).1).2 = 0
    · rw [if_pos h2, goS]; exact Prod.ext rfl h2.symm
    · rw [if_neg h2]
      refine Prod.ext ?_ rfl
      have : ∀ s xs, (backS s xs).2 ≠ 0 → (backS s xs).1 = [] := by
        intro s xs h
        unfold backS at *
        split
        · rename_i hc
          rw [if_pos hc] at h
          split
          · rename_i hv
            rw [if_pos hv] at h
            simp at h
          · rfl
        · rfl
      exact (this _ _ h2).symm
  · rw [if_neg h, if_neg h]
theorem replayS_len (l : List S23) (xs : List Int) (h : (replayS l xs).2 = 0) : (replayS l xs).1.length = xs.length + l.length := by
  have := goS_len l.reverse xs h; rw [List.length_reverse] at this; exact this
theorem replayS_err (l : List S23) (xs : List Int) (h : (replayS l xs).2 ≠ 0) : (replayS l xs).1 = [] ∧ ((replayS l xs).2 = 150 ∨ (replayS l xs).2 = 10) := goS_err _ xs h
theorem replayS_append (l m : List S23) (xs : List Int) : replayS (l ++ m) xs = if (replayS m xs).2 = 0 then replayS l (replayS m xs).1 else replayS m xs := by
  unfold replayS
  rw [List.reverse_append, goS_append]
theorem mnc (c n : Nat) : mn (n : Int) (c : Int) = ((min n c : Nat) : Int) := by unfold mn; split <;> omega
theorem fixed_f (k : Nat) (hk : 400 ≤ k) : secateurlaw15_fixed.f k = some true := if_pos hk
theorem fix_back (b : Int) (hb : -1000 ≤ b ∧ b ≤ 1000) (xs : List Int) : backS ⟨0, 0, 0, 0, b⟩ xs = (b :: xs, 0) := by
  unfold backS
  have hv : valueS 0 0 0 b xs = (b, true) := by
    unfold valueS
    rw [if_neg (by omega)]
    have : addS 0 b = (0 + b, true) := if_pos ⟨S_iff.2 (by omega), S_iff.2 (by omega), S_iff.2 (by omega)⟩
    rw [this, Int.zero_add]
  have hok : okS 0 0 0 0 (xs.length : Int) := ⟨by omega, by omega, by omega, .inl ⟨rfl, rfl, rfl⟩⟩
  rw [if_pos (show okS _ _ _ _ _ from hok), hv, if_pos rfl]
  rfl
def Fixes (l : List S23) : Prop := ∀ s ∈ l, ∃ b : Int, s = ⟨0, 0, 0, 0, b⟩ ∧ -1000 ≤ b ∧ b ≤ 1000
theorem fix_replay (l : List S23) (xs : List Int) (h : Fixes l) : replayS l xs = (l.map S23.f4 ++ xs, 0) := by
  induction l with
  | nil => rfl
  | cons s l ih =>
    obtain ⟨b, rfl, hb⟩ := h s (by simp)
    rw [replayS_cons, ih (fun t ht => h t (by simp [ht])), if_pos rfl, fix_back b hb]
    rfl
theorem tmod_1000 (x : Int) : -1000 ≤ Int.tmod x 1000 ∧ Int.tmod x 1000 ≤ 1000 := by
  have h2 : (Int.tmod x 1000).natAbs = x.natAbs % 1000 := Int.natAbs_tmod x 1000
  omega
theorem fixes_loop (l : List S23) (xs : List Int) (hl : l.length ≤ 20) (hx : xs.length ≤ 40) (d : Nat) : ∀ (k i : Nat), d + i = l.length → d + 450 ≤ k →
    secateurlaw15_StepsFixes.l1 k xs l (l.map S23.f4 ++ xs) i = some true := by
  induction d with
  | zero =>
    intro k i hd hk
    obtain ⟨k, rfl⟩ : ∃ q, k = q + 1 := ⟨k - 1, by omega⟩
    rw [secateurlaw15_StepsFixes.l1, if_neg (by omega), if_pos (by omega), if_pos (by simp; omega)]
    have e : (l.map S23.f4 ++ xs).drop ((l.length : Int)).toNat = xs := by
      rw [Int.toNat_natCast, List.drop_left' (by simp)]
    rw [e, nums_eq _ _ _ (by omega) (by omega), fixed_f k (by omega)]
    simp
  | succ d ih =>
    intro k i hd hk
    obtain ⟨k, rfl⟩ : ∃ q, k = q + 1 := ⟨k - 1, by omega⟩
    have hi : i < l.length := by omega
    have e : rd (l.map S23.f4 ++ xs) i = (rd_T23 l i).f4 := by
      simp [rd, rd_T23, List.getD_eq_getElem?_getD, List.getElem?_append_left, List.getElem?_eq_getElem hi, hi]
    have hw : wrap64 ((i : Int) + 1) = ((i + 1 : Nat) : Int) := by rw [wrap_id _ (by omega)]; omega
    rw [secateurlaw15_StepsFixes.l1, if_pos (by omega), if_pos (by omega), if_pos (by simp; omega), if_pos e, hw]
    exact ih k (i + 1) (by omega) (by omega)
theorem fixes_j1 (k : Nat) (hk : 500 ≤ k) (l : List S23) (xs : List Int) (hl : l.length ≤ 20) (hx : xs.length ≤ 40) (h : Fixes l) : secateurlaw15_StepsFixes.j1 k xs l = some true := by
  obtain ⟨k, rfl⟩ : ∃ q, k = (q + 1) + 1 := ⟨k - 2, by omega⟩
  have h1 : secateurlaw15_StepsFixes.j1 (k + 1 + 1) xs l = secateurlaw15_StepsFixes.j2 (k + 1) xs l (l.map S23.f4 ++ xs) ((((l.map S23.f4 ++ xs).length : Int)) != (wrap64 ((xs.length : Int) + (l.length : Int)))) := by
    rw [secateurlaw15_StepsFixes.j1, replay_total _ (by omega) _ _ (by omega), fix_replay l xs h]
    rw [Option.bind_some, if_pos rfl]
  have e : ((((l.map S23.f4 ++ xs).length : Int)) != (wrap64 ((xs.length : Int) + (l.length : Int)))) = false := by
    rw [wrap_id _ (by omega), List.length_append, List.length_map]; exact bne_eq_false_iff_eq.mpr (by omega)
  rw [h1, e]
  have h2 : secateurlaw15_StepsFixes.j2 (k + 1) xs l (l.map S23.f4 ++ xs) false = secateurlaw15_StepsFixes.l1 k xs l (l.map S23.f4 ++ xs) 0 := by
    rw [secateurlaw15_StepsFixes.j2, if_neg (by simp)]
  rw [h2]
  exact fixes_loop l xs hl hx l.length k (0 : Nat) (by omega) (by omega)
theorem fixes_l0 (a : List Int) (xs : List Int) (hx : xs.length ≤ 40) (d : Nat) : ∀ (k : Nat) (l : List S23) (i : Nat), d + i = 20 → l.length = i → Fixes l → d + 510 ≤ k → secateurlaw15_StepsFixes.l0 k a xs l i = some true := by
  induction d with
  | zero =>
    intro k l i hd hl hf hk
    obtain ⟨k, rfl⟩ : ∃ q, k = q + 1 := ⟨k - 1, by omega⟩
    rw [secateurlaw15_StepsFixes.l0, if_neg (c := (i : Int) < 20) (by omega), fixes_j1 k (by omega) l xs (by omega) hx hf]
    split <;> rfl
  | succ d ih =>
    intro k l i hd hl hf hk
    obtain ⟨k, rfl⟩ : ∃ q, k = q + 1 := ⟨k - 1, by omega⟩
    rw [secateurlaw15_StepsFixes.l0]
    by_cases h : (i : Int) < (a.length : Int)
    · have hw : wrap64 ((i : Int) + 1) = ((i + 1 : Nat) : Int) := by rw [wrap_id _ (by omega)]; omega
      rw [if_pos h, if_pos (by omega), if_pos (by omega), if_pos (by omega), hw]
      refine ih k _ (i + 1) (by omega) (by simp [hl]) (fun s hs => ?_) (by omega)
      rcases List.mem_append.1 hs with h1 | h1
      · exact hf s h1
      · rw [List.mem_singleton.1 h1]
        exact ⟨_, rfl, tmod_1000 _⟩
    · rw [if_neg h, fixes_j1 k (by omega) l xs (by omega) hx hf]
theorem StepsFixes_pure (a : List Int) (xs : List Int) : secateurlaw15_StepsFixes.f 600 a xs = some true := by
  unfold secateurlaw15_StepsFixes.f
  rw [show (40 : Int) = ((40 : Nat) : Int) from rfl, mnc]
  simp only [Int.toNat_natCast]
  have hx : (xs.take (min xs.length 40)).length ≤ 40 := by rw [List.length_take]; omega
  rw [if_pos (by omega), if_pos (by omega)]
  exact fixes_l0 a _ hx 20 600 [] 0 (by omega) rfl (fun s hs => by cases hs) (by omega)
end Go.Proofs.Ytommjjjlljmpbaa.PSteps

/- The document's Check (41): it answers as Check does. No conditions but the length's bound. -/
import Derived.Test.YtcjachhdoogbaaaTMarks
import Derived.Test.YtcjachhdoogbaaaTCk
set_option linter.unusedVariables false
set_option linter.unusedSimpArgs false
namespace Go.Proofs.Ytcjachhdoogbaaa.PT
open Go.RowKit Go.Proofs.YtcjachhdoogbaaaW.PrintWords Go.Proofs.YtcjachhdoogbaaaW.PrintLast Go.Proofs.YtcjachhdoogbaaaW.PrintMore
theorem cnt_pre (l : List S62) : ∀ i, i ≤ l.length → (∀ t, t < i → RightAt l t) → 0 ≤ cnt (l.take i) ∧ cnt (l.take i) ≤ 2097153 * i := by
  intro i
  induction i with
  | zero => intro _ _; simp [cnt]
  | succ i ih =>
    intro h hr
    have h1 := ih (by omega) (fun t ht => hr t (by omega))
    have h2 := hr i (by omega)
    rw [← take_snoc (rd62_get l i (by omega)), cnt_app]
    have e : cnt [rd_T62 l i] = (rd_T62 l i).f1 - (rd_T62 l i).f0 + 1 := by simp [cnt]
    rw [e]
    have a := h2.1
    have b := h2.2.1
    have c := h2.2.2.1
    unfold Vl at a b
    omega
theorem r2_loop (l : List S62) (hl : l.length ≤ 1000000) (m : Nat) : ∀ (k i : Nat), m + i = l.length → m + 1 ≤ k → (∀ j, j < i → RightAt l j) → r2Check.l0 k l (cnt (l.take i)) i = some (chk l) := by
  induction m with
  | zero =>
    intro k i hm hk hr
    obtain ⟨k, rfl⟩ : ∃ q, k = q + 1 := ⟨k - 1, by omega⟩
    have hR : Right l := fun j hj => hr j (by omega)
    rw [r2Check.l0, if_neg (by omega), List.take_of_length_le (by omega)]
    unfold chk
    rw [if_pos hR]
    by_cases c : cnt l > 4096
    · rw [if_pos c, if_pos c]
    · rw [if_neg c, if_neg c]
  | succ m ih =>
    intro k i hm hk hr
    obtain ⟨k, rfl⟩ : ∃ q, k = q + 1 := ⟨k - 1, by omega⟩
    have hi : i < l.length := by omega
    have no : ¬ RightAt l i → chk l = 20 := fun h => by unfold chk; rw [if_neg (fun hh => h (hh i hi))]
    have yes : RightAt l i → r2Check.l0 k l (wrap64 (cnt (l.take i) + wrap64 (wrap64 ((rd_T62 l i).f1 - (rd_T62 l i).f0) + 1))) ((i + 1 : Nat) : Int) = some (chk l) := fun h => by
      have hc := cnt_pre l i (by omega) hr
      obtain ⟨hA, hB, hC, _⟩ := id h
      unfold Vl at hA hB
      have hs : cnt (l.take (i + 1)) = cnt (l.take i) + ((rd_T62 l i).f1 - (rd_T62 l i).f0 + 1) := by
        rw [← take_snoc (rd62_get l i hi), cnt_app]; simp [cnt]
      rw [wrap_id ((rd_T62 l i).f1 - (rd_T62 l i).f0) (by omega), wrap_id ((rd_T62 l i).f1 - (rd_T62 l i).f0 + 1) (by omega), wrap_id (cnt (l.take i) + ((rd_T62 l i).f1 - (rd_T62 l i).f0 + 1)) (by omega), ← hs]
      exact ih k (i + 1) (by omega) (by omega) (fun j hj => by
        by_cases hji : j = i
        · rw [hji]; exact h
        · exact hr j (by omega))
    rw [r2Check.l0, if_pos (by omega), if_pos (by omega), rvalue_f, Option.bind_some, wrap_next i (by omega)]
    by_cases h0 : Vl (rd_T62 l i).f0
    · rw [if_pos (decide_eq_true h0), rvalue_f, Option.bind_some]
      by_cases h1 : Vl (rd_T62 l i).f1
      · rw [if_pos (decide_eq_true h1)]
        by_cases h2 : (rd_T62 l i).f0 > (rd_T62 l i).f1
        · rw [if_pos h2, no (fun h => by have := h.2.2.1; omega)]
        · rw [if_neg h2]
          by_cases h3 : (i : Int) > 0
          · have e1 : wrap64 ((i : Int) - 1) = (i : Int) - 1 := wrap_id _ (by omega)
            have hp := (hr (i - 1) (by omega)).2.1
            have e2 : ((i - 1 : Nat) : Int) = (i : Int) - 1 := by omega
            rw [e2] at hp
            have e3 : wrap64 ((rd_T62 l i).f0 - (rd_T62 l ((i : Int) - 1)).f1) = (rd_T62 l i).f0 - (rd_T62 l ((i : Int) - 1)).f1 := wrap_id _ (by unfold Vl at hp h0; omega)
            rw [if_pos h3, e1, if_pos (by omega), if_pos (by omega), e3]
            by_cases h4 : (rd_T62 l i).f0 - (rd_T62 l ((i : Int) - 1)).f1 < 2
            · rw [if_pos h4, no (fun h => by have := h.2.2.2 (by omega); omega)]
            · rw [if_neg h4]; exact yes ⟨h0, h1, by omega, fun _ => by omega⟩
          · rw [if_neg h3]; exact yes ⟨h0, h1, by omega, fun h => by omega⟩
      · rw [if_neg (by simpa using h1), no (fun h => h1 h.2.1)]
    · rw [if_neg (by simpa using h0), no (fun h => h0 h.1)]
theorem r2_f (k : Nat) (l : List S62) (hl : l.length ≤ 1000000) (hk : l.length + 1 ≤ k) : r2Check.f k l = some (chk l) := by
  unfold r2Check.f
  exact r2_loop l hl l.length k 0 (by omega) hk (fun j hj => by omega)
theorem rcheck_calls (A : Option Addr) (c : Nat) (l : List S62) (w : World) (hr : Kd.C k62 w A l.length l) (hc : l.length ≤ c) (hl : l.length ≤ 1000000) :
    Calls Try.prog 41 #[.slice A l.length c] w fun e w' => e = .returned (.int .i64 (chk l)) ∧ Below w.heap.size w w' :=
  r2Check.calls KK A c l (chk l) w hr hc (r2_f KK l hl (by rw [kk]; omega))
end Go.Proofs.Ytcjachhdoogbaaa.PT

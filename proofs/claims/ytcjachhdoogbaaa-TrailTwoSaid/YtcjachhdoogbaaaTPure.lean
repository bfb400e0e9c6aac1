/- What the functions on domains answer, over lists alone. No conditions but the lengths' bounds. -/
import Derived.Test.YtcjachhdoogbaaaTCopy
set_option linter.unusedVariables false
set_option linter.unusedSimpArgs false
namespace Go.Proofs.Ytcjachhdoogbaaa.PT
open Go.RowKit Go.Proofs.YtcjachhdoogbaaaW.PrintWords Go.Proofs.YtcjachhdoogbaaaW.PrintLast Go.Proofs.YtcjachhdoogbaaaW.PrintMore
/-! Domains -/
def Vl (v : Int) : Prop := -1048576 ≤ v ∧ v ≤ 1048576
instance (v : Int) : Decidable (Vl v) := by unfold Vl; infer_instance
/-- The range at i is right, behind those ahead of it. -/
def RightAt (l : List S62) (i : Nat) : Prop := Vl (rd_T62 l i).f0 ∧ Vl (rd_T62 l i).f1 ∧ (rd_T62 l i).f0 ≤ (rd_T62 l i).f1 ∧ (0 < i → (rd_T62 l ((i : Int) - 1)).f1 + 2 ≤ (rd_T62 l i).f0)
instance (l : List S62) (i : Nat) : Decidable (RightAt l i) := by unfold RightAt; infer_instance
def Right (l : List S62) : Prop := ∀ i, i < l.length → RightAt l i
instance (l : List S62) : Decidable (Right l) := by unfold Right; infer_instance
theorem value_f (v : Int) : dom_value.f v = some (decide (Vl v)) := by
  unfold dom_value.f
  by_cases h : Vl v
  · rw [decide_eq_true h, if_pos h.1, decide_eq_true h.2]
  · rw [decide_eq_false h]
    by_cases h1 : v ≥ -1048576
    · rw [if_pos h1, decide_eq_false (fun h2 => h ⟨h1, h2⟩)]
    · rw [if_neg h1]
theorem right_loop (l : List S62) (hl : l.length ≤ 1000000) (m : Nat) : ∀ (k i : Nat), m + i = l.length → m + 1 ≤ k → (∀ j, j < i → RightAt l j) → dom_right.l0 k l l l.length i = some (decide (Right l)) := by
  induction m with
  | zero =>
    intro k i hm hk hr
    obtain ⟨k, rfl⟩ : ∃ q, k = q + 1 := ⟨k - 1, by omega⟩
    rw [dom_right.l0, if_neg (by omega), decide_eq_true (show Right l from fun j hj => hr j (by omega))]
  | succ m ih =>
    intro k i hm hk hr
    obtain ⟨k, rfl⟩ : ∃ q, k = q + 1 := ⟨k - 1, by omega⟩
    have hw : wrap64 ((i : Int) + 1) = ((i + 1 : Nat) : Int) := wrap_next i (by omega)
    have no : ¬ RightAt l i → decide (Right l) = false := fun h => decide_eq_false (fun hh => h (hh i (by omega)))
    have yes : RightAt l i → dom_right.l0 k l l l.length ((i + 1 : Nat) : Int) = some (decide (Right l)) := fun h => ih k (i + 1) (by omega) (by omega) (fun j hj => by
      by_cases hji : j = i
      · rw [hji]; exact h
      · exact hr j (by omega))
    rw [dom_right.l0, if_pos (by omega), if_pos (by omega), if_pos (by omega), value_f, Option.bind_some, hw]
    by_cases h0 : Vl (rd_T62 l i).f0
    · rw [if_pos (decide_eq_true h0), value_f, Option.bind_some]
      by_cases h1 : Vl (rd_T62 l i).f1
      · rw [if_pos (decide_eq_true h1)]
        by_cases h2 : (rd_T62 l i).f0 > (rd_T62 l i).f1
        · rw [if_pos h2, no (fun h => by have := h.2.2.1; omega)]
        · rw [if_neg h2]
          by_cases h3 : (i : Int) > 0
          · have e1 : wrap64 ((i : Int) - 1) = (i : Int) - 1 := wrap_id _ (by omega)
            have hp := (hr (i - 1) (by omega)).2.1
            have e2 : ((i - 1 : Nat) : Int) = (i : Int) - 1 := by omega
            rw [e2] at hp
            have e3 : wrap64 ((rd_T62 l ((i : Int) - 1)).f1 + 2) = (rd_T62 l ((i : Int) - 1)).f1 + 2 := wrap_id _ (by unfold Vl at hp; omega)
            rw [if_pos h3, e1, if_pos (by omega), if_pos (by omega), e3]
            by_cases h4 : (rd_T62 l i).f0 < (rd_T62 l ((i : Int) - 1)).f1 + 2
            · rw [if_pos h4, no (fun h => by have := h.2.2.2 (by omega); omega)]
            · rw [if_neg h4]; exact yes ⟨h0, h1, by omega, fun _ => by omega⟩
          · rw [if_neg h3]; exact yes ⟨h0, h1, by omega, fun h => by omega⟩
      · rw [if_neg (by simpa using h1), no (fun h => h1 h.2.1)]
    · rw [if_neg (by simpa using h0), no (fun h => h0 h.1)]
theorem right_f (k : Nat) (l : List S62) (hl : l.length ≤ 1000000) (hk : l.length + 1 ≤ k) : dom_right.f k l = some (decide (Right l)) := by
  unfold dom_right.f
  exact right_loop l hl l.length k 0 (by omega) hk (fun j hj => by omega)
/-- How many values. -/
def cnt : List S62 → Int
  | [] => 0
  | r :: l => (r.f1 - r.f0 + 1) + cnt l
theorem cnt_app (a b : List S62) : cnt (a ++ b) = cnt a + cnt b := by
  induction a with
  | nil => simp [cnt]
  | cons r a ih => rw [List.cons_append, cnt, cnt, ih]; omega
theorem rd62_get (l : List S62) (i : Nat) (h : i < l.length) : l[i]? = some (rd_T62 l i) := by
  simp [rd_T62, List.getD_eq_getElem?_getD, List.getElem?_eq_getElem h]
theorem cnt_take (l : List S62) (hr : Right l) : ∀ i, i ≤ l.length → 0 ≤ cnt (l.take i) ∧ cnt (l.take i) ≤ 2097153 * i := by
  intro i
  induction i with
  | zero => intro _; simp [cnt]
  | succ i ih =>
    intro h
    have h1 := ih (by omega)
    have h2 := hr i (by omega)
    rw [← take_snoc (rd62_get l i (by omega)), cnt_app]
    have e : cnt [rd_T62 l i] = (rd_T62 l i).f1 - (rd_T62 l i).f0 + 1 := by simp [cnt]
    rw [e]
    have a := h2.1
    have b := h2.2.1
    have c := h2.2.2.1
    unfold Vl at a b
    omega
theorem size_loop (l : List S62) (hl : l.length ≤ 1000000) (hr : Right l) (m : Nat) : ∀ (k i : Nat), m + i = l.length → m + 1 ≤ k → dom_Size.l0 k (cnt (l.take i)) l l.length i = some (cnt l) := by
  induction m with
  | zero =>
    intro k i hm hk
    obtain ⟨k, rfl⟩ : ∃ q, k = q + 1 := ⟨k - 1, by omega⟩
    rw [dom_Size.l0, if_neg (by omega), List.take_of_length_le (by omega)]
  | succ m ih =>
    intro k i hm hk
    obtain ⟨k, rfl⟩ : ∃ q, k = q + 1 := ⟨k - 1, by omega⟩
    have h1 := cnt_take l hr i (by omega)
    have h2 := hr i (by omega)
    have a := h2.1
    have b := h2.2.1
    unfold Vl at a b
    have hs : cnt (l.take (i + 1)) = cnt (l.take i) + ((rd_T62 l i).f1 - (rd_T62 l i).f0 + 1) := by
      rw [← take_snoc (rd62_get l i (by omega)), cnt_app]; simp [cnt]
    rw [dom_Size.l0, if_pos (by omega), if_pos (by omega), if_pos (by omega), wrap_next i (by omega), wrap_id ((rd_T62 l i).f1 - (rd_T62 l i).f0) (by omega), wrap_id ((rd_T62 l i).f1 - (rd_T62 l i).f0 + 1) (by omega), wrap_id _ (by omega), ← hs]
    exact ih k (i + 1) (by omega) (by omega)
theorem size_f (k : Nat) (l : List S62) (hl : l.length ≤ 1000000) (hr : Right l) (hk : l.length + 1 ≤ k) : dom_Size.f k l = some (cnt l) := by
  unfold dom_Size.f
  exact size_loop l hl hr l.length k 0 (by omega) hk
/-- What Check answers. -/
def chk (l : List S62) : Int := if Right l then (if cnt l > 4096 then 2 else 0) else 20
theorem check_f (k : Nat) (l : List S62) (hl : l.length ≤ 1000000) (hk : l.length + 1 ≤ k) : dom_Check.f k l = some (chk l) := by
  unfold dom_Check.f chk
  rw [right_f k l hl hk, Option.bind_some]
  by_cases hr : Right l
  · rw [if_pos (decide_eq_true hr), size_f k l hl hr hk, Option.bind_some, if_pos hr]
    split <;> rfl
  · rw [if_neg (by simpa using hr), if_neg hr]
/-- A domain: right, and of no more than 4096 values. -/
def Dom (l : List S62) : Prop := Right l ∧ cnt l ≤ 4096
theorem chk_zero (l : List S62) : chk l = 0 ↔ Dom l := by
  unfold chk Dom
  by_cases hr : Right l
  · rw [if_pos hr]
    by_cases hc : cnt l > 4096
    · rw [if_pos hc]; exact ⟨fun h => by omega, fun h => by omega⟩
    · rw [if_neg hc]; exact ⟨fun _ => ⟨hr, by omega⟩, fun _ => rfl⟩
  · rw [if_neg hr]; exact ⟨fun h => by omega, fun h => absurd h.1 hr⟩
theorem dom_len (l : List S62) (h : Dom l) : l.length ≤ 4096 := by
  have : ∀ i, i ≤ l.length → (i : Int) ≤ cnt (l.take i) := by
    intro i
    induction i with
    | zero => intro _; simp [cnt]
    | succ i ih =>
      intro hi
      have h1 := ih (by omega)
      have h2 := (h.1 i (by omega)).2.2.1
      rw [← take_snoc (rd62_get l i (by omega)), cnt_app]
      have e : cnt [rd_T62 l i] = (rd_T62 l i).f1 - (rd_T62 l i).f0 + 1 := by simp [cnt]
      rw [e]; omega
  have h3 := this l.length (Nat.le_refl _)
  rw [List.take_length] at h3
  have := h.2
  omega
end Go.Proofs.Ytcjachhdoogbaaa.PT

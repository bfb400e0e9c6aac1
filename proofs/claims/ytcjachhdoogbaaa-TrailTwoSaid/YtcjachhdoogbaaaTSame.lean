/- Same, on domains and on lists of them, over lists alone. No conditions but the lengths' bounds. -/
import Derived.Test.YtcjachhdoogbaaaTPure
set_option linter.unusedVariables false
set_option linter.unusedSimpArgs false
namespace Go.Proofs.Ytcjachhdoogbaaa.PT
open Go.RowKit Go.Proofs.YtcjachhdoogbaaaW.PrintWords Go.Proofs.YtcjachhdoogbaaaW.PrintLast Go.Proofs.YtcjachhdoogbaaaW.PrintMore
instance : DecidableEq S62 := fun a b => if h : a.f0 = b.f0 ∧ a.f1 = b.f1 then isTrue (by cases a; cases b; simp only at h; rw [h.1, h.2]) else isFalse (fun e => h (by rw [e]; exact ⟨rfl, rfl⟩))
theorem drop_eq {α : Type} (d : α) {a b : List α} (hab : a.length = b.length) (i : Nat) (hi : i < a.length) : (a.drop i = b.drop i) ↔ (a.getD i d = b.getD i d ∧ a.drop (i + 1) = b.drop (i + 1)) := by
  rw [List.drop_eq_getElem_cons hi, List.drop_eq_getElem_cons (show i < b.length by omega)]
  have ea : a.getD i d = a[i] := by simp [List.getD_eq_getElem?_getD, List.getElem?_eq_getElem hi]
  have eb : b.getD i d = b[i]'(by omega) := by simp [List.getD_eq_getElem?_getD, List.getElem?_eq_getElem (show i < b.length by omega)]
  rw [ea, eb, List.cons.injEq]
theorem ne62 (x y : S62) : ((!(x.f0 == y.f0) || (!(x.f1 == y.f1))) = true) ↔ x ≠ y := by
  cases x; cases y; simp only [S62.mk.injEq, ne_eq, Bool.or_eq_true, Bool.not_eq_true', beq_eq_false_iff_ne]; omega
theorem same_loop (a b : List S62) (hab : a.length = b.length) (hl : a.length ≤ 1000000) (m : Nat) : ∀ (k i : Nat), m + i = a.length → m + 1 ≤ k → api_Range_47.l0 k a b a.length i = some (decide (a.drop i = b.drop i)) := by
  induction m with
  | zero =>
    intro k i hm hk
    obtain ⟨k, rfl⟩ : ∃ q, k = q + 1 := ⟨k - 1, by omega⟩
    rw [api_Range_47.l0, if_neg (by omega), List.drop_of_length_le (by omega), List.drop_of_length_le (by omega)]
    simp
  | succ m ih =>
    intro k i hm hk
    obtain ⟨k, rfl⟩ : ∃ q, k = q + 1 := ⟨k - 1, by omega⟩
    have he := drop_eq z62 hab i (by omega)
    rw [api_Range_47.l0, if_pos (by omega), if_pos (by omega), if_pos (by omega), if_pos (by omega), wrap_next i (by omega), ih k (i + 1) (by omega) (by omega)]
    by_cases h : rd_T62 a i = rd_T62 b i
    · rw [if_neg (fun hh => (ne62 _ _).1 hh h)]
      congr 1
      rw [decide_eq_decide, he]
      exact ⟨fun h' => ⟨by simpa [rd_T62] using h, h'⟩, fun h' => h'.2⟩
    · rw [if_pos ((ne62 _ _).2 h), decide_eq_false (fun hh => h (by simpa [rd_T62] using (he.1 hh).1))]
theorem same_f (k : Nat) (a b : List S62) (hl : a.length ≤ 1000000) (hk : a.length + 1 ≤ k) : dom_Same.f k a b = some (decide (a = b)) := by
  unfold dom_Same.f api_Range_47.f
  by_cases h : a.length = b.length
  · rw [if_pos (by omega)]
    have := same_loop a b h hl a.length k 0 (by omega) hk
    rw [List.drop_zero, List.drop_zero] at this
    rw [show ((0 : Nat) : Int) = 0 from rfl] at this
    rw [this]; rfl
  · rw [if_neg (by omega), decide_eq_false (fun hh => h (by rw [hh]))]; rfl
theorem rsame_loop (a b : List S62) (hab : a.length = b.length) (hl : a.length ≤ 1000000) (m : Nat) : ∀ (k i : Nat), m + i = a.length → m + 1 ≤ k → secateurref02_Same.l0 k a b i = some (decide (a.drop i = b.drop i)) := by
  induction m with
  | zero =>
    intro k i hm hk
    obtain ⟨k, rfl⟩ : ∃ q, k = q + 1 := ⟨k - 1, by omega⟩
    rw [secateurref02_Same.l0, if_neg (by omega), List.drop_of_length_le (by omega), List.drop_of_length_le (by omega)]
    simp
  | succ m ih =>
    intro k i hm hk
    obtain ⟨k, rfl⟩ : ∃ q, k = q + 1 := ⟨k - 1, by omega⟩
    have he := drop_eq z62 hab i (by omega)
    rw [secateurref02_Same.l0, if_pos (by omega), if_pos (by omega), if_pos (by omega), wrap_next i (by omega), ih k (i + 1) (by omega) (by omega)]
    by_cases h : rd_T62 a i = rd_T62 b i
    · rw [if_neg (fun hh => (ne62 _ _).1 hh h)]
      congr 1
      rw [decide_eq_decide, he]
      exact ⟨fun h' => ⟨by simpa [rd_T62] using h, h'⟩, fun h' => h'.2⟩
    · rw [if_pos ((ne62 _ _).2 h), decide_eq_false (fun hh => h (by simpa [rd_T62] using (he.1 hh).1))]
theorem rsame_f (k : Nat) (a b : List S62) (hl : a.length ≤ 1000000) (hk : a.length + 1 ≤ k) : secateurref02_Same.f k a b = some (decide (a = b)) := by
  unfold secateurref02_Same.f
  by_cases h : a.length = b.length
  · rw [if_pos (by omega)]
    have := rsame_loop a b h hl a.length k 0 (by omega) hk
    rw [List.drop_zero, List.drop_zero] at this
    exact this
  · rw [if_neg (by omega), decide_eq_false (fun hh => h (by rw [hh]))]
theorem lsame_loop (a b : List (List S62)) (hab : a.length = b.length) (hl : a.length ≤ 1000000) (B : Nat) (hB : B ≤ 1000000) (hx : ∀ x ∈ a, x.length ≤ B) (m : Nat) : ∀ (k i : Nat), m + i = a.length → m + B + 2 ≤ k → secateurref03_Same.l0 k a b i = some (decide (a.drop i = b.drop i)) := by
  induction m with
  | zero =>
    intro k i hm hk
    obtain ⟨k, rfl⟩ : ∃ q, k = q + 1 := ⟨k - 1, by omega⟩
    rw [secateurref03_Same.l0, if_neg (by omega), List.drop_of_length_le (by omega), List.drop_of_length_le (by omega)]
    simp
  | succ m ih =>
    intro k i hm hk
    obtain ⟨k, rfl⟩ : ∃ q, k = q + 1 := ⟨k - 1, by omega⟩
    have he := drop_eq ([] : List S62) hab i (by omega)
    have hle : (rd_L3 a i).length ≤ B := hx _ (by rw [rd_L3, Int.toNat_natCast, List.getD_eq_getElem?_getD, List.getElem?_eq_getElem (show i < a.length by omega)]; exact List.getElem_mem _)
    rw [secateurref03_Same.l0, if_pos (by omega), if_pos (by omega), if_pos (by omega), rsame_f k _ _ (by omega) (by omega), Option.bind_some, wrap_next i (by omega), ih k (i + 1) (by omega) (by omega)]
    by_cases h : rd_L3 a i = rd_L3 b i
    · rw [if_pos (decide_eq_true h)]
      congr 1
      rw [decide_eq_decide, he]
      exact ⟨fun h' => ⟨by simpa [rd_L3] using h, h'⟩, fun h' => h'.2⟩
    · rw [if_neg (by simpa using h), decide_eq_false (fun hh => h (by simpa [rd_L3] using (he.1 hh).1))]
theorem lsame_f (k : Nat) (a b : List (List S62)) (hl : a.length ≤ 1000000) (B : Nat) (hB : B ≤ 1000000) (hx : ∀ x ∈ a, x.length ≤ B) (hk : a.length + B + 2 ≤ k) : secateurref03_Same.f k a b = some (decide (a = b)) := by
  unfold secateurref03_Same.f
  by_cases h : a.length = b.length
  · rw [if_pos (by omega)]
    have := lsame_loop a b h hl B hB hx a.length k 0 (by omega) hk
    rw [List.drop_zero, List.drop_zero] at this
    exact this
  · rw [if_neg (by omega), decide_eq_false (fun hh => h (by rw [hh]))]
end Go.Proofs.Ytcjachhdoogbaaa.PT

/- What the calls of package steps answer, as plain functions on lists. No conditions but the lengths bounds. -/
import Derived.Test.YtommjjjlljmpbaaReplay
import Derived.Test.YtommjjjlljmpbaaPStepsx3
set_option linter.unusedVariables false
set_option linter.unusedSimpArgs false
namespace Go.Proofs.Ytommjjjlljmpbaa.PSteps
open Go.RowKit Go.Proofs.YtommjjjlljmpbaaW.PrintWords Go.Proofs.YtommjjjlljmpbaaW.PrintLast Go.Proofs.YtommjjjlljmpbaaW.PrintMore
/-! Lists held against one another; steps put back one behind the other -/
theorem eq_drop {a b : List Int} (hab : a.length = b.length) (i : Nat) (hi : i < a.length) : (a.drop i = b.drop i) ↔ (rd a i = rd b i ∧ a.drop (i + 1) = b.drop (i + 1)) := by
  rw [List.drop_eq_getElem_cons hi, List.drop_eq_getElem_cons (show i < b.length by omega)]
  have ea : rd a i = a[i] := by simp [rd, List.getD_eq_getElem?_getD, List.getElem?_eq_getElem hi]
  have eb : rd b i = b[i]'(by omega) := by simp [rd, List.getD_eq_getElem?_getD, List.getElem?_eq_getElem (show i < b.length by omega)]
  rw [ea, eb, List.cons.injEq]
theorem nums_loop (a b : List Int) (hab : a.length = b.length) (hl : a.length ≤ 1000000) (d : Nat) : ∀ (k i : Nat), d + i = a.length → d + 1 ≤ k →
    secateurref02_Nums.l0 k a b i = some (decide (a.drop i = b.drop i)) := by
  induction d with
  | zero =>
    intro k i hd hk
    obtain ⟨k, rfl⟩ : ∃ m, k = m + 1 := ⟨k - 1, by omega⟩
    rw [secateurref02_Nums.l0, if_neg (by omega), List.drop_of_length_le (by omega), List.drop_of_length_le (by omega)]
    simp
  | succ d ih =>
    intro k i hd hk
    obtain ⟨k, rfl⟩ : ∃ m, k = m + 1 := ⟨k - 1, by omega⟩
    rw [secateurref02_Nums.l0, if_pos (by omega), if_pos (by omega), if_pos (by omega)]
    have hw : wrap64 ((i : Int) + 1) = ((i + 1 : Nat) : Int) := by rw [wrap_id _ (by omega)]; omega
    have he := eq_drop hab i (by omega)
    rw [hw, ih k (i + 1) (by omega) (by omega)]
    by_cases h : rd a i = rd b i
    · rw [if_pos h]
      congr 1
      rw [decide_eq_decide, he]
      exact ⟨fun h' => ⟨h, h'⟩, fun h' => h'.2⟩
    · rw [if_neg h, decide_eq_false (fun hh => h (he.1 hh).1)]
theorem nums_eq (k : Nat) (a b : List Int) (hl : a.length ≤ 1000000) (hk : a.length + 1 ≤ k) : secateurref02_Nums.f k a b = some (decide (a = b)) := by
  unfold secateurref02_Nums.f
  by_cases h : a.length = b.length
  · rw [if_pos (by omega)]
    have := nums_loop a b h hl a.length k 0 (by omega) hk
    simpa using this
  · rw [if_neg (by omega), decide_eq_false (fun hh => h (by rw [hh]))]
theorem equal_loop (a b : List Int) (hab : a.length = b.length) (hl : a.length ≤ 1000000) (d : Nat) : ∀ (k i : Nat), d + i = a.length → d + 1 ≤ k →
    slices_Equal_int_int.l0 k a b (a.length : Int) i = some (decide (a.drop i = b.drop i)) := by
  induction d with
  | zero =>
    intro k i hd hk
    obtain ⟨k, rfl⟩ : ∃ m, k = m + 1 := ⟨k - 1, by omega⟩
    rw [slices_Equal_int_int.l0, if_neg (by omega), List.drop_of_length_le (by omega), List.drop_of_length_le (by omega)]
    simp
  | succ d ih =>
    intro k i hd hk
    obtain ⟨k, rfl⟩ : ∃ m, k = m + 1 := ⟨k - 1, by omega⟩
    rw [slices_Equal_int_int.l0, if_pos (by omega), if_pos (by omega), if_pos (by omega), if_pos (by omega)]
    have hw : wrap64 ((i : Int) + 1) = ((i + 1 : Nat) : Int) := by rw [wrap_id _ (by omega)]; omega
    have he := eq_drop hab i (by omega)
    rw [hw, ih k (i + 1) (by omega) (by omega)]
    by_cases h : rd a i = rd b i
    · rw [if_pos h]
      congr 1
      rw [decide_eq_decide, he]
      exact ⟨fun h' => ⟨h, h'⟩, fun h' => h'.2⟩
    · rw [if_neg h, decide_eq_false (fun hh => h (he.1 hh).1)]
theorem equal_eq (k : Nat) (a b : List Int) (hl : a.length ≤ 1000000) (hk : a.length + 1 ≤ k) : slices_Equal_int_int.f k a b = some (decide (a = b)) := by
  unfold slices_Equal_int_int.f
  by_cases h : a.length = b.length
  · rw [if_pos (by omega)]
    have := equal_loop a b h hl a.length k 0 (by omega) hk
    simpa using this
  · rw [if_neg (by omega), decide_eq_false (fun hh => h (by rw [hh]))]
/-- Steps put back, the first of the list first. -/
def goS : List S23 → List Int → List Int × Int
  | [], xs => (xs, 0)
  | s :: rest, xs => if (backS s xs).2 = 0 then goS rest (backS s xs).1 else ([], (backS s xs).2)
theorem go_total (k : Nat) (hk : 20 ≤ k) (l : List S23) : ∀ xs : List Int, xs.length + l.length < 17592186044415 → steps_Replay.go k l xs = some (goS l xs) := by
  induction l with
  | nil => intro xs _; rfl
  | cons s l ih =>
    intro xs hl
    simp only [List.length_cons] at hl
    rw [steps_Replay.go, goS, back_total k hk s xs (by omega)]
    simp only [Option.bind_some]
    by_cases h : (backS s xs).2 = 0
    · rw [if_pos h, if_pos h, ih _ (by rw [back_len s xs h]; omega)]
    · rw [if_neg h, if_neg h]
def replayS (l : List S23) (xs : List Int) : List Int × Int := goS l.reverse xs
theorem replay_total (k : Nat) (hk : 20 ≤ k) (l : List S23) (xs : List Int) (hl : xs.length + l.length < 17592186044415) : steps_Replay.f k l xs = some (replayS l xs) := by
  unfold steps_Replay.f replayS
  rw [if_pos hk, if_pos hl, go_total k hk _ xs (by simpa using hl)]
def dropAt (xs : List Int) (i : Nat) : List Int := xs.take i ++ xs.drop (i + 1)
def withoutS (s : S23) (xs : List Int) : List Int × Bool :=
  if 0 ≤ s.f1 ∧ s.f1 < xs.length ∧ backS s (dropAt xs s.f1.toNat) = (xs, 0) then (dropAt xs s.f1.toNat, true) else ([], false)
theorem without_total (k : Nat) (s : S23) (xs : List Int) (hl : xs.length ≤ 100000) (hk : xs.length + 30 ≤ k) : steps_Without.f k s.f0 s.f1 s.f2 s.f3 s.f4 xs = some (withoutS s xs) := by
  unfold steps_Without.f withoutS
  by_cases h0 : s.f1 < 0
  · rw [if_pos h0, if_neg (fun hh => by omega)]
  · rw [if_neg h0]
    by_cases h1 : (xs.length : Int) ≤ s.f1
    · rw [if_pos h1, if_neg (fun hh => by omega)]
    · rw [if_neg h1, if_pos (by omega)]
      show (steps_Back.f k s.f0 s.f1 s.f2 s.f3 s.f4 (dropAt xs s.f1.toNat)).bind _ = _
      have hd : (dropAt xs s.f1.toNat).length = xs.length - 1 := by simp [dropAt]; omega
      rw [back_total k (by omega) s _ (by omega)]
      simp only [Option.bind_some]
      by_cases h2 : (backS s (dropAt xs s.f1.toNat)).2 = 0
      · rw [if_pos h2]
        have h3 := back_len s _ h2
        rw [equal_eq k _ _ (by omega) (by omega)]
        simp only [Option.bind_some]
        by_cases h4 : (backS s (dropAt xs s.f1.toNat)).1 = xs
        · rw [if_pos (decide_eq_true h4), if_pos ⟨by omega, by omega, Prod.ext h4 h2⟩]; rfl
        · rw [if_neg (by simpa using h4), if_neg (fun hh => h4 (by rw [hh.2.2]))]
      · rw [if_neg h2, if_neg (fun hh => h2 (by rw [hh.2.2]))]
end Go.Proofs.Ytommjjjlljmpbaa.PSteps

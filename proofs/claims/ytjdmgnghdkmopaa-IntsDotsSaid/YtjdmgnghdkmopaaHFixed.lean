/- The calls whose answers the document fixes come out as it says, in whatever memory. No conditions. -/
import Derived.Test.YtjdmgnghdkmopaaPIntsTurnsx2
set_option linter.unusedVariables false
set_option linter.unusedSimpArgs false
namespace Go.Proofs.Ytjdmgnghdkmopaa.HFixed
open Go.RowKit Go.Proofs.Ytjdmgnghdkmopaa.PIntsTurns Go.Proofs.YtjdmgnghdkmopaaW.PrintWords Go.Proofs.YtjdmgnghdkmopaaW.PrintLast Go.Proofs.YtjdmgnghdkmopaaW.PrintMore
def S (n : Int) : Prop := -4611686018427387904 ≤ n ∧ n ≤ 4611686018427387904
instance (n : Int) : Decidable (S n) := inferInstanceAs (Decidable (_ ∧ _))
theorem S_iff {n : Int} : S n ↔ -4611686018427387904 ≤ n ∧ n ≤ 4611686018427387904 := Iff.rfl
theorem not_S {n : Int} (h : n < -4611686018427387904 ∨ 4611686018427387904 < n) : ¬ S n := by unfold S; omega

theorem small_step (k : Nat) (xs : List Int) (i : Int) (h0 : 0 ≤ i) (h1 : i < (xs.length : Int)) (h2 : i < 100) :
    ints_small.l0 (k + 1) xs (xs.length : Int) i = if S (rd xs i) then ints_small.l0 k xs (xs.length : Int) (i + 1) else some false := by
  rw [ints_small.l0, if_pos h1, if_pos h0, if_pos h1]
  have hw : wrap64 (i + 1) = i + 1 := by unfold wrap64; omega
  rw [hw]
  by_cases c1 : rd xs i < -4611686018427387904
  · rw [if_pos c1, if_neg (not_S (.inl c1))]
  · rw [if_neg c1]
    by_cases c2 : rd xs i > 4611686018427387904
    · rw [if_pos c2, if_neg (not_S (.inr c2))]
    · rw [if_neg c2, if_pos (S_iff.2 (by omega))]
theorem small_end (k : Nat) (xs : List Int) (i : Int) (h : ¬ i < (xs.length : Int)) : ints_small.l0 (k + 1) xs (xs.length : Int) i = some true := by
  rw [ints_small.l0, if_neg h]
theorem small_one (k : Nat) (a : Int) (hk : 2 ≤ k) : ints_small.f k [a] = some (decide (S a)) := by
  obtain ⟨k, rfl⟩ : ∃ m, k = m + 2 := ⟨k - 2, by omega⟩
  unfold ints_small.f
  rw [small_step _ _ _ (by simp) (by simp) (by omega)]
  simp only [rd, Int.toNat_zero, List.getD_cons_zero]
  by_cases h : S a
  · rw [if_pos h, small_end _ _ _ (by simp)]; simp [h]
  · rw [if_neg h]; simp [h]
theorem small_two (k : Nat) (a b : Int) (hk : 3 ≤ k) : ints_small.f k [a, b] = some (decide (S a ∧ S b)) := by
  obtain ⟨k, rfl⟩ : ∃ m, k = m + 3 := ⟨k - 3, by omega⟩
  unfold ints_small.f
  rw [small_step _ _ _ (by simp) (by simp) (by omega), small_step _ _ _ (by simp) (by simp) (by omega), small_end _ _ _ (by simp)]
  have e1 : rd [a, b] 0 = a := rfl
  have e2 : rd [a, b] (0 + 1) = b := rfl
  rw [e1, e2]
  by_cases h : S a <;> by_cases h' : S b <;> simp [h, h']
theorem told_eq (k : Nat) (a : Int) (hk : 2 ≤ k) : ints_told.f k a = some (if S a then (a, true) else (0, false)) := by
  unfold ints_told.f
  rw [small_one k a hk]
  simp only [Option.bind_some]
  by_cases h : S a <;> simp [h]

/-- The sum of two numbers, watched. -/
def addS (a b : Int) : Int × Bool := if S a ∧ S b ∧ S (a + b) then (a + b, true) else (0, false)
theorem wrap_id (x : Int) (h : -9223372036854775808 ≤ x ∧ x ≤ 9223372036854775807) : wrap64 x = x := by unfold wrap64; omega
theorem add_eq (k : Nat) (a b : Int) (hk : 3 ≤ k) : ints_Add.f k a b = some (addS a b) := by
  unfold ints_Add.f
  rw [small_two k a b hk]
  simp only [Option.bind_some, told_eq k _ (by omega : 2 ≤ k)]
  by_cases h : S a ∧ S b
  · rw [if_pos (by simp [h])]
    have ha := S_iff.1 h.1
    have hb := S_iff.1 h.2
    by_cases hs : S (a + b)
    · rw [show addS a b = (a + b, true) from if_pos ⟨h.1, h.2, hs⟩]
      have hs' := S_iff.1 hs
      by_cases c1 : a > 0
      · rw [if_pos c1, wrap_id (4611686018427387904 - a) (by omega), if_neg (by omega), if_neg (by omega), wrap_id (a + b) (by omega), if_pos hs]
      · rw [if_neg c1]
        by_cases c2 : a < 0
        · rw [if_pos c2, wrap_id (-4611686018427387904 - a) (by omega), if_neg (by omega), wrap_id (a + b) (by omega), if_pos hs]
        · rw [if_neg c2, wrap_id (a + b) (by omega), if_pos hs]
    · rw [show addS a b = (0, false) from if_neg (fun hh => hs hh.2.2)]
      have hs' : ¬ (-4611686018427387904 ≤ a + b ∧ a + b ≤ 4611686018427387904) := fun hh => hs (S_iff.2 hh)
      by_cases c1 : a > 0
      · rw [if_pos c1, wrap_id (4611686018427387904 - a) (by omega), if_pos (by omega)]
      · rw [if_neg c1]
        by_cases c2 : a < 0
        · rw [if_pos c2, wrap_id (-4611686018427387904 - a) (by omega), if_pos (by omega)]
        · omega
  · rw [if_neg (by simpa using h)]
    rw [show addS a b = (0, false) from if_neg (fun hh => h ⟨hh.1, hh.2.1⟩)]

theorem size_eq (a : Int) (h : S a) : ints_size.f a = some (a.natAbs : Int) := by
  rw [S_iff] at h
  unfold ints_size.f
  rw [IntKind.wrap_u64, IntKind.wrap_u64]
  split <;> congr 1 <;> omega
theorem mul64_eq (x y : Nat) (hx : x ≤ 4611686018427387904) (hy : y ≤ 4611686018427387904) : bits_Mul64.f x y = some ((x : Int) * y / 18446744073709551616, (x : Int) * y % 18446744073709551616) := by
  unfold bits_Mul64.f
  simp only [IntKind.wrap_u64]
  have h := mul64_arith x y (by omega) (by omega) (by omega) (by omega)
  rw [and_low32 (x : Int) (by omega) (by omega), and_low32 (y : Int) (by omega) (by omega), and_low32 _ (by omega) (by omega)]
  rw [h]

def mulS (a b : Int) : Int × Bool := if S a ∧ S b ∧ S (a * b) then (a * b, true) else (0, false)
theorem abs_mul_cases (a b : Int) : a * b = if (decide (a < 0) != decide (b < 0)) then -((a.natAbs * b.natAbs : Nat) : Int) else ((a.natAbs * b.natAbs : Nat) : Int) := by
  rcases Int.natAbs_eq a with h1 | h1 <;> rcases Int.natAbs_eq b with h2 | h2 <;>
    (generalize hp : a.natAbs = p at *; generalize hq : b.natAbs = q at *; subst h1; subst h2)
  · rw [show (decide ((p : Int) < 0)) = false by simp; done, show (decide ((q : Int) < 0)) = false by simp; done]; simp [Int.mul_neg, Int.neg_mul]
  · by_cases c : q = 0
    · subst c; simp
    · rw [show (decide ((p : Int) < 0)) = false by simp; done, show (decide (-(q : Int) < 0)) = true by simp; omega]; simp [Int.mul_neg, Int.neg_mul]
  · by_cases c : p = 0
    · subst c; simp
    · rw [show (decide ((q : Int) < 0)) = false by simp; done, show (decide (-(p : Int) < 0)) = true by simp; omega]; simp [Int.mul_neg, Int.neg_mul]
  · by_cases c : p = 0
    · subst c; simp
    · by_cases c2 : q = 0
      · subst c2; simp
      · rw [show (decide (-(q : Int) < 0)) = true by simp; omega, show (decide (-(p : Int) < 0)) = true by simp; omega]; simp [Int.mul_neg, Int.neg_mul]
theorem mul_eq (k : Nat) (a b : Int) (hk : 3 ≤ k) : ints_Mul.f k a b = some (mulS a b) := by
  unfold ints_Mul.f
  rw [small_two k a b hk]
  simp only [Option.bind_some]
  unfold mulS
  by_cases h : S a ∧ S b
  · rw [if_pos (by simp [h]), size_eq a h.1, size_eq b h.2]
    simp only [Option.bind_some]
    have ha := S_iff.1 h.1
    have hb := S_iff.1 h.2
    rw [mul64_eq _ _ (by omega) (by omega)]
    simp only [Option.bind_some]
    have hc := abs_mul_cases a b
    obtain ⟨k, rfl⟩ : ∃ m, k = m + 1 := ⟨k - 1, by omega⟩
    simp only [ints_Mul.j0]
    have hm : ((a.natAbs : Int) * (b.natAbs : Int)) = ((a.natAbs * b.natAbs : Nat) : Int) := by simp
    rw [hm]
    generalize hn : a.natAbs * b.natAbs = n at *
    rw [hc]
    by_cases hs : n ≤ 4611686018427387904
    · have e1 : (n : Int) / 18446744073709551616 = 0 := by omega
      have e2 : (n : Int) % 18446744073709551616 = n := by omega
      rw [e1, e2, if_pos rfl, if_neg (by simp; omega)]
      cases hd : (decide (a < 0) != decide (b < 0)) with
      | true =>
        rw [if_pos rfl, if_pos rfl, if_pos ⟨h.1, h.2, S_iff.2 (by omega)⟩, wrap_id (n : Int) (by omega), wrap_id (-(n : Int)) (by omega)]
      | false =>
        rw [if_neg (by simp), if_neg (c := false = true) (by simp), if_pos ⟨h.1, h.2, S_iff.2 (by omega)⟩, wrap_id (n : Int) (by omega)]
    · rw [if_neg (c := S a ∧ S b ∧ _) (by intro hh; have := S_iff.1 hh.2.2; split at this <;> omega)]
      split
      · rename_i h0
        rw [if_pos (by simp; omega)]
      · rw [if_pos trivial]
  · rw [if_neg (by simpa using h)]
    rw [if_neg (fun hh => h ⟨hh.1, hh.2.1⟩)]

/-! Quotients -/
theorem may_eq (k : Nat) (a b : Int) (hk : 3 ≤ k) : ints_may.f k a b = some (if S a ∧ S b then (if b = 0 then 1 else 0) else 10) := by
  unfold ints_may.f
  rw [small_two k a b hk]
  simp only [Option.bind_some]
  by_cases h : S a ∧ S b
  · rw [if_pos (by simp [h]), if_pos h]; split <;> rfl
  · rw [if_neg (by simpa using h), if_neg h]
theorem tdiv_bound (a b : Int) (h : S a) : S (Int.tdiv a b) := by
  rw [S_iff] at *
  have h1 : (Int.tdiv a b).natAbs = a.natAbs / b.natAbs := Int.natAbs_tdiv a b
  have h2 : a.natAbs / b.natAbs ≤ a.natAbs := Nat.div_le_self _ _
  omega
theorem wrap_S (x : Int) (h : S x) : wrap64 x = x := wrap_id x (by have := S_iff.1 h; omega)
def floorS (a b : Int) : Int × Int := if S a ∧ S b then (if b = 0 then (0, 1) else (Int.fdiv a b, 0)) else (0, 10)
def ceilS (a b : Int) : Int × Int := if S a ∧ S b then (if b = 0 then (0, 1) else (-(Int.fdiv (-a) b), 0)) else (0, 10)
theorem fdiv_eq (a b : Int) (hb : b ≠ 0) : Int.fdiv a b = Int.tdiv a b - (if Int.tmod a b = 0 then 0 else if (decide (a < 0) != decide (b < 0)) = true then 1 else 0) := by
  rw [Int.fdiv_eq_tdiv]
  congr 1
  by_cases hd : b ∣ a
  · rw [if_pos hd, if_pos (Int.dvd_iff_tmod_eq_zero.1 hd)]
  · rw [if_neg hd, if_neg (fun h => hd (Int.dvd_iff_tmod_eq_zero.2 h))]
    by_cases h1 : 0 ≤ a <;> by_cases h2 : 0 ≤ b
    · rw [if_pos h1, if_pos h2, if_neg (by simp; omega)]
    · rw [if_pos h1, if_neg h2, if_pos (by simp; omega)]
    · rw [if_neg h1, if_pos h2, if_pos (by simp; omega), Int.sign_eq_one_of_pos (by omega)]
    · rw [if_neg h1, if_neg h2, if_neg (by simp; omega), Int.sign_eq_neg_one_of_neg (by omega)]; rfl
theorem cdiv_eq (a b : Int) (hb : b ≠ 0) : -(Int.fdiv (-a) b) = Int.tdiv a b + (if Int.tmod a b = 0 then 0 else if (decide (a < 0) == decide (b < 0)) = true then 1 else 0) := by
  rw [Int.neg_fdiv, fdiv_eq a b hb]
  by_cases hd : b ∣ a
  · rw [if_pos (c := b = 0 ∨ b ∣ a) (.inr hd), if_pos (Int.dvd_iff_tmod_eq_zero.1 hd), if_pos (Int.dvd_iff_tmod_eq_zero.1 hd)]; omega
  · rw [if_neg (c := b = 0 ∨ b ∣ a) (by simp [hb, hd]), if_neg (fun h => hd (Int.dvd_iff_tmod_eq_zero.2 h)), if_neg (fun h => hd (Int.dvd_iff_tmod_eq_zero.2 h))]
    cases h1 : decide (a < 0) <;> cases h2 : decide (b < 0) <;> simp <;> omega
theorem floor_eq (k : Nat) (a b : Int) (hk : 3 ≤ k) : ints_Floor.f k a b = some (floorS a b) := by
  unfold ints_Floor.f floorS
  rw [may_eq k a b hk]
  simp only [Option.bind_some]
  by_cases h : S a ∧ S b
  · rw [if_pos h, if_pos h]
    by_cases hb : b = 0
    · rw [if_pos hb, if_neg (by omega), if_pos hb]
    · rw [if_neg hb, if_neg hb, if_pos rfl, if_neg hb, fdiv_eq a b hb]
      have hq := S_iff.1 (tdiv_bound a b h.1)
      have ht := S_iff.2 hq
      rw [wrap_S _ ht]
      by_cases hm : Int.tmod a b = 0
      · rw [if_pos hm, if_pos hm]; simp
      · rw [if_neg hm, if_neg hm]
        by_cases hs : (decide (a < 0) != decide (b < 0)) = true
        · rw [if_pos hs, if_pos hs, wrap_id _ (by omega)]
        · rw [if_neg hs, if_neg hs]; simp
  · rw [if_neg h, if_neg h, if_neg (by omega)]
theorem ceil_eq (k : Nat) (a b : Int) (hk : 3 ≤ k) : ints_Ceil.f k a b = some (ceilS a b) := by
  unfold ints_Ceil.f ceilS
  rw [may_eq k a b hk]
  simp only [Option.bind_some]
  by_cases h : S a ∧ S b
  · rw [if_pos h, if_pos h]
    by_cases hb : b = 0
    · rw [if_pos hb, if_neg (by omega), if_pos hb]
    · rw [if_neg hb, if_neg hb, if_pos rfl, if_neg hb, cdiv_eq a b hb]
      have hq := S_iff.1 (tdiv_bound a b h.1)
      have ht := S_iff.2 hq
      rw [wrap_S _ ht]
      by_cases hm : Int.tmod a b = 0
      · rw [if_pos hm, if_pos hm]; simp
      · rw [if_neg hm, if_neg hm]
        by_cases hs : (decide (a < 0) == decide (b < 0)) = true
        · rw [if_pos hs, if_pos hs, wrap_id _ (by omega)]
        · rw [if_neg hs, if_neg hs]; simp
  · rw [if_neg h, if_neg h, if_neg (by omega)]

/-! The greatest common divisor -/
def gcdS (a b : Int) : Int × Int := if S a ∧ S b then ((Int.gcd a b : Int), 0) else (0, 10)
theorem gcd_loop (y : Nat) : ∀ (k x : Nat), y < k → x ≤ 4611686018427387904 → y ≤ 4611686018427387904 → ints_Gcd.l0 k x y = some ((Nat.gcd x y : Int), 0) := by
  induction y using Nat.strongRecOn with
  | ind y ih =>
    intro k x hk hx hy
    obtain ⟨k, rfl⟩ : ∃ m, k = m + 1 := ⟨k - 1, by omega⟩
    rw [ints_Gcd.l0]
    by_cases h : y = 0
    · subst h
      rw [if_pos (by simp), wrap_id _ (by omega), Nat.gcd_zero_right]
    · rw [if_neg (by omega)]
      have e : Int.tmod (x : Int) (y : Int) = ((x % y : Nat) : Int) := by rw [Int.tmod_eq_emod_of_nonneg (by omega)]; rfl
      have hlt : x % y < y := Nat.mod_lt _ (by omega)
      rw [e, ih (x % y) hlt k y (by omega) hy (by omega)]
      rw [Nat.gcd_comm y (x % y), Nat.gcd_comm x y, Nat.gcd_rec y x]
theorem gcd_eq (k : Nat) (a b : Int) (hk : 3 ≤ k) (hb : b.natAbs < k ∨ ¬ S b) : ints_Gcd.f k a b = some (gcdS a b) := by
  unfold ints_Gcd.f gcdS
  rw [small_two k a b hk]
  simp only [Option.bind_some]
  by_cases h : S a ∧ S b
  · rw [if_pos (by simp [h]), if_pos h, size_eq a h.1, size_eq b h.2]
    simp only [Option.bind_some]
    have ha := S_iff.1 h.1
    have hb' := S_iff.1 h.2
    have hk' : b.natAbs < k := by
      rcases hb with hb | hb
      · exact hb
      · exact absurd h.2 hb
    rw [gcd_loop _ k _ hk' (by omega) (by omega)]
    rfl
  · rw [if_neg (by simpa using h), if_neg h]

/-! The sum of products -/
def dotS : List Int → List Int → Int → Int × Bool
  | x :: xs, y :: ys, s => if (mulS x y).2 = true then (if (addS s (mulS x y).1).2 = true then dotS xs ys (addS s (mulS x y).1).1 else (0, false)) else (0, false)
  | [], [], s => (s, true)
  | _, _, _ => (0, false)
theorem dot_loop (a b : List Int) (hab : a.length = b.length) (hl : a.length ≤ 1000) (d : Nat) : ∀ (k i : Nat) (s : Int), d + i = a.length → d + 4 ≤ k →
    ints_Dot.l0 k b s a (a.length : Int) i = some (dotS (a.drop i) (b.drop i) s) := by
  induction d with
  | zero =>
    intro k i s hd hk
    obtain ⟨k, rfl⟩ : ∃ m, k = m + 1 := ⟨k - 1, by omega⟩
    rw [ints_Dot.l0, if_neg (by omega), List.drop_of_length_le (by omega), List.drop_of_length_le (by omega)]
    rfl
  | succ d ih =>
    intro k i s hd hk
    obtain ⟨k, rfl⟩ : ∃ m, k = m + 1 := ⟨k - 1, by omega⟩
    rw [ints_Dot.l0, if_pos (by omega), if_pos (by omega), if_pos (by omega), if_pos (by omega)]
    have ea : a.drop i = rd a i :: a.drop (i + 1) := by
      rw [List.drop_eq_getElem_cons (by omega)]
      simp [rd, List.getD_eq_getElem?_getD, List.getElem?_eq_getElem (show i < a.length by omega)]
    have eb : b.drop i = rd b i :: b.drop (i + 1) := by
      rw [List.drop_eq_getElem_cons (by omega)]
      simp [rd, List.getD_eq_getElem?_getD, List.getElem?_eq_getElem (show i < b.length by omega)]
    rw [ea, eb, mul_eq k _ _ (by omega)]
    simp only [Option.bind_some]
    rw [dotS]
    split
    · rw [add_eq k _ _ (by omega)]
      simp only [Option.bind_some]
      split
      · have hw : wrap64 ((i : Int) + 1) = ((i + 1 : Nat) : Int) := by rw [wrap_id _ (by omega)]; omega
        rw [hw, ih k (i + 1) _ (by omega) (by omega)]
      · rfl
    · rfl
theorem dot_eq (k : Nat) (a b : List Int) (hl : a.length ≤ 1000) (hk : a.length + 4 ≤ k) : ints_Dot.f k a b = some (if a.length = b.length then dotS a b 0 else (0, false)) := by
  unfold ints_Dot.f
  by_cases h : a.length = b.length
  · rw [if_pos (by omega), if_pos h]
    have := dot_loop a b h hl a.length k 0 0 (by omega) hk
    simpa using this
  · rw [if_neg (by omega), if_neg h]
theorem fixed_eq (k : Nat) (hk : 100 ≤ k) : secateurlaw01_fixed.f k = some true := by
  unfold secateurlaw01_fixed.f
  rw [add_eq k _ _ (by omega), mul_eq k _ _ (by omega), floor_eq k _ _ (by omega), ceil_eq k _ _ (by omega), gcd_eq k _ _ (by omega) (.inl (by show 18 < k; omega)), floor_eq k _ _ (by omega), dot_eq k _ _ (by simp) (by simp; omega), gcd_eq k _ _ (by omega) (.inl (by show 1 < k; omega))]
  simp only [Option.bind_some]
  have e1 : addS 4611686018427387904 1 = (0, false) := by decide
  have e2 : mulS (-3) 7 = (-21, true) := by decide
  have e3 : floorS (-7) 2 = (-4, 0) := by decide
  have e4 : ceilS (-7) 2 = (-3, 0) := by decide
  have e5 : gcdS 12 (-18) = (6, 0) := by decide +kernel
  have e6 : floorS 1 0 = (0, 1) := by decide
  have e7 : dotS [1, 2] [3, -4] 0 = (-5, true) := by decide
  have e8 : gcdS 4611686018427387905 1 = (0, 10) := by decide
  rw [e1, e2, e3, e4, e5, e6, e8]
  simp [e7]

theorem fixed_calls (w : World) : Calls Try.prog 15 #[] w fun e w' => e = .returned (.bool true) ∧ Below w.heap.size w w' :=
  secateurlaw01_fixed.calls 200 true w (fixed_eq 200 (by omega))
end Go.Proofs.Ytjdmgnghdkmopaa.HFixed

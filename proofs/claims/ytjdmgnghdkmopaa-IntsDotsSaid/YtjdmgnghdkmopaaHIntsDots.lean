/- The sum of products of any two lists (cut at 60 numbers) by package ints is what the reference says. No conditions beside the reach of the slices. -/
import Derived.Test.YtjdmgnghdkmopaaPIntsDotsx2
import Derived.Test.YtjdmgnghdkmopaaHFixed
set_option linter.unusedVariables false
set_option linter.unusedSimpArgs false
namespace Go.Proofs.Ytjdmgnghdkmopaa.HIntsDots
open Go.RowKit Go.Proofs.Ytjdmgnghdkmopaa.PIntsDots Go.Proofs.YtjdmgnghdkmopaaW.PrintWords Go.Proofs.YtjdmgnghdkmopaaW.PrintLast Go.Proofs.YtjdmgnghdkmopaaW.PrintMore
attribute [local go_sem] max2_int min2_int max_two min_two max_three min_three max_four min_four
def S (n : Int) : Prop := -4611686018427387904 ≤ n ∧ n ≤ 4611686018427387904
instance (n : Int) : Decidable (S n) := inferInstanceAs (Decidable (_ ∧ _))
theorem S_iff {n : Int} : S n ↔ -4611686018427387904 ≤ n ∧ n ≤ 4611686018427387904 := Iff.rfl
theorem not_S {n : Int} (h : n < -4611686018427387904 ∨ 4611686018427387904 < n) : ¬ S n := by unfold S; omega

theorem small_step (k : Nat) (xs : List Int) (i : Int) (h0 : 0 ≤ i) (h1 : i < (xs.length : Int)) (h2 : i < 100) :
    ints_small.l0 (k + 1) xs (xs.length : Int) i = if S (rd xs i) then ints_small.l0 k xs (xs.length : Int) (i + 1) else some false := by
  rw [ints_small.l0, if_pos h1, if_pos h0, if_pos h1]
  have hw : wrap64 (i + 1) = i + 1 := by unfold wrap64; omega
  rw [hw]
  by_cases c1 : rd xs i < -4611686018427387904
  · rw [if_pos c1, if_neg (not_S (.inl c1))]
  · rw [if_neg c1]
    by_cases c2 : rd xs i > 4611686018427387904
    · rw [if_pos c2, if_neg (not_S (.inr c2))]
    · rw [if_neg c2, if_pos (S_iff.2 (by omega))]
theorem small_end (k : Nat) (xs : List Int) (i : Int) (h : ¬ i < (xs.length : Int)) : ints_small.l0 (k + 1) xs (xs.length : Int) i = some true := by
  rw [ints_small.l0, if_neg h]
theorem small_one (k : Nat) (a : Int) (hk : 2 ≤ k) : ints_small.f k [a] = some (decide (S a)) := by
  obtain ⟨k, rfl⟩ : ∃ m, k = m + 2 := ⟨k - 2, by omega⟩
  unfold ints_small.f
  rw [small_step _ _ _ (by simp) (by simp) (by omega)]
  simp only [rd, Int.toNat_zero, List.getD_cons_zero]
  by_cases h : S a
  · rw [if_pos h, small_end _ _ _ (by simp)]; simp [h]
  · rw [if_neg h]; simp [h]
theorem small_two (k : Nat) (a b : Int) (hk : 3 ≤ k) : ints_small.f k [a, b] = some (decide (S a ∧ S b)) := by
  obtain ⟨k, rfl⟩ : ∃ m, k = m + 3 := ⟨k - 3, by omega⟩
  unfold ints_small.f
  rw [small_step _ _ _ (by simp) (by simp) (by omega), small_step _ _ _ (by simp) (by simp) (by omega), small_end _ _ _ (by simp)]
  have e1 : rd [a, b] 0 = a := rfl
  have e2 : rd [a, b] (0 + 1) = b := rfl
  rw [e1, e2]
  by_cases h : S a <;> by_cases h' : S b <;> simp [h, h']
theorem told_eq (k : Nat) (a : Int) (hk : 2 ≤ k) : ints_told.f k a = some (if S a then (a, true) else (0, false)) := by
  unfold ints_told.f
  rw [small_one k a hk]
  simp only [Option.bind_some]
  by_cases h : S a <;> simp [h]

/-- The sum of two numbers, watched. -/
def addS (a b : Int) : Int × Bool := if S a ∧ S b ∧ S (a + b) then (a + b, true) else (0, false)
theorem wrap_id (x : Int) (h : -9223372036854775808 ≤ x ∧ x ≤ 9223372036854775807) : wrap64 x = x := by unfold wrap64; omega
theorem add_eq (k : Nat) (a b : Int) (hk : 3 ≤ k) : ints_Add.f k a b = some (addS a b) := by
  unfold ints_Add.f
  rw [small_two k a b hk]
  simp only [Option.bind_some, told_eq k _ (by omega : 2 ≤ k)]
  by_cases h : S a ∧ S b
  · rw [if_pos (by simp [h])]
    have ha := S_iff.1 h.1
    have hb := S_iff.1 h.2
    by_cases hs : S (a + b)
    · rw [show addS a b = (a + b, true) from if_pos ⟨h.1, h.2, hs⟩]
      have hs' := S_iff.1 hs
      by_cases c1 : a > 0
      · rw [if_pos c1, wrap_id (4611686018427387904 - a) (by omega), if_neg (by omega), if_neg (by omega), wrap_id (a + b) (by omega), if_pos hs]
      · rw [if_neg c1]
        by_cases c2 : a < 0
        · rw [if_pos c2, wrap_id (-4611686018427387904 - a) (by omega), if_neg (by omega), wrap_id (a + b) (by omega), if_pos hs]
        · rw [if_neg c2, wrap_id (a + b) (by omega), if_pos hs]
    · rw [show addS a b = (0, false) from if_neg (fun hh => hs hh.2.2)]
      have hs' : ¬ (-4611686018427387904 ≤ a + b ∧ a + b ≤ 4611686018427387904) := fun hh => hs (S_iff.2 hh)
      by_cases c1 : a > 0
      · rw [if_pos c1, wrap_id (4611686018427387904 - a) (by omega), if_pos (by omega)]
      · rw [if_neg c1]
        by_cases c2 : a < 0
        · rw [if_pos c2, wrap_id (-4611686018427387904 - a) (by omega), if_pos (by omega)]
        · omega
  · rw [if_neg (by simpa using h)]
    rw [show addS a b = (0, false) from if_neg (fun hh => h ⟨hh.1, hh.2.1⟩)]

theorem size_eq (a : Int) (h : S a) : ints_size.f a = some (a.natAbs : Int) := by
  rw [S_iff] at h
  unfold ints_size.f
  rw [IntKind.wrap_u64, IntKind.wrap_u64]
  split <;> congr 1 <;> omega
theorem mul64_eq (x y : Nat) (hx : x ≤ 4611686018427387904) (hy : y ≤ 4611686018427387904) : bits_Mul64.f x y = some ((x : Int) * y / 18446744073709551616, (x : Int) * y % 18446744073709551616) := by
  unfold bits_Mul64.f
  simp only [IntKind.wrap_u64]
  have h := mul64_arith x y (by omega) (by omega) (by omega) (by omega)
  rw [and_low32 (x : Int) (by omega) (by omega), and_low32 (y : Int) (by omega) (by omega), and_low32 _ (by omega) (by omega)]
  rw [h]

def mulS (a b : Int) : Int × Bool := if S a ∧ S b ∧ S (a * b) then (a * b, true) else (0, false)
theorem abs_mul_cases (a b : Int) : a * b = if (decide (a < 0) != decide (b < 0)) then -((a.natAbs * b.natAbs : Nat) : Int) else ((a.natAbs * b.natAbs : Nat) : Int) := by
  rcases Int.natAbs_eq a with h1 | h1 <;> rcases Int.natAbs_eq b with h2 | h2 <;>
    (generalize hp : a.natAbs = p at *; generalize hq : b.natAbs = q at *; subst h1; subst h2)
  · rw [show (decide ((p : Int) < 0)) = false by simp; done, show (decide ((q : Int) < 0)) = false by simp; done]; simp [Int.mul_neg, Int.neg_mul]
  · by_cases c : q = 0
    · subst c; simp
    · rw [show (decide ((p : Int) < 0)) = false by simp; done, show (decide (-(q : Int) < 0)) = true by simp; omega]; simp [Int.mul_neg, Int.neg_mul]
  · by_cases c : p = 0
    · subst c; simp
    · rw [show (decide ((q : Int) < 0)) = false by simp; done, show (decide (-(p : Int) < 0)) = true by simp; omega]; simp [Int.mul_neg, Int.neg_mul]
  · by_cases c : p = 0
    · subst c; simp
    · by_cases c2 : q = 0
      · subst c2; simp
      · rw [show (decide (-(q : Int) < 0)) = true by simp; omega, show (decide (-(p : Int) < 0)) = true by simp; omega]; simp [Int.mul_neg, Int.neg_mul]
theorem mul_eq (k : Nat) (a b : Int) (hk : 3 ≤ k) : ints_Mul.f k a b = some (mulS a b) := by
  unfold ints_Mul.f
  rw [small_two k a b hk]
  simp only [Option.bind_some]
  unfold mulS
  by_cases h : S a ∧ S b
  · rw [if_pos (by simp [h]), size_eq a h.1, size_eq b h.2]
    simp only [Option.bind_some]
    have ha := S_iff.1 h.1
    have hb := S_iff.1 h.2
    rw [mul64_eq _ _ (by omega) (by omega)]
    simp only [Option.bind_some]
    have hc := abs_mul_cases a b
    obtain ⟨k, rfl⟩ : ∃ m, k = m + 1 := ⟨k - 1, by omega⟩
    simp only [ints_Mul.j0]
    have hm : ((a.natAbs : Int) * (b.natAbs : Int)) = ((a.natAbs * b.natAbs : Nat) : Int) := by simp
    rw [hm]
    generalize hn : a.natAbs * b.natAbs = n at *
    rw [hc]
    by_cases hs : n ≤ 4611686018427387904
    · have e1 : (n : Int) / 18446744073709551616 = 0 := by omega
      have e2 : (n : Int) % 18446744073709551616 = n := by omega
      rw [e1, e2, if_pos rfl, if_neg (by simp; omega)]
      cases hd : (decide (a < 0) != decide (b < 0)) with
      | true =>
        rw [if_pos rfl, if_pos rfl, if_pos ⟨h.1, h.2, S_iff.2 (by omega)⟩, wrap_id (n : Int) (by omega), wrap_id (-(n : Int)) (by omega)]
      | false =>
        rw [if_neg (by simp), if_neg (c := false = true) (by simp), if_pos ⟨h.1, h.2, S_iff.2 (by omega)⟩, wrap_id (n : Int) (by omega)]
    · rw [if_neg (c := S a ∧ S b ∧ _) (by intro hh; have := S_iff.1 hh.2.2; split at this <;> omega)]
      split
      · rename_i h0
        rw [if_pos (by simp; omega)]
      · rw [if_pos trivial]
  · rw [if_neg (by simpa using h)]
    rw [if_neg (fun hh => h ⟨hh.1, hh.2.1⟩)]

/-! The sum of products -/
def dotS : List Int → List Int → Int → Int × Bool
  | x :: xs, y :: ys, s => if (mulS x y).2 = true then (if (addS s (mulS x y).1).2 = true then dotS xs ys (addS s (mulS x y).1).1 else (0, false)) else (0, false)
  | [], [], s => (s, true)
  | _, _, _ => (0, false)
theorem dot_loop (a b : List Int) (hab : a.length = b.length) (hl : a.length ≤ 1000) (d : Nat) : ∀ (k i : Nat) (s : Int), d + i = a.length → d + 4 ≤ k →
    ints_Dot.l0 k b s a (a.length : Int) i = some (dotS (a.drop i) (b.drop i) s) := by
  induction d with
  | zero =>
    intro k i s hd hk
    obtain ⟨k, rfl⟩ : ∃ m, k = m + 1 := ⟨k - 1, by omega⟩
    rw [ints_Dot.l0, if_neg (by omega), List.drop_of_length_le (by omega), List.drop_of_length_le (by omega)]
    rfl
  | succ d ih =>
    intro k i s hd hk
    obtain ⟨k, rfl⟩ : ∃ m, k = m + 1 := ⟨k - 1, by omega⟩
    rw [ints_Dot.l0, if_pos (by omega), if_pos (by omega), if_pos (by omega), if_pos (by omega)]
    have ea : a.drop i = rd a i :: a.drop (i + 1) := by
      rw [List.drop_eq_getElem_cons (by omega)]
      simp [rd, List.getD_eq_getElem?_getD, List.getElem?_eq_getElem (show i < a.length by omega)]
    have eb : b.drop i = rd b i :: b.drop (i + 1) := by
      rw [List.drop_eq_getElem_cons (by omega)]
      simp [rd, List.getD_eq_getElem?_getD, List.getElem?_eq_getElem (show i < b.length by omega)]
    rw [ea, eb, mul_eq k _ _ (by omega)]
    simp only [Option.bind_some]
    rw [dotS]
    split
    · rw [add_eq k _ _ (by omega)]
      simp only [Option.bind_some]
      split
      · have hw : wrap64 ((i : Int) + 1) = ((i + 1 : Nat) : Int) := by rw [wrap_id _ (by omega)]; omega
        rw [hw, ih k (i + 1) _ (by omega) (by omega)]
      · rfl
    · rfl
theorem dot_eq (k : Nat) (a b : List Int) (hl : a.length ≤ 1000) (hk : a.length + 4 ≤ k) : ints_Dot.f k a b = some (if a.length = b.length then dotS a b 0 else (0, false)) := by
  unfold ints_Dot.f
  by_cases h : a.length = b.length
  · rw [if_pos (by omega), if_pos h]
    have := dot_loop a b h hl a.length k 0 0 (by omega) hk
    simpa using this
  · rw [if_neg (by omega), if_neg h]

/-! The reference's answers -/
theorem rsmall_eq (a : Int) : secateurref01_Small.f a = some (decide (S a)) := by
  unfold secateurref01_Small.f
  by_cases h : S a
  · have h' := S_iff.1 h
    rw [if_pos (by omega)]
    simp [h, h'.2]
  · have h' : ¬ (-4611686018427387904 ≤ a ∧ a ≤ 4611686018427387904) := fun hh => h (S_iff.2 hh)
    split
    · simp [h]; omega
    · simp [h]

theorem half (a : Int) : ∃ q r, Int.tdiv a 2 = q ∧ Int.tmod a 2 = r ∧ 2 * q + r = a ∧ -1 ≤ r ∧ r ≤ 1 ∧ (0 ≤ a → 0 ≤ r) ∧ (a ≤ 0 → r ≤ 0) := by
  refine ⟨_, _, rfl, rfl, ?_⟩
  have h1 := Int.mul_tdiv_add_tmod a 2
  refine ⟨h1, ?_⟩
  have h2 : (Int.tmod a 2).natAbs = a.natAbs % 2 := Int.natAbs_tmod a 2
  have h3 := @Int.tmod_nonneg a 2
  have h4 := @Int.tmod_nonneg (-a) 2
  rw [Int.neg_tmod] at h4
  refine ⟨by omega, by omega, h3, fun h => by have := h4 (by omega); omega⟩
theorem radd_eq (k : Nat) (a b : Int) (hk : 1 ≤ k) : secateurref01_Add.f k a b = some (addS a b) := by
  obtain ⟨k, rfl⟩ : ∃ m, k = m + 1 := ⟨k - 1, by omega⟩
  unfold secateurref01_Add.f
  rw [rsmall_eq a]
  simp only [Option.bind_some]
  by_cases ha : S a
  · rw [if_pos (by simp [ha]), rsmall_eq b]
    simp only [Option.bind_some, secateurref01_Add.j0]
    by_cases hb : S b
    · rw [if_neg (by simp [hb])]
      obtain ⟨q, r, e1, e2, h1, h2, h3, _, _⟩ := half a
      obtain ⟨q', r', e1', e2', h1', h2', h3', _, _⟩ := half b
      rw [e1, e2, e1', e2']
      have ha' := S_iff.1 ha
      have hb' := S_iff.1 hb
      rw [wrap_id q (by omega), wrap_id q' (by omega), wrap_id (q + q') (by omega), wrap_id (r + r') (by omega)]
      have es : a + b = 2 * (q + q') + (r + r') := by omega
      have hr : -2 ≤ r + r' ∧ r + r' ≤ 2 := by omega
      by_cases hs : S (a + b)
      · rw [show addS a b = (a + b, true) from if_pos ⟨ha, hb, hs⟩]
        have hs' := S_iff.1 hs
        rw [wrap_id (2 * (q + q')) (by omega), wrap_id (2 * (q + q') + (r + r')) (by omega), es]
        have hx : -2305843009213693953 ≤ q + q' ∧ q + q' ≤ 2305843009213693953 := by omega
        by_cases c1 : q + q' > 2305843009213693952
        · omega
        · by_cases c2 : q + q' < -2305843009213693952
          · omega
          · rw [if_neg c1, if_neg c2]
            by_cases c3 : q + q' = 2305843009213693952
            · rw [if_pos c3, if_neg (by omega), if_neg (by omega)]
            · rw [if_neg c3]
              by_cases c4 : q + q' = -2305843009213693952
              · rw [if_pos c4, if_neg (by omega)]
              · rw [if_neg c4]
      · rw [show addS a b = (0, false) from if_neg (fun hh => hs hh.2.2)]
        have hs' : ¬ (-4611686018427387904 ≤ a + b ∧ a + b ≤ 4611686018427387904) := fun hh => hs (S_iff.2 hh)
        by_cases c1 : q + q' > 2305843009213693952
        · rw [if_pos c1]
        · rw [if_neg c1]
          by_cases c2 : q + q' < -2305843009213693952
          · rw [if_pos c2]
          · rw [if_neg c2]
            by_cases c3 : q + q' = 2305843009213693952
            · rw [if_pos c3]
              by_cases c5 : r + r' > 0
              · rw [if_pos c5]
              · omega
            · rw [if_neg c3]
              by_cases c4 : q + q' = -2305843009213693952
              · rw [if_pos c4]
                by_cases c5 : r + r' < 0
                · rw [if_pos c5]
                · omega
              · omega
    · rw [if_pos (by simp [hb]), show addS a b = (0, false) from if_neg (fun hh => hb hh.2.1)]
  · rw [if_neg (by simp [ha]), show addS a b = (0, false) from if_neg (fun hh => ha hh.1)]
    simp only [secateurref01_Add.j0]
    rw [if_pos trivial]

theorem bit_one (i : Nat) (hi : i < 9223372036854775808) : Go.bits BinOp.and IntKind.i64 (i : Int) 1 = ((i % 2 : Nat) : Int) := by
  have h63 : (2 : Int) ^ 63 = 9223372036854775808 := by decide
  have h := bits_mask .i64 63 (by decide) (fun n h0 h1 => by rw [h63] at h1; rw [IntKind.wrap_i64]; omega) 1 (by decide) (i : Int) (by omega) (by rw [h63]; omega)
  have e : ((2 : Int) ^ 1 - 1) = 1 := by decide
  rw [e] at h
  rw [h]
  omega
theorem S_mul_mono (a : Int) (c b : Nat) (h : c ≤ b) (hs : S (a * b)) : S (a * c) := by
  rw [S_iff] at *
  have h1 : (a * (b : Int)).natAbs = a.natAbs * b := by rw [Int.natAbs_mul]; rfl
  have h2 : (a * (c : Int)).natAbs = a.natAbs * c := by rw [Int.natAbs_mul]; rfl
  have h3 : a.natAbs * c ≤ a.natAbs * b := Nat.mul_le_mul_left _ h
  omega
def prodS (a : Int) (b : Nat) : Int × Bool := if S (a * b) then (a * b, true) else (0, false)
theorem rmul_loop (a : Int) (b : Nat) (ha : S a) (hb : b ≤ 4611686018427387904) (m : Nat) : ∀ (k : Nat), 2 * m + 3 ≤ k → m ≤ 63 → S (a * (b / 2 ^ m : Nat)) →
    secateurref01_Mul.l0 k a b (a * (b / 2 ^ m : Nat)) ((m : Int) - 1) = some (prodS a b) := by
  induction m with
  | zero =>
    intro k hk _ hs
    obtain ⟨k, rfl⟩ : ∃ m, k = m + 1 := ⟨k - 1, by omega⟩
    rw [secateurref01_Mul.l0, if_neg (by omega)]
    simp only [Nat.pow_zero, Nat.div_one] at *
    unfold prodS
    rw [if_pos hs]
  | succ m ih =>
    intro k hk hm hs
    obtain ⟨k, rfl⟩ : ∃ m, k = m + 2 := ⟨k - 2, by omega⟩
    have e0 : ((m + 1 : Nat) : Int) - 1 = (m : Int) := by omega
    rw [e0]
    have hdiv : b / 2 ^ (m + 1) = b / 2 ^ m / 2 := by rw [Nat.pow_succ, Nat.div_div_eq_div_mul]
    have hle : b / 2 ^ m ≤ b := Nat.div_le_self _ _
    rw [hdiv] at hs ⊢
    generalize hc : b / 2 ^ m = c at hs hle ih hdiv ⊢
    have hbad : ∀ d : Nat, d ≤ b → ¬ S (a * d) → prodS a b = (0, false) := fun d hd hn => if_neg (fun hh => hn (S_mul_mono a d b hd hh))
    have hshift : shr .i64 (b : Int) (m : Int) = (c : Int) := by
      unfold shr
      have e1 : min ((m : Int)).toNat IntKind.i64.bits = m := by simp only [IntKind.bits, Int.toNat_natCast]; omega
      rw [e1, ← hc]; simp
    have e2 : wrap64 ((m : Int) - 1) = (m : Int) - 1 := wrap_id _ (by omega)
    rw [secateurref01_Mul.l0, if_pos (by omega), radd_eq _ _ _ (by omega)]
    simp only [Option.bind_some]
    have e3 : a * ((c / 2 : Nat) : Int) + a * ((c / 2 : Nat) : Int) = a * ((2 * (c / 2) : Nat) : Int) := by
      rw [← Int.mul_add]; congr 1; omega
    rw [hshift, bit_one c (by omega)]
    by_cases h1 : S (a * ((2 * (c / 2) : Nat) : Int))
    · have ea : addS (a * ((c / 2 : Nat) : Int)) (a * ((c / 2 : Nat) : Int)) = (a * ((2 * (c / 2) : Nat) : Int), true) := by
        unfold addS; rw [e3]; rw [if_pos ⟨hs, hs, h1⟩]
      rw [ea, if_pos rfl, if_pos (by omega)]
      by_cases hbit : c % 2 = 1
      · have eb : (((c % 2 : Nat) : Int) == 1) = true := by simp; omega
        rw [eb, secateurref01_Mul.j3, if_pos rfl, radd_eq _ _ _ (by omega)]
        simp only [Option.bind_some]
        have e4 : a * ((2 * (c / 2) : Nat) : Int) + a = a * (c : Int) := by
          have : (c : Int) = ((2 * (c / 2) : Nat) : Int) + 1 := by omega
          rw [this, Int.mul_add, Int.mul_one]
        by_cases h2 : S (a * (c : Int))
        · have ea2 : addS (a * ((2 * (c / 2) : Nat) : Int)) a = (a * (c : Int), true) := by
            unfold addS; rw [e4]; rw [if_pos ⟨h1, ha, h2⟩]
          rw [ea2, if_pos rfl, e2]
          exact ih k (by omega) (by omega) h2
        · have ea2 : addS (a * ((2 * (c / 2) : Nat) : Int)) a = (0, false) := by
            unfold addS; rw [e4]; rw [if_neg (fun hh => h2 hh.2.2)]
          rw [ea2, if_neg (by simp), hbad c hle h2]
      · have eb : (((c % 2 : Nat) : Int) == 1) = false := by simp; omega
        have e5 : 2 * (c / 2) = c := by omega
        rw [eb, secateurref01_Mul.j3, if_neg (by simp), if_pos rfl, e2]
        rw [e5] at h1 ⊢
        exact ih k (by omega) (by omega) h1
    · have ea : addS (a * ((c / 2 : Nat) : Int)) (a * ((c / 2 : Nat) : Int)) = (0, false) := by
        unfold addS; rw [e3]; rw [if_neg (fun hh => h1 hh.2.2)]
      rw [ea, if_neg (by simp), secateurref01_Mul.j3, if_neg (by simp), if_neg (by simp), hbad (2 * (c / 2)) (by omega) h1]
theorem rmul_eq (k : Nat) (a b : Int) (hk : 140 ≤ k) : secateurref01_Mul.f k a b = some (mulS a b) := by
  obtain ⟨k, rfl⟩ : ∃ m, k = m + 2 := ⟨k - 2, by omega⟩
  unfold secateurref01_Mul.f
  rw [rsmall_eq a]
  simp only [Option.bind_some]
  have hz : ∀ (a' : Int) (b' : Nat), S a' → b' ≤ 4611686018427387904 → secateurref01_Mul.l0 k a' b' 0 62 = some (prodS a' b') := by
    intro a' b' ha hb
    have e : b' / 2 ^ 63 = 0 := by omega
    have := rmul_loop a' b' ha hb 63 k (by omega) (by omega) (by rw [e]; simp; exact S_iff.2 (by omega))
    rw [e] at this
    simpa using this
  by_cases ha : S a
  · rw [if_pos (by simp [ha]), rsmall_eq b]
    simp only [Option.bind_some, secateurref01_Mul.j0]
    by_cases hb : S b
    · rw [if_neg (by simp [hb])]
      have ha' := S_iff.1 ha
      have hb' := S_iff.1 hb
      by_cases hn : b < 0
      · rw [if_pos hn, wrap_id (-a) (by omega), wrap_id (-b) (by omega)]
        obtain ⟨n, hn'⟩ : ∃ n : Nat, -b = n := ⟨b.natAbs, by omega⟩
        rw [hn', secateurref01_Mul.j1, hz (-a) n (S_iff.2 (by omega)) (by omega)]
        have e : -a * (n : Int) = a * b := by rw [← hn', Int.neg_mul_neg]
        unfold prodS mulS
        rw [e]
        by_cases hs : S (a * b)
        · rw [if_pos hs, if_pos ⟨ha, hb, hs⟩]
        · rw [if_neg hs, if_neg (fun hh => hs hh.2.2)]
      · rw [if_neg hn]
        obtain ⟨n, rfl⟩ : ∃ n : Nat, b = n := ⟨b.natAbs, by omega⟩
        rw [secateurref01_Mul.j1, hz a n ha (by omega)]
        unfold prodS mulS
        by_cases hs : S (a * n)
        · rw [if_pos hs, if_pos ⟨ha, hb, hs⟩]
        · rw [if_neg hs, if_neg (fun hh => hs hh.2.2)]
    · rw [if_pos (by simp [hb]), show mulS a b = (0, false) from if_neg (fun hh => hb hh.2.1)]
  · rw [if_neg (by simp [ha]), show mulS a b = (0, false) from if_neg (fun hh => ha hh.1)]
    simp only [secateurref01_Mul.j0]
    rw [if_pos trivial]

theorem rdot_stop (k : Nat) (a b : List Int) (s i : Int) (hk : 1 ≤ k) (h : a.length ≠ b.length) : secateurref01_Dot.j1 k a b s i false = some (s, false) := by
  obtain ⟨k, rfl⟩ : ∃ m, k = m + 1 := ⟨k - 1, by omega⟩
  rw [secateurref01_Dot.j1, if_neg (by simp), show (((a.length : Int)) == (b.length : Int)) = false by simp; omega]
theorem rdot_loop (a b : List Int) (hab : a.length = b.length) (hl : a.length ≤ 1000) (d : Nat) : ∀ (k i : Nat) (s : Int), d + i = a.length → 2 * d + 150 ≤ k →
    secateurref01_Dot.l0 k a b s i = some (dotS (a.drop i) (b.drop i) s) := by
  induction d with
  | zero =>
    intro k i s hd hk
    obtain ⟨k, rfl⟩ : ∃ m, k = m + 2 := ⟨k - 2, by omega⟩
    rw [secateurref01_Dot.l0, if_neg (by omega), List.drop_of_length_le (by omega), List.drop_of_length_le (by omega), secateurref01_Dot.j1, if_neg (by simp), show (((a.length : Int)) == (b.length : Int)) = true by simp; omega]
    rfl
  | succ d ih =>
    intro k i s hd hk
    obtain ⟨k, rfl⟩ : ∃ m, k = m + 2 := ⟨k - 2, by omega⟩
    rw [secateurref01_Dot.l0, if_pos (by omega), show (((a.length : Int)) == (b.length : Int)) = true by simp; omega]
    rw [secateurref01_Dot.j1, if_pos rfl, if_pos (by omega), if_pos (by omega), if_pos (by omega)]
    have ea : a.drop i = rd a i :: a.drop (i + 1) := by
      rw [List.drop_eq_getElem_cons (by omega)]
      simp [rd, List.getD_eq_getElem?_getD, List.getElem?_eq_getElem (show i < a.length by omega)]
    have eb : b.drop i = rd b i :: b.drop (i + 1) := by
      rw [List.drop_eq_getElem_cons (by omega)]
      simp [rd, List.getD_eq_getElem?_getD, List.getElem?_eq_getElem (show i < b.length by omega)]
    rw [ea, eb, rmul_eq k _ _ (by omega)]
    simp only [Option.bind_some]
    rw [radd_eq k _ _ (by omega)]
    simp only [Option.bind_some]
    rw [dotS]
    split
    · split
      · have hw : wrap64 ((i : Int) + 1) = ((i + 1 : Nat) : Int) := by rw [wrap_id _ (by omega)]; omega
        rw [hw, ih k (i + 1) _ (by omega) (by omega)]
      · rfl
    · rfl
theorem rdot_eq (k : Nat) (a b : List Int) (hl : a.length ≤ 1000) (hk : 2 * a.length + 150 ≤ k) : secateurref01_Dot.f k a b = some (if a.length = b.length then dotS a b 0 else (0, false)) := by
  unfold secateurref01_Dot.f
  by_cases h : a.length = b.length
  · rw [if_pos h]
    have := rdot_loop a b h hl a.length k 0 0 (by omega) hk
    simpa using this
  · rw [if_neg h]
    obtain ⟨k, rfl⟩ : ∃ m, k = m + 1 := ⟨k - 1, by omega⟩
    rw [secateurref01_Dot.l0, show (((a.length : Int)) == (b.length : Int)) = false by simp; omega]
    split <;> exact rdot_stop k a b 0 0 (by omega) h

theorem dot_calls (k : Nat) (A0 A1 : Option Addr) (c0 c1 n0 n1 : Nat) (l0 l1 : List Int) (r1 : Int) (r2 : Bool) (w : World) (hn0 : l0.length = n0) (hn1 : l1.length = n1) (h0 : ReadsInt w .i64 A0 n0 l0) (hc0 : n0 ≤ c0) (h1 : ReadsInt w .i64 A1 n1 l1) (hc1 : n1 ≤ c1) (h : ints_Dot.f k l0 l1 = some (r1, r2)) :
    Calls Try.prog 13 #[.slice A0 n0 c0, .slice A1 n1 c1] w fun e w' => e = .returned (.tuple #[.int .i64 r1, .bool r2]) ∧ Below w.heap.size w w' := by
  subst hn0; subst hn1
  exact ints_Dot.calls k A0 c0 l0 A1 c1 l1 r1 r2 w (Kd.C_of_reads (d := (0 : Int)) (h1 := fun _ => rfl) h0) hc0 (Kd.C_of_reads (d := (0 : Int)) (h1 := fun _ => rfl) h1) hc1 h
theorem rdot_calls (k : Nat) (A0 A1 : Option Addr) (c0 c1 n0 n1 : Nat) (l0 l1 : List Int) (r1 : Int) (r2 : Bool) (w : World) (hn0 : l0.length = n0) (hn1 : l1.length = n1) (h0 : ReadsInt w .i64 A0 n0 l0) (hc0 : n0 ≤ c0) (h1 : ReadsInt w .i64 A1 n1 l1) (hc1 : n1 ≤ c1) (h : secateurref01_Dot.f k l0 l1 = some (r1, r2)) :
    Calls Try.prog 14 #[.slice A0 n0 c0, .slice A1 n1 c1] w fun e w' => e = .returned (.tuple #[.int .i64 r1, .bool r2]) ∧ Below w.heap.size w w' := by
  subst hn0; subst hn1
  refine (secateurref01_Dot.calls k A0 c0 l0 A1 c1 l1 r1 r2 w (Kd.C_of_reads (d := (0 : Int)) (h1 := fun _ => rfl) h0) hc0 (Kd.C_of_reads (d := (0 : Int)) (h1 := fun _ => rfl) h1) hc1 h).mono ?_
  rintro e w' ⟨rfl, hd⟩
  exact ⟨rfl, hd.below⟩
/-- What is left of a list behind the cut at 60. -/
theorem cut_reads {w : World} {A : Option Addr} {n : Nat} {xs : List Int} (h : ReadsInt w .i64 A n xs) : ReadsInt w .i64 A (min n 60) (xs.take 60) := by
  have := h.take_ (min n 60) (by omega)
  have e : xs.take (min n 60) = xs.take 60 := by
    rw [← h.1, ← List.take_length (l := xs.take 60), List.length_take, List.take_take]
    congr 1
    omega
  rwa [e] at this
theorem ended {a b : Int} {x y : Bool} (h : (a, x) = (b, y)) : a = b ∧ x = y := by simpa using h
set_option maxHeartbeats 1000000 in
theorem dots_walk (A0 A1 : Option Addr) (c0 c1 n0 n1 m0 m1 : Nat) (l0 l1 : List Int) (r : Int) (q : Bool) (w : World) (hc0 : n0 ≤ c0) (hc1 : n1 ≤ c1) (hm0 : n0 ≤ 9223372036854775807) (hm1 : n1 ≤ 9223372036854775807)
    (hr0 : ReadsInt w .i64 A0 m0 l0) (hr1 : ReadsInt w .i64 A1 m1 l1) (k : Nat) (hd : Aside0 (ints_Dot.f k l0 l1 = some (r, q))) (he : Aside0 (secateurref01_Dot.f k l0 l1 = some (r, q)))
    (hmin : Aside0 (m0 = min n0 60 ∧ m1 = min n1 60)) :
    Calls Try.prog 3 #[.slice A0 n0 c0, .slice A1 n1 c1] w fun e w' => e = .returned (.bool true) ∧ Below w.heap.size w w' := by
  have HR0 := Aside0.mk hr0
  have HR1 := Aside0.mk hr1
  clear hr0 hr1
  rcases Nat.lt_or_ge 60 n0 with k0 | k0 <;> rcases Nat.lt_or_ge 60 n1 with k1 | k1
  all_goals
    go_enter Try.func3, Try.ntmps3
    go_wp2_with fail
    refine (dot_calls k A0 A1 c0 c1 _ _ l0 l1 r q w (by have := hmin.out; have := HR0.out.1; omega) (by have := hmin.out; have := HR1.out.1; omega)
      (by have e := hmin.out; have h' := HR0.out; rw [e.1] at h'; first | (rw [Nat.min_eq_left k0] at h'; exact h') | (rw [Nat.min_eq_right (Nat.le_of_lt k0)] at h'; exact h')) (by omega)
      (by have e := hmin.out; have h' := HR1.out; rw [e.2] at h'; first | (rw [Nat.min_eq_left k1] at h'; exact h') | (rw [Nat.min_eq_right (Nat.le_of_lt k1)] at h'; exact h')) (by omega) hd.out).mono ?_
    rintro e w1 ⟨rfl, hb1⟩
    have HB1 := Aside0.mk hb1
    clear hb1
    go_wp2_with fail
    refine (rdot_calls k A0 A1 c0 c1 _ _ l0 l1 r q w1 (by have := hmin.out; have := HR0.out.1; omega) (by have := hmin.out; have := HR1.out.1; omega)
      (by have e := hmin.out; have h' := HR0.out.below HB1.out; rw [e.1] at h'; first | (rw [Nat.min_eq_left k0] at h'; exact h') | (rw [Nat.min_eq_right (Nat.le_of_lt k0)] at h'; exact h')) (by omega)
      (by have e := hmin.out; have h' := HR1.out.below HB1.out; rw [e.2] at h'; first | (rw [Nat.min_eq_left k1] at h'; exact h') | (rw [Nat.min_eq_right (Nat.le_of_lt k1)] at h'; exact h')) (by omega) he.out).mono ?_
    rintro e w2 ⟨rfl, hb2⟩
    have HB2 := Aside0.mk hb2
    clear hb2
    go_wp2_with fail
    refine (HFixed.fixed_calls _).mono ?_
    rintro e w3 ⟨rfl, hb3⟩
    go_wp2
    go_ret
    exact ⟨by first | rfl | simp, ((HB1.out.trans (HB2.out.mono HB1.out.size)).trans (hb3.mono (Nat.le_trans HB1.out.size HB2.out.size)))⟩
theorem walk (a0 : Option Addr) (len0 cap0 : Nat) (z0 : List Int) (a1 : Option Addr) (len1 cap1 : Nat) (z1 : List Int) (w : World) (w0 : (a0 = none ∧ len0 = 0 ∧ cap0 = 0 ∧ z0 = []) ∨ ∃ x, a0 = some x ∧ len0 ≤ cap0 ∧ cap0 ≤ maxLen ∧ z0.length = cap0 ∧ (∀ i, i < z0.length → w.cell? (x.add i) = some (.int .i64 (z0.getD i 0))) ∧ ∀ n ∈ z0, (Lit.int .i64 n).wf = true) (y0 : len0 * 8 ≤ 140737488351232) (w1 : (a1 = none ∧ len1 = 0 ∧ cap1 = 0 ∧ z1 = []) ∨ ∃ x, a1 = some x ∧ len1 ≤ cap1 ∧ cap1 ≤ maxLen ∧ z1.length = cap1 ∧ (∀ i, i < z1.length → w.cell? (x.add i) = some (.int .i64 (z1.getD i 0))) ∧ ∀ n ∈ z1, (Lit.int .i64 n).wf = true) (y1 : len1 * 8 ≤ 140737488351232) :
    Calls Try.prog 3 #[.slice a0 len0 cap0, .slice a1 len1 cap1] w fun e w' => e = .returned (.bool true) ∧ Below w.heap.size w w' := by
  obtain ⟨l0, rfl, hr0, hm0, hw0, hc0⟩ := ReadsInt.ofRowC w0
  obtain ⟨l1, rfl, hr1, hm1, hw1, hc1⟩ := ReadsInt.ofRowC w1
  have e0 : (l0.take 60).length ≤ 60 := by rw [List.length_take]; omega
  have e1 : (l1.take 60).length ≤ 60 := by rw [List.length_take]; omega
  obtain ⟨r, q, hq⟩ : ∃ r q, (if (l0.take 60).length = (l1.take 60).length then dotS (l0.take 60) (l1.take 60) 0 else (0, false)) = (r, q) := ⟨_, _, rfl⟩
  refine dots_walk a0 a1 cap0 cap1 l0.length l1.length _ _ (l0.take 60) (l1.take 60) r q w hc0 hc1 (by omega) (by omega) (cut_reads hr0) (cut_reads hr1) 1000 ⟨?_⟩ ⟨?_⟩ ⟨rfl, rfl⟩
  · rw [dot_eq _ _ _ (by omega) (by omega), hq]
  · rw [rdot_eq _ _ _ (by omega) (by omega), hq]

end Go.Proofs.Ytjdmgnghdkmopaa.HIntsDots

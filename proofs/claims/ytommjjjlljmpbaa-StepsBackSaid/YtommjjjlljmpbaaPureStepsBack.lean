/- The plain law of StepsBack: what the printed function answers, over lists alone. No conditions. -/
import Derived.Test.YtommjjjlljmpbaaTot
import Derived.Test.YtommjjjlljmpbaaPStepsx6
import Derived.Test.YtommjjjlljmpbaaPStepsx7
import Derived.Test.YtommjjjlljmpbaaPStepsx8
import Derived.Test.YtommjjjlljmpbaaPStepsx9
set_option linter.unusedVariables false
set_option linter.unusedSimpArgs false
namespace Go.Proofs.Ytommjjjlljmpbaa.PSteps
open Go.RowKit Go.Proofs.YtommjjjlljmpbaaW.PrintWords Go.Proofs.YtommjjjlljmpbaaW.PrintLast Go.Proofs.YtommjjjlljmpbaaW.PrintMore
/-! The reference's answers -/
theorem rsmall_eq (a : Int) : secateurref01_Small.f a = some (decide (S a)) := by
  unfold secateurref01_Small.f
  by_cases h : S a
  · have h' := S_iff.1 h
    rw [if_pos (by omega)]
    simp [h, h'.2]
  · have h' : ¬ (-4611686018427387904 ≤ a ∧ a ≤ 4611686018427387904) := fun hh => h (S_iff.2 hh)
    split
    · simp [h]; omega
    · simp [h]
theorem half (a : Int) : ∃ q r, Int.tdiv a 2 = q ∧ Int.tmod a 2 = r ∧ 2 * q + r = a ∧ -1 ≤ r ∧ r ≤ 1 ∧ (0 ≤ a → 0 ≤ r) ∧ (a ≤ 0 → r ≤ 0) := by
  refine ⟨_, _, rfl, rfl, ?_⟩
  have h1 := Int.mul_tdiv_add_tmod a 2
  refine ⟨h1, ?_⟩
  have h2 : (Int.tmod a 2).natAbs = a.natAbs % 2 := Int.natAbs_tmod a 2
  have h3 := @Int.tmod_nonneg a 2
  have h4 := @Int.tmod_nonneg (-a) 2
  rw [Int.neg_tmod] at h4
  refine ⟨by omega, by omega, h3, fun h => by have := h4 (by omega); omega⟩
theorem radd_eq (k : Nat) (a b : Int) (hk : 1 ≤ k) : secateurref01_Add.f k a b = some (addS a b) := by
  obtain ⟨k, rfl⟩ : ∃ m, k = m + 1 := ⟨k - 1, by omega⟩
  unfold secateurref01_Add.f
  rw [rsmall_eq a]
  simp only [Option.bind_some]
  by_cases ha : S a
  · rw [if_pos (by simp [ha]), rsmall_eq b]
    simp only [Option.bind_some, secateurref01_Add.j0]
    by_cases hb : S b
    · rw [if_neg (by simp [hb])]
      obtain ⟨q, r, e1, e2, h1, h2, h3, _, _⟩ := half a
      obtain ⟨q', r', e1', e2', h1', h2', h3', _, _⟩ := half b
      rw [e1, e2, e1', e2']
      have ha' := S_iff.1 ha
      have hb' := S_iff.1 hb
      rw [wrap_id q (by omega), wrap_id q' (by omega), wrap_id (q + q') (by omega), wrap_id (r + r') (by omega)]
      have es : a + b = 2 * (q + q') + (r + r') := by omega
      have hr : -2 ≤ r + r' ∧ r + r' ≤ 2 := by omega
      by_cases hs : S (a + b)
      · rw [show addS a b = (a + b, true) from if_pos ⟨ha, hb, hs⟩]
        have hs' := S_iff.1 hs
        rw [wrap_id (2 * (q + q')) (by omega), wrap_id (2 * (q + q') + (r + r')) (by omega), es]
        have hx : -2305843009213693953 ≤ q + q' ∧ q + q' ≤ 2305843009213693953 := by omega
        by_cases c1 : q + q' > 2305843009213693952
        · omega
        · by_cases c2 : q + q' < -2305843009213693952
          · omega
          · rw [if_neg c1, if_neg c2]
            by_cases c3 : q + q' = 2305843009213693952
            · rw [if_pos c3, if_neg (by omega), if_neg (by omega)]
            · rw [if_neg c3]
              by_cases c4 : q + q' = -2305843009213693952
              · rw [if_pos c4, if_neg (by omega)]
              · rw [if_neg c4]
      · rw [show addS a b = (0, false) from if_neg (fun hh => hs hh.2.2)]
        have hs' : ¬ (-4611686018427387904 ≤ a + b ∧ a + b ≤ 4611686018427387904) := fun hh => hs (S_iff.2 hh)
        by_cases c1 : q + q' > 2305843009213693952
        · rw [if_pos c1]
        · rw [if_neg c1]
          by_cases c2 : q + q' < -2305843009213693952
          · rw [if_pos c2]
          · rw [if_neg c2]
            by_cases c3 : q + q' = 2305843009213693952
            · rw [if_pos c3]
              by_cases c5 : r + r' > 0
              · rw [if_pos c5]
              · omega
            · rw [if_neg c3]
              by_cases c4 : q + q' = -2305843009213693952
              · rw [if_pos c4]
                by_cases c5 : r + r' < 0
                · rw [if_pos c5]
                · omega
              · omega
    · rw [if_pos (by simp [hb]), show addS a b = (0, false) from if_neg (fun hh => hb hh.2.1)]
  · rw [if_neg (by simp [ha]), show addS a b = (0, false) from if_neg (fun hh => ha hh.1)]
    simp only [secateurref01_Add.j0]
    rw [if_pos trivial]
theorem bit_one (i : Nat) (hi : i < 9223372036854775808) : Go.bits BinOp.and IntKind.i64 (i : Int) 1 = ((i % 2 : Nat) : Int) := by
  have h63 : (2 : Int) ^ 63 = 9223372036854775808 := by decide
  have h := bits_mask .i64 63 (by decide) (fun n h0 h1 => by rw [h63] at h1; rw [IntKind.wrap_i64]; omega) 1 (by decide) (i : Int) (by omega) (by rw [h63]; omega)
  have e : ((2 : Int) ^ 1 - 1) = 1 := by decide
  rw [e] at h
  rw [h]
  omega
theorem S_mul_mono (a : Int) (c b : Nat) (h : c ≤ b) (hs : S (a * b)) : S (a * c) := by
  rw [S_iff] at *
  have h1 : (a * (b : Int)).natAbs = a.natAbs * b := by rw [Int.natAbs_mul]; rfl
  have h2 : (a * (c : Int)).natAbs = a.natAbs * c := by rw [Int.natAbs_mul]; rfl
  have h3 : a.natAbs * c ≤ a.natAbs * b := Nat.mul_le_mul_left _ h
  omega
def prodS (a : Int) (b : Nat) : Int × Bool := if S (a * b) then (a * b, true) else (0, false)
theorem rmul_loop (a : Int) (b : Nat) (ha : S a) (hb : b ≤ 4611686018427387904) (m : Nat) : ∀ (k : Nat), 2 * m + 3 ≤ k → m ≤ 63 → S (a * (b / 2 ^ m : Nat)) →
    secateurref01_Mul.l0 k a b (a * (b / 2 ^ m : Nat)) ((m : Int) - 1) = some (prodS a b) := by
  induction m with
  | zero =>
    intro k hk _ hs
    obtain ⟨k, rfl⟩ : ∃ m, k = m + 1 := ⟨k - 1, by omega⟩
    rw [secateurref01_Mul.l0, if_neg (by omega)]
    simp only [Nat.pow_zero, Nat.div_one] at *
    unfold prodS
    rw [if_pos hs]
  | succ m ih =>
    intro k hk hm hs
    obtain ⟨k, rfl⟩ : ∃ m, k = m + 2 := ⟨k - 2, by omega⟩
    have e0 : ((m + 1 : Nat) : Int) - 1 = (m : Int) := by omega
    rw [e0]
    have hdiv : b / 2 ^ (m + 1) = b / 2 ^ m / 2 := by rw [Nat.pow_succ, Nat.div_div_eq_div_mul]
    have hle : b / 2 ^ m ≤ b := Nat.div_le_self _ _
    rw [hdiv] at hs ⊢
    generalize hc : b / 2 ^ m = c at hs hle ih hdiv ⊢
    have hbad : ∀ d : Nat, d ≤ b → ¬ S (a * d) → prodS a b = (0, false) := fun d hd hn => if_neg (fun hh => hn (S_mul_mono a d b hd hh))
    have hshift : shr .i64 (b : Int) (m : Int) = (c : Int) := by
      unfold shr
      have e1 : min ((m : Int)).toNat IntKind.i64.bits = m := by simp only [IntKind.bits, Int.toNat_natCast]; omega
      rw [e1, ← hc]; simp
    have e2 : wrap64 ((m : Int) - 1) = (m : Int) - 1 := wrap_id _ (by omega)
    rw [secateurref01_Mul.l0, if_pos (by omega), radd_eq _ _ _ (by omega)]
    simp only [Option.bind_some]
    have e3 : a * ((c / 2 : Nat) : Int) + a * ((c / 2 : Nat) : Int) = a * ((2 * (c / 2) : Nat) : Int) := by
      rw [← Int.mul_add]; congr 1; omega
    rw [hshift, bit_one c (by omega)]
    by_cases h1 : S (a * ((2 * (c / 2) : Nat) : Int))
    · have ea : addS (a * ((c / 2 : Nat) : Int)) (a * ((c / 2 : Nat) : Int)) = (a * ((2 * (c / 2) : Nat) : Int), true) := by
        unfold addS; rw [e3]; rw [if_pos ⟨hs, hs, h1⟩]
      rw [ea, if_pos rfl, if_pos (by omega)]
      by_cases hbit : c % 2 = 1
      · have eb : (((c % 2 : Nat) : Int) == 1) = true := by simp; omega
        rw [eb, secateurref01_Mul.j3, if_pos rfl, radd_eq _ _ _ (by omega)]
        simp only [Option.bind_some]
        have e4 : a * ((2 * (c / 2) : Nat) : Int) + a = a * (c : Int) := by
          have : (c : Int) = ((2 * (c / 2) : Nat) : Int) + 1 := by omega
          rw [this, Int.mul_add, Int.mul_one]
        by_cases h2 : S (a * (c : Int))
        · have ea2 : addS (a * ((2 * (c / 2) : Nat) : Int)) a = (a * (c : Int), true) := by
            unfold addS; rw [e4]; rw [if_pos ⟨h1, ha, h2⟩]
          rw [ea2, if_pos rfl, e2]
          exact ih k (by omega) (by omega) h2
        · have ea2 : addS (a * ((2 * (c / 2) : Nat) : Int)) a = (0, false) := by
            unfold addS; rw [e4]; rw [if_neg (fun hh => h2 hh.2.2)]
          rw [ea2, if_neg (by simp), hbad c hle h2]
      · have eb : (((c % 2 : Nat) : Int) == 1) = false := by simp; omega
        have e5 : 2 * (c / 2) = c := by omega
        rw [eb, secateurref01_Mul.j3, if_neg (by simp), if_pos rfl, e2]
        rw [e5] at h1 ⊢
        exact ih k (by omega) (by omega) h1
    · have ea : addS (a * ((c / 2 : Nat) : Int)) (a * ((c / 2 : Nat) : Int)) = (0, false) := by
        unfold addS; rw [e3]; rw [if_neg (fun hh => h1 hh.2.2)]
      rw [ea, if_neg (by simp), secateurref01_Mul.j3, if_neg (by simp), if_neg (by simp), hbad (2 * (c / 2)) (by omega) h1]
theorem rmul_eq (k : Nat) (a b : Int) (hk : 140 ≤ k) : secateurref01_Mul.f k a b = some (mulS a b) := by
  obtain ⟨k, rfl⟩ : ∃ m, k = m + 2 := ⟨k - 2, by omega⟩
  unfold secateurref01_Mul.f
  rw [rsmall_eq a]
  simp only [Option.bind_some]
  have hz : ∀ (a' : Int) (b' : Nat), S a' → b' ≤ 4611686018427387904 → secateurref01_Mul.l0 k a' b' 0 62 = some (prodS a' b') := by
    intro a' b' ha hb
    have e : b' / 2 ^ 63 = 0 := by omega
    have := rmul_loop a' b' ha hb 63 k (by omega) (by omega) (by rw [e]; simp; exact S_iff.2 (by omega))
    rw [e] at this
    simpa using this
  by_cases ha : S a
  · rw [if_pos (by simp [ha]), rsmall_eq b]
    simp only [Option.bind_some, secateurref01_Mul.j0]
    by_cases hb : S b
    · rw [if_neg (by simp [hb])]
      have ha' := S_iff.1 ha
      have hb' := S_iff.1 hb
      by_cases hn : b < 0
      · rw [if_pos hn, wrap_id (-a) (by omega), wrap_id (-b) (by omega)]
        obtain ⟨n, hn'⟩ : ∃ n : Nat, -b = n := ⟨b.natAbs, by omega⟩
        rw [hn', secateurref01_Mul.j1, hz (-a) n (S_iff.2 (by omega)) (by omega)]
        have e : -a * (n : Int) = a * b := by rw [← hn', Int.neg_mul_neg]
        unfold prodS mulS
        rw [e]
        by_cases hs : S (a * b)
        · rw [if_pos hs, if_pos ⟨ha, hb, hs⟩]
        · rw [if_neg hs, if_neg (fun hh => hs hh.2.2)]
      · rw [if_neg hn]
        obtain ⟨n, rfl⟩ : ∃ n : Nat, b = n := ⟨b.natAbs, by omega⟩
        rw [secateurref01_Mul.j1, hz a n ha (by omega)]
        unfold prodS mulS
        by_cases hs : S (a * n)
        · rw [if_pos hs, if_pos ⟨ha, hb, hs⟩]
        · rw [if_neg hs, if_neg (fun hh => hs hh.2.2)]
    · rw [if_pos (by simp [hb]), show mulS a b = (0, false) from if_neg (fun hh => hb hh.2.1)]
  · rw [if_neg (by simp [ha]), show mulS a b = (0, false) from if_neg (fun hh => ha hh.1)]
    simp only [secateurref01_Mul.j0]
    rw [if_pos trivial]
/-! The reference's Check, Back, Without and Replay answer as package steps does -/
theorem rcheck_eq (a b c d e n : Int) : secateurref15_Check.f a b c d e n = some (if okS a b c d n then 0 else 150) := by
  unfold secateurref15_Check.f
  by_cases h : okS a b c d n
  · rw [if_pos h]
    unfold okS at h
    (repeat' split) <;> first | rfl | (exfalso; omega)
  · rw [if_neg h]
    unfold okS at h
    (repeat' split) <;> first | rfl | (exfalso; omega)
def putS (v : Int) (p : Nat) (xs : List Int) : List Int := xs.take p ++ v :: xs.drop p
theorem put_len (v : Int) (p : Nat) (xs : List Int) (hp : p ≤ xs.length) : (putS v p xs).length = xs.length + 1 := by
  unfold putS; simp; omega
theorem put_at (v : Int) (p : Nat) (xs : List Int) (hp : p ≤ xs.length) (i : Nat) : (putS v p xs)[i]? = if i < p then xs[i]? else if i = p then some v else xs[i - 1]? := by
  unfold putS
  have hl : (xs.take p).length = p := by simp; omega
  by_cases h1 : i < p
  · rw [if_pos h1, List.getElem?_append_left (by omega), List.getElem?_take, if_pos h1]
  · rw [if_neg h1, List.getElem?_append_right (by omega), hl]
    by_cases h2 : i = p
    · rw [if_pos h2, h2, Nat.sub_self]; rfl
    · rw [if_neg h2]
      obtain ⟨j, hj⟩ : ∃ j, i - p = j + 1 := ⟨i - p - 1, by omega⟩
      rw [hj, List.getElem?_cons_succ, List.getElem?_drop]
      congr 1
      omega
theorem take_snoc {T : List Int} {i : Nat} {x : Int} (h : T[i]? = some x) : T.take i ++ [x] = T.take (i + 1) := by
  rw [List.take_add_one, h]; rfl
theorem rd_some (xs : List Int) (i : Nat) (h : i < xs.length) : xs[i]? = some (rd xs (i : Int)) := by
  simp [rd, List.getD_eq_getElem?_getD, List.getElem?_eq_getElem h]
theorem rback_loop (xs : List Int) (v a c e f : Int) (p : Nat) (hp : p ≤ xs.length) (hx : xs.length ≤ 100) (m : Nat) : ∀ (k i : Nat), m + i = xs.length + 1 → m + 1 ≤ k →
    secateurref15_Back.l0 k xs v ((putS v p xs).take (if i ≤ p then i else i + 1)) (i : Int) a (p : Int) c e f = some (putS v p xs, 0) := by
  have hT := put_len v p xs hp
  induction m with
  | zero =>
    intro k i hm hk
    obtain ⟨k, rfl⟩ : ∃ q, k = q + 1 := ⟨k - 1, by omega⟩
    rw [secateurref15_Back.l0, if_neg (by omega), if_neg (by omega), List.take_of_length_le (by omega)]
  | succ m ih =>
    intro k i hm hk
    obtain ⟨k, rfl⟩ : ∃ q, k = q + 1 := ⟨k - 1, by omega⟩
    have hw : wrap64 ((i : Int) + 1) = ((i + 1 : Nat) : Int) := by rw [wrap_id _ (by omega)]; omega
    have hlt : ∀ j, ((putS v p xs).take j).length < 17592186044416 := fun j => by rw [List.length_take]; omega
    have hn := ih k (i + 1) (by omega) (by omega)
    rw [secateurref15_Back.l0, if_pos (by omega), hw]
    by_cases hip : i = p
    · have h1 : (putS v p xs)[i]? = some v := by rw [put_at v p xs hp, if_neg (by omega), if_pos hip]
      rw [if_neg (by omega)] at hn
      rw [if_pos (show (i : Int) = (p : Int) by omega), if_pos (show i ≤ p by omega), if_pos (hlt _), take_snoc h1, Option.bind_some]
      by_cases hil : i < xs.length
      · have h2 : (putS v p xs)[i + 1]? = some (rd xs i) := by rw [put_at v p xs hp, if_neg (by omega), if_neg (by omega), ← rd_some xs i hil]; rfl
        rw [if_pos (by omega), if_pos (by omega), if_pos (hlt _), take_snoc h2]
        exact hn
      · rw [if_neg (by omega)]
        rw [List.take_of_length_le (by omega)] at hn ⊢
        exact hn
    · rw [if_neg (c := (i : Int) = (p : Int)) (by omega)]
      by_cases hil : i < xs.length
      · rw [if_pos (by omega), if_pos (by omega)]
        by_cases h : i ≤ p
        · have h2 : (putS v p xs)[i]? = some (rd xs i) := by rw [put_at v p xs hp, if_pos (by omega), ← rd_some xs i hil]
          rw [if_pos (by omega)] at hn
          rw [if_pos h, if_pos (hlt _), take_snoc h2]
          exact hn
        · have h2 : (putS v p xs)[i + 1]? = some (rd xs i) := by rw [put_at v p xs hp, if_neg (by omega), if_neg (by omega), ← rd_some xs i hil]; rfl
          rw [if_neg (by omega)] at hn
          rw [if_neg h, if_pos (hlt _), take_snoc h2]
          exact hn
      · rw [if_neg (by omega), if_neg (by omega)]
        rw [if_neg (by omega)] at hn
        rw [List.take_of_length_le (by omega)] at hn ⊢
        exact hn
theorem rback_j1 (xs : List Int) (v : Int) (q : Bool) (a b c e f : Int) (hb : 0 ≤ b ∧ b ≤ xs.length) (hx : xs.length ≤ 100) (k : Nat) (hk : 110 ≤ k) :
    secateurref15_Back.j1 k xs v q a b c e f = some (if q = true then ([], 10) else (putS v b.toNat xs, 0)) := by
  obtain ⟨k, rfl⟩ : ∃ q, k = q + 1 := ⟨k - 1, by omega⟩
  rw [secateurref15_Back.j1]
  by_cases hq : q = true
  · rw [if_pos hq, if_pos hq]
  · rw [if_neg hq, if_neg hq]
    have := rback_loop xs v a c e f b.toNat (by omega) hx (xs.length + 1) k 0 (by omega) (by omega)
    rw [if_pos (by omega), show ((b.toNat : Nat) : Int) = b by omega] at this
    exact this
theorem rback_j0 (xs : List Int) (v : Int) (q : Bool) (a b c e f : Int) (hb : 0 ≤ b ∧ b ≤ xs.length) (hx : xs.length ≤ 100) (k : Nat) (hk : 120 ≤ k) :
    secateurref15_Back.j0 k xs v q a b c e f = some (if (if q = true then addS v f else (0, false)).2 = true then (putS (if q = true then addS v f else (0, false)).1 b.toNat xs, 0) else ([], 10)) := by
  obtain ⟨k, rfl⟩ : ∃ q, k = q + 1 := ⟨k - 1, by omega⟩
  rw [secateurref15_Back.j0, radd_eq _ _ _ (by omega), Option.bind_some]
  by_cases hq : q = true
  · rw [if_pos hq, if_pos hq, rback_j1 _ _ _ _ _ _ _ _ hb hx _ (by omega)]
    cases h : (addS v f).2 <;> rfl
  · rw [if_neg hq, if_neg hq, rback_j1 _ _ _ _ _ _ _ _ hb hx _ (by omega)]
    rfl
theorem rback_eq (k : Nat) (hk : 200 ≤ k) (s : S23) (xs : List Int) (hx : xs.length ≤ 100) : secateurref15_Back.f k s.f0 s.f1 s.f2 s.f3 s.f4 xs = some (backS s xs) := by
  unfold secateurref15_Back.f backS
  rw [rcheck_eq, Option.bind_some]
  by_cases hc : okS s.f0 s.f1 s.f2 s.f3 xs.length
  · rw [if_pos hc, if_pos hc, if_pos rfl]
    have hb : 0 ≤ s.f1 ∧ s.f1 ≤ xs.length := ⟨hc.2.1, hc.2.2.1⟩
    have hv : ∀ o : Option (List Int × Int), o = some (if (valueS s.f0 s.f2 s.f3 s.f4 xs).2 = true then (putS (valueS s.f0 s.f2 s.f3 s.f4 xs).1 s.f1.toNat xs, 0) else ([], 10)) → o = some (if (valueS s.f0 s.f2 s.f3 s.f4 xs).2 = true then (xs.take s.f1.toNat ++ (valueS s.f0 s.f2 s.f3 s.f4 xs).1 :: xs.drop s.f1.toNat, 0) else ([], 10)) := fun o h => h
    apply hv
    unfold valueS
    by_cases ha : s.f0 = 1
    · have h2 : 0 ≤ s.f2 ∧ s.f2 < xs.length := by
        rcases hc.2.2.2 with h | h
        · omega
        · exact h.2
      rw [if_pos ha, if_pos ha, if_pos h2.1, if_pos h2.2, rmul_eq _ _ _ (by omega), Option.bind_some, rback_j0 _ _ _ _ _ _ _ _ hb hx _ (by omega)]
    · rw [if_neg ha, if_neg ha, rback_j0 _ _ _ _ _ _ _ _ hb hx _ (by omega)]
      rfl
  · rw [if_neg hc, if_neg hc, if_neg (by omega)]
theorem rwithout_loop (s : S23) (xs : List Int) (hx : xs.length ≤ 90) (m : Nat) : ∀ (k i : Nat), m + i = xs.length → m + 210 ≤ k →
    secateurref15_Without.l0 k xs (if 0 ≤ s.f1 ∧ s.f1 < i then dropAt (xs.take i) s.f1.toNat else xs.take i) (i : Int) s.f0 s.f1 s.f2 s.f3 s.f4 = some (withoutS s xs) := by
  induction m with
  | zero =>
    intro k i hm hk
    obtain ⟨k, rfl⟩ : ∃ q, k = q + 1 := ⟨k - 1, by omega⟩
    have hi : i = xs.length := by omega
    subst hi
    rw [secateurref15_Without.l0, if_neg (by omega), List.take_length]
    unfold withoutS
    by_cases hp : 0 ≤ s.f1 ∧ s.f1 < xs.length
    · have hd : (dropAt xs s.f1.toNat).length = xs.length - 1 := by simp [dropAt]; omega
      rw [if_pos hp, rback_eq _ (by omega) _ _ (by omega), Option.bind_some, if_neg (by omega)]
      by_cases h2 : (backS s (dropAt xs s.f1.toNat)).2 = 0
      · have h3 := back_len s _ h2
        rw [if_pos h2, nums_eq k _ _ (by omega) (by omega), Option.bind_some]
        by_cases h4 : (backS s (dropAt xs s.f1.toNat)).1 = xs
        · rw [if_pos (decide_eq_true h4), if_pos ⟨hp.1, hp.2, Prod.ext h4 h2⟩]
        · rw [if_neg (by simpa using h4), if_neg (fun hh => h4 (by rw [hh.2.2]))]
      · rw [if_neg h2, if_neg (fun hh => h2 (by rw [hh.2.2]))]
    · rw [if_neg hp, rback_eq _ (by omega) _ _ (by omega), Option.bind_some, if_pos rfl, if_neg (fun hh => hp ⟨hh.1, hh.2.1⟩)]
  | succ m ih =>
    intro k i hm hk
    obtain ⟨k, rfl⟩ : ∃ q, k = q + 1 := ⟨k - 1, by omega⟩
    have hw : wrap64 ((i : Int) + 1) = ((i + 1 : Nat) : Int) := by rw [wrap_id _ (by omega)]; omega
    have hn := ih k (i + 1) (by omega) (by omega)
    have hsn : xs.take i ++ [rd xs i] = xs.take (i + 1) := take_snoc (rd_some xs i (by omega))
    rw [secateurref15_Without.l0, if_pos (by omega), hw]
    by_cases hip : (i : Int) = s.f1
    · rw [if_pos hip, if_neg (by omega)]
      rw [if_pos (by omega)] at hn
      have e : dropAt (xs.take (i + 1)) s.f1.toNat = xs.take i := by
        rw [show s.f1.toNat = i by omega]
        unfold dropAt
        rw [List.take_take, Nat.min_eq_left (by omega), List.drop_of_length_le (by rw [List.length_take]; omega), List.append_nil]
      rw [e] at hn
      exact hn
    · rw [if_neg hip, if_pos (by omega)]
      by_cases hp : 0 ≤ s.f1 ∧ s.f1 < i
      · rw [if_pos ⟨hp.1, by omega⟩] at hn
        have hli : (xs.take i).length = i := by rw [List.length_take]; omega
        have e : dropAt (xs.take (i + 1)) s.f1.toNat = dropAt (xs.take i) s.f1.toNat ++ [rd xs i] := by
          rw [← hsn]
          unfold dropAt
          rw [List.take_append_of_le_length (by omega), List.drop_append_of_le_length (by omega), List.append_assoc]
        rw [e] at hn
        rw [if_pos hp, if_pos (by simp [dropAt]; omega)]
        exact hn
      · rw [if_neg (by omega)] at hn
        rw [if_neg hp, if_pos (by rw [List.length_take]; omega), hsn]
        exact hn
theorem rwithout_eq (k : Nat) (hk : 300 ≤ k) (s : S23) (xs : List Int) (hx : xs.length ≤ 90) : secateurref15_Without.f k s.f0 s.f1 s.f2 s.f3 s.f4 xs = some (withoutS s xs) := by
  unfold secateurref15_Without.f
  have := rwithout_loop s xs hx xs.length k 0 (by omega) (by omega)
  rw [if_neg (by omega)] at this
  exact this
theorem fixed_f (k : Nat) (hk : 400 ≤ k) : secateurlaw15_fixed.f k = some true := if_pos hk
theorem mnc (c n : Nat) : mn (n : Int) (c : Int) = ((min n c : Nat) : Int) := by unfold mn; split <;> omega
theorem back_max (s : S23) (xs : List Int) (hx : xs.length ≤ 40) : (backS s xs).1.length ≤ 41 := by
  by_cases h : (backS s xs).2 = 0
  · rw [back_len s xs h]; omega
  · unfold backS at *
    split
    · rename_i hc
      rw [if_pos hc] at h
      split
      · rename_i hv
        rw [if_pos hv] at h
        simp at h
      · simp
    · simp
theorem without_max (s : S23) (xs : List Int) (hx : xs.length ≤ 40) : (withoutS s xs).1.length ≤ 40 := by
  unfold withoutS
  split
  · simp [dropAt]; omega
  · simp
theorem sb_l1 (xs ys : List Int) (he : xs = ys) (hx : xs.length ≤ 40) (m : Nat) : ∀ (k i : Nat) (l : List Int), m + i = l.length → l.length ≤ 100 → m + 410 ≤ k → secateurlaw15_StepsBack.l1 k xs ys l (i : Int) = some true := by
  subst he
  induction m with
  | zero =>
    intro k i l hm hl hk
    obtain ⟨k, rfl⟩ : ∃ q, k = q + 1 := ⟨k - 1, by omega⟩
    rw [secateurlaw15_StepsBack.l1, if_neg (by omega), nums_eq k _ _ (by omega) (by omega), fixed_f k (by omega)]
    simp
  | succ m ih =>
    intro k i l hm hl hk
    obtain ⟨k, rfl⟩ : ∃ q, k = q + 1 := ⟨k - 1, by omega⟩
    have hw : wrap64 ((i : Int) + 1) = ((i + 1 : Nat) : Int) := by rw [wrap_id _ (by omega)]; omega
    rw [secateurlaw15_StepsBack.l1, if_pos (by omega), if_pos (by omega), hw]
    exact ih k (i + 1) _ (by rw [List.length_set]; omega) (by rw [List.length_set]; omega) (by omega)
theorem sb_l0 (xs ys : List Int) (he : xs = ys) (hx : xs.length ≤ 40) (l2 : List Int) (h2 : l2.length ≤ 100) (m : Nat) : ∀ (k i : Nat) (l : List Int), m + i = l.length → l.length ≤ 100 → m + 520 ≤ k → secateurlaw15_StepsBack.l0 k xs ys l l2 (i : Int) = some true := by
  induction m with
  | zero =>
    intro k i l hm hl hk
    obtain ⟨k, rfl⟩ : ∃ q, k = q + 1 := ⟨k - 1, by omega⟩
    rw [secateurlaw15_StepsBack.l0, if_neg (by omega)]
    exact sb_l1 xs ys he hx l2.length k 0 l2 (by omega) h2 (by omega)
  | succ m ih =>
    intro k i l hm hl hk
    obtain ⟨k, rfl⟩ : ∃ q, k = q + 1 := ⟨k - 1, by omega⟩
    have hw : wrap64 ((i : Int) + 1) = ((i + 1 : Nat) : Int) := by rw [wrap_id _ (by omega)]; omega
    rw [secateurlaw15_StepsBack.l0, if_pos (by omega), if_pos (by omega), hw]
    exact ih k (i + 1) _ (by rw [List.length_set]; omega) (by rw [List.length_set]; omega) (by omega)
theorem sb_j0 (xs l1 l2 : List Int) (hx : xs.length ≤ 40) (h1 : l1.length ≤ 100) (h2 : l2.length ≤ 100) (k : Nat) (hk : 640 ≤ k) : secateurlaw15_StepsBack.j0 k xs xs l1 l2 false = some true := by
  obtain ⟨k, rfl⟩ : ∃ q, k = q + 1 := ⟨k - 1, by omega⟩
  rw [secateurlaw15_StepsBack.j0, if_neg (by simp)]
  exact sb_l0 xs xs rfl hx l2 h2 l1.length k 0 l1 (by omega) h1 (by omega)
theorem StepsBack_pure (a b c d e : Int) (xs : List Int) (n : Int) : secateurlaw15_StepsBack.f 1000 a b c d e xs n = some true := by
  unfold secateurlaw15_StepsBack.f
  rw [show (40 : Int) = ((40 : Nat) : Int) from rfl, mnc]
  simp only [Int.toNat_natCast]
  have hx : (xs.take (min xs.length 40)).length ≤ 40 := by rw [List.length_take]; omega
  rw [if_pos (by omega), if_pos (by omega), Option.bind_some]
  generalize xs.take (min xs.length 40) = xs at *
  rw [Option.bind_some, if_pos (by rw [List.length_nil]; omega), Option.bind_some, List.nil_append]
  rw [show steps_Back.f 1000 a b c d e xs = _ from back_total 1000 (by omega) ⟨a, b, c, d, e⟩ xs (by omega), Option.bind_some]
  rw [show secateurref15_Back.f 1000 a b c d e xs = _ from rback_eq 1000 (by omega) ⟨a, b, c, d, e⟩ xs (by omega), Option.bind_some]
  rw [show steps_Without.f 1000 a b c d e xs = _ from without_total 1000 ⟨a, b, c, d, e⟩ xs (by omega) (by omega), Option.bind_some]
  rw [show secateurref15_Without.f 1000 a b c d e xs = _ from rwithout_eq 1000 (by omega) ⟨a, b, c, d, e⟩ xs (by omega), Option.bind_some]
  rw [check_total _ (by omega), Option.bind_some, rcheck_eq, Option.bind_some, if_pos rfl, if_pos rfl]
  have hb := back_max ⟨a, b, c, d, e⟩ xs hx
  have hw := without_max ⟨a, b, c, d, e⟩ xs hx
  rw [nums_eq _ _ _ (by omega) (by omega), Option.bind_some, if_pos (by simp), if_neg (by simp), nums_eq _ _ _ (by omega) (by omega), Option.bind_some]
  rw [show (!decide ((withoutS ⟨a, b, c, d, e⟩ xs).1 = (withoutS ⟨a, b, c, d, e⟩ xs).1)) = false by simp]
  exact sb_j0 xs _ _ hx (by omega) (by omega) 1000 (by omega)
end Go.Proofs.Ytommjjjlljmpbaa.PSteps

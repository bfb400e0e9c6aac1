/- What steps.Replay answers, in whatever memory: Back of the last step, of the one ahead of it, and so on. No conditions but the lengths bounds. -/
import Derived.Laws.MathBits
import Derived.RangeFuncNested
import Derived.RangeFuncBound
import Derived.RangeFuncCalls
import Derived.RangeFuncLeaves
import Derived.RangeFuncFrom
import Derived.RangeFuncBox
import Derived.Shelf.Abstract
import Derived.Shelf.RegionOpen
import Derived.OwnWalkIn
import Derived.TacticsInMore
import Derived.LoopNIn
import Derived.LoopIn
import Derived.Test.YtommjjjlljmpbaaLib
import Derived.Test.YtommjjjlljmpbaaPStepsx2
set_option linter.unusedVariables false
set_option linter.unusedSimpArgs false
namespace Go.Proofs.Ytommjjjlljmpbaa.PSteps
open Go.RowKit Go.Shelf Go.Proofs.YtommjjjlljmpbaaW.PrintWords Go.Proofs.YtommjjjlljmpbaaW.PrintLast Go.Proofs.YtommjjjlljmpbaaW.PrintMore
attribute [local go_sem] max2_int min2_int max_two min_two max_three min_three max_four min_four
attribute [local go_sem] Oper.semAt_some
def S (n : Int) : Prop := -4611686018427387904 ≤ n ∧ n ≤ 4611686018427387904
instance (n : Int) : Decidable (S n) := inferInstanceAs (Decidable (_ ∧ _))
theorem S_iff {n : Int} : S n ↔ -4611686018427387904 ≤ n ∧ n ≤ 4611686018427387904 := Iff.rfl
theorem not_S {n : Int} (h : n < -4611686018427387904 ∨ 4611686018427387904 < n) : ¬ S n := by unfold S; omega

theorem small_step (k : Nat) (xs : List Int) (i : Int) (h0 : 0 ≤ i) (h1 : i < (xs.length : Int)) (h2 : i < 100) :
    ints_small.l0 (k + 1) xs (xs.length : Int) i = if S (rd xs i) then ints_small.l0 k xs (xs.length : Int) (i + 1) else some false := by
  rw [ints_small.l0, if_pos h1, if_pos h0, if_pos h1]
  have hw : wrap64 (i + 1) = i + 1 := by unfold wrap64; omega
  rw [hw]
  by_cases c1 : rd xs i < -4611686018427387904
  · rw [if_pos c1, if_neg (not_S (.inl c1))]
  · rw [if_neg c1]
    by_cases c2 : rd xs i > 4611686018427387904
    · rw [if_pos c2, if_neg (not_S (.inr c2))]
    · rw [if_neg c2, if_pos (S_iff.2 (by omega))]
theorem small_end (k : Nat) (xs : List Int) (i : Int) (h : ¬ i < (xs.length : Int)) : ints_small.l0 (k + 1) xs (xs.length : Int) i = some true := by
  rw [ints_small.l0, if_neg h]
theorem small_one (k : Nat) (a : Int) (hk : 2 ≤ k) : ints_small.f k [a] = some (decide (S a)) := by
  obtain ⟨k, rfl⟩ : ∃ m, k = m + 2 := ⟨k - 2, by omega⟩
  unfold ints_small.f
  rw [small_step _ _ _ (by simp) (by simp) (by omega)]
  simp only [rd, Int.toNat_zero, List.getD_cons_zero]
  by_cases h : S a
  · rw [if_pos h, small_end _ _ _ (by simp)]; simp [h]
  · rw [if_neg h]; simp [h]
theorem small_two (k : Nat) (a b : Int) (hk : 3 ≤ k) : ints_small.f k [a, b] = some (decide (S a ∧ S b)) := by
  obtain ⟨k, rfl⟩ : ∃ m, k = m + 3 := ⟨k - 3, by omega⟩
  unfold ints_small.f
  rw [small_step _ _ _ (by simp) (by simp) (by omega), small_step _ _ _ (by simp) (by simp) (by omega), small_end _ _ _ (by simp)]
  have e1 : rd [a, b] 0 = a := rfl
  have e2 : rd [a, b] (0 + 1) = b := rfl
  rw [e1, e2]
  by_cases h : S a <;> by_cases h' : S b <;> simp [h, h']
theorem told_eq (k : Nat) (a : Int) (hk : 2 ≤ k) : ints_told.f k a = some (if S a then (a, true) else (0, false)) := by
  unfold ints_told.f
  rw [small_one k a hk]
  simp only [Option.bind_some]
  by_cases h : S a <;> simp [h]

/-- The sum of two numbers, watched. -/
def addS (a b : Int) : Int × Bool := if S a ∧ S b ∧ S (a + b) then (a + b, true) else (0, false)
theorem wrap_id (x : Int) (h : -9223372036854775808 ≤ x ∧ x ≤ 9223372036854775807) : wrap64 x = x := by unfold wrap64; omega
theorem add_eq (k : Nat) (a b : Int) (hk : 3 ≤ k) : ints_Add.f k a b = some (addS a b) := by
  unfold ints_Add.f
  rw [small_two k a b hk]
  simp only [Option.bind_some, told_eq k _ (by omega : 2 ≤ k)]
  by_cases h : S a ∧ S b
  · rw [if_pos (by simp [h])]
    have ha := S_iff.1 h.1
    have hb := S_iff.1 h.2
    by_cases hs : S (a + b)
    · rw [show addS a b = (a + b, true) from if_pos ⟨h.1, h.2, hs⟩]
      have hs' := S_iff.1 hs
      by_cases c1 : a > 0
      · rw [if_pos c1, wrap_id (4611686018427387904 - a) (by omega), if_neg (by omega), if_neg (by omega), wrap_id (a + b) (by omega), if_pos hs]
      · rw [if_neg c1]
        by_cases c2 : a < 0
        · rw [if_pos c2, wrap_id (-4611686018427387904 - a) (by omega), if_neg (by omega), wrap_id (a + b) (by omega), if_pos hs]
        · rw [if_neg c2, wrap_id (a + b) (by omega), if_pos hs]
    · rw [show addS a b = (0, false) from if_neg (fun hh => hs hh.2.2)]
      have hs' : ¬ (-4611686018427387904 ≤ a + b ∧ a + b ≤ 4611686018427387904) := fun hh => hs (S_iff.2 hh)
      by_cases c1 : a > 0
      · rw [if_pos c1, wrap_id (4611686018427387904 - a) (by omega), if_pos (by omega)]
      · rw [if_neg c1]
        by_cases c2 : a < 0
        · rw [if_pos c2, wrap_id (-4611686018427387904 - a) (by omega), if_pos (by omega)]
        · omega
  · rw [if_neg (by simpa using h)]
    rw [show addS a b = (0, false) from if_neg (fun hh => h ⟨hh.1, hh.2.1⟩)]

theorem size_eq (a : Int) (h : S a) : ints_size.f a = some (a.natAbs : Int) := by
  rw [S_iff] at h
  unfold ints_size.f
  rw [IntKind.wrap_u64, IntKind.wrap_u64]
  split <;> congr 1 <;> omega
theorem mul64_eq (x y : Nat) (hx : x ≤ 4611686018427387904) (hy : y ≤ 4611686018427387904) : bits_Mul64.f x y = some ((x : Int) * y / 18446744073709551616, (x : Int) * y % 18446744073709551616) := by
  unfold bits_Mul64.f
  simp only [IntKind.wrap_u64]
  have h := mul64_arith x y (by omega) (by omega) (by omega) (by omega)
  rw [and_low32 (x : Int) (by omega) (by omega), and_low32 (y : Int) (by omega) (by omega), and_low32 _ (by omega) (by omega)]
  rw [h]

def mulS (a b : Int) : Int × Bool := if S a ∧ S b ∧ S (a * b) then (a * b, true) else (0, false)
theorem abs_mul_cases (a b : Int) : a * b = if (decide (a < 0) != decide (b < 0)) then -((a.natAbs * b.natAbs : Nat) : Int) else ((a.natAbs * b.natAbs : Nat) : Int) := by
  rcases Int.natAbs_eq a with h1 | h1 <;> rcases Int.natAbs_eq b with h2 | h2 <;>
    (generalize hp : a.natAbs = p at *; generalize hq : b.natAbs = q at *; subst h1; subst h2)
  · rw [show (decide ((p : Int) < 0)) = false by simp; done, show (decide ((q : Int) < 0)) = false by simp; done]; simp [Int.mul_neg, Int.neg_mul]
  · by_cases c : q = 0
    · subst c; simp
    · rw [show (decide ((p : Int) < 0)) = false by simp; done, show (decide (-(q : Int) < 0)) = true by simp; omega]; simp [Int.mul_neg, Int.neg_mul]
  · by_cases c : p = 0
    · subst c; simp
    · rw [show (decide ((q : Int) < 0)) = false by simp; done, show (decide (-(p : Int) < 0)) = true by simp; omega]; simp [Int.mul_neg, Int.neg_mul]
  · by_cases c : p = 0
    · subst c; simp
    · by_cases c2 : q = 0
      · subst c2; simp
      · rw [show (decide (-(q : Int) < 0)) = true by simp; omega, show (decide (-(p : Int) < 0)) = true by simp; omega]; simp [Int.mul_neg, Int.neg_mul]
theorem mul_eq (k : Nat) (a b : Int) (hk : 3 ≤ k) : ints_Mul.f k a b = some (mulS a b) := by
  unfold ints_Mul.f
  rw [small_two k a b hk]
  simp only [Option.bind_some]
  unfold mulS
  by_cases h : S a ∧ S b
  · rw [if_pos (by simp [h]), size_eq a h.1, size_eq b h.2]
    simp only [Option.bind_some]
    have ha := S_iff.1 h.1
    have hb := S_iff.1 h.2
    rw [mul64_eq _ _ (by omega) (by omega)]
    simp only [Option.bind_some]
    have hc := abs_mul_cases a b
    obtain ⟨k, rfl⟩ : ∃ m, k = m + 1 := ⟨k - 1, by omega⟩
    simp only [ints_Mul.j0]
    have hm : ((a.natAbs : Int) * (b.natAbs : Int)) = ((a.natAbs * b.natAbs : Nat) : Int) := by simp
    rw [hm]
    generalize hn : a.natAbs * b.natAbs = n at *
    rw [hc]
    by_cases hs : n ≤ 4611686018427387904
    · have e1 : (n : Int) / 18446744073709551616 = 0 := by omega
      have e2 : (n : Int) % 18446744073709551616 = n := by omega
      rw [e1, e2, if_pos rfl, if_neg (by simp; omega)]
      cases hd : (decide (a < 0) != decide (b < 0)) with
      | true =>
        rw [if_pos rfl, if_pos rfl, if_pos ⟨h.1, h.2, S_iff.2 (by omega)⟩, wrap_id (n : Int) (by omega), wrap_id (-(n : Int)) (by omega)]
      | false =>
        rw [if_neg (by simp), if_neg (c := false = true) (by simp), if_pos ⟨h.1, h.2, S_iff.2 (by omega)⟩, wrap_id (n : Int) (by omega)]
    · rw [if_neg (c := S a ∧ S b ∧ _) (by intro hh; have := S_iff.1 hh.2.2; split at this <;> omega)]
      split
      · rename_i h0
        rw [if_pos (by simp; omega)]
      · rw [if_pos trivial]
  · rw [if_neg (by simpa using h)]
    rw [if_neg (fun hh => h ⟨hh.1, hh.2.1⟩)]
theorem check_j (k : Nat) (q : Bool) (a b c d e n : Int) : steps_Check.j0 (k + 1) n q a b c d e = some (if q = true ∧ ((a = 0 ∧ c = 0 ∧ d = 0) ∨ (a = 1 ∧ 0 ≤ c ∧ c < n)) then 0 else 150) := by
  rw [steps_Check.j0]
  by_cases h0 : a = 0
  · rw [if_pos h0]
    cases q with
    | false => simp
    | true =>
      rw [if_pos rfl]
      by_cases h1 : c = 0
      · rw [if_pos h1]
        by_cases h2 : d = 0
        · rw [if_pos h2, if_pos ⟨rfl, .inl ⟨h0, h1, h2⟩⟩]
        · rw [if_neg h2, if_neg (fun hh => by rcases hh.2 with h | h <;> omega)]
      · rw [if_neg h1, if_neg (fun hh => by rcases hh.2 with h | h <;> omega)]
  · rw [if_neg h0]
    by_cases ha : a = 1
    · rw [if_pos ha]
      cases q with
      | false => simp
      | true =>
        rw [if_pos rfl]
        by_cases h1 : c ≥ 0
        · rw [if_pos h1]
          by_cases h2 : c < n
          · rw [if_pos h2, if_pos ⟨rfl, .inr ⟨ha, h1, h2⟩⟩]
          · rw [if_neg h2, if_neg (fun hh => by rcases hh.2 with h | h <;> omega)]
        · rw [if_neg h1, if_neg (fun hh => by rcases hh.2 with h | h <;> omega)]
    · rw [if_neg ha, if_neg (fun hh => by rcases hh.2 with h | h <;> omega)]
def okS (a b c d n : Int) : Prop := 0 ≤ n ∧ 0 ≤ b ∧ b ≤ n ∧ ((a = 0 ∧ c = 0 ∧ d = 0) ∨ (a = 1 ∧ 0 ≤ c ∧ c < n))
instance (a b c d n : Int) : Decidable (okS a b c d n) := inferInstanceAs (Decidable (_ ∧ _))
theorem check_total (k : Nat) (hk : 5 ≤ k) (a b c d e n : Int) : steps_Check.f k a b c d e n = some (if okS a b c d n then 0 else 150) := by
  obtain ⟨k, rfl⟩ : ∃ m, k = m + 1 := ⟨k - 1, by omega⟩
  unfold steps_Check.f
  rw [check_j, check_j]
  by_cases hn : n ≥ 0
  · rw [if_pos hn]
    by_cases hb : b ≥ 0
    · rw [if_pos hb]
      by_cases h : okS a b c d n
      · rw [if_pos h, if_pos ⟨decide_eq_true h.2.2.1, h.2.2.2⟩]
      · rw [if_neg h, if_neg (fun hh => h ⟨hn, hb, of_decide_eq_true hh.1, hh.2⟩)]
    · rw [if_neg hb, if_neg (c := false = true ∧ _) (by simp), if_neg (fun hh : okS a b c d n => hb hh.2.1)]
  · rw [if_neg hn, if_neg (c := false = true ∧ _) (by simp), if_neg (fun hh : okS a b c d n => hn hh.1)]
def valueS (a c d e : Int) (xs : List Int) : Int × Bool := if a = 1 then (if (mulS d (rd xs c)).2 = true then addS (mulS d (rd xs c)).1 e else (0, false)) else addS 0 e
theorem value_total (k : Nat) (hk : 10 ≤ k) (a b c d e : Int) (xs : List Int) (h : a = 1 → 0 ≤ c ∧ c < xs.length) :
    steps_value.f k a b c d e xs = some (valueS a c d e xs) := by
  unfold steps_value.f valueS
  by_cases ha : a = 1
  · obtain ⟨h0, h1⟩ := h ha
    rw [if_pos ha, if_pos h0, if_pos h1, mul_eq k _ _ (by omega), if_pos ha]
    simp only [Option.bind_some]
    split
    · rw [add_eq k _ _ (by omega)]; rfl
    · rfl
  · rw [if_neg ha, if_neg ha, add_eq k _ _ (by omega)]; rfl
/-- A step that is put back: what package steps answers. -/
def backS (s : S23) (xs : List Int) : List Int × Int :=
  if okS s.f0 s.f1 s.f2 s.f3 xs.length then
    (if (valueS s.f0 s.f2 s.f3 s.f4 xs).2 = true then (xs.take s.f1.toNat ++ (valueS s.f0 s.f2 s.f3 s.f4 xs).1 :: xs.drop s.f1.toNat, 0) else ([], 10))
  else ([], 150)
theorem back_total (k : Nat) (hk : 20 ≤ k) (s : S23) (xs : List Int) (hl : xs.length < 17592186044415) : steps_Back.f k s.f0 s.f1 s.f2 s.f3 s.f4 xs = some (backS s xs) := by
  unfold steps_Back.f backS
  rw [check_total k (by omega)]
  simp only [Option.bind_some]
  by_cases hc : okS s.f0 s.f1 s.f2 s.f3 xs.length
  · rw [if_pos hc, if_pos hc, if_pos rfl, value_total k (by omega) _ _ _ _ _ _ (fun h1 => by
      rcases hc.2.2.2 with h | h
      · omega
      · exact h.2)]
    simp only [Option.bind_some]
    split
    · rw [if_pos hc.2.1, if_pos hc.2.2.1]
    · rfl
  · rw [if_neg hc, if_neg hc, if_neg (by omega)]
theorem back_len (s : S23) (xs : List Int) (h : (backS s xs).2 = 0) : (backS s xs).1.length = xs.length + 1 := by
  unfold backS at *
  by_cases hc : okS s.f0 s.f1 s.f2 s.f3 xs.length
  · rw [if_pos hc] at h ⊢
    by_cases hv : (valueS s.f0 s.f2 s.f3 s.f4 xs).2 = true
    · rw [if_pos hv]
      have := hc.2.2.1
      have := hc.2.1
      simp
      omega
    · rw [if_neg hv] at h
      simp at h
  · rw [if_neg hc] at h
    simp at h
/-! ### steps_Replay: function 18 -/
/-- Steps that are put back one behind the other, the first of the list first. -/
def steps_Replay.go (k : Nat) : List S23 → List Int → Option (List Int × Int)
  | [], xs => some (xs, 0)
  | s :: rest, xs => (steps_Back.f k s.f0 s.f1 s.f2 s.f3 s.f4 xs).bind fun b => (if b.2 = 0 then steps_Replay.go k rest b.1 else some ([], b.2))
theorem steps_Replay.go_mono (k : Nat) : ∀ l xs, LeO (steps_Replay.go k l xs) (steps_Replay.go (k + 1) l xs)
  | [], xs => LeO.refl _
  | s :: rest, xs => by
    rw [steps_Replay.go, steps_Replay.go]
    exact LeO.bind (steps_Back.mono _ _ _ _ _ _ _) (fun b => LeO.ite (steps_Replay.go_mono k rest b.1) (LeO.refl _))
def steps_Replay.f (k : Nat) (l0 : List S23) (l1 : List Int) : Option (List Int × Int) := if 20 ≤ k then (if l1.length + l0.length < 17592186044415 then steps_Replay.go k l0.reverse l1 else none) else none
theorem steps_Replay.mono : ∀ l0 l1 k, LeO (steps_Replay.f k l0 l1) (steps_Replay.f (k + 1) l0 l1) := by
  intro l0 l1 k
  unfold steps_Replay.f
  by_cases h : 20 ≤ k
  · rw [if_pos h, if_pos (c := 20 ≤ k + 1) (by omega)]
    exact LeO.ite (steps_Replay.go_mono k _ _) (LeO.refl _)
  · rw [if_neg h]
    exact LeO.none _
/-! The iterator of slices.Backward over steps -/
def sv (s : S23) : Value := .agg #[.int .i64 s.f0, .int .i64 s.f1, .int .i64 s.f2, .int .i64 s.f3, .int .i64 s.f4]
def encB (x : Nat × S23) : Array Value := #[.int .i64 (x.1 : Int), sv x.2]
def uptoB (zs : List S23) (k : Nat) : List (Nat × S23) := (List.range k).map fun t => (zs.length - 1 - t, zs.getD (zs.length - 1 - t) ⟨0, 0, 0, 0, 0⟩)
theorem uptoB_succ (zs : List S23) (k : Nat) : uptoB zs (k + 1) = uptoB zs k ++ [(zs.length - 1 - k, zs.getD (zs.length - 1 - k) ⟨0, 0, 0, 0, 0⟩)] := by simp [uptoB, List.range_succ]
theorem uptoB_length (zs : List S23) (k : Nat) : (uptoB zs k).length = k := by simp [uptoB]
theorem uptoB_map (zs : List S23) (k : Nat) (hk : k ≤ zs.length) : (uptoB zs k).map Prod.snd = zs.reverse.take k := by
  apply List.ext_getElem
  · simp [uptoB]; omega
  · intro i h1 h2
    simp [uptoB] at h1
    simp only [uptoB, List.map_map, List.getElem_map, List.getElem_range, List.getElem_take, List.getElem_reverse, Function.comp_apply]
    rw [List.getD_eq_getElem?_getD, List.getElem?_eq_getElem (by omega)]
    rfl
/-- Where the steps lie. -/
def StepCells (W : World) (b off : Nat) (zs : List S23) : Prop := ∀ j, j < zs.length → ∀ z, z = zs.getD j ⟨0, 0, 0, 0, 0⟩ →
  W.cell? ⟨b, off + j * 5, none⟩ = some (.int .i64 z.f0) ∧ W.cell? ⟨b, off + j * 5 + 1, none⟩ = some (.int .i64 z.f1) ∧ W.cell? ⟨b, off + j * 5 + 2, none⟩ = some (.int .i64 z.f2) ∧ W.cell? ⟨b, off + j * 5 + 3, none⟩ = some (.int .i64 z.f3) ∧ W.cell? ⟨b, off + j * 5 + 4, none⟩ = some (.int .i64 z.f4)
/-- What a round keeps: all below n₀, and the box that the iterator reads. -/
def KeepB (n₀ Bs : Nat) (A B : World) : Prop := Below n₀ A B ∧ B.heap[Bs]? = A.heap[Bs]?
theorem KeepB.refl (n₀ Bs : Nat) (A : World) : KeepB n₀ Bs A A := ⟨Below.refl _ _, rfl⟩
theorem KeepB.trans {n₀ Bs : Nat} {A B C : World} (h : KeepB n₀ Bs A B) (k : KeepB n₀ Bs B C) : KeepB n₀ Bs A C := ⟨h.1.trans k.1, k.2.trans h.2⟩
theorem KeepB.box {n₀ Bs : Nat} {A B : World} (h : KeepB n₀ Bs A B) {v : Value} (hc : A.cell? ⟨Bs, 0, none⟩ = some v) : B.cell? ⟨Bs, 0, none⟩ = some v := by
  unfold World.cell? at hc ⊢
  dsimp only at hc ⊢
  rw [h.2]
  exact hc
set_option maxRecDepth 100000 in
set_option maxHeartbeats 2000000 in
theorem back1_in (F : Fence) (n : Nat) (h33 : F.fn 33) (hro : F.round = none) (hn : 1 ≤ n) (l Bs n₀ b off len cap : Nat) (zs : List S23) (hlen : zs.length = len) (hpos : 0 < len) (hreach : len ≤ 140737488351232) (hcap : len ≤ cap) (hb : b < n₀) (J Jx : List (Nat × S23) → World → Prop)
    (hY : ∀ pre x W, J pre W → pre.length < len → YieldAt F (n - 1) Try.prog l (encB x) W fun e W' =>
      (e = .returned (.bool true) ∧ J (pre ++ [x]) W' ∧ KeepB n₀ Bs W W') ∨ (e = .returned (.bool false) ∧ Jx (pre ++ [x]) W'))
    (W : World) (hBs : W.cell? ⟨Bs, 0, none⟩ = some (.slice (some ⟨b, off, none⟩) len cap)) (hc : StepCells W b off zs) (h0 : J [] W) :
    CallsIn F n Try.prog 33 #[.func (.yield l) #[] #[], .pointer (some ⟨Bs, 0, none⟩)] W fun e W' => (∃ v, e = .returned v) ∧
      ((∃ ys, ys = uptoB zs len ∧ J ys W') ∨ (∃ pre, (∃ k, k ≤ len ∧ pre = uptoB zs k) ∧ Jx pre W')) := by
  have HC := Aside0.mk hc
  have HL := Aside0.mk hlen
  clear hc hlen
  refine callsIn_of_wp Try.func33 rfl h33 ?_ hro
  simp only [Try.ntmps33, List.size_toArray, List.length_cons, List.length_nil, Nat.reduceAdd, Nat.reduceSub, Array.replicate_succ, Array.replicate_zero, List.push_toArray, List.append_toArray, List.nil_append, List.cons_append]
  gi_wp2
  gi_loopw [3] (fun i wr => ∃ k : Nat, k ≤ len ∧ i = .int .i64 ((len : Int) - 1 - k) ∧ J (uptoB zs k) wr ∧ KeepB n₀ Bs W wr)
    (fun i _ => (intOf i + 1).toNat)
  case atStart => exact ⟨0, Nat.zero_le _, by simp, h0, KeepB.refl _ _ _⟩
  case round =>
    obtain ⟨k, hk, rfl, hJs, hnx⟩ := hrel
    have hBs' : wr.cell? ⟨Bs, 0, none⟩ = some (.slice (some ⟨b, off, none⟩) len cap) := hnx.box hBs
    by_cases hlt : k < len
    · obtain ⟨j, hj⟩ : ∃ j : Nat, j + 1 + k = len := ⟨len - 1 - k, by omega⟩
      have HJ := Aside0.mk hj
      have hz : zs.length - 1 - k = j := by have := HL.out; omega
      obtain ⟨z, hz'⟩ : ∃ z, z = zs.getD j ⟨0, 0, 0, 0, 0⟩ := ⟨_, rfl⟩
      obtain ⟨fn, tmps, assign, body, hy, hR⟩ := hY _ (j, z) wr hJs (by rw [uptoB_length]; exact hlt)
      dsimp only [encB, sv] at hy
      obtain ⟨c0, c1, c2, c3, c4⟩ := HC.out j (by have := HL.out; omega) z hz'
      have d0 := (hnx.1.cell (p := ⟨b, off + j * 5, none⟩) hb).trans c0
      have d1 := (hnx.1.cell (p := ⟨b, off + j * 5 + 1, none⟩) hb).trans c1
      have d2 := (hnx.1.cell (p := ⟨b, off + j * 5 + 2, none⟩) hb).trans c2
      have d3 := (hnx.1.cell (p := ⟨b, off + j * 5 + 3, none⟩) hb).trans c3
      have d4 := (hnx.1.cell (p := ⟨b, off + j * 5 + 4, none⟩) hb).trans c4
      have HU := Aside0.mk (uptoB_succ zs k)
      have HZ := Aside0.mk hz
      have HZ' := Aside0.mk hz'
      clear c0 c1 c2 c3 c4 hz hz'
      have ei : (len : Int) - 1 - k = (j : Int) := by omega
      rw [ei]
      clear hj ei
      have hjl : (j : Int) < (len : Int) := by have := HJ.out; omega
      gi_wp2
      refine hR.mono ?_
      rintro e W3 (⟨rfl, hJ3, hk3⟩ | ⟨rfl, hJx3⟩)
      · gi_wp2
        go_roundw
        case rel =>
          have hj := HJ.out
          refine ⟨k + 1, by omega, ?_, ?_, hnx.trans hk3⟩
          · congr 1; omega
          · rw [HU.out, HZ.out, ← HZ'.out]; exact hJ3
        case measure => simp [intOf] <;> omega
      · gi_wp2
        refine bodyPost_ret (results_none rfl _ _ _) rfl ?_
        exact ⟨⟨_, rfl⟩, .inr ⟨_, ⟨k + 1, by omega, (by rw [HU.out, HZ.out, ← HZ'.out])⟩, hJx3⟩⟩
    · obtain rfl : k = len := by omega
      gi_wp2
      go_end0
      exact ⟨⟨_, rfl⟩, .inl ⟨_, rfl, hJs⟩⟩
set_option maxRecDepth 100000 in
set_option maxHeartbeats 1000000 in
theorem back1_nil_in (F : Fence) (n : Nat) (h33 : F.fn 33) (hro : F.round = none) (l Bs cap : Nat) (A : Option Addr) (J : List (Nat × S23) → World → Prop) (W : World) (hBs : W.cell? ⟨Bs, 0, none⟩ = some (.slice A 0 cap)) (h0 : J [] W) :
    CallsIn F n Try.prog 33 #[.func (.yield l) #[] #[], .pointer (some ⟨Bs, 0, none⟩)] W fun e W' => (∃ v, e = .returned v) ∧ J [] W' := by
  refine callsIn_of_wp Try.func33 rfl h33 ?_ hro
  simp only [Try.ntmps33, List.size_toArray, List.length_cons, List.length_nil, Nat.reduceAdd, Nat.reduceSub, Array.replicate_succ, Array.replicate_zero, List.push_toArray, List.append_toArray, List.nil_append, List.cons_append]
  gi_wp2
  gi_loopw [3] (fun i wr => i = .int .i64 (-1) ∧ J [] wr) (fun _ _ => 0)
  case atStart => exact ⟨rfl, h0⟩
  case round =>
    obtain ⟨rfl, hJs⟩ := hrel
    gi_wp2
    go_end0
    exact ⟨⟨_, rfl⟩, hJs⟩
set_option maxHeartbeats 1000000 in
/-- slices.Backward(l): the slice value is boxed; the function value captures the box. -/
theorem backward_in (F : Fence) (n : Nat) (h27 : F.fn 27) (hro : F.round = none) (a : Option Addr) (len cap : Nat) (w : World) :
    CallsIn F n Try.prog 27 #[.slice a len cap] w fun e w' => e = .returned (.func (.func 33) #[] #[.pointer (some ⟨w.heap.size, 0, none⟩)]) ∧ w' = w.alloc (.cells #[.slice a len cap] 35) := by
  refine callsIn_of_wp Try.func27 rfl h27 ?_ hro
  simp only [Try.ntmps27, List.size_toArray, List.length_cons, List.length_nil, Nat.reduceAdd, Nat.reduceSub, Array.replicate_succ, Array.replicate_zero, List.push_toArray, List.append_toArray, List.nil_append, List.cons_append]
  gi_wp2
  go_ret
  exact ⟨rfl, rfl⟩
/-- The cells of a list of steps that is read. -/
theorem stepCells_of {w : World} {b off n : Nat} {zs : List S23} (h : Kd.C k23 w (some ⟨b, off, none⟩) n zs) : StepCells w b off zs := by
  intro j hj z hz
  have hn : zs.length = n := h.1
  obtain ⟨ad, c, e, hl, hK, hc⟩ := Kd.C_get h (⟨0, 0, 0, 0, 0⟩ : S23) (j : Int) (by omega) (by omega)
  cases e
  rw [Int.toNat_natCast, ← hz] at hK
  have := k23_open hK
  subst this
  have hs : k23.sz = 5 := rfl
  have g : ∀ t u, ([Value.int .i64 z.f0, .int .i64 z.f1, .int .i64 z.f2, .int .i64 z.f3, .int .i64 z.f4] : List Value)[t]? = some u → w.cell? ⟨b, off + j * 5 + t, none⟩ = some u := by
    intro t u hu
    have := hc t u hu
    rw [Int.toNat_natCast, hs, SLib.add_lit] at this
    rwa [Nat.add_assoc]
  exact ⟨g 0 _ rfl, g 1 _ rfl, g 2 _ rfl, g 3 _ rfl, g 4 _ rfl⟩
theorem back_stops (F : Fence) (n : Nat) (h33 : F.fn 33) (hro : F.round = none) (hn : 1 ≤ n) (Bs : Nat) (A : Option Addr) (cap : Nat) (zs : List S23) (w0 w : World) (hcap : zs.length ≤ cap) (hreach : zs.length ≤ 140737488351232) (hBs : Bs < w.heap.size)
    (hc : w.cell? ⟨Bs, 0, none⟩ = some (.slice A zs.length cap)) (hI : Kd.C k23 w0 A zs.length zs) (h0w : Below w0.heap.size w0 w) :
    SeqStopsK F n Try.prog 33 #[.pointer (some ⟨Bs, 0, none⟩)] encB (KeepB w0.heap.size Bs) (fun ys => ys.map Prod.snd = zs.reverse) (fun pre => pre.map Prod.snd <+: zs.reverse) zs.length w := fun l J Jx W hW _ _ hY h0 => by
  have hc' := (hW.cell (p := ⟨Bs, 0, none⟩) hBs).trans hc
  rcases Nat.eq_zero_or_pos zs.length with hz | hz
  · have hz' : zs = [] := List.eq_nil_of_length_eq_zero hz
    subst hz'
    refine (back1_nil_in F n h33 hro l Bs cap A J W hc' h0).mono ?_
    rintro e W' ⟨he, hj⟩
    exact ⟨he, .inl ⟨_, rfl, hj⟩⟩
  · obtain ⟨ad, e, hcs⟩ := hI.2.2 hz
    subst e
    obtain ⟨p, hp⟩ : ∃ p, zs[0]? = some p := ⟨zs[0], by simp [List.getElem?_eq_getElem hz]⟩
    obtain ⟨c, hcl, hcK, hcc⟩ := hcs 0 p hp
    have h00 : c[0]? = some (c[0]'(by rw [hcl]; decide)) := by rw [List.getElem?_eq_getElem]
    obtain ⟨b, off, rfl⟩ := SLib.spot_none (by have := hcc 0 _ h00; simpa using this)
    have hbl : b < w0.heap.size := World.block_lt_of_cell? w0 _ (by have := hcc 0 _ h00; simpa [SLib.add_lit] using this)
    have hCW := Kd.C_below hI (h0w.trans (hW.mono h0w.size))
    refine (back1_in F n h33 hro hn l Bs w0.heap.size b off zs.length cap zs rfl hz hreach hcap hbl J Jx hY W hc' (stepCells_of hCW) h0).mono ?_
    rintro e W' ⟨he, ⟨ys, rfl, hj⟩ | ⟨pre, ⟨k, hk, rfl⟩, hj⟩⟩
    · refine ⟨he, .inl ⟨_, ?_, hj⟩⟩
      show List.map Prod.snd (uptoB zs zs.length) = zs.reverse
      rw [uptoB_map zs _ (Nat.le_refl _), List.take_of_length_le (by simp)]
    · refine ⟨he, .inr ⟨_, ?_, hj⟩⟩
      show List.map Prod.snd (uptoB zs k) <+: zs.reverse
      rw [uptoB_map zs _ hk]
      exact List.take_prefix _ _
/-- The rounds so far: all steps were put back. -/
def runB : List (Nat × S23) → List Int → Option (List Int)
  | [], xs => some xs
  | s :: rest, xs => if (backS s.2 xs).2 = 0 then runB rest (backS s.2 xs).1 else none
theorem runB_snoc (pre : List (Nat × S23)) (x : Nat × S23) : ∀ xs, runB (pre ++ [x]) xs = (runB pre xs).bind fun ys => if (backS x.2 ys).2 = 0 then some (backS x.2 ys).1 else none := by
  induction pre with
  | nil => intro xs; simp [runB]
  | cons s pre ih =>
    intro xs
    rw [List.cons_append, runB, runB]
    split
    · exact ih _
    · rfl
theorem runB_len (pre : List (Nat × S23)) : ∀ xs ys, runB pre xs = some ys → ys.length = xs.length + pre.length := by
  induction pre with
  | nil => intro xs ys h; simp [runB] at h; simp [h]
  | cons s pre ih =>
    intro xs ys h
    rw [runB] at h
    split at h
    · rename_i h0
      have := ih _ _ h
      rw [back_len _ _ h0] at this
      simp; omega
    · cases h
/-- What is to be answered, when the rounds so far went well, or have come to an error. -/
theorem go_of_run (k : Nat) (hk : 20 ≤ k) (pre : List (Nat × S23)) : ∀ (rest : List S23) (xs ys : List Int), xs.length + pre.length < 17592186044415 → runB pre xs = some ys → steps_Replay.go k (pre.map Prod.snd ++ rest) xs = steps_Replay.go k rest ys := by
  induction pre with
  | nil => intro rest xs ys _ h; simp [runB] at h; simp [h]
  | cons s pre ih =>
    intro rest xs ys hl h
    rw [runB] at h
    simp only [List.length_cons] at hl
    split at h
    · rename_i h0
      rw [List.map_cons, List.cons_append, steps_Replay.go, back_total k hk _ _ (by omega)]
      simp only [Option.bind_some]
      rw [if_pos h0]
      exact ih rest _ ys (by rw [back_len _ _ h0]; omega) h
    · cases h
theorem go_of_fall (k : Nat) (hk : 20 ≤ k) (pre : List (Nat × S23)) (x : Nat × S23) (rest : List S23) (xs ys : List Int) (hl : xs.length + pre.length + 1 < 17592186044415) (h : runB pre xs = some ys) (he : (backS x.2 ys).2 ≠ 0) :
    steps_Replay.go k ((pre ++ [x]).map Prod.snd ++ rest) xs = some ([], (backS x.2 ys).2) := by
  rw [List.map_append, List.append_assoc, go_of_run k hk pre _ xs ys (by omega) h]
  have hy := runB_len pre xs ys h
  show steps_Replay.go k (x.2 :: rest) ys = _
  rw [steps_Replay.go, back_total k hk _ _ (by omega)]
  simp only [Option.bind_some]
  rw [if_neg he]
theorem Below.boxed {B b : Nat} {w w' : World} {t : TypeId} {v : Value} (h : Below B w w') (hb : b < B) (hx : Boxed w b t v) : Boxed w' b t v := (h.block b hb).trans hx
theorem own_kept {w w' : World} {base : Nat} {n : Nat} {v : Value} {xs : List Value} {row : Option Nat} (h : w.ownsRow base 3 1 v n xs) (hg : w.grownBy w' row) (hr : ∀ r, row = some r → ∃ o : Obj, w.heap[r]? = some o ∧ o.isCells = false) : w'.ownsRow base 3 1 v n xs := by
  refine h.kept hg ?_
  rcases hb : v.ownBlock with _ | b
  · exact .inl rfl
  · refine .inr fun e => ?_
    obtain ⟨cells, hc⟩ := own_typed h b hb
    obtain ⟨o, ho, ht⟩ := hr b e.symm
    rw [hc] at ho
    cases ho
    cases ht
theorem own_box_set {w : World} {base n B : Nat} {t : TypeId} {v u0 : Value} {xs : List Value} (h : w.ownsRow base 3 1 v n xs) (hb : Boxed w B t u0) (ht : (3 : TypeId) ≠ t) (u : Value) : (w.setCell ⟨B, 0, none⟩ u).ownsRow base 3 1 v n xs := by
  refine h.kept (grownBy_setCell' w B u) ?_
  rcases hv : v.ownBlock with _ | b
  · exact .inl rfl
  · refine .inr fun e => ?_
    cases e
    obtain ⟨cells, hc⟩ := own_typed h B hv
    rw [show w.heap[B]? = _ from hb] at hc
    injection hc with hc
    injection hc with _ hc
    exact ht hc.symm
set_option maxRecDepth 100000 in
set_option maxHeartbeats 4000000 in
theorem steps_Replay.walk (k : Nat) (A0 : Option Addr) (c0 : Nat) (l0 : List (S23)) (A1 : Option Addr) (c1 : Nat) (l1 : List Int) (r1 : List Int) (r2 : Int) (w : World) (hr0 : Aside0 (Kd.C k23 w A0 l0.length l0)) (hc0 : l0.length ≤ c0) (hr1 : Aside0 (Kd.C (Kd.int .i64) w A1 l1.length l1)) (hc1 : l1.length ≤ c1) (hk : 20 ≤ k) (hlen : l1.length + l0.length < 17592186044415) (h : Aside0 (steps_Replay.go k l0.reverse l1 = some (r1, r2))) :
    CallsIn Fence.wide 6 Try.prog 18 #[.slice A0 l0.length c0, .slice A1 l1.length c1] w fun e w' => ∃ v0_ : Value, e = .returned (.tuple #[v0_, .int .i64 r2]) ∧ w'.ownsRow w.heap.size 3 1 v0_ r1.length (nums .i64 r1) ∧ Below w.heap.size w w' := by
  have hro : Fence.wide.round = none := rfl
  refine callsIn_of_wp_marks Try.func18 rfl trivial ?_ hro
  simp only [Try.ntmps18, List.size_toArray, List.length_cons, List.length_nil, Nat.reduceAdd, Nat.reduceSub, Array.replicate_succ, Array.replicate_zero, List.push_toArray, List.append_toArray, List.nil_append, List.cons_append]
  gi_wp2_with fail
  have BW := Aside0.mk (((Below.refl w.heap.size w).alloc (Nat.le_refl _) (.cells #[Value.slice none 0 0] 28)).alloc (by simp) (.cells #[Value.int IntKind.i64 0] 24))
  have X4 := Aside0.mk ((Boxed.new w 28 (.slice none 0 0)).alloc (.cells #[Value.int IntKind.i64 0] 24))
  have X5' := Boxed.new (w.alloc (.cells #[Value.slice none 0 0] 28)) 24 (.int .i64 0)
  rw [World.size_alloc] at X5'
  have X5 := Aside0.mk X5'
  clear X5'
  refine ⟨trivial, ?_⟩
  refine (callsIn_wide.2 (SLib.clone_calls A1 c1 l1 _ (Kd.reads_of_C (d := (0 : Int)) (h1 := fun _ => rfl) (Kd.C_below hr1.out BW.out)) (by omega))).mono ?_
  rintro e w1 ⟨vc, rfl, ho1, hb1⟩
  have z1 : w.heap.size + 1 < w1.heap.size := by have := hb1.size; simp at this; omega
  have Y4 := Aside0.mk (Below.boxed hb1 (by simp; omega) X4.out)
  have Y5 := Aside0.mk (Below.boxed hb1 (by simp) X5.out)
  have O1 := Aside0.mk (own_weaken ho1 (show w.heap.size ≤ _ by simp; omega))
  have BW1 : Aside0 (Below w.heap.size w w1) := ⟨BW.out.trans (hb1.mono (by simp; omega))⟩
  clear ho1 hb1 X4 X5 BW
  obtain ⟨Ac, cc, rfl⟩ := own_slice O1.out
  gi_wp2_with fail
  refine ⟨trivial, ?_⟩
  refine (backward_in Fence.wide 5 trivial hro _ _ _ _).mono ?_
  rintro e w' ⟨rfl, rfl⟩
  gi_wp2_with fail
  have V4 := ((Y4.out.alloc (.cells #[Value.slice Ac l1.length cc] 28)).alloc (.cells #[Value.slice A0 l0.length c0] 35))
  have V5 := ((Y5.out.alloc (.cells #[Value.slice Ac l1.length cc] 28)).alloc (.cells #[Value.slice A0 l0.length c0] 35))
  have V6 := ((Boxed.new w1 28 (.slice Ac l1.length cc)).alloc (.cells #[Value.slice A0 l0.length c0] 35))
  have V7 := Boxed.new (w1.alloc (.cells #[Value.slice Ac l1.length cc] 28)) 35 (.slice A0 l0.length c0)
  have O6 := ((O1.out.alloc (.cells #[Value.slice Ac l1.length cc] 28)).alloc (.cells #[Value.slice A0 l0.length c0] 35))
  have BW6 := ((BW1.out.alloc (show w.heap.size ≤ w1.heap.size by omega) (.cells #[Value.slice Ac l1.length cc] 28)).alloc (by simp; omega) (.cells #[Value.slice A0 l0.length c0] 35))
  have hsz : ((w1.alloc (.cells #[Value.slice Ac l1.length cc] 28)).alloc (.cells #[Value.slice A0 l0.length c0] 35)).heap.size = w1.heap.size + 2 := by simp
  simp only [World.size_alloc] at V7
  obtain ⟨W0, hW0⟩ : ∃ W0, (w1.alloc (.cells #[Value.slice Ac l1.length cc] 28)).alloc (.cells #[Value.slice A0 l0.length c0] 35) = W0 := ⟨_, rfl⟩
  rw [hW0] at V4 V5 V6 V7 O6 BW6 hsz ⊢
  clear hW0 Y4 Y5 O1 BW1
  refine wpIn_rangeFunc_ownH hro (by omega) (gf := 33) (lb := #[.pointer (some ⟨w1.heap.size + 1, 0, none⟩)]) rfl trivial (enters_of Try.func33 (by kernel_rfl) rfl)
    (back_stops Fence.wide 5 trivial hro (by omega) (w1.heap.size + 1) A0 c0 l0 w W0 hc0 (by omega) (by omega) V7.cell hr0.out BW6)
    (fun h k => KeepB.trans h k)
    (fun W l o o' hl ho hcell _ => ⟨belowK_b (w := W0) (by omega) W l o o' hl ho hcell (by assumption), World.putObj_heap_other (by omega)⟩)
    (Below.refl _ _) (fun _ => rfl)
    (fun pre W => ∃ ys Ay cy, runB pre l1 = some ys ∧ (Boxed W w1.heap.size 28 (.slice Ay ys.length cy) ∧ Boxed W (w1.heap.size + 1) 35 (.slice A0 l0.length c0)) ∧ W.ownsRow w.heap.size 3 1 (.slice Ay ys.length cy) ys.length (nums .i64 ys) ∧ Boxed W w.heap.size 28 (.slice none 0 0) ∧ Boxed W (w.heap.size + 1) 24 (.int .i64 0) ∧ Below w.heap.size w W)
    (fun c pre W => c = .ret ∧ ∃ pre' x ys, pre = pre' ++ [x] ∧ pre'.length < l0.length ∧ runB pre' l1 = some ys ∧ (backS x.2 ys).2 ≠ 0 ∧ Boxed W w.heap.size 28 (.slice none 0 0) ∧ Boxed W (w.heap.size + 1) 24 (.int .i64 (backS x.2 ys).2) ∧ Below w.heap.size w W)
    (fun s A B row hs hg hr => by
      obtain ⟨ys, Ay, cy, h1, h2, h3, h4, h5, h6⟩ := hs
      have hr' : ∀ r, row = some r → ∃ o : Obj, A.heap[r]? = some o ∧ o.isCells = false := fun r e => (hr r e).2
      exact ⟨ys, Ay, cy, h1, ⟨boxed_own _ _ (fun (_ : Unit) => Value.slice Ay ys.length cy) () A B row h2.1 hg hr', boxed_own _ _ (fun (_ : Unit) => Value.slice A0 l0.length c0) () A B row h2.2 hg hr'⟩, own_kept h3 hg hr', boxed_own _ _ (fun (_ : Unit) => Value.slice none 0 0) () A B row h4 hg hr', boxed_own _ _ (fun (_ : Unit) => Value.int .i64 0) () A B row h5 hg hr', ownFrom_below (β := Unit) (Nat.le_refl _) (by omega) () A B row h6 hg hr⟩)
    (fun c s A B row hs hg hr => by
      obtain ⟨hc, pre', x, ys, h1, hl, h2, h3, h4, h5, h6⟩ := hs
      have hr' : ∀ r, row = some r → ∃ o : Obj, A.heap[r]? = some o ∧ o.isCells = false := fun r e => (hr r e).2
      exact ⟨hc, pre', x, ys, h1, hl, h2, h3, boxed_own _ _ (fun (_ : Unit) => Value.slice none 0 0) () A B row h4 hg hr', boxed_own _ _ (fun (_ : Unit) => Value.int .i64 (backS x.2 ys).2) () A B row h5 hg hr', ownFrom_below (β := Unit) (Nat.le_refl _) (by omega) () A B row h6 hg hr⟩)
    ⟨l1, Ac, cc, rfl, ⟨V6, V7⟩, O6, V4, V5, BW6⟩
    (fun x a' W => ∃ Bx, w1.heap.size + 1 < Bx ∧ W.heap[Bx]? = some (.cells #[.int .i64 x.2.f0, .int .i64 x.2.f1, .int .i64 x.2.f2, .int .i64 x.2.f3, .int .i64 x.2.f4] 23 (0, 0)) ∧ a' = { tmps := #[.slice A0 l0.length c0, .slice A1 l1.length c1, undef, undef, .pointer (some ⟨w.heap.size, 0, none⟩), .pointer (some ⟨w.heap.size + 1, 0, none⟩), .pointer (some ⟨w1.heap.size, 0, none⟩), undef, .pointer (some ⟨Bx, 0, none⟩), undef, undef, .slice A1 l1.length c1, .slice Ac l1.length cc, .slice A0 l0.length c0, .func (.func 33) #[] #[.pointer (some ⟨w1.heap.size + 1, 0, none⟩)], .int .i64 (x.1 : Int), sv x.2, undef, undef, undef, undef, undef, undef, undef, undef, undef, undef, undef], defers := [] })
    (fun x a' _ X Y row hs hg hr => by
      obtain ⟨Bx, e1, e2, e3⟩ := hs
      refine ⟨Bx, e1, ?_, e3⟩
      refine (hg.block Bx (Array.getElem?_eq_some_iff.1 e2).1 (fun e => ?_)).trans e2
      obtain ⟨_, o, ho, ht⟩ := hr Bx e.symm
      rw [e2] at ho
      cases ho
      cases ht)
    ?assign ?body ?done ?stop
  case assign =>
    rintro l pre ⟨j, s⟩ W K ⟨ys, Ay, cy, h1, h2, h3, h4, h5, h6⟩ hK
    dsimp only [encB, sv]
    gi_wp2
    have hl : w1.heap.size + 1 < W.heap.size := h2.2.lt
    exact hK _ _ ((KeepsOthers.alloc _ _).from _) ⟨(Below.refl _ W).alloc h6.size _, Below.heap_alloc W _ _ hl⟩ ⟨ys, Ay, cy, h1, ⟨h2.1.alloc _, h2.2.alloc _⟩, h3.alloc _, h4.alloc _, h5.alloc _, h6.alloc h6.size _⟩ ⟨W.heap.size, hl, World.alloc_heap_new W _, rfl⟩
  case body =>
    rintro l pre x a' W hl ⟨r, hr⟩ ⟨ys, Ay, cy, h1, ⟨h2, h7⟩, h3, h4, h5, h6⟩ ⟨Bx, hBx, bX, rfl⟩ hlt
    have hlen' := runB_len pre l1 ys h1
    obtain ⟨q0, q1, q2, q3, q4⟩ := SLib.cells5 bX
    have g6 := h2.cell
    have hbk := back_total k hk x.2 ys (by omega)
    obtain ⟨br, be, hbe⟩ : ∃ br be, backS x.2 ys = (br, be) := ⟨_, _, rfl⟩
    rw [hbe] at hbk
    have HBE := Aside0.mk hbe
    have HBK := Aside0.mk hbk
    have HY := Aside0.mk (own_reads' h3)
    have HC := own_le h3
    have H1 := Aside0.mk h1
    have H2 := Aside0.mk h2
    have H4 := Aside0.mk h4
    have H5 := Aside0.mk h5
    have H6 := Aside0.mk h6
    have H7 := Aside0.mk h7
    have l6 := h2.lt
    have l7 := h7.lt
    clear hbk hlen' hbe h1 h2 h3 h4 h5 h6 h7 hr bX
    gi_wp2_with fail
    refine ⟨trivial, ?_⟩
    refine (CallsIn.inRound l (callsIn_wide.2 (steps_Back.calls k x.2.f0 x.2.f1 x.2.f2 x.2.f3 x.2.f4 Ay cy ys br be W (Kd.C_of_reads (d := (0 : Int)) (h1 := fun _ => rfl) HY.out) HC HBK.out))).mono ?_
    rintro e w2 ⟨v2, rfl, hr2, hb2⟩
    have HO := Aside0.mk (own_weaken (Kd.own_of_R hr2) (show w.heap.size ≤ W.heap.size from H6.out.size))
    obtain ⟨A2, c2, rfl⟩ := own_slice HO.out
    have K2 := Aside0.mk (KeepsOthers.of_grownBy (grown_of_below hb2 none) (by simp))
    have I2 := Aside0.mk (Below.boxed hb2 l6 H2.out)
    have I4 := Aside0.mk (Below.boxed hb2 H4.out.lt H4.out)
    have I5 := Aside0.mk (Below.boxed hb2 H5.out.lt H5.out)
    have I7 := Aside0.mk (Below.boxed hb2 l7 H7.out)
    have I6 := Aside0.mk (H6.out.trans (hb2.mono H6.out.size))
    have HB2 := Aside0.mk hb2
    clear hr2 hb2 q0 q1 q2 q3 q4 g6
    have u2 := I2.out.cell
    have t2 := I2.out.frozen
    have u4 := I4.out.cell
    have t4 := I4.out.frozen
    have u5 := I5.out.cell
    have t5 := I5.out.frozen
    by_cases hz : be = 0
    · have hz' : (be != 0) = false := by simpa using hz
      have HZ := Aside0.mk hz
      clear hz
      gi_wp2
      refine ⟨(K2.out.trans (KeepsOthers.setCell _ _ _)).from _, ⟨(HB2.out.mono H6.out.size).setCell (p := ⟨w1.heap.size, 0, none⟩) (by show w.heap.size ≤ w1.heap.size; omega) _, (Below.heap_setCell w2 ⟨w1.heap.size, 0, none⟩ _ (w1.heap.size + 1) (by show w1.heap.size + 1 ≠ w1.heap.size; omega)).trans (HB2.out.block _ l7)⟩, br, A2, c2, ?_, ⟨I2.out.set _, I7.out.other (by omega) _⟩, ?_, I4.out.other (by omega) _, I5.out.other (by omega) _, I6.out.setCell (p := ⟨w1.heap.size, 0, none⟩) (by show w.heap.size ≤ w1.heap.size; omega) _⟩
      · rw [runB_snoc, H1.out]
        simp only [Option.bind_some]
        rw [HBE.out, if_pos HZ.out]
      · exact own_box_set HO.out I2.out (by decide) _
    · have hz' : (be != 0) = true := by simpa using hz
      have HZ := Aside0.mk hz
      clear hz
      gi_wp2
      refine ⟨((K2.out.trans (KeepsOthers.setCell _ _ _)).trans (KeepsOthers.setCell _ _ _)).from _, rfl, pre, x, ys, rfl, hlt, H1.out, by rw [HBE.out]; exact HZ.out, ?_, ?_, (I6.out.setCell (p := ⟨w.heap.size, 0, none⟩) (Nat.le_refl _) _).setCell (p := ⟨w.heap.size + 1, 0, none⟩) (by show w.heap.size ≤ w.heap.size + 1; omega) _⟩
      · exact (I4.out.set _).other (by omega) _
      · rw [HBE.out]
        exact (I5.out.other (by omega) _).set _
  case done =>
    rintro D ps W hD hps ⟨ys, Ay, cy, h1, ⟨h2, h7⟩, h3, h4, h5, h6⟩ hK
    have hgo := go_of_run k hk ps [] l1 ys (by have := congrArg List.length hps; simp at this; omega) h1
    rw [List.append_nil, hps, h.out] at hgo
    rw [steps_Replay.go] at hgo
    simp only [Option.some.injEq, Prod.mk.injEq] at hgo
    obtain ⟨rfl, rfl⟩ := hgo
    have H3 := Aside0.mk h3
    have H4 := Aside0.mk h4
    have H5 := Aside0.mk h5
    have H6 := Aside0.mk h6
    have g2 := h2.cell
    have g4 := h4.cell
    have f4 := h4.frozen
    have g5 := h5.cell
    have f5 := h5.frozen
    clear h3 h4 h5 h6 h2 h7
    gi_wp2
    have hK' := (KeepsOthers.setCell (W.setCell ⟨w.heap.size, 0, none⟩ (.slice Ay r1.length cy)) ⟨w.heap.size + 1, 0, none⟩ (.int .i64 0)).same D _ ((KeepsOthers.setCell W ⟨w.heap.size, 0, none⟩ (.slice Ay r1.length cy)).same D _ hK rfl) rfl
    refine ⟨by simp, .inl ⟨_, _, rfl, run_takeDeferred hK', ?_⟩⟩
    have c4 := cell_kept ((H4.out.set (.slice Ay r1.length cy)).other (show w.heap.size ≠ w.heap.size + 1 by omega) (.int .i64 0)).cell (grownBy_putObj' _ D (.deferred none)) (fun r e => by cases e; exact ⟨_, hK', rfl⟩)
    have c5 := cell_kept ((H5.out.other (show w.heap.size + 1 ≠ w.heap.size by omega) (.slice Ay r1.length cy)).set (.int .i64 0)).cell (grownBy_putObj' _ D (.deferred none)) (fun r e => by cases e; exact ⟨_, hK', rfl⟩)
    have hB := ((H6.out.setCell (p := ⟨w.heap.size, 0, none⟩) (Nat.le_refl _) (.slice Ay r1.length cy)).setCell (p := ⟨w.heap.size + 1, 0, none⟩) (by show w.heap.size ≤ w.heap.size + 1; omega) (.int .i64 0))
    refine ⟨.tuple #[.slice Ay r1.length cy, .int .i64 0], ?_, _, rfl, ?_, hB.trans (belowK_b (w := w) (Nat.le_refl _) _ D _ _ (by omega) hK' rfl rfl)⟩
    · simp [results, Try.f18, go_sem, c4, c5]
    · have h4' := H4.out
      have h5' := H5.out.other (show w.heap.size + 1 ≠ w.heap.size by omega) (.slice Ay r1.length cy)
      have o1 := own_box_set H3.out h4' (by decide) (.slice Ay r1.length cy)
      have o2 := own_box_set o1 h5' (by decide) (.int .i64 0)
      exact own_kept o2 (grownBy_putObj' _ D (.deferred none)) (fun r e => by cases e; exact ⟨_, hK', rfl⟩)
  case stop =>
    rintro D c ps W hD hps ⟨rfl, pre', x, ys, hpre, hl, h2, h3, h4, h5, h6⟩ hK
    obtain ⟨rest, hrest⟩ := hps
    have hgo := go_of_fall k hk pre' x rest l1 ys (by omega) h2 h3
    rw [← hpre, hrest, h.out] at hgo
    simp only [Option.some.injEq, Prod.mk.injEq] at hgo
    obtain ⟨rfl, hr2⟩ := hgo
    rw [← hr2] at h5
    gi_wp2
    refine ⟨by simp, .inl ⟨_, _, rfl, run_takeDeferred hK, ?_⟩⟩
    have c4 := cell_kept h4.cell (grownBy_putObj' _ D (.deferred none)) (fun r e => by cases e; exact ⟨_, hK, rfl⟩)
    have c5 := cell_kept h5.cell (grownBy_putObj' _ D (.deferred none)) (fun r e => by cases e; exact ⟨_, hK, rfl⟩)
    refine ⟨.tuple #[.slice none 0 0, .int .i64 r2], ?_, _, rfl, own_nil _ _ _ _, h6.trans (belowK_b (w := w) (Nat.le_refl _) W D _ _ (by omega) hK rfl rfl)⟩
    simp [results, Try.f18, go_sem, c4, c5]
theorem steps_Replay.calls (k : Nat) (A0 : Option Addr) (c0 : Nat) (l0 : List (S23)) (A1 : Option Addr) (c1 : Nat) (l1 : List Int) (r1 : List Int) (r2 : Int) (w : World) (hr0 : Kd.C k23 w A0 l0.length l0) (hc0 : l0.length ≤ c0) (hr1 : Kd.C (Kd.int .i64) w A1 l1.length l1) (hc1 : l1.length ≤ c1) (h : steps_Replay.f k l0 l1 = some (r1, r2)) :
    Calls Try.prog 18 #[.slice A0 l0.length c0, .slice A1 l1.length c1] w fun e w' => ∃ v0_ : Value, e = .returned (.tuple #[v0_, .int .i64 r2]) ∧ Kd.R (Kd.int .i64) 3 w' w.heap.size (fun _ => True) v0_ r1 ∧ Below w.heap.size w w' := by
  unfold steps_Replay.f at h
  by_cases h1 : 20 ≤ k
  · rw [if_pos h1] at h
    by_cases h2 : l1.length + l0.length < 17592186044415
    · rw [if_pos h2] at h
      refine (callsIn_wide.1 (steps_Replay.walk k A0 c0 l0 A1 c1 l1 r1 r2 w ⟨hr0⟩ hc0 ⟨hr1⟩ hc1 h1 h2 ⟨h⟩)).mono ?_
      rintro e w' ⟨v0, he, ho, hb⟩
      exact ⟨v0, he, Kd.R_of_own ho (fun _ _ => trivial), hb⟩
    · rw [if_neg h2] at h; cases h
  · rw [if_neg h1] at h; cases h
end Go.Proofs.Ytommjjjlljmpbaa.PSteps

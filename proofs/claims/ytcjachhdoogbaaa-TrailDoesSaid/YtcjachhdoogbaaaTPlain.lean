/- What the functions on domains answer, over lists alone: Check, Same, Values, Has, Pack, Pick, Minus, Sorted, Of, Small, doms. No conditions but the lengths' bounds. -/
import Derived.Test.YtcjachhdoogbaaaTNewc
set_option linter.unusedVariables false
set_option linter.unusedSimpArgs false
namespace Go.Proofs.Ytcjachhdoogbaaa.PT
open Go.RowKit Go.Proofs.YtcjachhdoogbaaaW.PrintWords Go.Proofs.YtcjachhdoogbaaaW.PrintLast Go.Proofs.YtcjachhdoogbaaaW.PrintMore
/-! Domains -/
def Vl (v : Int) : Prop := -1048576 ≤ v ∧ v ≤ 1048576
instance (v : Int) : Decidable (Vl v) := by unfold Vl; infer_instance
/-- The range at i is right, behind those ahead of it. -/
def RightAt (l : List S62) (i : Nat) : Prop := Vl (rd_T62 l i).f0 ∧ Vl (rd_T62 l i).f1 ∧ (rd_T62 l i).f0 ≤ (rd_T62 l i).f1 ∧ (0 < i → (rd_T62 l ((i : Int) - 1)).f1 + 2 ≤ (rd_T62 l i).f0)
instance (l : List S62) (i : Nat) : Decidable (RightAt l i) := by unfold RightAt; infer_instance
def Right (l : List S62) : Prop := ∀ i, i < l.length → RightAt l i
instance (l : List S62) : Decidable (Right l) := by unfold Right; infer_instance
theorem value_f (v : Int) : dom_value.f v = some (decide (Vl v)) := by
  unfold dom_value.f
  by_cases h : Vl v
  · rw [decide_eq_true h, if_pos h.1, decide_eq_true h.2]
  · rw [decide_eq_false h]
    by_cases h1 : v ≥ -1048576
    · rw [if_pos h1, decide_eq_false (fun h2 => h ⟨h1, h2⟩)]
    · rw [if_neg h1]
theorem right_loop (l : List S62) (hl : l.length ≤ 1000000) (m : Nat) : ∀ (k i : Nat), m + i = l.length → m + 1 ≤ k → (∀ j, j < i → RightAt l j) → dom_right.l0 k l l l.length i = some (decide (Right l)) := by
  induction m with
  | zero =>
    intro k i hm hk hr
    obtain ⟨k, rfl⟩ : ∃ q, k = q + 1 := ⟨k - 1, by omega⟩
    rw [dom_right.l0, if_neg (by omega), decide_eq_true (show Right l from fun j hj => hr j (by omega))]
  | succ m ih =>
    intro k i hm hk hr
    obtain ⟨k, rfl⟩ : ∃ q, k = q + 1 := ⟨k - 1, by omega⟩
    have hw : wrap64 ((i : Int) + 1) = ((i + 1 : Nat) : Int) := wrap_next i (by omega)
    have no : ¬ RightAt l i → decide (Right l) = false := fun h => decide_eq_false (fun hh => h (hh i (by omega)))
    have yes : RightAt l i → dom_right.l0 k l l l.length ((i + 1 : Nat) : Int) = some (decide (Right l)) := fun h => ih k (i + 1) (by omega) (by omega) (fun j hj => by
      by_cases hji : j = i
      · rw [hji]; exact h
      · exact hr j (by omega))
    rw [dom_right.l0, if_pos (by omega), if_pos (by omega), if_pos (by omega), value_f, Option.bind_some, hw]
    by_cases h0 : Vl (rd_T62 l i).f0
    · rw [if_pos (decide_eq_true h0), value_f, Option.bind_some]
      by_cases h1 : Vl (rd_T62 l i).f1
      · rw [if_pos (decide_eq_true h1)]
        by_cases h2 : (rd_T62 l i).f0 > (rd_T62 l i).f1
        · rw [if_pos h2, no (fun h => by have := h.2.2.1; omega)]
        · rw [if_neg h2]
          by_cases h3 : (i : Int) > 0
          · have e1 : wrap64 ((i : Int) - 1) = (i : Int) - 1 := wrap_id _ (by omega)
            have hp := (hr (i - 1) (by omega)).2.1
            have e2 : ((i - 1 : Nat) : Int) = (i : Int) - 1 := by omega
            rw [e2] at hp
            have e3 : wrap64 ((rd_T62 l ((i : Int) - 1)).f1 + 2) = (rd_T62 l ((i : Int) - 1)).f1 + 2 := wrap_id _ (by unfold Vl at hp; omega)
            rw [if_pos h3, e1, if_pos (by omega), if_pos (by omega), e3]
            by_cases h4 : (rd_T62 l i).f0 < (rd_T62 l ((i : Int) - 1)).f1 + 2
            · rw [if_pos h4, no (fun h => by have := h.2.2.2 (by omega); omega)]
            · rw [if_neg h4]; exact yes ⟨h0, h1, by omega, fun _ => by omega⟩
          · rw [if_neg h3]; exact yes ⟨h0, h1, by omega, fun h => by omega⟩
      · rw [if_neg (by simpa using h1), no (fun h => h1 h.2.1)]
    · rw [if_neg (by simpa using h0), no (fun h => h0 h.1)]
theorem right_f (k : Nat) (l : List S62) (hl : l.length ≤ 1000000) (hk : l.length + 1 ≤ k) : dom_right.f k l = some (decide (Right l)) := by
  unfold dom_right.f
  exact right_loop l hl l.length k 0 (by omega) hk (fun j hj => by omega)
/-- How many values. -/
def cnt : List S62 → Int
  | [] => 0
  | r :: l => (r.f1 - r.f0 + 1) + cnt l
theorem cnt_app (a b : List S62) : cnt (a ++ b) = cnt a + cnt b := by
  induction a with
  | nil => simp [cnt]
  | cons r a ih => rw [List.cons_append, cnt, cnt, ih]; omega
theorem rd62_get (l : List S62) (i : Nat) (h : i < l.length) : l[i]? = some (rd_T62 l i) := by
  simp [rd_T62, List.getD_eq_getElem?_getD, List.getElem?_eq_getElem h]
theorem cnt_take (l : List S62) (hr : Right l) : ∀ i, i ≤ l.length → 0 ≤ cnt (l.take i) ∧ cnt (l.take i) ≤ 2097153 * i := by
  intro i
  induction i with
  | zero => intro _; simp [cnt]
  | succ i ih =>
    intro h
    have h1 := ih (by omega)
    have h2 := hr i (by omega)
    rw [← take_snoc (rd62_get l i (by omega)), cnt_app]
    have e : cnt [rd_T62 l i] = (rd_T62 l i).f1 - (rd_T62 l i).f0 + 1 := by simp [cnt]
    rw [e]
    have a := h2.1
    have b := h2.2.1
    have c := h2.2.2.1
    unfold Vl at a b
    omega
theorem size_loop (l : List S62) (hl : l.length ≤ 1000000) (hr : Right l) (m : Nat) : ∀ (k i : Nat), m + i = l.length → m + 1 ≤ k → dom_Size.l0 k (cnt (l.take i)) l l.length i = some (cnt l) := by
  induction m with
  | zero =>
    intro k i hm hk
    obtain ⟨k, rfl⟩ : ∃ q, k = q + 1 := ⟨k - 1, by omega⟩
    rw [dom_Size.l0, if_neg (by omega), List.take_of_length_le (by omega)]
  | succ m ih =>
    intro k i hm hk
    obtain ⟨k, rfl⟩ : ∃ q, k = q + 1 := ⟨k - 1, by omega⟩
    have h1 := cnt_take l hr i (by omega)
    have h2 := hr i (by omega)
    have a := h2.1
    have b := h2.2.1
    unfold Vl at a b
    have hs : cnt (l.take (i + 1)) = cnt (l.take i) + ((rd_T62 l i).f1 - (rd_T62 l i).f0 + 1) := by
      rw [← take_snoc (rd62_get l i (by omega)), cnt_app]; simp [cnt]
    rw [dom_Size.l0, if_pos (by omega), if_pos (by omega), if_pos (by omega), wrap_next i (by omega), wrap_id ((rd_T62 l i).f1 - (rd_T62 l i).f0) (by omega), wrap_id ((rd_T62 l i).f1 - (rd_T62 l i).f0 + 1) (by omega), wrap_id _ (by omega), ← hs]
    exact ih k (i + 1) (by omega) (by omega)
theorem size_f (k : Nat) (l : List S62) (hl : l.length ≤ 1000000) (hr : Right l) (hk : l.length + 1 ≤ k) : dom_Size.f k l = some (cnt l) := by
  unfold dom_Size.f
  exact size_loop l hl hr l.length k 0 (by omega) hk
/-- What Check answers. -/
def chk (l : List S62) : Int := if Right l then (if cnt l > 4096 then 2 else 0) else 20
theorem check_f (k : Nat) (l : List S62) (hl : l.length ≤ 1000000) (hk : l.length + 1 ≤ k) : dom_Check.f k l = some (chk l) := by
  unfold dom_Check.f chk
  rw [right_f k l hl hk, Option.bind_some]
  by_cases hr : Right l
  · rw [if_pos (decide_eq_true hr), size_f k l hl hr hk, Option.bind_some, if_pos hr]
    split <;> rfl
  · rw [if_neg (by simpa using hr), if_neg hr]
/-- A domain: right, and of no more than 4096 values. -/
def Dom (l : List S62) : Prop := Right l ∧ cnt l ≤ 4096
theorem chk_zero (l : List S62) : chk l = 0 ↔ Dom l := by
  unfold chk Dom
  by_cases hr : Right l
  · rw [if_pos hr]
    by_cases hc : cnt l > 4096
    · rw [if_pos hc]; exact ⟨fun h => by omega, fun h => by omega⟩
    · rw [if_neg hc]; exact ⟨fun _ => ⟨hr, by omega⟩, fun _ => rfl⟩
  · rw [if_neg hr]; exact ⟨fun h => by omega, fun h => absurd h.1 hr⟩
theorem dom_len (l : List S62) (h : Dom l) : l.length ≤ 4096 := by
  have : ∀ i, i ≤ l.length → (i : Int) ≤ cnt (l.take i) := by
    intro i
    induction i with
    | zero => intro _; simp [cnt]
    | succ i ih =>
      intro hi
      have h1 := ih (by omega)
      have h2 := (h.1 i (by omega)).2.2.1
      rw [← take_snoc (rd62_get l i (by omega)), cnt_app]
      have e : cnt [rd_T62 l i] = (rd_T62 l i).f1 - (rd_T62 l i).f0 + 1 := by simp [cnt]
      rw [e]; omega
  have h3 := this l.length (Nat.le_refl _)
  rw [List.take_length] at h3
  have := h.2
  omega
instance : DecidableEq S62 := fun a b => if h : a.f0 = b.f0 ∧ a.f1 = b.f1 then isTrue (by cases a; cases b; simp only at h; rw [h.1, h.2]) else isFalse (fun e => h (by rw [e]; exact ⟨rfl, rfl⟩))
theorem drop_eq {α : Type} (d : α) {a b : List α} (hab : a.length = b.length) (i : Nat) (hi : i < a.length) : (a.drop i = b.drop i) ↔ (a.getD i d = b.getD i d ∧ a.drop (i + 1) = b.drop (i + 1)) := by
  rw [List.drop_eq_getElem_cons hi, List.drop_eq_getElem_cons (show i < b.length by omega)]
  have ea : a.getD i d = a[i] := by simp [List.getD_eq_getElem?_getD, List.getElem?_eq_getElem hi]
  have eb : b.getD i d = b[i]'(by omega) := by simp [List.getD_eq_getElem?_getD, List.getElem?_eq_getElem (show i < b.length by omega)]
  rw [ea, eb, List.cons.injEq]
theorem ne62 (x y : S62) : ((!(x.f0 == y.f0) || (!(x.f1 == y.f1))) = true) ↔ x ≠ y := by
  cases x; cases y; simp only [S62.mk.injEq, ne_eq, Bool.or_eq_true, Bool.not_eq_true', beq_eq_false_iff_ne]; omega
theorem same_loop (a b : List S62) (hab : a.length = b.length) (hl : a.length ≤ 1000000) (m : Nat) : ∀ (k i : Nat), m + i = a.length → m + 1 ≤ k → api_Range_47.l0 k a b a.length i = some (decide (a.drop i = b.drop i)) := by
  induction m with
  | zero =>
    intro k i hm hk
    obtain ⟨k, rfl⟩ : ∃ q, k = q + 1 := ⟨k - 1, by omega⟩
    rw [api_Range_47.l0, if_neg (by omega), List.drop_of_length_le (by omega), List.drop_of_length_le (by omega)]
    simp
  | succ m ih =>
    intro k i hm hk
    obtain ⟨k, rfl⟩ : ∃ q, k = q + 1 := ⟨k - 1, by omega⟩
    have he := drop_eq z62 hab i (by omega)
    rw [api_Range_47.l0, if_pos (by omega), if_pos (by omega), if_pos (by omega), if_pos (by omega), wrap_next i (by omega), ih k (i + 1) (by omega) (by omega)]
    by_cases h : rd_T62 a i = rd_T62 b i
    · rw [if_neg (fun hh => (ne62 _ _).1 hh h)]
      congr 1
      rw [decide_eq_decide, he]
      exact ⟨fun h' => ⟨by simpa [rd_T62] using h, h'⟩, fun h' => h'.2⟩
    · rw [if_pos ((ne62 _ _).2 h), decide_eq_false (fun hh => h (by simpa [rd_T62] using (he.1 hh).1))]
theorem same_f (k : Nat) (a b : List S62) (hl : a.length ≤ 1000000) (hk : a.length + 1 ≤ k) : dom_Same.f k a b = some (decide (a = b)) := by
  unfold dom_Same.f api_Range_47.f
  by_cases h : a.length = b.length
  · rw [if_pos (by omega)]
    have := same_loop a b h hl a.length k 0 (by omega) hk
    rw [List.drop_zero, List.drop_zero] at this
    rw [show ((0 : Nat) : Int) = 0 from rfl] at this
    rw [this]; rfl
  · rw [if_neg (by omega), decide_eq_false (fun hh => h (by rw [hh]))]; rfl
theorem rsame_loop (a b : List S62) (hab : a.length = b.length) (hl : a.length ≤ 1000000) (m : Nat) : ∀ (k i : Nat), m + i = a.length → m + 1 ≤ k → secateurref02_Same.l0 k a b i = some (decide (a.drop i = b.drop i)) := by
  induction m with
  | zero =>
    intro k i hm hk
    obtain ⟨k, rfl⟩ : ∃ q, k = q + 1 := ⟨k - 1, by omega⟩
    rw [secateurref02_Same.l0, if_neg (by omega), List.drop_of_length_le (by omega), List.drop_of_length_le (by omega)]
    simp
  | succ m ih =>
    intro k i hm hk
    obtain ⟨k, rfl⟩ : ∃ q, k = q + 1 := ⟨k - 1, by omega⟩
    have he := drop_eq z62 hab i (by omega)
    rw [secateurref02_Same.l0, if_pos (by omega), if_pos (by omega), if_pos (by omega), wrap_next i (by omega), ih k (i + 1) (by omega) (by omega)]
    by_cases h : rd_T62 a i = rd_T62 b i
    · rw [if_neg (fun hh => (ne62 _ _).1 hh h)]
      congr 1
      rw [decide_eq_decide, he]
      exact ⟨fun h' => ⟨by simpa [rd_T62] using h, h'⟩, fun h' => h'.2⟩
    · rw [if_pos ((ne62 _ _).2 h), decide_eq_false (fun hh => h (by simpa [rd_T62] using (he.1 hh).1))]
theorem rsame_f (k : Nat) (a b : List S62) (hl : a.length ≤ 1000000) (hk : a.length + 1 ≤ k) : secateurref02_Same.f k a b = some (decide (a = b)) := by
  unfold secateurref02_Same.f
  by_cases h : a.length = b.length
  · rw [if_pos (by omega)]
    have := rsame_loop a b h hl a.length k 0 (by omega) hk
    rw [List.drop_zero, List.drop_zero] at this
    exact this
  · rw [if_neg (by omega), decide_eq_false (fun hh => h (by rw [hh]))]
theorem lsame_loop (a b : List (List S62)) (hab : a.length = b.length) (hl : a.length ≤ 1000000) (B : Nat) (hB : B ≤ 1000000) (hx : ∀ x ∈ a, x.length ≤ B) (m : Nat) : ∀ (k i : Nat), m + i = a.length → m + B + 2 ≤ k → secateurref03_Same.l0 k a b i = some (decide (a.drop i = b.drop i)) := by
  induction m with
  | zero =>
    intro k i hm hk
    obtain ⟨k, rfl⟩ : ∃ q, k = q + 1 := ⟨k - 1, by omega⟩
    rw [secateurref03_Same.l0, if_neg (by omega), List.drop_of_length_le (by omega), List.drop_of_length_le (by omega)]
    simp
  | succ m ih =>
    intro k i hm hk
    obtain ⟨k, rfl⟩ : ∃ q, k = q + 1 := ⟨k - 1, by omega⟩
    have he := drop_eq ([] : List S62) hab i (by omega)
    have hle : (rd_L3 a i).length ≤ B := hx _ (by rw [rd_L3, Int.toNat_natCast, List.getD_eq_getElem?_getD, List.getElem?_eq_getElem (show i < a.length by omega)]; exact List.getElem_mem _)
    rw [secateurref03_Same.l0, if_pos (by omega), if_pos (by omega), if_pos (by omega), rsame_f k _ _ (by omega) (by omega), Option.bind_some, wrap_next i (by omega), ih k (i + 1) (by omega) (by omega)]
    by_cases h : rd_L3 a i = rd_L3 b i
    · rw [if_pos (decide_eq_true h)]
      congr 1
      rw [decide_eq_decide, he]
      exact ⟨fun h' => ⟨by simpa [rd_L3] using h, h'⟩, fun h' => h'.2⟩
    · rw [if_neg (by simpa using h), decide_eq_false (fun hh => h (by simpa [rd_L3] using (he.1 hh).1))]
theorem lsame_f (k : Nat) (a b : List (List S62)) (hl : a.length ≤ 1000000) (B : Nat) (hB : B ≤ 1000000) (hx : ∀ x ∈ a, x.length ≤ B) (hk : a.length + B + 2 ≤ k) : secateurref03_Same.f k a b = some (decide (a = b)) := by
  unfold secateurref03_Same.f
  by_cases h : a.length = b.length
  · rw [if_pos (by omega)]
    have := lsame_loop a b h hl B hB hx a.length k 0 (by omega) hk
    rw [List.drop_zero, List.drop_zero] at this
    exact this
  · rw [if_neg (by omega), decide_eq_false (fun hh => h (by rw [hh]))]
/-- The values from a on, n of them. -/
def run (a : Int) : Nat → List Int
  | 0 => []
  | n + 1 => a :: run (a + 1) n
theorem run_len (a : Int) (n : Nat) : (run a n).length = n := by
  induction n generalizing a with
  | zero => rfl
  | succ n ih => rw [run, List.length_cons, ih]
theorem run_mem (a : Int) (n : Nat) (v : Int) : v ∈ run a n ↔ a ≤ v ∧ v < a + n := by
  induction n generalizing a with
  | zero => simp [run]
  | succ n ih => rw [run, List.mem_cons, ih]; omega
def rv (r : S62) : List Int := run r.f0 (r.f1 - r.f0 + 1).toNat
def vals (l : List S62) : List Int := l.flatMap rv
theorem rv_mem (r : S62) (v : Int) (h : r.f0 ≤ r.f1) : v ∈ rv r ↔ r.f0 ≤ v ∧ v ≤ r.f1 := by
  unfold rv; rw [run_mem]; omega
theorem vals_len (l : List S62) (h : ∀ r ∈ l, r.f0 ≤ r.f1) : ((vals l).length : Int) = cnt l := by
  induction l with
  | nil => rfl
  | cons r l ih =>
    have h1 := h r (by simp)
    have h2 := ih (fun x hx => h x (by simp [hx]))
    unfold vals at *
    rw [List.flatMap_cons, List.length_append, cnt]
    have : (rv r).length = (r.f1 - r.f0 + 1).toNat := run_len _ _
    rw [this]
    omega
theorem right_all (l : List S62) (h : Right l) : ∀ r ∈ l, Vl r.f0 ∧ Vl r.f1 ∧ r.f0 ≤ r.f1 := by
  intro r hr
  obtain ⟨i, hi, e⟩ := List.getElem_of_mem hr
  have h1 := h i hi
  have e1 : rd_T62 l i = r := by
    have := rd62_get l i hi
    rw [List.getElem?_eq_getElem hi] at this
    rw [← e]; exact (Option.some.inj this).symm
  rw [RightAt, e1] at h1
  exact ⟨h1.1, h1.2.1, h1.2.2.1⟩
theorem values_l1 (l : List S62) (i : Nat) (hi : i < l.length) (hv : Vl (rd_T62 l i).f0 ∧ Vl (rd_T62 l i).f1) (n : Nat) : ∀ (k : Nat) (out : List Int) (v : Int), v + n = (rd_T62 l i).f1 + 1 → (rd_T62 l i).f0 ≤ v → out.length + n ≤ 1000000000 → n + 1 ≤ k → l.length ≤ 1000000 →
    secateurref02_Values.l1 k l out i v = secateurref02_Values.l0 (k - (n + 1)) l (out ++ run v n) ((i + 1 : Nat) : Int) := by
  unfold Vl at hv
  induction n with
  | zero =>
    intro k out v h1 h2 h3 h4 h5
    obtain ⟨k, rfl⟩ : ∃ q, k = q + 1 := ⟨k - 1, by omega⟩
    rw [secateurref02_Values.l1, if_pos (by omega), if_pos (by omega), if_neg (by omega), wrap_next i (by omega), run, List.append_nil]
    rfl
  | succ n ih =>
    intro k out v h1 h2 h3 h4 h5
    obtain ⟨k, rfl⟩ : ∃ q, k = q + 1 := ⟨k - 1, by omega⟩
    rw [secateurref02_Values.l1, if_pos (by omega), if_pos (by omega), if_pos (by omega), if_pos (by omega), wrap_id _ (by omega), ih k _ (v + 1) (by omega) (by omega) (by rw [List.length_append, List.length_singleton]; omega) (by omega) h5, run, List.append_assoc]
    rw [show k + 1 - (n + 1 + 1) = k - (n + 1) by omega]; rfl
theorem values_loop (l : List S62) (hd : Dom l) (m : Nat) : ∀ (k i : Nat), m + i = l.length → 4098 * m + 1 ≤ k → secateurref02_Values.l0 k l (vals (l.take i)) i = some (vals l) := by
  have hl := dom_len l hd
  induction m with
  | zero =>
    intro k i hm hk
    obtain ⟨k, rfl⟩ : ∃ q, k = q + 1 := ⟨k - 1, by omega⟩
    rw [secateurref02_Values.l0, if_neg (by omega), List.take_of_length_le (by omega)]
  | succ m ih =>
    intro k i hm hk
    obtain ⟨k, rfl⟩ : ∃ q, k = q + 1 := ⟨k - 1, by omega⟩
    have h2 := hd.1 i (by omega)
    have hs : vals (l.take (i + 1)) = vals (l.take i) ++ rv (rd_T62 l i) := by
      rw [← take_snoc (rd62_get l i (by omega))]; simp [vals]
    have hra := right_all l hd.1
    have hle : ((vals (l.take i)).length : Int) ≤ 4096 ∧ (rd_T62 l i).f1 - (rd_T62 l i).f0 + 1 ≤ 4096 := by
      have h3 := vals_len (l.take (i + 1)) (fun r hr => (hra r (List.mem_of_mem_take hr)).2.2)
      have h4 := cnt_app (l.take (i + 1)) (l.drop (i + 1))
      rw [List.take_append_drop] at h4
      have h5 := vals_len (l.drop (i + 1)) (fun r hr => (hra r (List.mem_of_mem_drop hr)).2.2)
      have h6 := hd.2
      rw [hs, List.length_append] at h3
      have h7 : (rv (rd_T62 l i)).length = ((rd_T62 l i).f1 - (rd_T62 l i).f0 + 1).toNat := run_len _ _
      omega
    have hf := h2.2.2.1
    rw [secateurref02_Values.l0, if_pos (by omega), if_pos (by omega), values_l1 l i (by omega) ⟨h2.1, h2.2.1⟩ ((rd_T62 l i).f1 - (rd_T62 l i).f0 + 1).toNat k _ _ (by omega) (by omega) (by omega) (by omega) (by omega)]
    have := ih (k - (((rd_T62 l i).f1 - (rd_T62 l i).f0 + 1).toNat + 1)) (i + 1) (by omega) (by omega)
    rw [hs] at this
    exact this
theorem values_f (k : Nat) (l : List S62) (hd : Dom l) (hk : 17000000 ≤ k) : secateurref02_Values.f k l = some (vals l) := by
  unfold secateurref02_Values.f
  have := dom_len l hd
  exact values_loop l hd l.length k 0 (by omega) (by omega)
theorem has_loop (l : List Int) (v : Int) (hl : l.length ≤ 1000000) (m : Nat) : ∀ (k i : Nat), m + i = l.length → m + 1 ≤ k → secateurref02_Has.l0 k l v i = some (decide (v ∈ l.drop i)) := by
  induction m with
  | zero =>
    intro k i hm hk
    obtain ⟨k, rfl⟩ : ∃ q, k = q + 1 := ⟨k - 1, by omega⟩
    rw [secateurref02_Has.l0, if_neg (by omega), List.drop_of_length_le (by omega)]
    simp
  | succ m ih =>
    intro k i hm hk
    obtain ⟨k, rfl⟩ : ∃ q, k = q + 1 := ⟨k - 1, by omega⟩
    have hi : i < l.length := by omega
    have e : rd l i = l[i] := by simp [rd, List.getD_eq_getElem?_getD, List.getElem?_eq_getElem hi]
    rw [secateurref02_Has.l0, if_pos (by omega), if_pos (by omega), wrap_next i (by omega), ih k (i + 1) (by omega) (by omega), List.drop_eq_getElem_cons hi, e]
    by_cases h : l[i] = v
    · rw [if_pos h, decide_eq_true]; simp [h]
    · rw [if_neg h]; congr 1; rw [decide_eq_decide, List.mem_cons]; exact ⟨.inr, fun h' => h'.elim (fun h2 => absurd h2.symm h) id⟩
theorem has_f (k : Nat) (l : List Int) (v : Int) (hl : l.length ≤ 1000000) (hk : l.length + 1 ≤ k) : secateurref02_Has.f k l v = some (decide (v ∈ l)) := by
  unfold secateurref02_Has.f
  have := has_loop l v hl l.length k 0 (by omega) hk
  rwa [List.drop_zero] at this
/-- Pack answers; its ranges are none just if there was no value. -/
theorem pack_loop (l : List Int) (hl : l.length ≤ 1000000) (m : Nat) : ∀ (k i fr : Nat) (out : List S62), m + i = l.length → m + 1 ≤ k → fr ≤ i → out.length ≤ i →
    ∃ r, secateurref02_Pack.l0 k l out fr i = some r ∧ r.length ≤ l.length ∧ out.length ≤ r.length ∧ (i < l.length → out.length < r.length) := by
  induction m with
  | zero =>
    intro k i fr out hm hk hf ho
    obtain ⟨k, rfl⟩ : ∃ q, k = q + 1 := ⟨k - 1, by omega⟩
    rw [secateurref02_Pack.l0, if_neg (by omega)]
    exact ⟨out, rfl, by omega, Nat.le_refl _, fun h => by omega⟩
  | succ m ih =>
    intro k i fr out hm hk hf ho
    obtain ⟨k, rfl⟩ : ∃ q, k = q + 1 := ⟨k - 1, by omega⟩
    have hsn : ∀ x : S62, ∃ r, secateurref02_Pack.l0 k l (out ++ [x]) ((i + 1 : Nat) : Int) ((i + 1 : Nat) : Int) = some r ∧ r.length ≤ l.length ∧ out.length ≤ r.length ∧ (i < l.length → out.length < r.length) := fun x => by
      obtain ⟨r, h1, h2, h3, h4⟩ := ih k (i + 1) (i + 1) (out ++ [x]) (by omega) (by omega) (Nat.le_refl _) (by rw [List.length_append, List.length_singleton]; omega)
      rw [List.length_append, List.length_singleton] at h3
      exact ⟨r, h1, h2, by omega, fun _ => by omega⟩
    rw [secateurref02_Pack.l0, if_pos (by omega), wrap_next i (by omega)]
    by_cases h1 : i + 1 = l.length
    · rw [if_pos (by omega), if_pos (by omega), if_pos (by omega), if_pos (by omega), if_pos (by omega)]
      exact hsn _
    · rw [if_neg (by omega), if_pos (by omega), if_pos (by omega), if_pos (by omega)]
      by_cases h2 : rd l ((i + 1 : Nat) : Int) = wrap64 (rd l i + 1)
      · rw [if_pos h2]
        obtain ⟨r, g1, g2, g3, g4⟩ := ih k (i + 1) fr out (by omega) (by omega) (by omega) (by omega)
        exact ⟨r, g1, g2, g3, fun _ => g4 (by omega)⟩
      · rw [if_neg h2, if_pos (by omega), if_pos (by omega), if_pos (by omega)]
        exact hsn _
theorem pack_f (k : Nat) (l : List Int) (hl : l.length ≤ 1000000) (hk : l.length + 1 ≤ k) : ∃ r, secateurref02_Pack.f k l = some r ∧ r.length ≤ l.length ∧ (r.length = 0 ↔ l = []) := by
  unfold secateurref02_Pack.f
  obtain ⟨r, h1, h2, h3, h4⟩ := pack_loop l hl l.length k 0 0 [] (by omega) hk (Nat.le_refl _) (by simp)
  refine ⟨r, h1, h2, fun h => ?_, fun h => ?_⟩
  · rcases Nat.eq_zero_or_pos l.length with h5 | h5
    · exact List.eq_nil_of_length_eq_zero h5
    · have := h4 h5; simp at this; omega
  · subst h; simp at h2; simp [h2]
theorem pick_loop (x y : List Int) (inn : Bool) (hx : x.length ≤ 10000) (hy : y.length ≤ 10000) (m : Nat) : ∀ (k i : Nat), m + i = x.length → m + 30000 ≤ k →
    ∃ r, secateurref02_Pick.l0 k inn x y ((x.take i).filter (fun v => decide (v ∈ y) == inn)) i = some r ∧ r.length ≤ 10000 ∧ (r.length = 0 ↔ x.filter (fun v => decide (v ∈ y) == inn) = []) := by
  induction m with
  | zero =>
    intro k i hm hk
    obtain ⟨k, rfl⟩ : ∃ q, k = q + 1 := ⟨k - 1, by omega⟩
    rw [secateurref02_Pick.l0, if_neg (by omega), List.take_of_length_le (by omega)]
    have hf : (x.filter (fun v => decide (v ∈ y) == inn)).length ≤ x.length := List.length_filter_le _ _
    obtain ⟨r, h1, h2, h3⟩ := pack_f k (x.filter (fun v => decide (v ∈ y) == inn)) (by omega) (by omega)
    rw [h1]
    exact ⟨r, rfl, by omega, h3⟩
  | succ m ih =>
    intro k i hm hk
    obtain ⟨k, rfl⟩ : ∃ q, k = q + 1 := ⟨k - 1, by omega⟩
    have hi : i < x.length := by omega
    have e : rd x i = x[i] := by simp [rd, List.getD_eq_getElem?_getD, List.getElem?_eq_getElem hi]
    have hs : (x.take (i + 1)).filter (fun v => decide (v ∈ y) == inn) = (x.take i).filter (fun v => decide (v ∈ y) == inn) ++ [x[i]].filter (fun v => decide (v ∈ y) == inn) := by
      rw [← take_snoc (List.getElem?_eq_getElem hi), List.filter_append]
    have hf : ((x.take i).filter (fun v => decide (v ∈ y) == inn)).length ≤ x.length := Nat.le_trans (List.length_filter_le _ _) (by rw [List.length_take]; omega)
    rw [secateurref02_Pick.l0, if_pos (by omega), if_pos (by omega), has_f k y _ (by omega) (by omega), Option.bind_some, wrap_next i (by omega), e]
    have := ih k (i + 1) (by omega) (by omega)
    rw [hs] at this
    by_cases h : (decide (x[i] ∈ y) == inn) = true
    · rw [if_pos h, if_pos (by omega)]
      rw [show [x[i]].filter (fun v => decide (v ∈ y) == inn) = [x[i]] by simp only [List.filter_cons, h, if_true, List.filter_nil]] at this
      exact this
    · rw [if_neg h]
      rw [show [x[i]].filter (fun v => decide (v ∈ y) == inn) = [] by simp only [List.filter_cons, h, List.filter_nil]; rfl, List.append_nil] at this
      exact this
theorem pick_f (k : Nat) (a b : List S62) (inn : Bool) (ha : Dom a) (hb : Dom b) (hk : 18000000 ≤ k) : ∃ r, secateurref02_Pick.f k a b inn = some r ∧ r.length ≤ 10000 ∧ (r.length = 0 ↔ (vals a).filter (fun v => decide (v ∈ vals b) == inn) = []) := by
  unfold secateurref02_Pick.f
  rw [values_f k a ha (by omega), Option.bind_some, values_f k b hb (by omega), Option.bind_some]
  have h1 := vals_len a (fun r hr => (right_all a ha.1 r hr).2.2)
  have h2 := vals_len b (fun r hr => (right_all b hb.1 r hr).2.2)
  have h3 := ha.2
  have h4 := hb.2
  exact pick_loop (vals a) (vals b) inn (by omega) (by omega) (vals a).length k 0 (by omega) (by omega)
theorem right_le (l : List S62) (h : Right l) (i : Nat) : ∀ j, i < j → j < l.length → (rd_T62 l i).f1 + 2 ≤ (rd_T62 l j).f0 := by
  intro j
  induction j with
  | zero => intro h1; omega
  | succ j ih =>
    intro h1 h2
    have h3 := (h (j + 1) h2).2.2.2 (by omega)
    rw [show ((j + 1 : Nat) : Int) - 1 = (j : Int) by omega] at h3
    by_cases hij : i = j
    · subst hij; exact h3
    · have h4 := ih (by omega) (by omega)
      have h5 := (h j (by omega)).2.2.1
      omega
theorem drop_cons62 (l : List S62) (j : Nat) (h : j < l.length) : l.drop j = rd_T62 l j :: l.drop (j + 1) := by
  rw [List.drop_eq_getElem_cons h]; congr 1
  have := rd62_get l j h
  rw [List.getElem?_eq_getElem h] at this
  exact Option.some.inj this
theorem vals_cons (r : S62) (l : List S62) (v : Int) : v ∈ vals (r :: l) ↔ v ∈ rv r ∨ v ∈ vals l := by
  unfold vals; rw [List.flatMap_cons, List.mem_append]
theorem vals_drop (l : List S62) (h : Right l) (j : Nat) (hj : j < l.length) (v : Int) (hv : v ∈ vals (l.drop (j + 1))) : (rd_T62 l j).f1 + 2 ≤ v := by
  unfold vals at hv
  obtain ⟨r, hr, hv⟩ := List.mem_flatMap.1 hv
  obtain ⟨t, ht, e⟩ := List.getElem_of_mem hr
  rw [List.getElem_drop] at e
  rw [List.length_drop] at ht
  have h1 := right_le l h j (j + 1 + t) (by omega) (by omega)
  have h2 := rd62_get l (j + 1 + t) (by omega)
  rw [List.getElem?_eq_getElem (by omega), e] at h2
  have h2 := Option.some.inj h2
  rw [← h2] at h1
  have h3 := (right_all l h r (List.mem_of_mem_drop hr)).2.2
  have := (rv_mem r v h3).1 hv
  omega
theorem minus_in (a b : List S62) (hb : Dom b) (i : Nat) (hi' : i ≤ 1000000) (hi : Int) (hh : Vl hi) (m : Nat) : ∀ (k j : Nat) (lo : Int) (out : List S62), m + j = b.length → 2 * m + 2 ≤ k → -1048576 ≤ lo → lo ≤ 1048577 → out.length + m ≤ 1000000000 →
    ∃ k' out', dom_Minus.l1 k b out a a.length i b b.length j lo hi = dom_Minus.l0 k' b out' a a.length ((i + 1 : Nat) : Int) ∧ k ≤ k' + 2 * m + 1 ∧ out.length ≤ out'.length ∧ out'.length ≤ out.length + m + 1 ∧
      (out'.length = out.length ↔ ∀ v, lo ≤ v → v ≤ hi → v ∈ vals (b.drop j)) := by
  have hbl := dom_len b hb
  unfold Vl at hh
  induction m with
  | zero =>
    intro k j lo out hm hk h1 h2 h3
    obtain ⟨k, rfl⟩ : ∃ q, k = q + 1 := ⟨k - 1, by omega⟩
    rw [dom_Minus.l1, if_neg (by omega), wrap_next i (by omega), List.drop_of_length_le (by omega)]
    by_cases hl : lo ≤ hi
    · rw [if_pos hl, if_pos (by omega)]
      refine ⟨k, _, rfl, by omega, by simp, by simp, ⟨fun h => by simp at h, fun h => ?_⟩⟩
      have := h lo (Int.le_refl _) hl
      simp [vals] at this
    · rw [if_neg hl]
      exact ⟨k, _, rfl, by omega, Nat.le_refl _, by omega, ⟨fun _ v h4 h5 => by omega, fun _ => rfl⟩⟩
  | succ m ih =>
    intro k j lo out hm hk h1 h2 h3
    obtain ⟨k, rfl⟩ : ∃ q, k = (q + 1) + 1 := ⟨k - 2, by omega⟩
    have hj : j < b.length := by omega
    have hy := right_all b hb.1 (rd_T62 b j) (List.mem_of_getElem? (rd62_get b j hj))
    have hyl := hy.2.2
    have hy0 := hy.1
    have hy1 := hy.2.1
    unfold Vl at hy0 hy1
    rw [dom_Minus.l1, if_pos (by omega), if_pos (by omega), if_pos (by omega)]
    have skip : ((rd_T62 b j).f1 < lo ∨ (rd_T62 b j).f0 > hi) → ∃ k' out', dom_Minus.l1 k b out a a.length i b b.length ((j + 1 : Nat) : Int) lo hi = dom_Minus.l0 k' b out' a a.length ((i + 1 : Nat) : Int) ∧ (k + 1) + 1 ≤ k' + 2 * (m + 1) + 1 ∧ out.length ≤ out'.length ∧ out'.length ≤ out.length + (m + 1) + 1 ∧ (out'.length = out.length ↔ ∀ v, lo ≤ v → v ≤ hi → v ∈ vals (b.drop j)) := fun hs => by
      obtain ⟨k', out', g1, g2, g3, g4, g5⟩ := ih k (j + 1) lo out (by omega) (by omega) h1 h2 (by omega)
      refine ⟨k', out', g1, by omega, g3, by omega, g5.trans ⟨fun h v h4 h5 => ?_, fun h v h4 h5 => ?_⟩⟩
      · rw [drop_cons62 b j hj, vals_cons]; exact .inr (h v h4 h5)
      · have := h v h4 h5
        rw [drop_cons62 b j hj, vals_cons, rv_mem _ _ hyl] at this
        exact this.resolve_left (by omega)
    have hwj := wrap_next j (by omega)
    by_cases c1 : (rd_T62 b j).f1 < lo
    · rw [if_pos c1, dom_Minus.j2, if_pos rfl, hwj]
      exact skip (.inl c1)
    · rw [if_neg c1, dom_Minus.j2]
      by_cases c2 : (rd_T62 b j).f0 > hi
      · rw [if_pos (decide_eq_true c2), hwj]
        exact skip (.inr c2)
      · rw [if_neg (by simpa using c2), hwj, wrap_id ((rd_T62 b j).f0 - 1) (by omega), wrap_id ((rd_T62 b j).f1 + 1) (by omega)]
        by_cases c3 : (rd_T62 b j).f0 > lo
        · rw [if_pos c3, if_pos (by omega)]
          obtain ⟨k', out', g1, g2, g3, g4, g5⟩ := ih k (j + 1) ((rd_T62 b j).f1 + 1) (out ++ [⟨lo, (rd_T62 b j).f0 - 1⟩]) (by omega) (by omega) (by omega) (by omega) (by rw [List.length_append, List.length_singleton]; omega)
          rw [List.length_append, List.length_singleton] at g3 g4
          refine ⟨k', out', g1, by omega, by omega, by omega, ⟨fun h => by omega, fun h => ?_⟩⟩
          have := h lo (Int.le_refl _) (by omega)
          rw [drop_cons62 b j hj, vals_cons, rv_mem _ _ hyl] at this
          rcases this with h4 | h4
          · omega
          · have := vals_drop b hb.1 j hj lo h4; omega
        · rw [if_neg c3]
          obtain ⟨k', out', g1, g2, g3, g4, g5⟩ := ih k (j + 1) ((rd_T62 b j).f1 + 1) out (by omega) (by omega) (by omega) (by omega) (by omega)
          refine ⟨k', out', g1, by omega, g3, by omega, g5.trans ⟨fun h v h4 h5 => ?_, fun h v h4 h5 => ?_⟩⟩
          · rw [drop_cons62 b j hj, vals_cons, rv_mem _ _ hyl]
            by_cases h6 : v ≤ (rd_T62 b j).f1
            · exact .inl ⟨by omega, h6⟩
            · exact .inr (h v (by omega) h5)
          · have := h v (by omega) h5
            rw [drop_cons62 b j hj, vals_cons, rv_mem _ _ hyl] at this
            exact this.resolve_left (by omega)
theorem minus_loop (a b : List S62) (ha : Dom a) (hb : Dom b) (m : Nat) : ∀ (k i : Nat) (out : List S62), m + i = a.length → 8200 * m + 1 ≤ k → out.length ≤ 4097 * i →
    ∃ r, dom_Minus.l0 k b out a a.length i = some r ∧ out.length ≤ r.length ∧ r.length ≤ 4097 * a.length ∧ (r.length = out.length ↔ ∀ v, v ∈ vals (a.drop i) → v ∈ vals b) := by
  have hal := dom_len a ha
  have hbl := dom_len b hb
  induction m with
  | zero =>
    intro k i out hm hk ho
    obtain ⟨k, rfl⟩ : ∃ q, k = q + 1 := ⟨k - 1, by omega⟩
    rw [dom_Minus.l0, if_neg (by omega), List.drop_of_length_le (by omega)]
    have : i = a.length := by omega
    exact ⟨out, rfl, Nat.le_refl _, by rw [← this]; exact ho, ⟨fun _ v h => by simp [vals] at h, fun _ => rfl⟩⟩
  | succ m ih =>
    intro k i out hm hk ho
    obtain ⟨k, rfl⟩ : ∃ q, k = q + 1 := ⟨k - 1, by omega⟩
    have hi : i < a.length := by omega
    have hx := right_all a ha.1 (rd_T62 a i) (List.mem_of_getElem? (rd62_get a i hi))
    have hx0 := hx.1
    unfold Vl at hx0
    rw [dom_Minus.l0, if_pos (by omega), if_pos (by omega), if_pos (by omega)]
    obtain ⟨k', out', g1, g2, g3, g4, g5⟩ := minus_in a b hb i (by omega) (rd_T62 a i).f1 hx.2.1 b.length k 0 (rd_T62 a i).f0 out (by omega) (by omega) (by omega) (by omega) (by omega)
    have g1' : dom_Minus.l1 k b out a a.length i b b.length 0 (rd_T62 a i).f0 (rd_T62 a i).f1 = dom_Minus.l0 k' b out' a a.length ((i + 1 : Nat) : Int) := g1
    rw [g1']
    obtain ⟨r, f1, f2, f3, f4⟩ := ih k' (i + 1) out' (by omega) (by omega) (by omega)
    refine ⟨r, f1, by omega, f3, ?_⟩
    rw [List.drop_zero] at g5
    rw [drop_cons62 a i hi]
    constructor
    · intro h v hv
      rw [vals_cons, rv_mem _ _ hx.2.2] at hv
      rcases hv with hv | hv
      · exact g5.1 (by omega) v hv.1 hv.2
      · exact f4.1 (by omega) v hv
    · intro h
      have e1 := g5.2 (fun v h1 h2 => h v (by rw [vals_cons, rv_mem _ _ hx.2.2]; exact .inl ⟨h1, h2⟩))
      have e2 := f4.2 (fun v hv => h v (by rw [vals_cons]; exact .inr hv))
      omega
theorem minus_f (k : Nat) (a b : List S62) (ha : Dom a) (hb : Dom b) (hk : 34000000 ≤ k) : ∃ r, dom_Minus.f k a b = some r ∧ r.length ≤ 20000000 ∧ (r.length = 0 ↔ ∀ v, v ∈ vals a → v ∈ vals b) := by
  unfold dom_Minus.f
  have hal := dom_len a ha
  obtain ⟨r, h1, h2, h3, h4⟩ := minus_loop a b ha hb a.length k 0 [] (by omega) (by omega) (by simp)
  rw [List.drop_zero] at h4
  exact ⟨r, h1, by omega, h4⟩
def insF (v : Int) : List Int → Bool → List Int
  | [], p => if p = true then [] else [v]
  | o :: l, p => if p = true then o :: insF v l true else if v < o then v :: o :: insF v l true else o :: insF v l false
theorem insF_true (v : Int) (l : List Int) : insF v l true = l := by
  induction l with
  | nil => rfl
  | cons o l ih => rw [insF, if_pos rfl, ih]
theorem insF_mem (v : Int) (l : List Int) (z : Int) : z ∈ insF v l false ↔ z = v ∨ z ∈ l := by
  induction l with
  | nil => simp [insF]
  | cons o l ih =>
    rw [insF, if_neg (by simp)]
    by_cases h : v < o
    · rw [if_pos h, insF_true]; simp
    · rw [if_neg h, List.mem_cons, ih, List.mem_cons]
      constructor
      · rintro (h1 | h1 | h1)
        · exact .inr (.inl h1)
        · exact .inl h1
        · exact .inr (.inr h1)
      · rintro (h1 | h1 | h1)
        · exact .inr (.inl h1)
        · exact .inl h1
        · exact .inr (.inr h1)
theorem insF_len (v : Int) (l : List Int) : (insF v l false).length = l.length + 1 := by
  induction l with
  | nil => rfl
  | cons o l ih =>
    rw [insF, if_neg (by simp)]
    by_cases h : v < o
    · rw [if_pos h, insF_true]; rfl
    · rw [if_neg h, List.length_cons, ih, List.length_cons]
theorem insF_sorted (v : Int) (l : List Int) (hs : l.Pairwise (· < ·)) (hv : v ∉ l) : (insF v l false).Pairwise (· < ·) := by
  induction l with
  | nil => simp [insF]
  | cons o l ih =>
    rw [List.pairwise_cons] at hs
    rw [List.mem_cons, not_or] at hv
    rw [insF, if_neg (by simp)]
    by_cases h : v < o
    · rw [if_pos h, insF_true, List.pairwise_cons, List.pairwise_cons]
      exact ⟨fun z hz => by
        rcases List.mem_cons.1 hz with h1 | h1
        · rw [h1]; exact h
        · exact Int.lt_trans h (hs.1 z h1), hs.1, hs.2⟩
    · rw [if_neg h, List.pairwise_cons]
      refine ⟨fun z hz => ?_, ih hs.2 hv.2⟩
      rcases (insF_mem v l z).1 hz with h1 | h1
      · rw [h1]; omega
      · exact hs.1 z h1
theorem ins_loop (x out : List Int) (i : Nat) (hi : i < x.length) (hx : x.length ≤ 1000) (ho : out.length ≤ 1000) (m : Nat) : ∀ (k j : Nat) (next : List Int) (p : Bool), m + j = out.length → m + 1 ≤ k → next.length ≤ j + (if p = true then 1 else 0) →
    secateurref02_Sorted.l1 k x out i next p j = secateurref02_Sorted.l0 (k - (m + 1)) x (next ++ insF (rd x i) (out.drop j) p) ((i + 1 : Nat) : Int) := by
  induction m with
  | zero =>
    intro k j next p hm hk hn
    obtain ⟨k, rfl⟩ : ∃ q, k = q + 1 := ⟨k - 1, by omega⟩
    have hn2 : next.length ≤ 1001 := by split at hn <;> omega
    rw [secateurref02_Sorted.l1, if_neg (by omega), wrap_next i (by omega), List.drop_of_length_le (by omega)]
    by_cases hp : p = true
    · subst hp; rw [if_pos rfl]; simp [insF]
    · rw [if_neg hp, if_pos (by omega), if_pos (by omega), if_pos (by omega)]; simp [insF, hp]
  | succ m ih =>
    intro k j next p hm hk hn
    obtain ⟨k, rfl⟩ : ∃ q, k = q + 1 := ⟨k - 1, by omega⟩
    have hn2 : next.length ≤ 1001 := by split at hn <;> omega
    have hj : j < out.length := by omega
    have e : rd out j = out[j] := by simp [rd, List.getD_eq_getElem?_getD, List.getElem?_eq_getElem hj]
    have ek : k + 1 - (m + 1 + 1) = k - (m + 1) := by omega
    rw [secateurref02_Sorted.l1, if_pos (by omega), List.drop_eq_getElem_cons hj, insF, wrap_next j (by omega), e, ek]
    by_cases hp : p = true
    · subst hp
      rw [if_pos rfl] at hn
      rw [if_pos rfl, if_pos (by omega), if_pos (by omega), ih k (j + 1) _ true (by omega) (by omega) (by rw [List.length_append, List.length_singleton, if_pos rfl]; omega), if_pos rfl, List.append_assoc]; rfl
    · rw [if_neg hp] at hn
      rw [if_neg hp, if_neg hp, if_pos (by omega), if_pos (by omega), if_pos (by omega)]
      by_cases hv : rd x i < out[j]
      · rw [if_pos hv, if_pos hv, if_pos (by omega), Option.bind_some, if_pos (by rw [List.length_append, List.length_singleton]; omega)]
        have := ih k (j + 1) (next ++ [rd x i] ++ [out[j]]) true (by omega) (by omega) (by rw [List.length_append, List.length_append, List.length_singleton, List.length_singleton, if_pos rfl]; omega)
        rw [this, List.append_assoc, List.append_assoc]; rfl
      · rw [if_neg hv, if_neg hv, if_pos (by omega), ih k (j + 1) _ p (by omega) (by omega) (by rw [List.length_append, List.length_singleton, if_neg hp]; omega), List.append_assoc]
        have : p = false := by simpa using hp
        subst this; rfl
theorem sorted_loop (x : List Int) (hx : x.length ≤ 500) (m : Nat) : ∀ (k i : Nat) (out : List Int), m + i = x.length → 520 * m + 520 ≤ k → out.Pairwise (· < ·) → (∀ z ∈ out, z ∈ x) → out.length ≤ i →
    ∃ s, secateurref02_Sorted.l0 k x out i = some s ∧ s.Pairwise (· < ·) ∧ (∀ z ∈ s, z ∈ x) ∧ s.length ≤ x.length := by
  induction m with
  | zero =>
    intro k i out hm hk h1 h2 h3
    obtain ⟨k, rfl⟩ : ∃ q, k = q + 1 := ⟨k - 1, by omega⟩
    rw [secateurref02_Sorted.l0, if_neg (by omega)]
    exact ⟨out, rfl, h1, h2, by omega⟩
  | succ m ih =>
    intro k i out hm hk h1 h2 h3
    obtain ⟨k, rfl⟩ : ∃ q, k = q + 1 := ⟨k - 1, by omega⟩
    have hi : i < x.length := by omega
    have e : rd x i = x[i] := by simp [rd, List.getD_eq_getElem?_getD, List.getElem?_eq_getElem hi]
    have hmem : rd x i ∈ x := by rw [e]; exact List.getElem_mem hi
    rw [secateurref02_Sorted.l0, if_pos (by omega), if_pos (by omega), has_f k out _ (by omega) (by omega), Option.bind_some]
    have hl := ins_loop x out i hi (by omega) (by omega) out.length k 0 [] (decide (rd x i ∈ out)) (by omega) (by omega) (by simp)
    rw [List.drop_zero, List.nil_append] at hl
    rw [show ((0 : Nat) : Int) = 0 from rfl] at hl
    rw [hl]
    by_cases hin : rd x i ∈ out
    · rw [decide_eq_true hin, insF_true]
      exact ih _ (i + 1) out (by omega) (by omega) h1 h2 (by omega)
    · rw [decide_eq_false hin]
      refine ih _ (i + 1) _ (by omega) (by omega) (insF_sorted _ _ h1 hin) (fun z hz => ?_) (by rw [insF_len]; omega)
      rcases (insF_mem _ _ z).1 hz with h4 | h4
      · rw [h4]; exact hmem
      · exact h2 z h4
theorem sorted_f (k : Nat) (x : List Int) (hx : x.length ≤ 500) (hk : 300000 ≤ k) : ∃ s, secateurref02_Sorted.f k x = some s ∧ s.Pairwise (· < ·) ∧ (∀ z ∈ s, z ∈ x) ∧ s.length ≤ x.length := by
  unfold secateurref02_Sorted.f
  exact sorted_loop x hx x.length k 0 [] (by omega) (by omega) List.Pairwise.nil (fun z hz => by cases hz) (Nat.le_refl _)
theorem right_snoc (out : List S62) (x : S62) (h : Right out) (h0 : Vl x.f0) (h1 : Vl x.f1) (h2 : x.f0 ≤ x.f1) (h3 : 0 < out.length → (rd_T62 out ((out.length : Int) - 1)).f1 + 2 ≤ x.f0) : Right (out ++ [x]) := by
  have ea : ∀ i : Nat, i < out.length → rd_T62 (out ++ [x]) i = rd_T62 out i := fun i hi => by
    simp [rd_T62, List.getD_eq_getElem?_getD, List.getElem?_append_left hi]
  intro i hi
  rw [List.length_append, List.length_singleton] at hi
  by_cases hlt : i < out.length
  · have := h i hlt
    unfold RightAt at *
    rw [ea i hlt]
    refine ⟨this.1, this.2.1, this.2.2.1, fun hp => ?_⟩
    have h4 := this.2.2.2 hp
    have e2 : ((i - 1 : Nat) : Int) = (i : Int) - 1 := by omega
    rw [← e2] at h4 ⊢
    rw [ea (i - 1) (by omega)]
    exact h4
  · have hie : i = out.length := by omega
    subst hie
    have ex : rd_T62 (out ++ [x]) out.length = x := by simp [rd_T62, List.getD_eq_getElem?_getD]
    unfold RightAt
    rw [ex]
    refine ⟨h0, h1, h2, fun hp => ?_⟩
    have h4 := h3 hp
    have e2 : ((out.length - 1 : Nat) : Int) = (out.length : Int) - 1 := by omega
    rw [← e2] at h4 ⊢
    rw [ea (out.length - 1) (by omega)]
    exact h4
theorem sorted_lt (l : List Int) (hs : l.Pairwise (· < ·)) (i : Nat) (hi : i + 1 < l.length) : rd l i < rd l ((i + 1 : Nat) : Int) := by
  have e1 : rd l i = l[i] := by simp [rd, List.getD_eq_getElem?_getD, List.getElem?_eq_getElem (show i < l.length by omega)]
  have e2 : rd l ((i + 1 : Nat) : Int) = l[i + 1] := by simp only [rd, Int.toNat_natCast, List.getD_eq_getElem?_getD, List.getElem?_eq_getElem hi]; rfl
  rw [e1, e2]
  exact List.pairwise_iff_getElem.1 hs i (i + 1) (by omega) hi (by omega)
/-- Pack of rising values is right, and has as many. -/
theorem pack2_loop (l : List Int) (hl : l.length ≤ 1000000) (hs : l.Pairwise (· < ·)) (hv : ∀ z ∈ l, Vl z) (m : Nat) : ∀ (k i fr : Nat) (out : List S62), m + i = l.length → m + 1 ≤ k → fr ≤ i → out.length ≤ i → Right out → cnt out = fr →
    (i = l.length → fr = l.length) → (i < l.length → rd l i = rd l fr + (i - fr)) → (0 < out.length → fr < l.length → (rd_T62 out ((out.length : Int) - 1)).f1 + 2 ≤ rd l fr) →
    ∃ r, secateurref02_Pack.l0 k l out fr i = some r ∧ Right r ∧ cnt r = l.length := by
  have hval : ∀ t : Nat, t < l.length → Vl (rd l t) := fun t ht => by
    have e1 : rd l t = l[t] := by simp [rd, List.getD_eq_getElem?_getD, List.getElem?_eq_getElem ht]
    rw [e1]; exact hv _ (List.getElem_mem ht)
  induction m with
  | zero =>
    intro k i fr out hm hk hf ho h1 h2 h3 h4 h5
    obtain ⟨k, rfl⟩ : ∃ q, k = q + 1 := ⟨k - 1, by omega⟩
    rw [secateurref02_Pack.l0, if_neg (by omega)]
    exact ⟨out, rfl, h1, by rw [h2, h3 (by omega)]⟩
  | succ m ih =>
    intro k i fr out hm hk hf ho h1 h2 h3 h4 h5
    obtain ⟨k, rfl⟩ : ∃ q, k = q + 1 := ⟨k - 1, by omega⟩
    have hi : i < l.length := by omega
    have h4 := h4 hi
    have hvi := hval i hi
    have hvf := hval fr (by omega)
    have hx : Right (out ++ [(⟨rd l fr, rd l i⟩ : S62)]) := right_snoc out _ h1 hvf hvi (by show rd l fr ≤ rd l i; omega) (fun hp => h5 hp (by omega))
    have hcx : cnt (out ++ [(⟨rd l fr, rd l i⟩ : S62)]) = ((i + 1 : Nat) : Int) := by rw [cnt_app, h2]; simp [cnt]; omega
    have hlast : rd_T62 (out ++ [(⟨rd l fr, rd l i⟩ : S62)]) (((out ++ [(⟨rd l fr, rd l i⟩ : S62)]).length : Int) - 1) = (⟨rd l fr, rd l i⟩ : S62) := by
      rw [List.length_append, List.length_singleton, show ((out.length + 1 : Nat) : Int) - 1 = (out.length : Int) by omega]
      simp [rd_T62, List.getD_eq_getElem?_getD]
    have hsn : (i + 1 < l.length → rd l i + 2 ≤ rd l ((i + 1 : Nat) : Int)) → ∃ r, secateurref02_Pack.l0 k l (out ++ [(⟨rd l fr, rd l i⟩ : S62)]) ((i + 1 : Nat) : Int) ((i + 1 : Nat) : Int) = some r ∧ Right r ∧ cnt r = l.length := fun hnx =>
      ih k (i + 1) (i + 1) _ (by omega) (by omega) (Nat.le_refl _) (by rw [List.length_append, List.length_singleton]; omega) hx hcx (fun h => h) (fun _ => by omega) (fun _ hlt => by rw [hlast]; exact hnx hlt)
    unfold Vl at hvi hvf
    rw [secateurref02_Pack.l0, if_pos (by omega), wrap_next i (by omega)]
    by_cases c1 : i + 1 = l.length
    · rw [if_pos (by omega), if_pos (by omega), if_pos (by omega), if_pos (by omega), if_pos (by omega)]
      exact hsn (fun h => by omega)
    · rw [if_neg (by omega), if_pos (by omega), if_pos (by omega), if_pos (by omega), wrap_id (rd l i + 1) (by omega)]
      have hlt := sorted_lt l hs i (by omega)
      by_cases c2 : rd l ((i + 1 : Nat) : Int) = rd l i + 1
      · rw [if_pos c2]
        exact ih k (i + 1) fr out (by omega) (by omega) (by omega) (by omega) h1 h2 (fun h => by omega) (fun _ => by omega) h5
      · rw [if_neg c2, if_pos (by omega), if_pos (by omega), if_pos (by omega)]
        exact hsn (fun _ => by omega)
theorem pack2_f (k : Nat) (l : List Int) (hl : l.length ≤ 4096) (hs : l.Pairwise (· < ·)) (hv : ∀ z ∈ l, Vl z) (hk : l.length + 1 ≤ k) : ∃ r, secateurref02_Pack.f k l = some r ∧ Dom r ∧ cnt r = l.length := by
  unfold secateurref02_Pack.f
  obtain ⟨r, h1, h2, h3⟩ := pack2_loop l (by omega) hs hv l.length k 0 0 [] (by omega) hk (Nat.le_refl _) (by simp) (fun i hi => by simp at hi) rfl (fun h => h) (fun _ => by omega) (fun h => by simp at h)
  exact ⟨r, h1, ⟨h2, by omega⟩, h3⟩
theorem rvalue_f (v : Int) : secateurref02_Value.f v = some (decide (Vl v)) := value_f v
theorem of_loop (x : List Int) (hx : x.length ≤ 30) (hv : ∀ z ∈ x, Vl z) (m : Nat) : ∀ (k i : Nat), m + i = x.length → m + 300002 ≤ k →
    ∃ r, secateurref02_Of.l0 k x i = some (r, 0) ∧ Dom r ∧ r.length ≤ 30 := by
  induction m with
  | zero =>
    intro k i hm hk
    obtain ⟨k, rfl⟩ : ∃ q, k = q + 1 := ⟨k - 1, by omega⟩
    obtain ⟨s, h1, h2, h3, h4⟩ := sorted_f k x (by omega) (by omega)
    obtain ⟨r, g1, g2, g3⟩ := pack2_f k s (by omega) h2 (fun z hz => hv z (h3 z hz)) (by omega)
    obtain ⟨r', e1, e2, e3⟩ := pack_f k s (by omega) (by omega)
    rw [g1] at e1
    obtain rfl := Option.some.inj e1
    rw [secateurref02_Of.l0, if_neg (by omega), h1, Option.bind_some, if_neg (by omega), g1]
    exact ⟨r, rfl, g2, by omega⟩
  | succ m ih =>
    intro k i hm hk
    obtain ⟨k, rfl⟩ : ∃ q, k = q + 1 := ⟨k - 1, by omega⟩
    have hi : i < x.length := by omega
    have e : rd x i = x[i] := by simp [rd, List.getD_eq_getElem?_getD, List.getElem?_eq_getElem hi]
    have hmem : Vl (rd x i) := by rw [e]; exact hv _ (List.getElem_mem hi)
    rw [secateurref02_Of.l0, if_pos (by omega), if_pos (by omega), rvalue_f, Option.bind_some, if_pos (decide_eq_true hmem), wrap_next i (by omega)]
    exact ih k (i + 1) (by omega) (by omega)
theorem of_f (k : Nat) (x : List Int) (hx : x.length ≤ 30) (hv : ∀ z ∈ x, Vl z) (hk : 300040 ≤ k) : ∃ r, secateurref02_Of.f k x = some (r, 0) ∧ Dom r ∧ r.length ≤ 30 := by
  unfold secateurref02_Of.f
  exact of_loop x hx hv x.length k 0 (by omega) (by omega)
theorem tmod_vl (v : Int) : Vl (Int.tmod v 201) := by
  have h1 := Int.tmod_lt_of_pos v (show (0 : Int) < 201 by omega)
  have h2 := Int.lt_tmod_of_pos v (show (0 : Int) < 201 by omega)
  unfold Vl
  omega
theorem small_loop (l : List Int) (m : Nat) : ∀ (k i : Nat) (x : List Int), m + i = 30 → m + 300050 ≤ k → x.length = i → (∀ z ∈ x, Vl z) →
    ∃ r, secateurlaw02_Small.l0 k l x i = some r ∧ Dom r ∧ r.length ≤ 30 := by
  induction m with
  | zero =>
    intro k i x hm hk h1 h2
    obtain ⟨k, rfl⟩ : ∃ q, k = q + 1 := ⟨k - 1, by omega⟩
    obtain ⟨r, g1, g2, g3⟩ := of_f k x (by omega) h2 (by omega)
    rw [secateurlaw02_Small.l0, g1]
    by_cases c : (i : Int) < (l.length : Int)
    · rw [if_pos c, if_neg (by omega)]; exact ⟨r, rfl, g2, g3⟩
    · rw [if_neg c]; exact ⟨r, rfl, g2, g3⟩
  | succ m ih =>
    intro k i x hm hk h1 h2
    obtain ⟨k, rfl⟩ : ∃ q, k = q + 1 := ⟨k - 1, by omega⟩
    obtain ⟨r, g1, g2, g3⟩ := of_f k x (by omega) h2 (by omega)
    rw [secateurlaw02_Small.l0, g1]
    by_cases c : (i : Int) < (l.length : Int)
    · rw [if_pos c, if_pos (by omega), if_pos (by omega), if_pos (by omega), wrap_next i (by omega)]
      exact ih k (i + 1) _ (by omega) (by omega) (by rw [List.length_append, List.length_singleton, h1]) (fun z hz => by
        rcases List.mem_append.1 hz with h | h
        · exact h2 z h
        · rw [List.mem_singleton.1 h]; exact tmod_vl _)
    · rw [if_neg c]; exact ⟨r, rfl, g2, g3⟩
theorem small_f (k : Nat) (l : List Int) (hk : 300100 ≤ k) : ∃ r, secateurlaw02_Small.f k l = some r ∧ Dom r ∧ r.length ≤ 30 := by
  unfold secateurlaw02_Small.f
  exact small_loop l 30 k 0 [] (by omega) (by omega) rfl (fun z hz => by cases hz)
theorem doms_loop (l : List (List Int)) (m : Nat) : ∀ (k i : Nat) (x : List (List S62)), m + i = 6 → m + 300200 ≤ k → x.length = i → (∀ z ∈ x, Dom z ∧ z.length ≤ 30) →
    ∃ r, secateurlaw03_doms.l0 k l x i = some r ∧ r.length ≤ 6 ∧ ∀ z ∈ r, Dom z ∧ z.length ≤ 30 := by
  induction m with
  | zero =>
    intro k i x hm hk h1 h2
    obtain ⟨k, rfl⟩ : ∃ q, k = q + 1 := ⟨k - 1, by omega⟩
    rw [secateurlaw03_doms.l0]
    by_cases c : (i : Int) < (l.length : Int)
    · rw [if_pos c, if_neg (by omega)]; exact ⟨x, rfl, by omega, h2⟩
    · rw [if_neg c]; exact ⟨x, rfl, by omega, h2⟩
  | succ m ih =>
    intro k i x hm hk h1 h2
    obtain ⟨k, rfl⟩ : ∃ q, k = q + 1 := ⟨k - 1, by omega⟩
    rw [secateurlaw03_doms.l0]
    by_cases c : (i : Int) < (l.length : Int)
    · obtain ⟨r, g1, g2, g3⟩ := small_f k (rd_L2 l i) (by omega)
      rw [if_pos c, if_pos (by omega), if_pos (by omega), g1, Option.bind_some, if_pos (by omega), wrap_next i (by omega)]
      exact ih k (i + 1) _ (by omega) (by omega) (by rw [List.length_append, List.length_singleton, h1]) (fun z hz => by
        rcases List.mem_append.1 hz with h | h
        · exact h2 z h
        · rw [List.mem_singleton.1 h]; exact ⟨g2, g3⟩)
    · rw [if_neg c]; exact ⟨x, rfl, by omega, h2⟩
theorem doms_f (k : Nat) (l : List (List Int)) (hk : 300300 ≤ k) : ∃ r, secateurlaw03_doms.f k l = some r ∧ r.length ≤ 6 ∧ ∀ z ∈ r, Dom z ∧ z.length ≤ 30 := by
  unfold secateurlaw03_doms.f
  exact doms_loop l 6 k 0 [] (by omega) (by omega) rfl (fun z hz => by cases hz)
end Go.Proofs.Ytcjachhdoogbaaa.PT

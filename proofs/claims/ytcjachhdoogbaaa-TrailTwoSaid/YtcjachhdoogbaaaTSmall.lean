/- Sorted, Of, Small, doms, over lists alone: what comes out are domains. No conditions but the lengths' bounds. -/
import Derived.Test.YtcjachhdoogbaaaTMinus
set_option linter.unusedVariables false
set_option linter.unusedSimpArgs false
namespace Go.Proofs.Ytcjachhdoogbaaa.PT
open Go.RowKit Go.Proofs.YtcjachhdoogbaaaW.PrintWords Go.Proofs.YtcjachhdoogbaaaW.PrintLast Go.Proofs.YtcjachhdoogbaaaW.PrintMore
def insF (v : Int) : List Int → Bool → List Int
  | [], p => if p = true then [] else [v]
  | o :: l, p => if p = true then o :: insF v l true else if v < o then v :: o :: insF v l true else o :: insF v l false
theorem insF_true (v : Int) (l : List Int) : insF v l true = l := by
  induction l with
  | nil => rfl
  | cons o l ih => rw [insF, if_pos rfl, ih]
theorem insF_mem (v : Int) (l : List Int) (z : Int) : z ∈ insF v l false ↔ z = v ∨ z ∈ l := by
  induction l with
  | nil => simp [insF]
  | cons o l ih =>
    rw [insF, if_neg (by simp)]
    by_cases h : v < o
    · rw [if_pos h, insF_true]; simp
    · rw [if_neg h, List.mem_cons, ih, List.mem_cons]
      constructor
      · rintro (h1 | h1 | h1)
        · exact .inr (.inl h1)
        · exact .inl h1
        · exact .inr (.inr h1)
      · rintro (h1 | h1 | h1)
        · exact .inr (.inl h1)
        · exact .inl h1
        · exact .inr (.inr h1)
theorem insF_len (v : Int) (l : List Int) : (insF v l false).length = l.length + 1 := by
  induction l with
  | nil => rfl
  | cons o l ih =>
    rw [insF, if_neg (by simp)]
    by_cases h : v < o
    · rw [if_pos h, insF_true]; rfl
    · rw [if_neg h, List.length_cons, ih, List.length_cons]
theorem insF_sorted (v : Int) (l : List Int) (hs : l.Pairwise (· < ·)) (hv : v ∉ l) : (insF v l false).Pairwise (· < ·) := by
  induction l with
  | nil => simp [insF]
  | cons o l ih =>
    rw [List.pairwise_cons] at hs
    rw [List.mem_cons, not_or] at hv
    rw [insF, if_neg (by simp)]
    by_cases h : v < o
    · rw [if_pos h, insF_true, List.pairwise_cons, List.pairwise_cons]
      exact ⟨fun z hz => by
        rcases List.mem_cons.1 hz with h1 | h1
        · rw [h1]; exact h
        · exact Int.lt_trans h (hs.1 z h1), hs.1, hs.2⟩
    · rw [if_neg h, List.pairwise_cons]
      refine ⟨fun z hz => ?_, ih hs.2 hv.2⟩
      rcases (insF_mem v l z).1 hz with h1 | h1
      · rw [h1]; omega
      · exact hs.1 z h1
theorem ins_loop (x out : List Int) (i : Nat) (hi : i < x.length) (hx : x.length ≤ 1000) (ho : out.length ≤ 1000) (m : Nat) : ∀ (k j : Nat) (next : List Int) (p : Bool), m + j = out.length → m + 1 ≤ k → next.length ≤ j + (if p = true then 1 else 0) →
    secateurref02_Sorted.l1 k x out i next p j = secateurref02_Sorted.l0 (k - (m + 1)) x (next ++ insF (rd x i) (out.drop j) p) ((i + 1 : Nat) : Int) := by
  induction m with
  | zero =>
    intro k j next p hm hk hn
    obtain ⟨k, rfl⟩ : ∃ q, k = q + 1 := ⟨k - 1, by omega⟩
    have hn2 : next.length ≤ 1001 := by split at hn <;> omega
    rw [secateurref02_Sorted.l1, if_neg (by omega), wrap_next i (by omega), List.drop_of_length_le (by omega)]
    by_cases hp : p = true
    · subst hp; rw [if_pos rfl]; simp [insF]
    · rw [if_neg hp, if_pos (by omega), if_pos (by omega), if_pos (by omega)]; simp [insF, hp]
  | succ m ih =>
    intro k j next p hm hk hn
    obtain ⟨k, rfl⟩ : ∃ q, k = q + 1 := ⟨k - 1, by omega⟩
    have hn2 : next.length ≤ 1001 := by split at hn <;> omega
    have hj : j < out.length := by omega
    have e : rd out j = out[j] := by simp [rd, List.getD_eq_getElem?_getD, List.getElem?_eq_getElem hj]
    have ek : k + 1 - (m + 1 + 1) = k - (m + 1) := by omega
    rw [secateurref02_Sorted.l1, if_pos (by omega), List.drop_eq_getElem_cons hj, insF, wrap_next j (by omega), e, ek]
    by_cases hp : p = true
    · subst hp
      rw [if_pos rfl] at hn
      rw [if_pos rfl, if_pos (by omega), if_pos (by omega), ih k (j + 1) _ true (by omega) (by omega) (by rw [List.length_append, List.length_singleton, if_pos rfl]; omega), if_pos rfl, List.append_assoc]; rfl
    · rw [if_neg hp] at hn
      rw [if_neg hp, if_neg hp, if_pos (by omega), if_pos (by omega), if_pos (by omega)]
      by_cases hv : rd x i < out[j]
      · rw [if_pos hv, if_pos hv, if_pos (by omega), Option.bind_some, if_pos (by rw [List.length_append, List.length_singleton]; omega)]
        have := ih k (j + 1) (next ++ [rd x i] ++ [out[j]]) true (by omega) (by omega) (by rw [List.length_append, List.length_append, List.length_singleton, List.length_singleton, if_pos rfl]; omega)
        rw [this, List.append_assoc, List.append_assoc]; rfl
      · rw [if_neg hv, if_neg hv, if_pos (by omega), ih k (j + 1) _ p (by omega) (by omega) (by rw [List.length_append, List.length_singleton, if_neg hp]; omega), List.append_assoc]
        have : p = false := by simpa using hp
        subst this; rfl
theorem sorted_loop (x : List Int) (hx : x.length ≤ 500) (m : Nat) : ∀ (k i : Nat) (out : List Int), m + i = x.length → 520 * m + 520 ≤ k → out.Pairwise (· < ·) → (∀ z ∈ out, z ∈ x) → out.length ≤ i →
    ∃ s, secateurref02_Sorted.l0 k x out i = some s ∧ s.Pairwise (· < ·) ∧ (∀ z ∈ s, z ∈ x) ∧ s.length ≤ x.length := by
  induction m with
  | zero =>
    intro k i out hm hk h1 h2 h3
    obtain ⟨k, rfl⟩ : ∃ q, k = q + 1 := ⟨k - 1, by omega⟩
    rw [secateurref02_Sorted.l0, if_neg (by omega)]
    exact ⟨out, rfl, h1, h2, by omega⟩
  | succ m ih =>
    intro k i out hm hk h1 h2 h3
    obtain ⟨k, rfl⟩ : ∃ q, k = q + 1 := ⟨k - 1, by omega⟩
    have hi : i < x.length := by omega
    have e : rd x i = x[i] := by simp [rd, List.getD_eq_getElem?_getD, List.getElem?_eq_getElem hi]
    have hmem : rd x i ∈ x := by rw [e]; exact List.getElem_mem hi
    rw [secateurref02_Sorted.l0, if_pos (by omega), if_pos (by omega), has_f k out _ (by omega) (by omega), Option.bind_some]
    have hl := ins_loop x out i hi (by omega) (by omega) out.length k 0 [] (decide (rd x i ∈ out)) (by omega) (by omega) (by simp)
    rw [List.drop_zero, List.nil_append] at hl
    rw [show ((0 : Nat) : Int) = 0 from rfl] at hl
    rw [hl]
    by_cases hin : rd x i ∈ out
    · rw [decide_eq_true hin, insF_true]
      exact ih _ (i + 1) out (by omega) (by omega) h1 h2 (by omega)
    · rw [decide_eq_false hin]
      refine ih _ (i + 1) _ (by omega) (by omega) (insF_sorted _ _ h1 hin) (fun z hz => ?_) (by rw [insF_len]; omega)
      rcases (insF_mem _ _ z).1 hz with h4 | h4
      · rw [h4]; exact hmem
      · exact h2 z h4
theorem sorted_f (k : Nat) (x : List Int) (hx : x.length ≤ 500) (hk : 300000 ≤ k) : ∃ s, secateurref02_Sorted.f k x = some s ∧ s.Pairwise (· < ·) ∧ (∀ z ∈ s, z ∈ x) ∧ s.length ≤ x.length := by
  unfold secateurref02_Sorted.f
  exact sorted_loop x hx x.length k 0 [] (by omega) (by omega) List.Pairwise.nil (fun z hz => by cases hz) (Nat.le_refl _)
theorem right_snoc (out : List S62) (x : S62) (h : Right out) (h0 : Vl x.f0) (h1 : Vl x.f1) (h2 : x.f0 ≤ x.f1) (h3 : 0 < out.length → (rd_T62 out ((out.length : Int) - 1)).f1 + 2 ≤ x.f0) : Right (out ++ [x]) := by
  have ea : ∀ i : Nat, i < out.length → rd_T62 (out ++ [x]) i = rd_T62 out i := fun i hi => by
    simp [rd_T62, List.getD_eq_getElem?_getD, List.getElem?_append_left hi]
  intro i hi
  rw [List.length_append, List.length_singleton] at hi
  by_cases hlt : i < out.length
  · have := h i hlt
    unfold RightAt at *
    rw [ea i hlt]
    refine ⟨this.1, this.2.1, this.2.2.1, fun hp => ?_⟩
    have h4 := this.2.2.2 hp
    have e2 : ((i - 1 : Nat) : Int) = (i : Int) - 1 := by omega
    rw [← e2] at h4 ⊢
    rw [ea (i - 1) (by omega)]
    exact h4
  · have hie : i = out.length := by omega
    subst hie
    have ex : rd_T62 (out ++ [x]) out.length = x := by simp [rd_T62, List.getD_eq_getElem?_getD]
    unfold RightAt
    rw [ex]
    refine ⟨h0, h1, h2, fun hp => ?_⟩
    have h4 := h3 hp
    have e2 : ((out.length - 1 : Nat) : Int) = (out.length : Int) - 1 := by omega
    rw [← e2] at h4 ⊢
    rw [ea (out.length - 1) (by omega)]
    exact h4
theorem sorted_lt (l : List Int) (hs : l.Pairwise (· < ·)) (i : Nat) (hi : i + 1 < l.length) : rd l i < rd l ((i + 1 : Nat) : Int) := by
  have e1 : rd l i = l[i] := by simp [rd, List.getD_eq_getElem?_getD, List.getElem?_eq_getElem (show i < l.length by omega)]
  have e2 : rd l ((i + 1 : Nat) : Int) = l[i + 1] := by simp only [rd, Int.toNat_natCast, List.getD_eq_getElem?_getD, List.getElem?_eq_getElem hi]; rfl
  rw [e1, e2]
  exact List.pairwise_iff_getElem.1 hs i (i + 1) (by omega) hi (by omega)
/-- Pack of rising values is right, and has as many. -/
theorem pack2_loop (l : List Int) (hl : l.length ≤ 1000000) (hs : l.Pairwise (· < ·)) (hv : ∀ z ∈ l, Vl z) (m : Nat) : ∀ (k i fr : Nat) (out : List S62), m + i = l.length → m + 1 ≤ k → fr ≤ i → out.length ≤ i → Right out → cnt out = fr →
    (i = l.length → fr = l.length) → (i < l.length → rd l i = rd l fr + (i - fr)) → (0 < out.length → fr < l.length → (rd_T62 out ((out.length : Int) - 1)).f1 + 2 ≤ rd l fr) →
    ∃ r, secateurref02_Pack.l0 k l out fr i = some r ∧ Right r ∧ cnt r = l.length := by
  have hval : ∀ t : Nat, t < l.length → Vl (rd l t) := fun t ht => by
    have e1 : rd l t = l[t] := by simp [rd, List.getD_eq_getElem?_getD, List.getElem?_eq_getElem ht]
    rw [e1]; exact hv _ (List.getElem_mem ht)
  induction m with
  | zero =>
    intro k i fr out hm hk hf ho h1 h2 h3 h4 h5
    obtain ⟨k, rfl⟩ : ∃ q, k = q + 1 := ⟨k - 1, by omega⟩
    rw [secateurref02_Pack.l0, if_neg (by omega)]
    exact ⟨out, rfl, h1, by rw [h2, h3 (by omega)]⟩
  | succ m ih =>
    intro k i fr out hm hk hf ho h1 h2 h3 h4 h5
    obtain ⟨k, rfl⟩ : ∃ q, k = q + 1 := ⟨k - 1, by omega⟩
    have hi : i < l.length := by omega
    have h4 := h4 hi
    have hvi := hval i hi
    have hvf := hval fr (by omega)
    have hx : Right (out ++ [(⟨rd l fr, rd l i⟩ : S62)]) := right_snoc out _ h1 hvf hvi (by show rd l fr ≤ rd l i; omega) (fun hp => h5 hp (by omega))
    have hcx : cnt (out ++ [(⟨rd l fr, rd l i⟩ : S62)]) = ((i + 1 : Nat) : Int) := by rw [cnt_app, h2]; simp [cnt]; omega
    have hlast : rd_T62 (out ++ [(⟨rd l fr, rd l i⟩ : S62)]) (((out ++ [(⟨rd l fr, rd l i⟩ : S62)]).length : Int) - 1) = (⟨rd l fr, rd l i⟩ : S62) := by
      rw [List.length_append, List.length_singleton, show ((out.length + 1 : Nat) : Int) - 1 = (out.length : Int) by omega]
      simp [rd_T62, List.getD_eq_getElem?_getD]
    have hsn : (i + 1 < l.length → rd l i + 2 ≤ rd l ((i + 1 : Nat) : Int)) → ∃ r, secateurref02_Pack.l0 k l (out ++ [(⟨rd l fr, rd l i⟩ : S62)]) ((i + 1 : Nat) : Int) ((i + 1 : Nat) : Int) = some r ∧ Right r ∧ cnt r = l.length := fun hnx =>
      ih k (i + 1) (i + 1) _ (by omega) (by omega) (Nat.le_refl _) (by rw [List.length_append, List.length_singleton]; omega) hx hcx (fun h => h) (fun _ => by omega) (fun _ hlt => by rw [hlast]; exact hnx hlt)
    unfold Vl at hvi hvf
    rw [secateurref02_Pack.l0, if_pos (by omega), wrap_next i (by omega)]
    by_cases c1 : i + 1 = l.length
    · rw [if_pos (by omega), if_pos (by omega), if_pos (by omega), if_pos (by omega), if_pos (by omega)]
      exact hsn (fun h => by omega)
    · rw [if_neg (by omega), if_pos (by omega), if_pos (by omega), if_pos (by omega), wrap_id (rd l i + 1) (by omega)]
      have hlt := sorted_lt l hs i (by omega)
      by_cases c2 : rd l ((i + 1 : Nat) : Int) = rd l i + 1
      · rw [if_pos c2]
        exact ih k (i + 1) fr out (by omega) (by omega) (by omega) (by omega) h1 h2 (fun h => by omega) (fun _ => by omega) h5
      · rw [if_neg c2, if_pos (by omega), if_pos (by omega), if_pos (by omega)]
        exact hsn (fun _ => by omega)
theorem pack2_f (k : Nat) (l : List Int) (hl : l.length ≤ 4096) (hs : l.Pairwise (· < ·)) (hv : ∀ z ∈ l, Vl z) (hk : l.length + 1 ≤ k) : ∃ r, secateurref02_Pack.f k l = some r ∧ Dom r ∧ cnt r = l.length := by
  unfold secateurref02_Pack.f
  obtain ⟨r, h1, h2, h3⟩ := pack2_loop l (by omega) hs hv l.length k 0 0 [] (by omega) hk (Nat.le_refl _) (by simp) (fun i hi => by simp at hi) rfl (fun h => h) (fun _ => by omega) (fun h => by simp at h)
  exact ⟨r, h1, ⟨h2, by omega⟩, h3⟩
theorem rvalue_f (v : Int) : secateurref02_Value.f v = some (decide (Vl v)) := value_f v
theorem of_loop (x : List Int) (hx : x.length ≤ 30) (hv : ∀ z ∈ x, Vl z) (m : Nat) : ∀ (k i : Nat), m + i = x.length → m + 300002 ≤ k →
    ∃ r, secateurref02_Of.l0 k x i = some (r, 0) ∧ Dom r ∧ r.length ≤ 30 := by
  induction m with
  | zero =>
    intro k i hm hk
    obtain ⟨k, rfl⟩ : ∃ q, k = q + 1 := ⟨k - 1, by omega⟩
    obtain ⟨s, h1, h2, h3, h4⟩ := sorted_f k x (by omega) (by omega)
    obtain ⟨r, g1, g2, g3⟩ := pack2_f k s (by omega) h2 (fun z hz => hv z (h3 z hz)) (by omega)
    obtain ⟨r', e1, e2, e3⟩ := pack_f k s (by omega) (by omega)
    rw [g1] at e1
    obtain rfl := Option.some.inj e1
    rw [secateurref02_Of.l0, if_neg (by omega), h1, Option.bind_some, if_neg (by omega), g1]
    exact ⟨r, rfl, g2, by omega⟩
  | succ m ih =>
    intro k i hm hk
    obtain ⟨k, rfl⟩ : ∃ q, k = q + 1 := ⟨k - 1, by omega⟩
    have hi : i < x.length := by omega
    have e : rd x i = x[i] := by simp [rd, List.getD_eq_getElem?_getD, List.getElem?_eq_getElem hi]
    have hmem : Vl (rd x i) := by rw [e]; exact hv _ (List.getElem_mem hi)
    rw [secateurref02_Of.l0, if_pos (by omega), if_pos (by omega), rvalue_f, Option.bind_some, if_pos (decide_eq_true hmem), wrap_next i (by omega)]
    exact ih k (i + 1) (by omega) (by omega)
theorem of_f (k : Nat) (x : List Int) (hx : x.length ≤ 30) (hv : ∀ z ∈ x, Vl z) (hk : 300040 ≤ k) : ∃ r, secateurref02_Of.f k x = some (r, 0) ∧ Dom r ∧ r.length ≤ 30 := by
  unfold secateurref02_Of.f
  exact of_loop x hx hv x.length k 0 (by omega) (by omega)
theorem tmod_vl (v : Int) : Vl (Int.tmod v 201) := by
  have h1 := Int.tmod_lt_of_pos v (show (0 : Int) < 201 by omega)
  have h2 := Int.lt_tmod_of_pos v (show (0 : Int) < 201 by omega)
  unfold Vl
  omega
theorem small_loop (l : List Int) (m : Nat) : ∀ (k i : Nat) (x : List Int), m + i = 30 → m + 300050 ≤ k → x.length = i → (∀ z ∈ x, Vl z) →
    ∃ r, secateurlaw02_Small.l0 k l x i = some r ∧ Dom r ∧ r.length ≤ 30 := by
  induction m with
  | zero =>
    intro k i x hm hk h1 h2
    obtain ⟨k, rfl⟩ : ∃ q, k = q + 1 := ⟨k - 1, by omega⟩
    obtain ⟨r, g1, g2, g3⟩ := of_f k x (by omega) h2 (by omega)
    rw [secateurlaw02_Small.l0, g1]
    by_cases c : (i : Int) < (l.length : Int)
    · rw [if_pos c, if_neg (by omega)]; exact ⟨r, rfl, g2, g3⟩
    · rw [if_neg c]; exact ⟨r, rfl, g2, g3⟩
  | succ m ih =>
    intro k i x hm hk h1 h2
    obtain ⟨k, rfl⟩ : ∃ q, k = q + 1 := ⟨k - 1, by omega⟩
    obtain ⟨r, g1, g2, g3⟩ := of_f k x (by omega) h2 (by omega)
    rw [secateurlaw02_Small.l0, g1]
    by_cases c : (i : Int) < (l.length : Int)
    · rw [if_pos c, if_pos (by omega), if_pos (by omega), if_pos (by omega), wrap_next i (by omega)]
      exact ih k (i + 1) _ (by omega) (by omega) (by rw [List.length_append, List.length_singleton, h1]) (fun z hz => by
        rcases List.mem_append.1 hz with h | h
        · exact h2 z h
        · rw [List.mem_singleton.1 h]; exact tmod_vl _)
    · rw [if_neg c]; exact ⟨r, rfl, g2, g3⟩
theorem small_f (k : Nat) (l : List Int) (hk : 300100 ≤ k) : ∃ r, secateurlaw02_Small.f k l = some r ∧ Dom r ∧ r.length ≤ 30 := by
  unfold secateurlaw02_Small.f
  exact small_loop l 30 k 0 [] (by omega) (by omega) rfl (fun z hz => by cases hz)
theorem doms_loop (l : List (List Int)) (m : Nat) : ∀ (k i : Nat) (x : List (List S62)), m + i = 6 → m + 300200 ≤ k → x.length = i → (∀ z ∈ x, Dom z ∧ z.length ≤ 30) →
    ∃ r, secateurlaw03_doms.l0 k l x i = some r ∧ r.length ≤ 6 ∧ ∀ z ∈ r, Dom z ∧ z.length ≤ 30 := by
  induction m with
  | zero =>
    intro k i x hm hk h1 h2
    obtain ⟨k, rfl⟩ : ∃ q, k = q + 1 := ⟨k - 1, by omega⟩
    rw [secateurlaw03_doms.l0]
    by_cases c : (i : Int) < (l.length : Int)
    · rw [if_pos c, if_neg (by omega)]; exact ⟨x, rfl, by omega, h2⟩
    · rw [if_neg c]; exact ⟨x, rfl, by omega, h2⟩
  | succ m ih =>
    intro k i x hm hk h1 h2
    obtain ⟨k, rfl⟩ : ∃ q, k = q + 1 := ⟨k - 1, by omega⟩
    rw [secateurlaw03_doms.l0]
    by_cases c : (i : Int) < (l.length : Int)
    · obtain ⟨r, g1, g2, g3⟩ := small_f k (rd_L2 l i) (by omega)
      rw [if_pos c, if_pos (by omega), if_pos (by omega), g1, Option.bind_some, if_pos (by omega), wrap_next i (by omega)]
      exact ih k (i + 1) _ (by omega) (by omega) (by rw [List.length_append, List.length_singleton, h1]) (fun z hz => by
        rcases List.mem_append.1 hz with h | h
        · exact h2 z h
        · rw [List.mem_singleton.1 h]; exact ⟨g2, g3⟩)
    · rw [if_neg c]; exact ⟨x, rfl, by omega, h2⟩
theorem doms_f (k : Nat) (l : List (List Int)) (hk : 300300 ≤ k) : ∃ r, secateurlaw03_doms.f k l = some r ∧ r.length ≤ 6 ∧ ∀ z ∈ r, Dom z ∧ z.length ≤ 30 := by
  unfold secateurlaw03_doms.f
  exact doms_loop l 6 k 0 [] (by omega) (by omega) rfl (fun z hz => by cases hz)
end Go.Proofs.Ytcjachhdoogbaaa.PT

/- Minus, over lists alone: nothing is left just if each value is in the other one. No conditions but the lengths' bounds. -/
import Derived.Test.YtcjachhdoogbaaaTPack
set_option linter.unusedVariables false
set_option linter.unusedSimpArgs false
namespace Go.Proofs.Ytcjachhdoogbaaa.PT
open Go.RowKit Go.Proofs.YtcjachhdoogbaaaW.PrintWords Go.Proofs.YtcjachhdoogbaaaW.PrintLast Go.Proofs.YtcjachhdoogbaaaW.PrintMore
theorem right_le (l : List S62) (h : Right l) (i : Nat) : ∀ j, i < j → j < l.length → (rd_T62 l i).f1 + 2 ≤ (rd_T62 l j).f0 := by
  intro j
  induction j with
  | zero => intro h1; omega
  | succ j ih =>
    intro h1 h2
    have h3 := (h (j + 1) h2).2.2.2 (by omega)
    rw [show ((j + 1 : Nat) : Int) - 1 = (j : Int) by omega] at h3
    by_cases hij : i = j
    · subst hij; exact h3
    · have h4 := ih (by omega) (by omega)
      have h5 := (h j (by omega)).2.2.1
      omega
theorem drop_cons62 (l : List S62) (j : Nat) (h : j < l.length) : l.drop j = rd_T62 l j :: l.drop (j + 1) := by
  rw [List.drop_eq_getElem_cons h]; congr 1
  have := rd62_get l j h
  rw [List.getElem?_eq_getElem h] at this
  exact Option.some.inj this
theorem vals_cons (r : S62) (l : List S62) (v : Int) : v ∈ vals (r :: l) ↔ v ∈ rv r ∨ v ∈ vals l := by
  unfold vals; rw [List.flatMap_cons, List.mem_append]
theorem vals_drop (l : List S62) (h : Right l) (j : Nat) (hj : j < l.length) (v : Int) (hv : v ∈ vals (l.drop (j + 1))) : (rd_T62 l j).f1 + 2 ≤ v := by
  unfold vals at hv
  obtain ⟨r, hr, hv⟩ := List.mem_flatMap.1 hv
  obtain ⟨t, ht, e⟩ := List.getElem_of_mem hr
  rw [List.getElem_drop] at e
  rw [List.length_drop] at ht
  have h1 := right_le l h j (j + 1 + t) (by omega) (by omega)
  have h2 := rd62_get l (j + 1 + t) (by omega)
  rw [List.getElem?_eq_getElem (by omega), e] at h2
  have h2 := Option.some.inj h2
  rw [← h2] at h1
  have h3 := (right_all l h r (List.mem_of_mem_drop hr)).2.2
  have := (rv_mem r v h3).1 hv
  omega
theorem minus_in (a b : List S62) (hb : Dom b) (i : Nat) (hi' : i ≤ 1000000) (hi : Int) (hh : Vl hi) (m : Nat) : ∀ (k j : Nat) (lo : Int) (out : List S62), m + j = b.length → 2 * m + 2 ≤ k → -1048576 ≤ lo → lo ≤ 1048577 → out.length + m ≤ 1000000000 →
    ∃ k' out', dom_Minus.l1 k b out a a.length i b b.length j lo hi = dom_Minus.l0 k' b out' a a.length ((i + 1 : Nat) : Int) ∧ k ≤ k' + 2 * m + 1 ∧ out.length ≤ out'.length ∧ out'.length ≤ out.length + m + 1 ∧
      (out'.length = out.length ↔ ∀ v, lo ≤ v → v ≤ hi → v ∈ vals (b.drop j)) := by
  have hbl := dom_len b hb
  unfold Vl at hh
  induction m with
  | zero =>
    intro k j lo out hm hk h1 h2 h3
    obtain ⟨k, rfl⟩ : ∃ q, k = q + 1 := ⟨k - 1, by omega⟩
    rw [dom_Minus.l1, if_neg (by omega), wrap_next i (by omega), List.drop_of_length_le (by omega)]
    by_cases hl : lo ≤ hi
    · rw [if_pos hl, if_pos (by omega)]
      refine ⟨k, _, rfl, by omega, by simp, by simp, ⟨fun h => by simp at h, fun h => ?_⟩⟩
      have := h lo (Int.le_refl _) hl
      simp [vals] at this
    · rw [if_neg hl]
      exact ⟨k, _, rfl, by omega, Nat.le_refl _, by omega, ⟨fun _ v h4 h5 => by omega, fun _ => rfl⟩⟩
  | succ m ih =>
    intro k j lo out hm hk h1 h2 h3
    obtain ⟨k, rfl⟩ : ∃ q, k = (q + 1) + 1 := ⟨k - 2, by omega⟩
    have hj : j < b.length := by omega
    have hy := right_all b hb.1 (rd_T62 b j) (List.mem_of_getElem? (rd62_get b j hj))
    have hyl := hy.2.2
    have hy0 := hy.1
    have hy1 := hy.2.1
    unfold Vl at hy0 hy1
    rw [dom_Minus.l1, if_pos (by omega), if_pos (by omega), if_pos (by omega)]
    have skip : ((rd_T62 b j).f1 < lo ∨ (rd_T62 b j).f0 > hi) → ∃ k' out', dom_Minus.l1 k b out a a.length i b b.length ((j + 1 : Nat) : Int) lo hi = dom_Minus.l0 k' b out' a a.length ((i + 1 : Nat) : Int) ∧ (k + 1) + 1 ≤ k' + 2 * (m + 1) + 1 ∧ out.length ≤ out'.length ∧ out'.length ≤ out.length + (m + 1) + 1 ∧ (out'.length = out.length ↔ ∀ v, lo ≤ v → v ≤ hi → v ∈ vals (b.drop j)) := fun hs => by
      obtain ⟨k', out', g1, g2, g3, g4, g5⟩ := ih k (j + 1) lo out (by omega) (by omega) h1 h2 (by omega)
      refine ⟨k', out', g1, by omega, g3, by omega, g5.trans ⟨fun h v h4 h5 => ?_, fun h v h4 h5 => ?_⟩⟩
      · rw [drop_cons62 b j hj, vals_cons]; exact .inr (h v h4 h5)
      · have := h v h4 h5
        rw [drop_cons62 b j hj, vals_cons, rv_mem _ _ hyl] at this
        exact this.resolve_left (by omega)
    have hwj := wrap_next j (by omega)
    by_cases c1 : (rd_T62 b j).f1 < lo
    · rw [if_pos c1, dom_Minus.j2, if_pos rfl, hwj]
      exact skip (.inl c1)
    · rw [if_neg c1, dom_Minus.j2]
      by_cases c2 : (rd_T62 b j).f0 > hi
      · rw [if_pos (decide_eq_true c2), hwj]
        exact skip (.inr c2)
      · rw [if_neg (by simpa using c2), hwj, wrap_id ((rd_T62 b j).f0 - 1) (by omega), wrap_id ((rd_T62 b j).f1 + 1) (by omega)]
        by_cases c3 : (rd_T62 b j).f0 > lo
        · rw [if_pos c3, if_pos (by omega)]
          obtain ⟨k', out', g1, g2, g3, g4, g5⟩ := ih k (j + 1) ((rd_T62 b j).f1 + 1) (out ++ [⟨lo, (rd_T62 b j).f0 - 1⟩]) (by omega) (by omega) (by omega) (by omega) (by rw [List.length_append, List.length_singleton]; omega)
          rw [List.length_append, List.length_singleton] at g3 g4
          refine ⟨k', out', g1, by omega, by omega, by omega, ⟨fun h => by omega, fun h => ?_⟩⟩
          have := h lo (Int.le_refl _) (by omega)
          rw [drop_cons62 b j hj, vals_cons, rv_mem _ _ hyl] at this
          rcases this with h4 | h4
          · omega
          · have := vals_drop b hb.1 j hj lo h4; omega
        · rw [if_neg c3]
          obtain ⟨k', out', g1, g2, g3, g4, g5⟩ := ih k (j + 1) ((rd_T62 b j).f1 + 1) out (by omega) (by omega) (by omega) (by omega) (by omega)
          refine ⟨k', out', g1, by omega, g3, by omega, g5.trans ⟨fun h v h4 h5 => ?_, fun h v h4 h5 => ?_⟩⟩
          · rw [drop_cons62 b j hj, vals_cons, rv_mem _ _ hyl]
            by_cases h6 : v ≤ (rd_T62 b j).f1
            · exact .inl ⟨by omega, h6⟩
            · exact .inr (h v (by omega) h5)
          · have := h v (by omega) h5
            rw [drop_cons62 b j hj, vals_cons, rv_mem _ _ hyl] at this
            exact this.resolve_left (by omega)
theorem minus_loop (a b : List S62) (ha : Dom a) (hb : Dom b) (m : Nat) : ∀ (k i : Nat) (out : List S62), m + i = a.length → 8200 * m + 1 ≤ k → out.length ≤ 4097 * i →
    ∃ r, dom_Minus.l0 k b out a a.length i = some r ∧ out.length ≤ r.length ∧ r.length ≤ 4097 * a.length ∧ (r.length = out.length ↔ ∀ v, v ∈ vals (a.drop i) → v ∈ vals b) := by
  have hal := dom_len a ha
  have hbl := dom_len b hb
  induction m with
  | zero =>
    intro k i out hm hk ho
    obtain ⟨k, rfl⟩ : ∃ q, k = q + 1 := ⟨k - 1, by omega⟩
    rw [dom_Minus.l0, if_neg (by omega), List.drop_of_length_le (by omega)]
    have : i = a.length := by omega
    exact ⟨out, rfl, Nat.le_refl _, by rw [← this]; exact ho, ⟨fun _ v h => by simp [vals] at h, fun _ => rfl⟩⟩
  | succ m ih =>
    intro k i out hm hk ho
    obtain ⟨k, rfl⟩ : ∃ q, k = q + 1 := ⟨k - 1, by omega⟩
    have hi : i < a.length := by omega
    have hx := right_all a ha.1 (rd_T62 a i) (List.mem_of_getElem? (rd62_get a i hi))
    have hx0 := hx.1
    unfold Vl at hx0
    rw [dom_Minus.l0, if_pos (by omega), if_pos (by omega), if_pos (by omega)]
    obtain ⟨k', out', g1, g2, g3, g4, g5⟩ := minus_in a b hb i (by omega) (rd_T62 a i).f1 hx.2.1 b.length k 0 (rd_T62 a i).f0 out (by omega) (by omega) (by omega) (by omega) (by omega)
    have g1' : dom_Minus.l1 k b out a a.length i b b.length 0 (rd_T62 a i).f0 (rd_T62 a i).f1 = dom_Minus.l0 k' b out' a a.length ((i + 1 : Nat) : Int) := g1
    rw [g1']
    obtain ⟨r, f1, f2, f3, f4⟩ := ih k' (i + 1) out' (by omega) (by omega) (by omega)
    refine ⟨r, f1, by omega, f3, ?_⟩
    rw [List.drop_zero] at g5
    rw [drop_cons62 a i hi]
    constructor
    · intro h v hv
      rw [vals_cons, rv_mem _ _ hx.2.2] at hv
      rcases hv with hv | hv
      · exact g5.1 (by omega) v hv.1 hv.2
      · exact f4.1 (by omega) v hv
    · intro h
      have e1 := g5.2 (fun v h1 h2 => h v (by rw [vals_cons, rv_mem _ _ hx.2.2]; exact .inl ⟨h1, h2⟩))
      have e2 := f4.2 (fun v hv => h v (by rw [vals_cons]; exact .inr hv))
      omega
theorem minus_f (k : Nat) (a b : List S62) (ha : Dom a) (hb : Dom b) (hk : 34000000 ≤ k) : ∃ r, dom_Minus.f k a b = some r ∧ r.length ≤ 20000000 ∧ (r.length = 0 ↔ ∀ v, v ∈ vals a → v ∈ vals b) := by
  unfold dom_Minus.f
  have hal := dom_len a ha
  obtain ⟨r, h1, h2, h3, h4⟩ := minus_loop a b ha hb a.length k 0 [] (by omega) (by omega) (by simp)
  rw [List.drop_zero] at h4
  exact ⟨r, h1, by omega, h4⟩
end Go.Proofs.Ytcjachhdoogbaaa.PT

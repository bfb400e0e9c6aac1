/- Pack, Pick, over lists alone. No conditions but the lengths' bounds. -/
import Derived.Test.YtcjachhdoogbaaaTVals
set_option linter.unusedVariables false
set_option linter.unusedSimpArgs false
namespace Go.Proofs.Ytcjachhdoogbaaa.PT
open Go.RowKit Go.Proofs.YtcjachhdoogbaaaW.PrintWords Go.Proofs.YtcjachhdoogbaaaW.PrintLast Go.Proofs.YtcjachhdoogbaaaW.PrintMore
/-- Pack answers; its ranges are none just if there was no value. -/
theorem pack_loop (l : List Int) (hl : l.length ≤ 1000000) (m : Nat) : ∀ (k i fr : Nat) (out : List S62), m + i = l.length → m + 1 ≤ k → fr ≤ i → out.length ≤ i →
    ∃ r, secateurref02_Pack.l0 k l out fr i = some r ∧ r.length ≤ l.length ∧ out.length ≤ r.length ∧ (i < l.length → out.length < r.length) := by
  induction m with
  | zero =>
    intro k i fr out hm hk hf ho
    obtain ⟨k, rfl⟩ : ∃ q, k = q + 1 := ⟨k - 1, by omega⟩
    rw [secateurref02_Pack.l0, if_neg (by omega)]
    exact ⟨out, rfl, by omega, Nat.le_refl _, fun h => by omega⟩
  | succ m ih =>
    intro k i fr out hm hk hf ho
    obtain ⟨k, rfl⟩ : ∃ q, k = q + 1 := ⟨k - 1, by omega⟩
    have hsn : ∀ x : S62, ∃ r, secateurref02_Pack.l0 k l (out ++ [x]) ((i + 1 : Nat) : Int) ((i + 1 : Nat) : Int) = some r ∧ r.length ≤ l.length ∧ out.length ≤ r.length ∧ (i < l.length → out.length < r.length) := fun x => by
      obtain ⟨r, h1, h2, h3, h4⟩ := ih k (i + 1) (i + 1) (out ++ [x]) (by omega) (by omega) (Nat.le_refl _) (by rw [List.length_append, List.length_singleton]; omega)
      rw [List.length_append, List.length_singleton] at h3
      exact ⟨r, h1, h2, by omega, fun _ => by omega⟩
    rw [secateurref02_Pack.l0, if_pos (by omega), wrap_next i (by omega)]
    by_cases h1 : i + 1 = l.length
    · rw [if_pos (by omega), if_pos (by omega), if_pos (by omega), if_pos (by omega), if_pos (by omega)]
      exact hsn _
    · rw [if_neg (by omega), if_pos (by omega), if_pos (by omega), if_pos (by omega)]
      by_cases h2 : rd l ((i + 1 : Nat) : Int) = wrap64 (rd l i + 1)
      · rw [if_pos h2]
        obtain ⟨r, g1, g2, g3, g4⟩ := ih k (i + 1) fr out (by omega) (by omega) (by omega) (by omega)
        exact ⟨r, g1, g2, g3, fun _ => g4 (by omega)⟩
      · rw [if_neg h2, if_pos (by omega), if_pos (by omega), if_pos (by omega)]
        exact hsn _
theorem pack_f (k : Nat) (l : List Int) (hl : l.length ≤ 1000000) (hk : l.length + 1 ≤ k) : ∃ r, secateurref02_Pack.f k l = some r ∧ r.length ≤ l.length ∧ (r.length = 0 ↔ l = []) := by
  unfold secateurref02_Pack.f
  obtain ⟨r, h1, h2, h3, h4⟩ := pack_loop l hl l.length k 0 0 [] (by omega) hk (Nat.le_refl _) (by simp)
  refine ⟨r, h1, h2, fun h => ?_, fun h => ?_⟩
  · rcases Nat.eq_zero_or_pos l.length with h5 | h5
    · exact List.eq_nil_of_length_eq_zero h5
    · have := h4 h5; simp at this; omega
  · subst h; simp at h2; simp [h2]
theorem pick_loop (x y : List Int) (inn : Bool) (hx : x.length ≤ 10000) (hy : y.length ≤ 10000) (m : Nat) : ∀ (k i : Nat), m + i = x.length → m + 30000 ≤ k →
    ∃ r, secateurref02_Pick.l0 k inn x y ((x.take i).filter (fun v => decide (v ∈ y) == inn)) i = some r ∧ r.length ≤ 10000 ∧ (r.length = 0 ↔ x.filter (fun v => decide (v ∈ y) == inn) = []) := by
  induction m with
  | zero =>
    intro k i hm hk
    obtain ⟨k, rfl⟩ : ∃ q, k = q + 1 := ⟨k - 1, by omega⟩
    rw [secateurref02_Pick.l0, if_neg (by omega), List.take_of_length_le (by omega)]
    have hf : (x.filter (fun v => decide (v ∈ y) == inn)).length ≤ x.length := List.length_filter_le _ _
    obtain ⟨r, h1, h2, h3⟩ := pack_f k (x.filter (fun v => decide (v ∈ y) == inn)) (by omega) (by omega)
    rw [h1]
    exact ⟨r, rfl, by omega, h3⟩
  | succ m ih =>
    intro k i hm hk
    obtain ⟨k, rfl⟩ : ∃ q, k = q + 1 := ⟨k - 1, by omega⟩
    have hi : i < x.length := by omega
    have e : rd x i = x[i] := by simp [rd, List.getD_eq_getElem?_getD, List.getElem?_eq_getElem hi]
    have hs : (x.take (i + 1)).filter (fun v => decide (v ∈ y) == inn) = (x.take i).filter (fun v => decide (v ∈ y) == inn) ++ [x[i]].filter (fun v => decide (v ∈ y) == inn) := by
      rw [← take_snoc (List.getElem?_eq_getElem hi), List.filter_append]
    have hf : ((x.take i).filter (fun v => decide (v ∈ y) == inn)).length ≤ x.length := Nat.le_trans (List.length_filter_le _ _) (by rw [List.length_take]; omega)
    rw [secateurref02_Pick.l0, if_pos (by omega), if_pos (by omega), has_f k y _ (by omega) (by omega), Option.bind_some, wrap_next i (by omega), e]
    have := ih k (i + 1) (by omega) (by omega)
    rw [hs] at this
    by_cases h : (decide (x[i] ∈ y) == inn) = true
    · rw [if_pos h, if_pos (by omega)]
      rw [show [x[i]].filter (fun v => decide (v ∈ y) == inn) = [x[i]] by simp only [List.filter_cons, h, if_true, List.filter_nil]] at this
      exact this
    · rw [if_neg h]
      rw [show [x[i]].filter (fun v => decide (v ∈ y) == inn) = [] by simp only [List.filter_cons, h, List.filter_nil]; rfl, List.append_nil] at this
      exact this
theorem pick_f (k : Nat) (a b : List S62) (inn : Bool) (ha : Dom a) (hb : Dom b) (hk : 18000000 ≤ k) : ∃ r, secateurref02_Pick.f k a b inn = some r ∧ r.length ≤ 10000 ∧ (r.length = 0 ↔ (vals a).filter (fun v => decide (v ∈ vals b) == inn) = []) := by
  unfold secateurref02_Pick.f
  rw [values_f k a ha (by omega), Option.bind_some, values_f k b hb (by omega), Option.bind_some]
  have h1 := vals_len a (fun r hr => (right_all a ha.1 r hr).2.2)
  have h2 := vals_len b (fun r hr => (right_all b hb.1 r hr).2.2)
  have h3 := ha.2
  have h4 := hb.2
  exact pick_loop (vals a) (vals b) inn (by omega) (by omega) (vals a).length k 0 (by omega) (by omega)
end Go.Proofs.Ytcjachhdoogbaaa.PT

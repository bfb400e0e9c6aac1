/- Values, Has, over lists alone. No conditions but the lengths' bounds. -/
import Derived.Test.YtcjachhdoogbaaaTSame
set_option linter.unusedVariables false
set_option linter.unusedSimpArgs false
namespace Go.Proofs.Ytcjachhdoogbaaa.PT
open Go.RowKit Go.Proofs.YtcjachhdoogbaaaW.PrintWords Go.Proofs.YtcjachhdoogbaaaW.PrintLast Go.Proofs.YtcjachhdoogbaaaW.PrintMore
/-- The values from a on, n of them. -/
def run (a : Int) : Nat → List Int
  | 0 => []
  | n + 1 => a :: run (a + 1) n
theorem run_len (a : Int) (n : Nat) : (run a n).length = n := by
  induction n generalizing a with
  | zero => rfl
  | succ n ih => rw [run, List.length_cons, ih]
theorem run_mem (a : Int) (n : Nat) (v : Int) : v ∈ run a n ↔ a ≤ v ∧ v < a + n := by
  induction n generalizing a with
  | zero => simp [run]
  | succ n ih => rw [run, List.mem_cons, ih]; omega
def rv (r : S62) : List Int := run r.f0 (r.f1 - r.f0 + 1).toNat
def vals (l : List S62) : List Int := l.flatMap rv
theorem rv_mem (r : S62) (v : Int) (h : r.f0 ≤ r.f1) : v ∈ rv r ↔ r.f0 ≤ v ∧ v ≤ r.f1 := by
  unfold rv; rw [run_mem]; omega
theorem vals_len (l : List S62) (h : ∀ r ∈ l, r.f0 ≤ r.f1) : ((vals l).length : Int) = cnt l := by
  induction l with
  | nil => rfl
  | cons r l ih =>
    have h1 := h r (by simp)
    have h2 := ih (fun x hx => h x (by simp [hx]))
    unfold vals at *
    rw [List.flatMap_cons, List.length_append, cnt]
    have : (rv r).length = (r.f1 - r.f0 + 1).toNat := run_len _ _
    rw [this]
    omega
theorem right_all (l : List S62) (h : Right l) : ∀ r ∈ l, Vl r.f0 ∧ Vl r.f1 ∧ r.f0 ≤ r.f1 := by
  intro r hr
  obtain ⟨i, hi, e⟩ := List.getElem_of_mem hr
  have h1 := h i hi
  have e1 : rd_T62 l i = r := by
    have := rd62_get l i hi
    rw [List.getElem?_eq_getElem hi] at this
    rw [← e]; exact (Option.some.inj this).symm
  rw [RightAt, e1] at h1
  exact ⟨h1.1, h1.2.1, h1.2.2.1⟩
theorem values_l1 (l : List S62) (i : Nat) (hi : i < l.length) (hv : Vl (rd_T62 l i).f0 ∧ Vl (rd_T62 l i).f1) (n : Nat) : ∀ (k : Nat) (out : List Int) (v : Int), v + n = (rd_T62 l i).f1 + 1 → (rd_T62 l i).f0 ≤ v → out.length + n ≤ 1000000000 → n + 1 ≤ k → l.length ≤ 1000000 →
    secateurref02_Values.l1 k l out i v = secateurref02_Values.l0 (k - (n + 1)) l (out ++ run v n) ((i + 1 : Nat) : Int) := by
  unfold Vl at hv
  induction n with
  | zero =>
    intro k out v h1 h2 h3 h4 h5
    obtain ⟨k, rfl⟩ : ∃ q, k = q + 1 := ⟨k - 1, by omega⟩
    rw [secateurref02_Values.l1, if_pos (by omega), if_pos (by omega), if_neg (by omega), wrap_next i (by omega), run, List.append_nil]
    rfl
  | succ n ih =>
    intro k out v h1 h2 h3 h4 h5
    obtain ⟨k, rfl⟩ : ∃ q, k = q + 1 := ⟨k - 1, by omega⟩
    rw [secateurref02_Values.l1, if_pos (by omega), if_pos (by omega), if_pos (by omega), if_pos (by omega), wrap_id _ (by omega), ih k _ (v + 1) (by omega) (by omega) (by rw [List.length_append, List.length_singleton]; omega) (by omega) h5, run, List.append_assoc]
    rw [show k + 1 - (n + 1 + 1) = k - (n + 1) by omega]; rfl
theorem values_loop (l : List S62) (hd : Dom l) (m : Nat) : ∀ (k i : Nat), m + i = l.length → 4098 * m + 1 ≤ k → secateurref02_Values.l0 k l (vals (l.take i)) i = some (vals l) := by
  have hl := dom_len l hd
  induction m with
  | zero =>
    intro k i hm hk
    obtain ⟨k, rfl⟩ : ∃ q, k = q + 1 := ⟨k - 1, by omega⟩
    rw [secateurref02_Values.l0, if_neg (by omega), List.take_of_length_le (by omega)]
  | succ m ih =>
    intro k i hm hk
    obtain ⟨k, rfl⟩ : ∃ q, k = q + 1 := ⟨k - 1, by omega⟩
    have h2 := hd.1 i (by omega)
    have hs : vals (l.take (i + 1)) = vals (l.take i) ++ rv (rd_T62 l i) := by
      rw [← take_snoc (rd62_get l i (by omega))]; simp [vals]
    have hra := right_all l hd.1
    have hle : ((vals (l.take i)).length : Int) ≤ 4096 ∧ (rd_T62 l i).f1 - (rd_T62 l i).f0 + 1 ≤ 4096 := by
      have h3 := vals_len (l.take (i + 1)) (fun r hr => (hra r (List.mem_of_mem_take hr)).2.2)
      have h4 := cnt_app (l.take (i + 1)) (l.drop (i + 1))
      rw [List.take_append_drop] at h4
      have h5 := vals_len (l.drop (i + 1)) (fun r hr => (hra r (List.mem_of_mem_drop hr)).2.2)
      have h6 := hd.2
      rw [hs, List.length_append] at h3
      have h7 : (rv (rd_T62 l i)).length = ((rd_T62 l i).f1 - (rd_T62 l i).f0 + 1).toNat := run_len _ _
      omega
    have hf := h2.2.2.1
    rw [secateurref02_Values.l0, if_pos (by omega), if_pos (by omega), values_l1 l i (by omega) ⟨h2.1, h2.2.1⟩ ((rd_T62 l i).f1 - (rd_T62 l i).f0 + 1).toNat k _ _ (by omega) (by omega) (by omega) (by omega) (by omega)]
    have := ih (k - (((rd_T62 l i).f1 - (rd_T62 l i).f0 + 1).toNat + 1)) (i + 1) (by omega) (by omega)
    rw [hs] at this
    exact this
theorem values_f (k : Nat) (l : List S62) (hd : Dom l) (hk : 17000000 ≤ k) : secateurref02_Values.f k l = some (vals l) := by
  unfold secateurref02_Values.f
  have := dom_len l hd
  exact values_loop l hd l.length k 0 (by omega) (by omega)
theorem has_loop (l : List Int) (v : Int) (hl : l.length ≤ 1000000) (m : Nat) : ∀ (k i : Nat), m + i = l.length → m + 1 ≤ k → secateurref02_Has.l0 k l v i = some (decide (v ∈ l.drop i)) := by
  induction m with
  | zero =>
    intro k i hm hk
    obtain ⟨k, rfl⟩ : ∃ q, k = q + 1 := ⟨k - 1, by omega⟩
    rw [secateurref02_Has.l0, if_neg (by omega), List.drop_of_length_le (by omega)]
    simp
  | succ m ih =>
    intro k i hm hk
    obtain ⟨k, rfl⟩ : ∃ q, k = q + 1 := ⟨k - 1, by omega⟩
    have hi : i < l.length := by omega
    have e : rd l i = l[i] := by simp [rd, List.getD_eq_getElem?_getD, List.getElem?_eq_getElem hi]
    rw [secateurref02_Has.l0, if_pos (by omega), if_pos (by omega), wrap_next i (by omega), ih k (i + 1) (by omega) (by omega), List.drop_eq_getElem_cons hi, e]
    by_cases h : l[i] = v
    · rw [if_pos h, decide_eq_true]; simp [h]
    · rw [if_neg h]; congr 1; rw [decide_eq_decide, List.mem_cons]; exact ⟨.inr, fun h' => h'.elim (fun h2 => absurd h2.symm h) id⟩
theorem has_f (k : Nat) (l : List Int) (v : Int) (hl : l.length ≤ 1000000) (hk : l.length + 1 ≤ k) : secateurref02_Has.f k l v = some (decide (v ∈ l)) := by
  unfold secateurref02_Has.f
  have := has_loop l v hl l.length k 0 (by omega) hk
  rwa [List.drop_zero] at this
end Go.Proofs.Ytcjachhdoogbaaa.PT

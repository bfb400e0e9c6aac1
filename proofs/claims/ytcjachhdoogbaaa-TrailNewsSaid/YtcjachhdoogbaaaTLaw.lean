/- What Set, Mark and Back do to domains and changes, over lists alone. No conditions but the lengths' bounds. -/
import Derived.Test.YtcjachhdoogbaaaTOps
set_option linter.unusedVariables false
set_option linter.unusedSimpArgs false
namespace Go.Proofs.Ytcjachhdoogbaaa.PT
open Go.RowKit Go.Proofs.YtcjachhdoogbaaaW.PrintWords Go.Proofs.YtcjachhdoogbaaaW.PrintLast Go.Proofs.YtcjachhdoogbaaaW.PrintMore
theorem rdL3_mem (L : List (List S62)) (i : Int) (h0 : 0 ≤ i) (h1 : i < L.length) : rd_L3 L i ∈ L := by
  have hi : i.toNat < L.length := by omega
  rw [rd_L3, List.getD_eq_getElem?_getD, List.getElem?_eq_getElem hi]
  exact List.getElem_mem hi
/-- A domain's list, or none. -/
def getL (L : List (List S62)) (i : Int) : List S62 := if 0 ≤ i ∧ i < L.length then rd_L3 L i else []
theorem dom_nil : Dom [] := ⟨fun i hi => absurd hi (by simp), by simp [cnt]⟩
theorem getL_dom (L : List (List S62)) (h : ∀ x ∈ L, Dom x) (i : Int) : Dom (getL L i) := by
  unfold getL
  by_cases c : 0 ≤ i ∧ i < L.length
  · rw [if_pos c]; exact h _ (rdL3_mem L i c.1 c.2)
  · rw [if_neg c]; exact dom_nil
/-- Where Set changes: the domain is there, the new one is right and within it. -/
def Fits (L : List (List S62)) (i : Int) (d : List S62) : Prop := (0 ≤ i ∧ i < L.length) ∧ Dom d ∧ ∀ v, v ∈ vals d → v ∈ vals (rd_L3 L i)
theorem setS_f (k : Nat) (L : List (List S62)) (C : List S67) (i : Int) (d : List S62) (hk : 34000000 ≤ k) (hL : ∀ x ∈ L, Dom x) (hd : d.length ≤ 1000000) :
    ∃ L' C' r, setS k L C i d = some (L', C', r) ∧ (r = 0 ↔ Fits L i d) ∧
      ((L' = L ∧ C' = C ∧ (r = 0 → d = rd_L3 L i)) ∨ (r = 0 ∧ d ≠ rd_L3 L i ∧ L' = L.set i.toNat d ∧ C' = C ++ [(⟨i, rd_L3 L i⟩ : S67)])) := by
  unfold setS
  by_cases c : 0 ≤ i ∧ i < L.length
  · rw [if_pos c, check_f k d hd (by omega), Option.bind_some]
    by_cases ch : chk d = 0
    · have hdd := (chk_zero d).1 ch
      have hli := hL _ (rdL3_mem L i c.1 c.2)
      obtain ⟨m, h1, h2, h3⟩ := minus_f k d (rd_L3 L i) hdd hli hk
      rw [if_pos ch, h1, Option.bind_some]
      by_cases cm : m.length = 0
      · have hsub := h3.1 cm
        rw [if_neg (by omega), same_f k d _ hd (by omega), Option.bind_some]
        by_cases ce : d = rd_L3 L i
        · rw [if_pos (decide_eq_true ce)]
          exact ⟨_, _, _, rfl, ⟨fun _ => ⟨c, hdd, hsub⟩, fun _ => rfl⟩, .inl ⟨rfl, rfl, fun _ => ce⟩⟩
        · rw [if_neg (by simpa using ce)]
          exact ⟨_, _, _, rfl, ⟨fun _ => ⟨c, hdd, hsub⟩, fun _ => rfl⟩, .inr ⟨rfl, ce, rfl, rfl⟩⟩
      · rw [if_pos (by omega)]
        exact ⟨_, _, _, rfl, ⟨fun h => by omega, fun h => absurd (h3.2 h.2.2) cm⟩, .inl ⟨rfl, rfl, fun h => by omega⟩⟩
    · rw [if_neg ch]
      exact ⟨_, _, _, rfl, ⟨fun h => absurd h ch, fun h => (chk_zero d).2 h.2.1⟩, .inl ⟨rfl, rfl, fun h => absurd h ch⟩⟩
  · rw [if_neg c]
    exact ⟨_, _, _, rfl, ⟨fun h => by omega, fun h => absurd h.1 c⟩, .inl ⟨rfl, rfl, fun h => by omega⟩⟩
/-- What all calls keep: domains are domains, changes are of domains that are there; what was before all changes. -/
structure Good (L : List (List S62)) (C : List S67) (n : Nat) : Prop where
  len : L.length ≤ 8
  dom : ∀ x ∈ L, Dom x
  at_ : ∀ c ∈ C, (0 ≤ c.f0 ∧ c.f0 < L.length) ∧ Dom c.f1
  few : C.length ≤ n
theorem Good.small {L : List (List S62)} {C : List S67} {n : Nat} (h : Good L C n) : ∀ x ∈ L, x.length ≤ 4096 := fun x hx => dom_len x (h.dom x hx)
theorem mem_set_of {α : Type} {l : List α} {i : Nat} {a x : α} (h : x ∈ l.set i a) : x = a ∨ x ∈ l := by
  rcases List.mem_or_eq_of_mem_set h with h1 | h1
  · exact .inr h1
  · exact .inl h1
theorem rdL3_set (L : List (List S62)) (i : Int) (d : List S62) (h0 : 0 ≤ i) (h1 : i < L.length) : rd_L3 (L.set i.toNat d) i = d := by
  rw [rd_L3, List.getD_eq_getElem?_getD, List.getElem?_set_self (by omega)]; rfl
theorem set_back (L : List (List S62)) (i : Int) (d : List S62) (h0 : 0 ≤ i) (h1 : i < L.length) : (L.set i.toNat d).set i.toNat (rd_L3 L i) = L := by
  rw [List.set_set]
  apply List.ext_getElem?
  intro j
  by_cases hj : i.toNat = j
  · subst hj
    rw [List.getElem?_set_self (by omega), rd_L3, List.getD_eq_getElem?_getD, List.getElem?_eq_getElem (show i.toNat < L.length by omega)]; rfl
  · rw [List.getElem?_set_ne hj]
/-- A Set keeps all that, adds at most one change, and to go back over it leads to where it was. -/
theorem setS_good {k : Nat} {L L' : List (List S62)} {C C' : List S67} {i r : Int} {d : List S62} {n : Nat} (hk : 34000000 ≤ k) (h : Good L C n) (hd : d.length ≤ 1000000) (hs : setS k L C i d = some (L', C', r)) :
    Good L' C' (n + 1) ∧ L'.length = L.length ∧ (∀ j, j ≤ C.length → undo L' C' j = undo L C j) ∧ (∀ j, j ≤ C.length → C'.take j = C.take j) ∧ C.length ≤ C'.length ∧ (∀ v j, v ∈ vals (getL L' j) → v ∈ vals (getL L j)) := by
  obtain ⟨L1, C1, r1, e, hr, hc⟩ := setS_f k L C i d hk h.dom hd
  rw [hs] at e
  cases e
  rcases hc with ⟨rfl, rfl, _⟩ | ⟨h0, hne, rfl, rfl⟩
  · exact ⟨⟨h.len, h.dom, h.at_, by have := h.few; omega⟩, rfl, fun _ _ => rfl, fun _ _ => rfl, Nat.le_refl _, fun _ _ h => h⟩
  · obtain ⟨⟨c0, c1⟩, hdd, hsub⟩ := hr.1 h0
    refine ⟨⟨by rw [List.length_set]; exact h.len, fun x hx => ?_, fun c hc => ?_, by rw [List.length_append, List.length_singleton]; have := h.few; omega⟩, List.length_set .., fun j hj => ?_, fun j hj => ?_, by rw [List.length_append]; omega, fun v j hv => ?_⟩
    · rcases mem_set_of hx with rfl | hx
      · exact hdd
      · exact h.dom x hx
    · rw [List.length_set]
      rcases List.mem_append.1 hc with hc | hc
      · exact h.at_ c hc
      · rw [List.mem_singleton.1 hc]; exact ⟨⟨c0, c1⟩, h.dom _ (rdL3_mem L i c0 c1)⟩
    · unfold undo
      rw [List.drop_append_of_le_length hj, List.foldr_append]
      congr 1
      show (L.set i.toNat d).set i.toNat (rd_L3 L i) = L
      exact set_back L i d c0 c1
    · rw [List.take_append_of_le_length hj]
    · unfold getL at hv ⊢
      rw [List.length_set] at hv
      by_cases cj : 0 ≤ j ∧ j < L.length
      · rw [if_pos cj] at hv ⊢
        by_cases hji : j = i
        · subst hji
          rw [rdL3_set L j d c0 c1] at hv
          exact hsub v hv
        · have : rd_L3 (L.set i.toNat d) j = rd_L3 L j := by
            rw [rd_L3, rd_L3, List.getD_eq_getElem?_getD, List.getD_eq_getElem?_getD, List.getElem?_set_ne (by omega)]
          rwa [this] at hv
      · rw [if_neg cj] at hv; rw [if_neg cj]; exact hv
end Go.Proofs.Ytcjachhdoogbaaa.PT

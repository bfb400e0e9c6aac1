/- Marks and what going back leads to, over lists alone; a cell that a call keeps. No conditions. -/
import Derived.Test.YtcjachhdoogbaaaTMore
set_option linter.unusedVariables false
set_option linter.unusedSimpArgs false
namespace Go.Proofs.Ytcjachhdoogbaaa.PT
open Go.RowKit Go.Proofs.YtcjachhdoogbaaaW.PrintWords Go.Proofs.YtcjachhdoogbaaaW.PrintLast Go.Proofs.YtcjachhdoogbaaaW.PrintMore
theorem kept_cell {w w' : World} {T : Nat → Prop} (hk : Kept w w' T) {a : Addr} {v : Value} (hn : ¬ T a.block) (h : w.cell? a = some v) : w'.cell? a = some v :=
  (World.cell?_of_block (w := w) (hk.2 a.block (World.block_lt_of_cell? w a h) hn)).trans h
theorem at_H33n {T : Nat → Prop} {w : World} {ad : Addr} {c : Nat} {xs : List S33} (h : Held k33 T w (some ad) c xs) (h1 : 0 < xs.length) : ¬ T ad.block := by
  obtain ⟨ad', c', e, _, _, _, ho⟩ := Kd.F_get h.2 z33 0 (by omega) (by omega)
  cases e
  exact (ho (by show 0 < 4; omega)).1
theorem at_block (ad : Addr) (n : Nat) : (ad.add n).block = ad.block := add_block ad n
/-- The first mark is at no change; without marks there is no change. -/
structure Marks (M : List Int) (C : List S67) : Prop where
  pos : ∀ m ∈ M, 0 ≤ m
  head : ∀ m M', M = m :: M' → m = 0
  none : M = [] → C = []
theorem Marks.mark {M : List Int} {C C' : List S67} (h : Marks M C) : Marks (M ++ [(C.length : Int)]) C' := by
  refine ⟨fun m hm => ?_, fun m M' e => ?_, fun e => by simp at e⟩
  · rcases List.mem_append.1 hm with hm | hm
    · exact h.pos m hm
    · rw [List.mem_singleton.1 hm]; omega
  · cases M with
    | nil =>
      have := h.none rfl
      subst this
      simp at e
      exact e.1.symm
    | cons a M2 =>
      rw [List.cons_append] at e
      have e1 := (List.cons.injEq .. ▸ e : a = m ∧ _)
      exact e1.1 ▸ h.head a M2 rfl
theorem Marks.set {M : List Int} {C C' : List S67} (h : Marks M C) (hM : M ≠ []) : Marks M C' := ⟨h.pos, h.head, fun e => absurd e hM⟩
theorem Marks.back {M : List Int} {m : Int} {C : List S67} (h : Marks (M ++ [m]) C) : 0 ≤ m ∧ Marks M (C.take m.toNat) := by
  refine ⟨h.pos m (by simp), fun x hx => h.pos x (by simp [hx]), fun x M' e => h.head x (M' ++ [m]) (by rw [e]; rfl), fun e => ?_⟩
  subst e
  have : m = 0 := h.head m [] rfl
  subst this
  rfl
theorem undo_undo (L : List (List S62)) (C : List S67) (j : Nat) : undo (undo L C j) (C.take j) 0 = undo L C 0 := by
  unfold undo
  rw [List.drop_zero, List.drop_zero, ← List.foldr_append, List.take_append_drop]
theorem undo_nil (L : List (List S62)) : undo L [] 0 = L := rfl
theorem last_of {M : List Int} (h : 0 < M.length) : ∃ M' m, M = M' ++ [m] := by
  have hn : M ≠ [] := by intro e; rw [e] at h; exact absurd h (by decide)
  exact ⟨M.dropLast, M.getLast hn, (List.dropLast_concat_getLast hn).symm⟩
end Go.Proofs.Ytcjachhdoogbaaa.PT

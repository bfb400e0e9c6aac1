/- A store of package trail in memory: its block, the rows of its domains, changes and marks, apart from one another. No conditions. -/
import Derived.Test.YtcjachhdoogbaaaTClone
import Derived.Test.YtcjachhdoogbaaaPTx
set_option linter.unusedVariables false
set_option linter.unusedSimpArgs false
namespace Go.Proofs.Ytcjachhdoogbaaa.PT
open Go.RowKit Go.Proofs.YtcjachhdoogbaaaW.PrintWords Go.Proofs.YtcjachhdoogbaaaW.PrintLast Go.Proofs.YtcjachhdoogbaaaW.PrintMore
theorem wrap_id (x : Int) (h : -9223372036854775808 ≤ x ∧ x ≤ 9223372036854775807) : wrap64 x = x := by unfold wrap64; omega
theorem wrap_next (k : Nat) (h : k ≤ 1000000000) : wrap64 ((k : Int) + 1) = ((k + 1 : Nat) : Int) := by rw [wrap_id _ (by omega)]; omega
abbrev kL : Kd (List S62) := Kd.slice 62 k62
/-- A block of the call's own, as a row of one element. -/
def one (g : Nat) : Value := .slice (some ⟨g, 0, none⟩) 1 1
theorem one_own (g : Nat) : (one g).ownBlock = some g := by simp [one, Value.ownBlock]
/-- The store: T is its territory. -/
structure StV (T : Nat → Prop) (w : World) (base g : Nat) (lv cv mv : Value) (L : List (List S62)) (C : List S67) (M : List Int) : Prop where
  s : (Kd.raw 3).R 39 w base T (one g) [[lv, cv, mv]]
  l : Kd.N kL 31 w base (fun k => T k ∧ k ≠ g ∧ some k ≠ cv.ownBlock ∧ some k ≠ mv.ownBlock) lv L
  c : Kd.N k67 67 w base (fun k => T k ∧ k ≠ g ∧ some k ≠ lv.ownBlock ∧ some k ≠ mv.ownBlock) cv C
  m : (Kd.int .i64).R 3 w base (fun k => T k ∧ k ≠ g ∧ some k ≠ lv.ownBlock ∧ some k ≠ cv.ownBlock) mv M
def St (T : Nat → Prop) (w : World) (base g : Nat) (L : List (List S62)) (C : List S67) (M : List Int) : Prop := ∃ lv cv mv, StV T w base g lv cv mv L C M
section
variable {T T' : Nat → Prop} {w w1 w2 : World} {base g : Nat} {lv cv mv : Value} {L : List (List S62)} {C : List S67} {M : List Int}
theorem StV.step (h : StV T w base g lv cv mv L C M) (hm : ∀ k, T k → k < w.heap.size → w1.heap[k]? = w.heap[k]?) : StV T w1 base g lv cv mv L C M :=
  ⟨Kd.R_step h.s hm, Kd.N_step h.l (fun k hk => hm k hk.1), Kd.N_step h.c (fun k hk => hm k hk.1), Kd.R_step h.m (fun k hk => hm k hk.1)⟩
theorem StV.mono (h : StV T w base g lv cv mv L C M) (ht : ∀ k, T k → T' k) : StV T' w base g lv cv mv L C M :=
  ⟨Kd.R_mono h.s ht, Kd.N_mono h.l (fun k hk => ⟨ht k hk.1, hk.2⟩), Kd.N_mono h.c (fun k hk => ⟨ht k hk.1, hk.2⟩), Kd.R_mono h.m (fun k hk => ⟨ht k hk.1, hk.2⟩)⟩
theorem StV.bound (h : StV T w base g lv cv mv L C M) : StV (fun k => T k ∧ k < w.heap.size) w base g lv cv mv L C M :=
  ⟨Kd.R_mono (Kd.R_bound h.s) (fun k hk => ⟨hk.1, hk.2.2.1⟩), Kd.N_mono (Kd.N_bound h.l) (fun k hk => ⟨⟨hk.1.1, hk.2⟩, hk.1.2⟩), Kd.N_mono (Kd.N_bound h.c) (fun k hk => ⟨⟨hk.1.1, hk.2⟩, hk.1.2⟩),
    Kd.R_mono (Kd.R_bound h.m) (fun k hk => ⟨⟨hk.1.1, hk.2.2.1⟩, hk.1.2⟩)⟩
theorem StV.below (h : StV T w base g lv cv mv L C M) (hb : Below w.heap.size w w1) : StV T w1 base g lv cv mv L C M := h.step (fun k _ hk => hb.block k hk)
theorem St.step (h : St T w base g L C M) (hm : ∀ k, T k → k < w.heap.size → w1.heap[k]? = w.heap[k]?) : St T w1 base g L C M := by obtain ⟨_, _, _, h⟩ := h; exact ⟨_, _, _, h.step hm⟩
theorem St.mono (h : St T w base g L C M) (ht : ∀ k, T k → T' k) : St T' w base g L C M := by obtain ⟨_, _, _, h⟩ := h; exact ⟨_, _, _, h.mono ht⟩
theorem St.bound (h : St T w base g L C M) : St (fun k => T k ∧ k < w.heap.size) w base g L C M := by obtain ⟨_, _, _, h⟩ := h; exact ⟨_, _, _, h.bound⟩
theorem St.below (h : St T w base g L C M) (hb : Below w.heap.size w w1) : St T w1 base g L C M := h.step (fun k _ hk => hb.block k hk)
/-- Of a block: its three cells. -/
theorem raw_cells {a b c : Value} (h : (Kd.raw 3).R 39 w base T (one g) [[a, b, c]]) : w.cell? ⟨g, 0, none⟩ = some a ∧ w.cell? ⟨g, 1, none⟩ = some b ∧ w.cell? ⟨g, 2, none⟩ = some c ∧ (a.oneCell' = true ∧ b.oneCell' = true ∧ c.oneCell' = true) := by
  obtain ⟨cs, hl, hM, hc, _⟩ := Kd.R_elem h [] 0 (by omega) (by omega)
  obtain ⟨e, _, h1⟩ := hM
  have e : cs = [a, b, c] := e
  subst e
  have h0 := hc 0 a rfl
  have h2 := hc 1 b rfl
  have h3 := hc 2 c rfl
  exact ⟨h0, h2, h3, h1 a (by simp), h1 b (by simp), h1 c (by simp)⟩
theorem StV.cells (h : StV T w base g lv cv mv L C M) : w.cell? ⟨g, 0, none⟩ = some lv ∧ w.cell? ⟨g, 1, none⟩ = some cv ∧ w.cell? ⟨g, 2, none⟩ = some mv := by
  obtain ⟨h0, h1, h2, _⟩ := raw_cells h.s
  exact ⟨h0, h1, h2⟩
theorem StV.forms (h : StV T w base g lv cv mv L C M) : (∃ A c, lv = .slice A L.length c ∧ L.length ≤ c) ∧ (∃ A c, cv = .slice A C.length c ∧ C.length ≤ c) ∧ ∃ A c, mv = .slice A M.length c ∧ M.length ≤ c := by
  obtain ⟨A, c, e, hl, _⟩ := Kd.N_reads h.l
  obtain ⟨A1, c1, e1, hl1, _⟩ := Kd.N_reads h.c
  obtain ⟨A2, c2, e2, hl2, _⟩ := Kd.R_reads h.m
  exact ⟨⟨A, c, e, hl⟩, ⟨A1, c1, e1, hl1⟩, ⟨A2, c2, e2, hl2⟩⟩
/-- A domain of the store: where it lies, and what it leads to. -/
theorem StV.dom {A : Option Addr} {c : Nat} (h : StV T w base g (.slice A L.length c) cv mv L C M) (i : Int) (h0 : 0 ≤ i) (h1 : i < L.length) : ∃ ad A0 c0, A = some ad ∧ w.cell? (ad.add i.toNat) = some (.slice A0 (rd_L3 L i).length c0) ∧ (rd_L3 L i).length ≤ c0 ∧
    Kd.F k62 w (fun k => T k ∧ k ≠ g ∧ some k ≠ (Value.slice A L.length c).ownBlock ∧ some k ≠ cv.ownBlock ∧ some k ≠ mv.ownBlock) A0 (rd_L3 L i).length (rd_L3 L i) := by
  rcases A with _ | ad
  · obtain ⟨_, rows, hl, hR, _⟩ := h.l
    have := Kd.R_reads' hR
    obtain ⟨ad, e, _⟩ := this.2.2.2.2 (by omega)
    cases e
  · obtain ⟨cs, hcl, hF, hc⟩ := Kd.N_get h.l ([] : List S62) i h0 h1
    obtain ⟨A0, c0, rfl, hle, hC⟩ := Kd.FK_now hF
    refine ⟨ad, A0, c0, rfl, ?_, hle, ?_⟩
    · have := hc 0 _ rfl
      have hs : kL.sz = 1 := rfl
      rwa [hs, Nat.mul_one, Nat.add_zero] at this
    · intro W' hW
      obtain ⟨A1, c1, e, _, hC1⟩ := hF W' (fun k hk hlt => hW k ⟨hk.1.1, hk.1.2.1, hk.2, hk.1.2.2⟩ hlt)
      simp only [List.cons.injEq, Value.slice.injEq, and_true] at e
      obtain ⟨rfl, _, rfl⟩ := e
      exact hC1
end
end Go.Proofs.Ytcjachhdoogbaaa.PT

/- The store's calls that write it. No conditions but the lengths' bounds. -/
import Derived.Test.YtcjachhdoogbaaaTBase
import Derived.Deep.RegionLaw
set_option linter.unusedVariables false
set_option linter.unusedSimpArgs false
namespace Go.Proofs.Ytcjachhdoogbaaa.PT
open Go.RowKit Go.Proofs.YtcjachhdoogbaaaW.PrintWords Go.Proofs.YtcjachhdoogbaaaW.PrintLast Go.Proofs.YtcjachhdoogbaaaW.PrintMore
section
variable {P : Program} {ops : Array Oper} {rest : List Oper} {o : Oper} {a : Act} {Q : Exit → Act → World → Prop}
/-- s.f = u: a field of a block of the call's own. -/
theorem put_field {w0 W : World} {base g e : Nat} {ok : Nat → Prop} {x0 x1 x2 u : Value} (j : Nat) (hN : o.dst = none) (hgd : o.guard = none) (t : TypeId) (p x : Operand) (ho : o.op = .store t p x)
    (haddr : a.eval p = .pointer (some ⟨g, j, none⟩)) (hx : a.eval x = u) (hu : u.cells.toList = [u]) (ht : (P.info? t).map (·.size) = some 1) (h1 : u.oneCell' = true)
    (HO : (Kd.raw 3).R e W base ok (one g) [[x0, x1, x2]]) (hj : j < 3) (HB : Below base w0 W)
    (h : ∀ w1, (Kd.raw 3).R e w1 base ok (one g) [([x0, x1, x2].take j ++ [u] ++ [x0, x1, x2].drop (j + 1))] → Below base w0 w1 → W.grownBy w1 (some g) → wpList P ops Q rest a w1) : wpList P ops Q (o :: rest) a W := by
  obtain ⟨cs, hcl, hM, hcc, _⟩ := Kd.R_elem HO [] 0 (by omega) (by omega)
  obtain ⟨e0, _, ho1⟩ := hM
  have e0 : cs = [x0, x1, x2] := e0
  subst e0
  have hlen : ([x0, x1, x2].take j ++ [u] ++ [x0, x1, x2].drop (j + 1)).length = 3 := by simp; omega
  refine Kd.R_store (Kd.raw 3) base hN hgd t p x ho e (g := g) (n := 1) (cap := 1) (o' := j) 0 j [[x0, x1, x2]] ([x0, x1, x2].take j ++ [u] ++ [x0, x1, x2].drop (j + 1)) u [u] [x0, x1, x2] ok (fun _ => False) haddr ?_ hx hu ht ?_ HO (by omega) (by omega) rfl hcc ?_ ⟨rfl, hlen, ?_⟩ (fun _ hk => hk.elim) HB ?_
  · simp
  · intro q hq; rw [List.mem_singleton.1 hq]; exact h1
  · show j + 1 ≤ 3; omega
  · intro q hq
    rcases List.mem_append.1 hq with hq | hq
    · rcases List.mem_append.1 hq with hq | hq
      · exact ho1 q (List.mem_of_mem_take hq)
      · rw [List.mem_singleton.1 hq]; exact h1
    · exact ho1 q (List.mem_of_mem_drop hq)
  · intro w1 hr hb hg
    exact h w1 hr hb hg
end
section
variable {T : Nat → Prop} {w0 w w1 w2 : World} {base g : Nat} {lv cv mv : Value} {L : List (List S62)} {C : List S67} {M : List Int}
theorem StV.lt (h : StV T w base g lv cv mv L C M) : g < w.heap.size ∧ (∀ k, lv.ownBlock = some k → k < w.heap.size) ∧ (∀ k, cv.ownBlock = some k → k < w.heap.size) ∧ ∀ k, mv.ownBlock = some k → k < w.heap.size := by
  refine ⟨Kd.R_lt h.s g (one_own g), Kd.N_lt h.l, Kd.N_lt h.c, Kd.R_lt h.m⟩
theorem StV.own (h : StV T w base g lv cv mv L C M) : T g ∧ (∀ k, lv.ownBlock = some k → T k ∧ k ≠ g ∧ some k ≠ cv.ownBlock ∧ some k ≠ mv.ownBlock) ∧ (∀ k, cv.ownBlock = some k → T k ∧ k ≠ g ∧ some k ≠ lv.ownBlock ∧ some k ≠ mv.ownBlock) ∧ ∀ k, mv.ownBlock = some k → T k ∧ k ≠ g ∧ some k ≠ lv.ownBlock ∧ some k ≠ cv.ownBlock :=
  ⟨h.s.1 g (one_own g), h.l.1, h.c.1, h.m.1⟩
/-- Behind an append to the marks and a store of them. -/
theorem StV.marked {mv1 : Value} {M1 : List Int} (h : StV T w base g lv cv mv L C M) (hR : (Kd.int .i64).R 3 w1 base (fun k => (T k ∨ w.heap.size ≤ k) ∧ k ≠ g ∧ some k ≠ lv.ownBlock ∧ some k ≠ cv.ownBlock) mv1 M1) (hg : w.grownBy w1 mv.ownBlock)
    (hat : mv1.ownBlock = mv.ownBlock ∨ ∃ b, mv1.ownBlock = some b ∧ w.heap.size ≤ b) (hs : (Kd.raw 3).R 39 w2 base T (one g) [[lv, cv, mv1]]) (hg2 : w1.grownBy w2 (some g)) :
    StV (fun k => T k ∨ w.heap.size ≤ k) w2 base g lv cv mv1 L C M1 ∧ Kept w w2 T := by
  obtain ⟨hlg, hll, hlc, hlm⟩ := h.lt
  obtain ⟨hog, hol, hoc, hom⟩ := h.own
  have hne : ∀ k, k < w.heap.size → some k ≠ mv.ownBlock → some k ≠ mv1.ownBlock := fun k hk hn he => by
    rcases hat with e | ⟨b, e, hb⟩
    · exact hn (he.trans e)
    · rw [e] at he; cases he; omega
  refine ⟨⟨Kd.R_mono hs (fun k hk => .inl hk), ?_, ?_, ?_⟩, ?_⟩
  · refine Kd.N_mono (Kd.N_grown (Kd.N_grown (Kd.N_bound h.l) hg (fun k hk => hk.1.2.2.2)) hg2 (fun k hk e => hk.1.2.1 (by simpa using e))) (fun k hk => ⟨.inl hk.1.1, hk.1.2.1, hk.1.2.2.1, hne k hk.2 hk.1.2.2.2⟩)
  · refine Kd.N_mono (Kd.N_grown (Kd.N_grown (Kd.N_bound h.c) hg (fun k hk => hk.1.2.2.2)) hg2 (fun k hk e => hk.1.2.1 (by simpa using e))) (fun k hk => ⟨.inl hk.1.1, hk.1.2.1, hk.1.2.2.1, hne k hk.2 hk.1.2.2.2⟩)
  · exact Kd.R_grown hR hg2 (fun k hk e => hk.2.1 (by simpa using e))
  · exact (Kept.of_grown hg2 (Kept.of_grown hg (Kept.refl w T) (fun k hk => .inl (hom k hk).1)) (fun k hk => .inl (by cases hk; exact hog)))
theorem StV.s_after {row : Option Nat} (h : StV T w base g lv cv mv L C M) (hg : w.grownBy w1 row) (hr : ∀ k, row = some k → k ≠ g) : (Kd.raw 3).R 39 w1 base T (one g) [[lv, cv, mv]] := by
  refine Kd.R_mono (Kd.R_grown (Kd.R_tight rfl h.s) hg (fun k hk e => ?_)) (fun k hk => ?_)
  · rw [one_own] at hk; cases hk; exact hr g e.symm rfl
  · rw [one_own] at hk; cases hk; exact h.own.1
theorem raw_free {e : Nat} {T : Nat → Prop} {x0 x1 x2 : Value} (h : (Kd.raw 3).R e w base T (one g) [[x0, x1, x2]]) (j : Nat) : w.frozen? ⟨g, j, none⟩ = false := by
  obtain ⟨cs, hl, hM, hc, hf⟩ := Kd.R_elem h [] 0 (by omega) (by omega)
  have := hf j
  simpa using this
theorem raw_set {e : Nat} {T : Nat → Prop} {x0 x1 x2 u : Value} (h : (Kd.raw 3).R e w base T (one g) [[x0, x1, x2]]) (j : Nat) (hj : j < 3) (h1 : u.oneCell' = true) :
    (Kd.raw 3).R e (w.setCell ⟨g, j, none⟩ u) base T (one g) [([x0, x1, x2].take j ++ [u] ++ [x0, x1, x2].drop (j + 1))] ∧ w.grownBy (w.setCell ⟨g, j, none⟩ u) (some g) := by
  obtain ⟨cs, hcl, hM, hcc, _⟩ := Kd.R_elem h [] 0 (by omega) (by omega)
  obtain ⟨e0, _, ho1⟩ := hM
  have e0 : cs = [x0, x1, x2] := e0
  subst e0
  have hlen : ([x0, x1, x2].take j ++ [u] ++ [x0, x1, x2].drop (j + 1)).length = 3 := by simp; omega
  have := Kd.R_seg (d := Kd.raw 3) (okp := fun _ => False) (x' := [x0, x1, x2].take j ++ [u] ++ [x0, x1, x2].drop (j + 1)) (seg := [u]) (j := j) h 0 (by omega) (by omega) (c := [x0, x1, x2]) rfl hcc (by show j + 1 ≤ 3; omega) ⟨rfl, hlen, fun q hq => by
    rcases List.mem_append.1 hq with hq | hq
    · rcases List.mem_append.1 hq with hq | hq
      · exact ho1 q (List.mem_of_mem_take hq)
      · rw [List.mem_singleton.1 hq]; exact h1
    · exact ho1 q (List.mem_of_mem_drop hq)⟩ (fun _ hk => hk.elim)
  have e1 : w.setCells g ((0 : Int).toNat * (Kd.raw 3).sz + j) [u] = w.setCell ⟨g, j, none⟩ u := by
    simp [World.setCells]
  rw [e1] at this
  exact this
set_option maxRecDepth 100000
set_option maxHeartbeats 2000000
theorem mark_calls (h : St T w base g L C M) (hB : Below base w0 w) (hbase : base ≤ w.heap.size) (hM : M.length ≤ 1000000) : Calls Try.prog 23 #[.pointer (some ⟨g, 0, none⟩)] w fun e w' =>
    e = .returned (.tuple #[]) ∧ St (fun k => T k ∨ w.heap.size ≤ k) w' base g L C (M ++ [(C.length : Int)]) ∧ Below base w0 w' ∧ Kept w w' T := by
  obtain ⟨lv, cv, mv, h⟩ := h
  obtain ⟨⟨Al, cl, rfl, _⟩, ⟨Ac, cc, rfl, _⟩, Am, cm, rfl, _⟩ := h.forms
  obtain ⟨h0, h1, h2⟩ := h.cells
  have HH := Aside0.mk h
  have HL := Aside0.mk hM
  have HB := Aside0.mk hB
  have HS := Aside0.mk hbase
  have h2a : ∀ o : Obj, (w.alloc o).cell? ⟨g, 2, none⟩ = some (.slice Am M.length cm) := fun o => (World.cell?_alloc_lt _ _ _ h.lt.1).trans h2
  clear h hM hB hbase
  go_enter Try.func23, Try.ntmps23
  go_region_law (
    refine Kd.R_append_step (Kd.int .i64) (w0 := w0) (W := w.drew) base (by rfl) (.tmp 6) (.tmp 12) 30 3 (.int .i64 0) 8 rfl Try.underlying30 info3 rfl (by decide) (by omega) (.slice Am M.length cm) M (C.length : Int) [.int .i64 (C.length : Int)] (fun k => (T k ∨ w.heap.size ≤ k) ∧ k ≠ g ∧ some k ≠ (Value.slice Al L.length cl).ownBlock ∧ some k ≠ (Value.slice Ac C.length cc).ownBlock) (fun _ => False) rfl rfl rfl (fun _ hk => hk.elim) ?aF ?aO (below_drew HB.out) HS.out ?aL ?_
    (case aF => exact fun k hk => ⟨.inr hk, fun e => absurd HH.out.lt.1 (by rw [← e]; exact Nat.not_lt.2 hk), fun e => absurd (HH.out.lt.2.1 k e.symm) (Nat.not_lt.2 hk), fun e => absurd (HH.out.lt.2.2.1 k e.symm) (Nat.not_lt.2 hk)⟩)
    (case aO => exact Kd.R_drew (Kd.R_mono HH.out.m (fun k hk => ⟨.inl hk.1, hk.2⟩)))
    (case aL => have := HL.out; omega)
    intro v1 w1 ho hb hg hat
    have hs1 := StV.s_after (HH.out.below (below_drew (Below.refl _ _))) hg (fun k e => (HH.out.own.2.2.2 k e).2.1)
    have hc1 := (raw_cells hs1).2.2.1
    have hf1 := raw_free hs1 2
    obtain ⟨A1, c1, rfl⟩ := Kd.R_slice ho
    have HO := Aside0.mk ho
    have HB1 := Aside0.mk hb
    have HG := Aside0.mk hg
    have HA := Aside0.mk hat
    have HS1 := Aside0.mk hs1
    clear ho hb hg hat hs1)
  all_goals
    go_end0
    obtain ⟨hs2, hg2⟩ := raw_set HS1.out 2 (by omega) (u := .slice A1 (M.length + 1) c1) rfl
    have e1 : (M ++ [(C.length : Int)]).length = M.length + 1 := by simp
    have hO := HO.out
    have hA := HA.out
    rw [e1] at hO hA
    obtain ⟨hst, hk⟩ := StV.marked (HH.out.below (below_drew (Below.refl _ _))) hO HG.out hA hs2 hg2
    exact ⟨rfl, ⟨_, _, _, hst⟩, HB1.out.grown hg2 (Nat.le_trans HS.out (Nat.le_trans (Nat.le_refl _) HG.out.size)) (fun k e => by cases e; exact Kd.R_base HS1.out g (one_own g)), hk⟩
end
end Go.Proofs.Ytcjachhdoogbaaa.PT

/- Copy: another store in the same state. No conditions but the lengths' bounds. -/
import Derived.Test.YtcjachhdoogbaaaTNew
import Derived.Deep.RegionHeld3
set_option linter.unusedVariables false
set_option linter.unusedSimpArgs false
namespace Go.Proofs.Ytcjachhdoogbaaa.PT
open Go.RowKit Go.Proofs.YtcjachhdoogbaaaW.PrintWords Go.Proofs.YtcjachhdoogbaaaW.PrintLast Go.Proofs.YtcjachhdoogbaaaW.PrintMore
theorem sK {w W W' : World} {g : Nat} {cv mv : Value} (h : Below w.heap.size w W ∧ W.cell? ⟨g, 1, none⟩ = some cv ∧ W.cell? ⟨g, 2, none⟩ = some mv) (hb : Below W.heap.size W W') : Below w.heap.size w W' ∧ W'.cell? ⟨g, 1, none⟩ = some cv ∧ W'.cell? ⟨g, 2, none⟩ = some mv :=
  ⟨h.1.trans (hb.mono h.1.size), (hb.cell (World.block_lt_of_cell? W _ h.2.1)).trans h.2.1, (hb.cell (World.block_lt_of_cell? W _ h.2.2)).trans h.2.2⟩
theorem sL {w W : World} {g : Nat} {cv mv : Value} (h : Below w.heap.size w W ∧ W.cell? ⟨g, 1, none⟩ = some cv ∧ W.cell? ⟨g, 2, none⟩ = some mv) : Below w.heap.size w W := h.1
section
variable {T : Nat → Prop} {w0 w w1 w2 : World} {base g : Nat} {lv cv mv : Value} {L : List (List S62)} {C : List S67} {M : List Int}
set_option maxRecDepth 100000
set_option maxHeartbeats 4000000
theorem copy_calls (h : St T w base g L C M) (hl : ∀ x ∈ L, x.length ≤ 1000000) (hbig : L.length ≤ 1000000 ∧ C.length ≤ 1000000 ∧ M.length ≤ 1000000) :
    Calls Try.prog 31 #[.pointer (some ⟨g, 0, none⟩)] w fun e w' => Below w.heap.size w w' ∧ ∃ g', e = .returned (.pointer (some ⟨g', 0, none⟩)) ∧
      ∃ lv cv mv, (Kd.raw 3).R 39 w' w.heap.size (fun k => w.heap.size ≤ k) (one g') [[lv, cv, mv]] ∧ Kd.N kL 31 w' w.heap.size (fun k => w.heap.size ≤ k ∧ k ≠ g') lv L ∧ Kd.N k67 67 w' w.heap.size (fun k => (T k ∨ w.heap.size ≤ k) ∧ k ≠ g') cv C ∧ Kd.N (Kd.int .i64) 3 w' w.heap.size (fun k => w.heap.size ≤ k ∧ k ≠ g') mv M := by
  obtain ⟨lv, cv, mv, h⟩ := h
  obtain ⟨⟨Al, cl, rfl, _⟩, ⟨Ac, cc, rfl, _⟩, Am, cm, rfl, _⟩ := h.forms
  obtain ⟨h0, h1, h2⟩ := h.cells
  have HH := Aside0.mk h
  have HL := Aside0.mk hl
  have HG := Aside0.mk hbig
  have B0 := Aside0.mk (below_drew (Below.refl w.heap.size w))
  have H1 := Aside0.mk h1
  have H2 := Aside0.mk h2
  clear h hl hbig h0
  go_enter Try.func31, Try.ntmps31
  go_wp2_with fail
  go_region_held3 (fun W => Below w.heap.size w W ∧ W.cell? ⟨g, 1, none⟩ = some (.slice Ac C.length cc) ∧ W.cell? ⟨g, 2, none⟩ = some (.slice Am M.length cm))
    (first | exact ⟨below_drew (Below.refl _ _), h1, h2⟩ | exact hSA | exact hSC | exact hSM | exact sK hSM (below_alloc (Below.refl _ _) _))
    (first
    | (go_at_call 22; refine (all_calls (T := T) (base := base) (g := g) (C := C) (M := M) ⟨_, _, _, HH.out.below (sL (by assumption))⟩ HL.out HG.out.1).mono ?_; rintro e wA ⟨vA, rfl, hNA, hbA⟩; have hSA := sK (cv := .slice Ac C.length cc) (mv := .slice Am M.length cm) (g := g) (w := w) (by assumption) hbA; obtain ⟨AA, cA, rfl⟩ := Kd.N_slice hNA)
    | (go_at_call 43; refine (clone43 Ac cc C _ _ (Kd.N_F (Kd.N_below HH.out.c (sL (by assumption)))) (by have := HG.out.2.1; omega)).mono ?_; rintro e wC ⟨vC, rfl, hNC, hbC⟩; have hSC := sK (cv := .slice Ac C.length cc) (mv := .slice Am M.length cm) (g := g) (w := w) (by assumption) hbC; obtain ⟨AC, cC, rfl⟩ := Kd.N_slice hNC)
    | (go_at_call 44; refine (clone44 Am cm M _ _ (Kd.C_F (Kd.heap_int _) (Kd.C_below (Kd.R_reads' HH.out.m).2.2 (sL (by assumption)))) (by have := HG.out.2.2; omega)).mono ?_; rintro e wM ⟨vM, rfl, hNM, hbM⟩; have hSM := sK (cv := .slice Ac C.length cc) (mv := .slice Am M.length cm) (g := g) (w := w) (by assumption) hbM; obtain ⟨AM, cM, rfl⟩ := Kd.N_slice hNM))
  go_wp2_with fail
  go_ret
  have hb1 : Below w.heap.size w wM := hSM.1
  have hsA : w.heap.size ≤ wA.heap.size := hSA.1.size
  have hsC : wA.heap.size ≤ wC.heap.size := hbC.size
  have hsM : wC.heap.size ≤ wM.heap.size := hbM.size
  refine ⟨below_alloc hb1 _, wM.heap.size, rfl, _, _, _, raw_made hb1.size hb1.size ⟨rfl, rfl, rfl⟩, ?_, ?_, ?_⟩
  · refine Kd.N_alloc (Kd.N_mono (Kd.N_bound (Kd.N_below (Kd.N_below hNA hbC) hbM)) (fun k hk => ⟨hk.1, by omega⟩)) _
  · refine Kd.N_alloc (Kd.N_mono (Kd.N_lower (Kd.N_bound (Kd.N_below hNC hbM)) hsA) (fun k hk => ⟨hk.1.elim (fun h => .inl h.1) (fun h => .inr (Nat.le_trans hsA h)), by omega⟩)) _
  · refine Kd.N_alloc (Kd.N_mono (Kd.N_bound (N3 (ok' := fun k => w.heap.size ≤ k) (Kd.N_lower hNM (Nat.le_trans hsA hsC)) (fun k hk => Nat.le_trans (Nat.le_trans hsA hsC) (Kd.N_base hNM k hk)))) (fun k hk => ⟨hk.1, by omega⟩)) _
end
end Go.Proofs.Ytcjachhdoogbaaa.PT

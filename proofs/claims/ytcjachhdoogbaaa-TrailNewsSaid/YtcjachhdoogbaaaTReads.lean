/- The store's calls that only read. No conditions. -/
import Derived.Test.YtcjachhdoogbaaaTStore
set_option linter.unusedVariables false
set_option linter.unusedSimpArgs false
namespace Go.Proofs.Ytcjachhdoogbaaa.PT
open Go.RowKit Go.Proofs.YtcjachhdoogbaaaW.PrintWords Go.Proofs.YtcjachhdoogbaaaW.PrintLast Go.Proofs.YtcjachhdoogbaaaW.PrintMore
section
variable {T : Nat → Prop} {w : World} {base g : Nat} {L : List (List S62)} {C : List S67} {M : List Int}
set_option maxRecDepth 100000
set_option maxHeartbeats 1000000
theorem len_calls (h : St T w base g L C M) : Calls Try.prog 18 #[.pointer (some ⟨g, 0, none⟩)] w fun e w' => e = .returned (.int .i64 L.length) ∧ Below w.heap.size w w' := by
  obtain ⟨lv, cv, mv, h⟩ := h
  obtain ⟨⟨Al, cl, rfl, _⟩, ⟨Ac, cc, rfl, _⟩, Am, cm, rfl, _⟩ := h.forms
  obtain ⟨h0, h1, h2⟩ := h.cells
  clear h
  go_enter Try.func18, Try.ntmps18
  go_wp2
  go_ret
  exact ⟨rfl, Below.refl _ _⟩
theorem changes_calls (h : St T w base g L C M) : Calls Try.prog 13 #[.pointer (some ⟨g, 0, none⟩)] w fun e w' => e = .returned (.int .i64 C.length) ∧ Below w.heap.size w w' := by
  obtain ⟨lv, cv, mv, h⟩ := h
  obtain ⟨⟨Al, cl, rfl, _⟩, ⟨Ac, cc, rfl, _⟩, Am, cm, rfl, _⟩ := h.forms
  obtain ⟨h0, h1, h2⟩ := h.cells
  clear h
  go_enter Try.func13, Try.ntmps13
  go_wp2
  go_ret
  exact ⟨rfl, Below.refl _ _⟩
theorem level_calls (h : St T w base g L C M) : Calls Try.prog 24 #[.pointer (some ⟨g, 0, none⟩)] w fun e w' => e = .returned (.int .i64 M.length) ∧ Below w.heap.size w w' := by
  obtain ⟨lv, cv, mv, h⟩ := h
  obtain ⟨⟨Al, cl, rfl, _⟩, ⟨Ac, cc, rfl, _⟩, Am, cm, rfl, _⟩ := h.forms
  obtain ⟨h0, h1, h2⟩ := h.cells
  clear h
  go_enter Try.func24, Try.ntmps24
  go_wp2
  go_ret
  exact ⟨rfl, Below.refl _ _⟩
theorem is_calls (i : Int) (h : St T w base g L C M) : Calls Try.prog 34 #[.pointer (some ⟨g, 0, none⟩), .int .i64 i] w fun e w' => e = .returned (.bool (decide (0 ≤ i ∧ i < L.length))) ∧ Below w.heap.size w w' := by
  obtain ⟨lv, cv, mv, h⟩ := h
  obtain ⟨⟨Al, cl, rfl, _⟩, ⟨Ac, cc, rfl, _⟩, Am, cm, rfl, _⟩ := h.forms
  obtain ⟨h0, h1, h2⟩ := h.cells
  clear h
  by_cases c0 : 0 ≤ i
  · have hd : decide (0 ≤ i ∧ i < L.length) = decide (i < L.length) := by simp [c0]
    have HD := Aside0.mk hd
    have c1 : decide (i ≥ 0) = true := decide_eq_true c0
    have c2 : decide (0 ≤ i) = true := decide_eq_true c0
    clear hd c0
    go_enter Try.func34, Try.ntmps34
    go_wp2
    go_ret
    exact ⟨by rw [HD.out]; rfl, Below.refl _ _⟩
  · have hd : decide (0 ≤ i ∧ i < L.length) = false := by simp [c0]
    have HD := Aside0.mk hd
    have c1 : decide (i ≥ 0) = false := decide_eq_false c0
    have c2 : decide (0 ≤ i) = false := decide_eq_false c0
    clear hd c0
    go_enter Try.func34, Try.ntmps34
    go_wp2
    go_ret
    exact ⟨by rw [HD.out]; rfl, Below.refl _ _⟩
theorem get_calls (i : Int) (r : List S62) (hr : r = if 0 ≤ i ∧ i < L.length then rd_L3 L i else []) (h : St T w base g L C M) (hl : 0 ≤ i → i < L.length → (rd_L3 L i).length ≤ 1000000) : Calls Try.prog 12 #[.pointer (some ⟨g, 0, none⟩), .int .i64 i] w fun e w' =>
    ∃ v, e = .returned v ∧ Kd.N k62 62 w' w.heap.size (fun k => w.heap.size ≤ k) v r ∧ Below w.heap.size w w' := by
  obtain ⟨lv, cv, mv, h⟩ := h
  obtain ⟨⟨Al, cl, rfl, _⟩, ⟨Ac, cc, rfl, _⟩, Am, cm, rfl, _⟩ := h.forms
  obtain ⟨h0, h1, h2⟩ := h.cells
  have HH := Aside0.mk h
  clear h
  by_cases c0 : 0 ≤ i ∧ i < L.length
  · rw [if_pos c0] at hr
    subst hr
    have hd : decide (0 ≤ i ∧ i < L.length) = true := decide_eq_true c0
    obtain ⟨ad, A0, c0', rfl, hc, hle, hF⟩ := HH.out.dom i c0.1 c0.2
    have HD := Aside0.mk hd
    have c1 : decide (0 ≤ i) = true := decide_eq_true c0.1
    have c2 : decide (i < (L.length : Int)) = true := decide_eq_true c0.2
    have CC := Aside0.mk c0
    have HL := Aside0.mk hl
    have HF := Aside0.mk hF
    clear hd c0 hF hl
    go_enter Try.func12, Try.ntmps12
    go_wp2_with fail
    refine (is_calls i ⟨_, _, _, HH.out⟩).mono ?_
    rintro e w1 ⟨rfl, hb⟩
    rw [HD.out]
    have HB := Aside0.mk hb
    replace hc := (hb.cell (World.block_lt_of_cell? w _ hc)).trans hc
    replace h0 := (hb.cell (World.block_lt_of_cell? w _ h0)).trans h0
    have p := eq_true CC.out.1
    have q := eq_true CC.out.2
    clear hb h1 h2
    go_wp2_with fail
    refine (clone_r A0 c0' (rd_L3 L i) w1 (Kd.F_now (Kd.F_below HF.out HB.out)) (by have := HL.out CC.out.1 CC.out.2; omega)).mono ?_
    rintro e w2 ⟨v, rfl, hN, hb2⟩
    have HN := Aside0.mk hN
    have HB2 := Aside0.mk hb2
    clear hN hb2
    go_wp2
    go_ret
    exact ⟨v, rfl, Kd.N_lower (Kd.N_mono HN.out (fun k hk => Nat.le_trans HB.out.size hk)) HB.out.size, HB.out.trans (HB2.out.mono HB.out.size)⟩
  · rw [if_neg c0] at hr
    subst hr
    have hd : decide (0 ≤ i ∧ i < L.length) = false := decide_eq_false c0
    have HD := Aside0.mk hd
    have CC := Aside0.mk c0
    clear hd c0 hl
    go_enter Try.func12, Try.ntmps12
    go_wp2_with fail
    refine (is_calls i ⟨_, _, _, HH.out⟩).mono ?_
    rintro e w1 ⟨rfl, hb⟩
    rw [HD.out]
    have HB := Aside0.mk hb
    clear hb h0 h1 h2
    go_wp2_with fail
    go_ret
    exact ⟨_, rfl, Kd.N_nil _ _ _ _ _, HB.out⟩
end
end Go.Proofs.Ytcjachhdoogbaaa.PT

/- A store of package trail in memory; its reads; all its domains. No conditions but the lengths' bounds. -/
import Derived.Test.YtcjachhdoogbaaaTClone
import Derived.Test.YtcjachhdoogbaaaPTx
set_option linter.unusedVariables false
set_option linter.unusedSimpArgs false
namespace Go.Proofs.Ytcjachhdoogbaaa.PT
open Go.RowKit Go.Proofs.YtcjachhdoogbaaaW.PrintWords Go.Proofs.YtcjachhdoogbaaaW.PrintLast Go.Proofs.YtcjachhdoogbaaaW.PrintMore
/-! A store of package trail in memory: its block, the rows of its domains, changes and marks, apart from one another. No conditions. -/
section
theorem wrap_id (x : Int) (h : -9223372036854775808 ≤ x ∧ x ≤ 9223372036854775807) : wrap64 x = x := by unfold wrap64; omega
theorem wrap_next (k : Nat) (h : k ≤ 1000000000) : wrap64 ((k : Int) + 1) = ((k + 1 : Nat) : Int) := by rw [wrap_id _ (by omega)]; omega
abbrev kL : Kd (List S62) := Kd.slice 62 k62
/-- A block of the call's own, as a row of one element. -/
def one (g : Nat) : Value := .slice (some ⟨g, 0, none⟩) 1 1
theorem one_own (g : Nat) : (one g).ownBlock = some g := by simp [one, Value.ownBlock]
/-- The store: T is its territory. -/
structure StV (T : Nat → Prop) (w : World) (base g : Nat) (lv cv mv : Value) (L : List (List S62)) (C : List S67) (M : List Int) : Prop where
  s : (Kd.raw 3).R 39 w base T (one g) [[lv, cv, mv]]
  l : Kd.N kL 31 w base (fun k => T k ∧ k ≠ g ∧ some k ≠ cv.ownBlock ∧ some k ≠ mv.ownBlock) lv L
  c : Kd.N k67 67 w base (fun k => T k ∧ k ≠ g ∧ some k ≠ lv.ownBlock ∧ some k ≠ mv.ownBlock) cv C
  m : (Kd.int .i64).R 3 w base (fun k => T k ∧ k ≠ g ∧ some k ≠ lv.ownBlock ∧ some k ≠ cv.ownBlock) mv M
def St (T : Nat → Prop) (w : World) (base g : Nat) (L : List (List S62)) (C : List S67) (M : List Int) : Prop := ∃ lv cv mv, StV T w base g lv cv mv L C M
section
variable {T T' : Nat → Prop} {w w1 w2 : World} {base g : Nat} {lv cv mv : Value} {L : List (List S62)} {C : List S67} {M : List Int}
theorem StV.step (h : StV T w base g lv cv mv L C M) (hm : ∀ k, T k → k < w.heap.size → w1.heap[k]? = w.heap[k]?) : StV T w1 base g lv cv mv L C M :=
  ⟨Kd.R_step h.s hm, Kd.N_step h.l (fun k hk => hm k hk.1), Kd.N_step h.c (fun k hk => hm k hk.1), Kd.R_step h.m (fun k hk => hm k hk.1)⟩
theorem StV.mono (h : StV T w base g lv cv mv L C M) (ht : ∀ k, T k → T' k) : StV T' w base g lv cv mv L C M :=
  ⟨Kd.R_mono h.s ht, Kd.N_mono h.l (fun k hk => ⟨ht k hk.1, hk.2⟩), Kd.N_mono h.c (fun k hk => ⟨ht k hk.1, hk.2⟩), Kd.R_mono h.m (fun k hk => ⟨ht k hk.1, hk.2⟩)⟩
theorem StV.bound (h : StV T w base g lv cv mv L C M) : StV (fun k => T k ∧ k < w.heap.size) w base g lv cv mv L C M :=
  ⟨Kd.R_mono (Kd.R_bound h.s) (fun k hk => ⟨hk.1, hk.2.2.1⟩), Kd.N_mono (Kd.N_bound h.l) (fun k hk => ⟨⟨hk.1.1, hk.2⟩, hk.1.2⟩), Kd.N_mono (Kd.N_bound h.c) (fun k hk => ⟨⟨hk.1.1, hk.2⟩, hk.1.2⟩),
    Kd.R_mono (Kd.R_bound h.m) (fun k hk => ⟨⟨hk.1.1, hk.2.2.1⟩, hk.1.2⟩)⟩
theorem StV.below (h : StV T w base g lv cv mv L C M) (hb : Below w.heap.size w w1) : StV T w1 base g lv cv mv L C M := h.step (fun k _ hk => hb.block k hk)
theorem St.step (h : St T w base g L C M) (hm : ∀ k, T k → k < w.heap.size → w1.heap[k]? = w.heap[k]?) : St T w1 base g L C M := by obtain ⟨_, _, _, h⟩ := h; exact ⟨_, _, _, h.step hm⟩
theorem St.mono (h : St T w base g L C M) (ht : ∀ k, T k → T' k) : St T' w base g L C M := by obtain ⟨_, _, _, h⟩ := h; exact ⟨_, _, _, h.mono ht⟩
theorem St.bound (h : St T w base g L C M) : St (fun k => T k ∧ k < w.heap.size) w base g L C M := by obtain ⟨_, _, _, h⟩ := h; exact ⟨_, _, _, h.bound⟩
theorem St.below (h : St T w base g L C M) (hb : Below w.heap.size w w1) : St T w1 base g L C M := h.step (fun k _ hk => hb.block k hk)
/-- Of a block: its three cells. -/
theorem raw_cells {a b c : Value} (h : (Kd.raw 3).R 39 w base T (one g) [[a, b, c]]) : w.cell? ⟨g, 0, none⟩ = some a ∧ w.cell? ⟨g, 1, none⟩ = some b ∧ w.cell? ⟨g, 2, none⟩ = some c ∧ (a.oneCell' = true ∧ b.oneCell' = true ∧ c.oneCell' = true) := by
  obtain ⟨cs, hl, hM, hc, _⟩ := Kd.R_elem h [] 0 (by omega) (by omega)
  obtain ⟨e, _, h1⟩ := hM
  have e : cs = [a, b, c] := e
  subst e
  have h0 := hc 0 a rfl
  have h2 := hc 1 b rfl
  have h3 := hc 2 c rfl
  exact ⟨h0, h2, h3, h1 a (by simp), h1 b (by simp), h1 c (by simp)⟩
theorem StV.cells (h : StV T w base g lv cv mv L C M) : w.cell? ⟨g, 0, none⟩ = some lv ∧ w.cell? ⟨g, 1, none⟩ = some cv ∧ w.cell? ⟨g, 2, none⟩ = some mv := by
  obtain ⟨h0, h1, h2, _⟩ := raw_cells h.s
  exact ⟨h0, h1, h2⟩
theorem StV.forms (h : StV T w base g lv cv mv L C M) : (∃ A c, lv = .slice A L.length c ∧ L.length ≤ c) ∧ (∃ A c, cv = .slice A C.length c ∧ C.length ≤ c) ∧ ∃ A c, mv = .slice A M.length c ∧ M.length ≤ c := by
  obtain ⟨A, c, e, hl, _⟩ := Kd.N_reads h.l
  obtain ⟨A1, c1, e1, hl1, _⟩ := Kd.N_reads h.c
  obtain ⟨A2, c2, e2, hl2, _⟩ := Kd.R_reads h.m
  exact ⟨⟨A, c, e, hl⟩, ⟨A1, c1, e1, hl1⟩, ⟨A2, c2, e2, hl2⟩⟩
/-- A domain of the store: where it lies, and what it leads to. -/
theorem StV.dom {A : Option Addr} {c : Nat} (h : StV T w base g (.slice A L.length c) cv mv L C M) (i : Int) (h0 : 0 ≤ i) (h1 : i < L.length) : ∃ ad A0 c0, A = some ad ∧ w.cell? (ad.add i.toNat) = some (.slice A0 (rd_L3 L i).length c0) ∧ (rd_L3 L i).length ≤ c0 ∧
    Kd.F k62 w (fun k => T k ∧ k ≠ g ∧ some k ≠ (Value.slice A L.length c).ownBlock ∧ some k ≠ cv.ownBlock ∧ some k ≠ mv.ownBlock) A0 (rd_L3 L i).length (rd_L3 L i) := by
  rcases A with _ | ad
  · obtain ⟨_, rows, hl, hR, _⟩ := h.l
    have := Kd.R_reads' hR
    obtain ⟨ad, e, _⟩ := this.2.2.2.2 (by omega)
    cases e
  · obtain ⟨cs, hcl, hF, hc⟩ := Kd.N_get h.l ([] : List S62) i h0 h1
    obtain ⟨A0, c0, rfl, hle, hC⟩ := Kd.FK_now hF
    refine ⟨ad, A0, c0, rfl, ?_, hle, ?_⟩
    · have := hc 0 _ rfl
      have hs : kL.sz = 1 := rfl
      rwa [hs, Nat.mul_one, Nat.add_zero] at this
    · intro W' hW
      obtain ⟨A1, c1, e, _, hC1⟩ := hF W' (fun k hk hlt => hW k ⟨hk.1.1, hk.1.2.1, hk.2, hk.1.2.2⟩ hlt)
      simp only [List.cons.injEq, Value.slice.injEq, and_true] at e
      obtain ⟨rfl, _, rfl⟩ := e
      exact hC1
end
end
/-! The store's calls that only read. No conditions. -/
section
section
variable {T : Nat → Prop} {w : World} {base g : Nat} {L : List (List S62)} {C : List S67} {M : List Int}
set_option maxRecDepth 100000
set_option maxHeartbeats 1000000
theorem len_calls (h : St T w base g L C M) : Calls Try.prog 18 #[.pointer (some ⟨g, 0, none⟩)] w fun e w' => e = .returned (.int .i64 L.length) ∧ Below w.heap.size w w' := by
  obtain ⟨lv, cv, mv, h⟩ := h
  obtain ⟨⟨Al, cl, rfl, _⟩, ⟨Ac, cc, rfl, _⟩, Am, cm, rfl, _⟩ := h.forms
  obtain ⟨h0, h1, h2⟩ := h.cells
  clear h
  go_enter Try.func18, Try.ntmps18
  go_wp2
  go_ret
  exact ⟨rfl, Below.refl _ _⟩
theorem changes_calls (h : St T w base g L C M) : Calls Try.prog 13 #[.pointer (some ⟨g, 0, none⟩)] w fun e w' => e = .returned (.int .i64 C.length) ∧ Below w.heap.size w w' := by
  obtain ⟨lv, cv, mv, h⟩ := h
  obtain ⟨⟨Al, cl, rfl, _⟩, ⟨Ac, cc, rfl, _⟩, Am, cm, rfl, _⟩ := h.forms
  obtain ⟨h0, h1, h2⟩ := h.cells
  clear h
  go_enter Try.func13, Try.ntmps13
  go_wp2
  go_ret
  exact ⟨rfl, Below.refl _ _⟩
theorem level_calls (h : St T w base g L C M) : Calls Try.prog 24 #[.pointer (some ⟨g, 0, none⟩)] w fun e w' => e = .returned (.int .i64 M.length) ∧ Below w.heap.size w w' := by
  obtain ⟨lv, cv, mv, h⟩ := h
  obtain ⟨⟨Al, cl, rfl, _⟩, ⟨Ac, cc, rfl, _⟩, Am, cm, rfl, _⟩ := h.forms
  obtain ⟨h0, h1, h2⟩ := h.cells
  clear h
  go_enter Try.func24, Try.ntmps24
  go_wp2
  go_ret
  exact ⟨rfl, Below.refl _ _⟩
theorem is_calls (i : Int) (h : St T w base g L C M) : Calls Try.prog 34 #[.pointer (some ⟨g, 0, none⟩), .int .i64 i] w fun e w' => e = .returned (.bool (decide (0 ≤ i ∧ i < L.length))) ∧ Below w.heap.size w w' := by
  obtain ⟨lv, cv, mv, h⟩ := h
  obtain ⟨⟨Al, cl, rfl, _⟩, ⟨Ac, cc, rfl, _⟩, Am, cm, rfl, _⟩ := h.forms
  obtain ⟨h0, h1, h2⟩ := h.cells
  clear h
  by_cases c0 : 0 ≤ i
  · have hd : decide (0 ≤ i ∧ i < L.length) = decide (i < L.length) := by simp [c0]
    have HD := Aside0.mk hd
    have c1 : decide (i ≥ 0) = true := decide_eq_true c0
    have c2 : decide (0 ≤ i) = true := decide_eq_true c0
    clear hd c0
    go_enter Try.func34, Try.ntmps34
    go_wp2
    go_ret
    exact ⟨by rw [HD.out]; rfl, Below.refl _ _⟩
  · have hd : decide (0 ≤ i ∧ i < L.length) = false := by simp [c0]
    have HD := Aside0.mk hd
    have c1 : decide (i ≥ 0) = false := decide_eq_false c0
    have c2 : decide (0 ≤ i) = false := decide_eq_false c0
    clear hd c0
    go_enter Try.func34, Try.ntmps34
    go_wp2
    go_ret
    exact ⟨by rw [HD.out]; rfl, Below.refl _ _⟩
theorem get_calls (i : Int) (r : List S62) (hr : r = if 0 ≤ i ∧ i < L.length then rd_L3 L i else []) (h : St T w base g L C M) (hl : 0 ≤ i → i < L.length → (rd_L3 L i).length ≤ 1000000) : Calls Try.prog 12 #[.pointer (some ⟨g, 0, none⟩), .int .i64 i] w fun e w' =>
    ∃ v, e = .returned v ∧ Kd.N k62 62 w' w.heap.size (fun k => w.heap.size ≤ k) v r ∧ Below w.heap.size w w' := by
  obtain ⟨lv, cv, mv, h⟩ := h
  obtain ⟨⟨Al, cl, rfl, _⟩, ⟨Ac, cc, rfl, _⟩, Am, cm, rfl, _⟩ := h.forms
  obtain ⟨h0, h1, h2⟩ := h.cells
  have HH := Aside0.mk h
  clear h
  by_cases c0 : 0 ≤ i ∧ i < L.length
  · rw [if_pos c0] at hr
    subst hr
    have hd : decide (0 ≤ i ∧ i < L.length) = true := decide_eq_true c0
    obtain ⟨ad, A0, c0', rfl, hc, hle, hF⟩ := HH.out.dom i c0.1 c0.2
    have HD := Aside0.mk hd
    have c1 : decide (0 ≤ i) = true := decide_eq_true c0.1
    have c2 : decide (i < (L.length : Int)) = true := decide_eq_true c0.2
    have CC := Aside0.mk c0
    have HL := Aside0.mk hl
    have HF := Aside0.mk hF
    clear hd c0 hF hl
    go_enter Try.func12, Try.ntmps12
    go_wp2_with fail
    refine (is_calls i ⟨_, _, _, HH.out⟩).mono ?_
    rintro e w1 ⟨rfl, hb⟩
    rw [HD.out]
    have HB := Aside0.mk hb
    replace hc := (hb.cell (World.block_lt_of_cell? w _ hc)).trans hc
    replace h0 := (hb.cell (World.block_lt_of_cell? w _ h0)).trans h0
    have p := eq_true CC.out.1
    have q := eq_true CC.out.2
    clear hb h1 h2
    go_wp2_with fail
    refine (clone_r A0 c0' (rd_L3 L i) w1 (Kd.F_now (Kd.F_below HF.out HB.out)) (by have := HL.out CC.out.1 CC.out.2; omega)).mono ?_
    rintro e w2 ⟨v, rfl, hN, hb2⟩
    have HN := Aside0.mk hN
    have HB2 := Aside0.mk hb2
    clear hN hb2
    go_wp2
    go_ret
    exact ⟨v, rfl, Kd.N_lower (Kd.N_mono HN.out (fun k hk => Nat.le_trans HB.out.size hk)) HB.out.size, HB.out.trans (HB2.out.mono HB.out.size)⟩
  · rw [if_neg c0] at hr
    subst hr
    have hd : decide (0 ≤ i ∧ i < L.length) = false := decide_eq_false c0
    have HD := Aside0.mk hd
    have CC := Aside0.mk c0
    clear hd c0 hl
    go_enter Try.func12, Try.ntmps12
    go_wp2_with fail
    refine (is_calls i ⟨_, _, _, HH.out⟩).mono ?_
    rintro e w1 ⟨rfl, hb⟩
    rw [HD.out]
    have HB := Aside0.mk hb
    clear hb h0 h1 h2
    go_wp2_with fail
    go_ret
    exact ⟨_, rfl, Kd.N_nil _ _ _ _ _, HB.out⟩
end
end
/-! All: a copy of every domain. No conditions but the lengths' bounds. -/
section
theorem FK_of_N {w : World} {e base : Nat} {ok : Nat → Prop} {v : Value} {x : List S62} (h : Kd.N k62 e w base ok v x) : Kd.FK kL w ok x [v] := by
  obtain ⟨A, c, rfl, hle, _⟩ := Kd.N_reads h
  exact fun W' hW => ⟨A, c, rfl, hle, Kd.N_F h W' hW⟩
theorem take_next {α : Type} [Inhabited α] (L : List α) (d : α) (k : Nat) (h : k < L.length) : L.take k ++ [L.getD k d] = L.take (k + 1) := by
  rw [List.take_add_one, List.getD_eq_getElem?_getD, List.getElem?_eq_getElem h]; rfl
section
variable {T : Nat → Prop} {w : World} {base g : Nat} {L : List (List S62)} {C : List S67} {M : List Int}
set_option maxRecDepth 100000
set_option maxHeartbeats 2000000
theorem all_calls (h : St T w base g L C M) (hl : ∀ x ∈ L, x.length ≤ 1000000) (hL : L.length ≤ 1000000) : Calls Try.prog 22 #[.pointer (some ⟨g, 0, none⟩)] w fun e w' =>
    ∃ v, e = .returned v ∧ Kd.N kL 31 w' w.heap.size (fun k => w.heap.size ≤ k) v L ∧ Below w.heap.size w w' := by
  obtain ⟨lv, cv, mv, h⟩ := h
  obtain ⟨⟨Al, cl, rfl, _⟩, ⟨Ac, cc, rfl, _⟩, Am, cm, rfl, _⟩ := h.forms
  obtain ⟨h0, h1, h2⟩ := h.cells
  have HH := Aside0.mk h
  have HL := Aside0.mk hl
  have HLL := Aside0.mk hL
  clear h hl h1 h2 hL
  go_enter Try.func22, Try.ntmps22
  go_wp2
  go_loopw [3, 11] (fun v i wr => ∃ k : Nat, k ≤ L.length ∧ i = .int .i64 (k : Int) ∧ Aside0 (Kd.N kL 31 wr w.heap.size (fun k => w.heap.size ≤ k) v (L.take k)) ∧ Aside0 (Below w.heap.size w wr)) (fun _ i _ => L.length - (intOf i).toNat)
  case atStart => exact ⟨0, Nat.zero_le _, rfl, ⟨Kd.N_nil _ _ _ _ _⟩, ⟨Below.refl _ _⟩⟩
  case round =>
    obtain ⟨k, hk, rfl, HN, HB⟩ := hrel
    by_cases hlt : k < L.length
    · have hlt' : (k : Int) < (L.length : Int) := by omega
      obtain ⟨ad, A0, c0, e, hc, hle, hF⟩ := HH.out.dom k (by omega) hlt'
      cases e
      rw [Int.toNat_natCast] at hc
      replace hc := (HB.out.cell (World.block_lt_of_cell? w _ hc)).trans hc
      have HF := Aside0.mk (Kd.F_now (Kd.F_below hF HB.out))
      have HLT := Aside0.mk hlt
      have HLE := Aside0.mk (HL.out _ (show rd_L3 L k ∈ L from by rw [rd_L3, Int.toNat_natCast, List.getD_eq_getElem?_getD, List.getElem?_eq_getElem hlt]; exact List.getElem_mem hlt))
      have p1 := eq_true (show 0 ≤ (k : Int) by omega)
      have q1 := eq_true hlt'
      have q2 : decide ((k : Int) < (L.length : Int)) = true := decide_eq_true hlt'
      clear hF hlt hlt' hle
      go_wp2_with fail
      refine (clone_r A0 c0 (rd_L3 L k) wr HF.out (by have := HLE.out; omega)).mono ?_
      rintro e w2 ⟨v2, rfl, hN2, hb2⟩
      obtain ⟨A2, c2, rfl⟩ := Kd.N_slice hN2
      have HN2 := Aside0.mk hN2
      have HB2 := Aside0.mk hb2
      clear hN2 hb2 hc
      go_wp2_with (first | ((with_reducible refine gate_builtin (b := .append) (xs := #[.tmp 15, .tmp 18]) rfl ?_); at_builtin; refine Kd.N_append kL (w0 := w) w.heap.size rfl (.tmp 15) (.tmp 18) 28 31 (.slice none 0 0) 24 rfl Try.underlying28 info31 rfl (by decide) (by omega) u3 (L.take k) (rd_L3 L k) [.slice A2 (rd_L3 L k).length c2] (fun k => w.heap.size ≤ k) (fun k => wr.heap.size ≤ k) rfl rfl (FK_of_N HN2.out) ?aP (fun k hk => Nat.le_trans (Nat.le_trans HB.out.size HB2.out.size) hk) (Kd.N_below HN.out HB2.out) (HB.out.trans (HB2.out.mono HB.out.size)) (Nat.le_trans HB.out.size HB2.out.size) ?aL ?_; (case aP => exact fun k hk => ⟨Nat.le_trans HB.out.size hk, fun he => absurd (Kd.N_lt HN.out k he.symm) (by omega)⟩); (case aL => have := HLL.out; have := HLT.out; rw [List.length_take]; omega); intro v3 w3 hN3 hb3 hg3 hat3; have HN3 := Aside0.mk hN3; have HB3 := Aside0.mk hb3; clear hN3 hb3 hg3 hat3))
      have HW := Aside0.mk (wrap_next k (by have := HLL.out; omega))
      go_roundw
      case rel => exact ⟨k + 1, HLT.out, by rw [HW.out], ⟨by have := HN3.out; rwa [show rd_L3 L k = L.getD k [] from by rw [rd_L3, Int.toNat_natCast], take_next L [] k HLT.out] at this⟩, HB3⟩
      case measure => have := HLT.out; rw [HW.out]; simp [intOf]; omega
    · obtain rfl : k = L.length := by omega
      have q2 : decide ((L.length : Int) < (L.length : Int)) = false := by simp
      go_wp2
      go_ret
      exact ⟨_, rfl, by have := HN.out; rwa [List.take_length] at this, HB.out⟩
end
end
end Go.Proofs.Ytcjachhdoogbaaa.PT

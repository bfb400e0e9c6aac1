/- All: a copy of every domain. No conditions but the lengths' bounds. -/
import Derived.Test.YtcjachhdoogbaaaTReads
set_option linter.unusedVariables false
set_option linter.unusedSimpArgs false
namespace Go.Proofs.Ytcjachhdoogbaaa.PT
open Go.RowKit Go.Proofs.YtcjachhdoogbaaaW.PrintWords Go.Proofs.YtcjachhdoogbaaaW.PrintLast Go.Proofs.YtcjachhdoogbaaaW.PrintMore
theorem FK_of_N {w : World} {e base : Nat} {ok : Nat → Prop} {v : Value} {x : List S62} (h : Kd.N k62 e w base ok v x) : Kd.FK kL w ok x [v] := by
  obtain ⟨A, c, rfl, hle, _⟩ := Kd.N_reads h
  exact fun W' hW => ⟨A, c, rfl, hle, Kd.N_F h W' hW⟩
theorem take_next {α : Type} [Inhabited α] (L : List α) (d : α) (k : Nat) (h : k < L.length) : L.take k ++ [L.getD k d] = L.take (k + 1) := by
  rw [List.take_add_one, List.getD_eq_getElem?_getD, List.getElem?_eq_getElem h]; rfl
section
variable {T : Nat → Prop} {w : World} {base g : Nat} {L : List (List S62)} {C : List S67} {M : List Int}
set_option maxRecDepth 100000
set_option maxHeartbeats 2000000
theorem all_calls (h : St T w base g L C M) (hl : ∀ x ∈ L, x.length ≤ 1000000) (hL : L.length ≤ 1000000) : Calls Try.prog 22 #[.pointer (some ⟨g, 0, none⟩)] w fun e w' =>
    ∃ v, e = .returned v ∧ Kd.N kL 31 w' w.heap.size (fun k => w.heap.size ≤ k) v L ∧ Below w.heap.size w w' := by
  obtain ⟨lv, cv, mv, h⟩ := h
  obtain ⟨⟨Al, cl, rfl, _⟩, ⟨Ac, cc, rfl, _⟩, Am, cm, rfl, _⟩ := h.forms
  obtain ⟨h0, h1, h2⟩ := h.cells
  have HH := Aside0.mk h
  have HL := Aside0.mk hl
  have HLL := Aside0.mk hL
  clear h hl h1 h2 hL
  go_enter Try.func22, Try.ntmps22
  go_wp2
  go_loopw [3, 11] (fun v i wr => ∃ k : Nat, k ≤ L.length ∧ i = .int .i64 (k : Int) ∧ Aside0 (Kd.N kL 31 wr w.heap.size (fun k => w.heap.size ≤ k) v (L.take k)) ∧ Aside0 (Below w.heap.size w wr)) (fun _ i _ => L.length - (intOf i).toNat)
  case atStart => exact ⟨0, Nat.zero_le _, rfl, ⟨Kd.N_nil _ _ _ _ _⟩, ⟨Below.refl _ _⟩⟩
  case round =>
    obtain ⟨k, hk, rfl, HN, HB⟩ := hrel
    by_cases hlt : k < L.length
    · have hlt' : (k : Int) < (L.length : Int) := by omega
      obtain ⟨ad, A0, c0, e, hc, hle, hF⟩ := HH.out.dom k (by omega) hlt'
      cases e
      rw [Int.toNat_natCast] at hc
      replace hc := (HB.out.cell (World.block_lt_of_cell? w _ hc)).trans hc
      have HF := Aside0.mk (Kd.F_now (Kd.F_below hF HB.out))
      have HLT := Aside0.mk hlt
      have HLE := Aside0.mk (HL.out _ (show rd_L3 L k ∈ L from by rw [rd_L3, Int.toNat_natCast, List.getD_eq_getElem?_getD, List.getElem?_eq_getElem hlt]; exact List.getElem_mem hlt))
      have p1 := eq_true (show 0 ≤ (k : Int) by omega)
      have q1 := eq_true hlt'
      have q2 : decide ((k : Int) < (L.length : Int)) = true := decide_eq_true hlt'
      clear hF hlt hlt' hle
      go_wp2_with fail
      refine (clone_r A0 c0 (rd_L3 L k) wr HF.out (by have := HLE.out; omega)).mono ?_
      rintro e w2 ⟨v2, rfl, hN2, hb2⟩
      obtain ⟨A2, c2, rfl⟩ := Kd.N_slice hN2
      have HN2 := Aside0.mk hN2
      have HB2 := Aside0.mk hb2
      clear hN2 hb2 hc
      go_wp2_with (first | ((with_reducible refine gate_builtin (b := .append) (xs := #[.tmp 15, .tmp 18]) rfl ?_); at_builtin; refine Kd.N_append kL (w0 := w) w.heap.size rfl (.tmp 15) (.tmp 18) 28 31 (.slice none 0 0) 24 rfl Try.underlying28 info31 rfl (by decide) (by omega) u3 (L.take k) (rd_L3 L k) [.slice A2 (rd_L3 L k).length c2] (fun k => w.heap.size ≤ k) (fun k => wr.heap.size ≤ k) rfl rfl (FK_of_N HN2.out) ?aP (fun k hk => Nat.le_trans (Nat.le_trans HB.out.size HB2.out.size) hk) (Kd.N_below HN.out HB2.out) (HB.out.trans (HB2.out.mono HB.out.size)) (Nat.le_trans HB.out.size HB2.out.size) ?aL ?_; (case aP => exact fun k hk => ⟨Nat.le_trans HB.out.size hk, fun he => absurd (Kd.N_lt HN.out k he.symm) (by omega)⟩); (case aL => have := HLL.out; have := HLT.out; rw [List.length_take]; omega); intro v3 w3 hN3 hb3 hg3 hat3; have HN3 := Aside0.mk hN3; have HB3 := Aside0.mk hb3; clear hN3 hb3 hg3 hat3))
      have HW := Aside0.mk (wrap_next k (by have := HLL.out; omega))
      go_roundw
      case rel => exact ⟨k + 1, HLT.out, by rw [HW.out], ⟨by have := HN3.out; rwa [show rd_L3 L k = L.getD k [] from by rw [rd_L3, Int.toNat_natCast], take_next L [] k HLT.out] at this⟩, HB3⟩
      case measure => have := HLT.out; rw [HW.out]; simp [intOf]; omega
    · obtain rfl : k = L.length := by omega
      have q2 : decide ((L.length : Int) < (L.length : Int)) = false := by simp
      go_wp2
      go_ret
      exact ⟨_, rfl, by have := HN.out; rwa [List.take_length] at this, HB.out⟩
end
end Go.Proofs.Ytcjachhdoogbaaa.PT

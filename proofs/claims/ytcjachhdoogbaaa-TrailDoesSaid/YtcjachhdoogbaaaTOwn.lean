/- same: does a store tell what the document's does; what is told is its owner's. No conditions but the lengths' bounds. -/
import Derived.Test.YtcjachhdoogbaaaTLaws
set_option linter.unusedVariables false
set_option linter.unusedSimpArgs false
namespace Go.Proofs.Ytcjachhdoogbaaa.PT
open Go.RowKit Go.Proofs.YtcjachhdoogbaaaW.PrintWords Go.Proofs.YtcjachhdoogbaaaW.PrintLast Go.Proofs.YtcjachhdoogbaaaW.PrintMore
/-- Where a row of ranges lies that is one's own: a block, as long as the row at least. -/
def Blk62 (w : World) (A : Option Addr) (n : Nat) : Prop := 0 < n → ∃ b arr, A = some ⟨b, 0, none⟩ ∧ w.heap[b]? = some (.cells arr 62 (0, 0)) ∧ 2 * n ≤ arr.size
theorem Blk62.below {w w' : World} {A : Option Addr} {n : Nat} (h : Blk62 w A n) (hb : Below w.heap.size w w') : Blk62 w' A n := fun hn => by
  obtain ⟨b, arr, e, h1, h2⟩ := h hn
  exact ⟨b, arr, e, blk_below h1 hb, h2⟩
/-- A row of ranges with its block. -/
def kO : Kd (List S62) where
  sz := 1
  E := []
  K := fun w l cs => ∃ A c, cs = [.slice A l.length c] ∧ l.length ≤ c ∧ Kd.C k62 w A l.length l ∧ Blk62 w A l.length
  M := fun _ _ _ _ _ => False
  K_len := by
    rintro w x cs ⟨A, c, rfl, _⟩
    rfl
  K_one := by
    rintro w x cs ⟨A, c, rfl, _⟩ u hu
    rw [List.mem_singleton.1 hu]
    rfl
  K_below := by
    rintro w w1 x cs hb ⟨A, c, rfl, hl, hr, hk⟩
    exact ⟨A, c, rfl, hl, Kd.C_below hr hb, hk.below hb⟩
  K_of_M := fun h => h.elim
  M_mono := fun _ h => h.elim
  M_bound := fun h => h.elim
  M_move := fun _ h => h.elim
  M_lower := fun _ h => h.elim
theorem N_block {w : World} {base : Nat} {ok : Nat → Prop} {A : Option Addr} {n c : Nat} {x : List S62} (h : Kd.N k62 62 w base ok (.slice A n c) x) : 0 < x.length → ∃ b arr, A = some ⟨b, 0, none⟩ ∧ w.heap[b]? = some (.cells arr 62 (0, 0)) ∧ 2 * x.length ≤ arr.size ∧ ok b ∧ base ≤ b := fun h0 => by
  obtain ⟨hk, rows, hl, ⟨_, inner, ho, hr⟩, hf⟩ := h
  rcases ho.2 with ⟨e, hz⟩ | ⟨g, cap, cur, e, hb, hh, hle, hm, hsz, _⟩
  · omega
  · cases e
    have h2 : 2 * x.length ≤ cur.size := by
      have e2 : (Kd.raw k62.sz).sz = 2 := rfl
      rw [hsz, e2, Nat.mul_comm]
      exact Nat.mul_le_mul_right 2 (by omega)
    exact ⟨g, cur, rfl, hh, h2, hk g (by simp [Value.ownBlock]), hb⟩
theorem FKO_of_N {w : World} {base : Nat} {ok : Nat → Prop} {v : Value} {x : List S62} (h : Kd.N k62 62 w base ok v x) : Kd.FK kO w ok x [v] := by
  obtain ⟨A, c, rfl, hle, _⟩ := Kd.N_reads h
  refine fun W' hW => ⟨A, c, rfl, hle, Kd.N_F h W' hW, fun h0 => ?_⟩
  obtain ⟨b, arr, e, h1, h2, h3, _⟩ := N_block h h0
  exact ⟨b, arr, e, (hW b h3 (blk_lt h1)).trans h1, h2⟩
theorem N_ranges {e base : Nat} {w : World} {ok : Nat → Prop} {v : Value} {L : List (List S62)} (h : Kd.N kO e w base ok v L) : Kd.N kL e w base ok v L := by
  obtain ⟨h0, rows, hl, hR, hf⟩ := h
  refine ⟨h0, rows, hl, hR, fun j x c hx hc W' hW => ?_⟩
  obtain ⟨A, c', e, h1, h2, _⟩ := hf j x c hx hc W' hW
  exact ⟨A, c', e, h1, h2⟩
/-- The rows of a list of domains, each with its block: the list's own block is never written. -/
def Rws (w wr : World) (b5 : Nat) (arr5 : Array Value) (L : List (List S62)) : Prop := wr.heap[b5]? = some (.cells arr5 31 (0, 0)) ∧ w.heap.size ≤ b5 ∧
  ∀ t : Nat, t < L.length → ∃ A c, arr5[t]? = some (.slice A (rd_L3 L (t : Int)).length c) ∧ (0 < (rd_L3 L (t : Int)).length → ∃ b arr, A = some ⟨b, 0, none⟩ ∧ w.heap.size ≤ b ∧ wr.heap[b]? = some (.cells arr 62 (0, 0)) ∧ 2 * (rd_L3 L (t : Int)).length ≤ arr.size)
theorem Rws.below {w wr wr' : World} {b5 : Nat} {arr5 : Array Value} {L : List (List S62)} (h : Rws w wr b5 arr5 L) (hb : Below wr.heap.size wr wr') : Rws w wr' b5 arr5 L := by
  refine ⟨blk_below h.1 hb, h.2.1, fun t ht => ?_⟩
  obtain ⟨A, c, h1, h2⟩ := h.2.2 t ht
  refine ⟨A, c, h1, fun h0 => ?_⟩
  obtain ⟨b, arr, e, h3, h4, h5⟩ := h2 h0
  exact ⟨b, arr, e, h3, blk_below h4 hb, h5⟩
theorem blk62_set {w : World} {b b' o : Nat} {arr arr' : Array Value} (h : w.heap[b]? = some (.cells arr 62 (0, 0))) (h' : w.heap[b']? = some (.cells arr' 62 (0, 0))) (u : Value) : ∃ arr2, (w.setCell ⟨b', o, none⟩ u).heap[b]? = some (.cells arr2 62 (0, 0)) ∧ arr2.size = arr.size := by
  by_cases e : b = b'
  · subst e
    exact ⟨_, blk_set h o u, by simp⟩
  · exact ⟨arr, blk_far h (p := ⟨b', o, none⟩) e u, rfl⟩
theorem Rws.set {w wr : World} {b5 b' o : Nat} {arr5 arr' : Array Value} {L : List (List S62)} (h : Rws w wr b5 arr5 L) (h' : wr.heap[b']? = some (.cells arr' 62 (0, 0))) (u : Value) : Rws w (wr.setCell ⟨b', o, none⟩ u) b5 arr5 L := by
  refine ⟨blk_far h.1 (p := ⟨b', o, none⟩) (blk_ne h.1 h' (by decide)) u, h.2.1, fun t ht => ?_⟩
  obtain ⟨A, c, h1, h2⟩ := h.2.2 t ht
  refine ⟨A, c, h1, fun h0 => ?_⟩
  obtain ⟨b, arr, e, h3, h4, h5⟩ := h2 h0
  obtain ⟨arr2, h6, h7⟩ := blk62_set h4 h' (o := o) u
  exact ⟨b, arr2, e, h3, h6, by omega⟩
theorem rws_of_N {w wr : World} {A : Option Addr} {n c : Nat} {L : List (List S62)} (hb : w.heap.size ≤ wr.heap.size) (h : Kd.N kO 31 wr w.heap.size (fun k => w.heap.size ≤ k) (.slice A n c) L) : ∃ b5 arr5, 0 < L.length → A = some ⟨b5, 0, none⟩ ∧ Rws w wr b5 arr5 L := by
  obtain ⟨hk, rows, hl, ⟨_, inner, ho, hr⟩, hf⟩ := h
  rcases ho.2 with ⟨e, hz⟩ | ⟨g, cap, cur, e, hbs, hh, hle, hm, hsz, htk⟩
  · exact ⟨0, #[], fun h0 => by omega⟩
  · cases e
    refine ⟨g, cur, fun h0 => ⟨rfl, hh, hbs, fun t ht => ?_⟩⟩
    have htr : t < rows.length := by omega
    have hxt : L[t]? = some (rd_L3 L (t : Int)) := by
      rw [rd_L3, Int.toNat_natCast, List.getD_eq_getElem?_getD, List.getElem?_eq_getElem ht]; rfl
    have hrt := List.getElem?_eq_getElem htr
    have hF := hf t _ _ hxt hrt
    obtain ⟨A', c', e, h1, _, h3⟩ := Kd.FK_now hF
    have h4 := (hr.2 t _ hrt).1
    have e1 : (Kd.raw kO.sz).sz = 1 := rfl
    rw [e1] at h4 htk
    have h5 : cur[t]? = some (.slice A' (rd_L3 L (t : Int)).length c') := by
      have h6 : (inner.drop (t * 1)).take 1 = [Value.slice A' (rd_L3 L (t : Int)).length c'] := h4.trans e
      have h7 : inner[t]? = some (.slice A' (rd_L3 L (t : Int)).length c') := by
        have := congrArg (fun l => l[0]?) h6
        simpa [List.getElem?_take, List.getElem?_drop] using this
      rw [← htk, List.getElem?_take] at h7
      split at h7
      · rw [← Array.getElem?_toList]; exact h7
      · cases h7
    refine ⟨A', c', h5, fun hp => ?_⟩
    obtain ⟨b, arr, e2, h8, h9⟩ := h3 hp
    refine ⟨b, arr, e2, ?_, h8, h9⟩
    rcases Nat.lt_or_ge b w.heap.size with hlt | hge
    · exfalso
      obtain ⟨W', h2, h3'⟩ := Kd.emptied wr b
      obtain ⟨A2, c2, e3, _, _, h10⟩ := hF W' (fun k hk' _ => h2 k (fun e => absurd hk'.1 (by rw [e]; exact Nat.not_le.2 hlt)))
      rw [e] at e3
      simp only [List.cons.injEq, Value.slice.injEq, true_and, and_true] at e3
      obtain ⟨b2, arr2, e4, h11, h12⟩ := h10 hp
      rw [← e3.1, e2] at e4
      cases e4
      have := h3' ⟨b, 0, none⟩ rfl
      rw [blk_cell h11 0] at this
      rw [Array.getElem?_eq_none_iff] at this
      omega
    · exact hge
section
variable {T : Nat → Prop} {w : World} {base g : Nat} {L : List (List S62)} {C : List S67} {M : List Int}
set_option maxRecDepth 100000
set_option maxHeartbeats 2000000
theorem allO_calls (h : St T w base g L C M) (hl : ∀ x ∈ L, x.length ≤ 1000000) (hL : L.length ≤ 1000000) : Calls Try.prog 22 #[.pointer (some ⟨g, 0, none⟩)] w fun e w' =>
    ∃ v, e = .returned v ∧ Kd.N kO 31 w' w.heap.size (fun k => w.heap.size ≤ k) v L ∧ Below w.heap.size w w' := by
  obtain ⟨lv, cv, mv, h⟩ := h
  obtain ⟨⟨Al, cl, rfl, _⟩, ⟨Ac, cc, rfl, _⟩, Am, cm, rfl, _⟩ := h.forms
  obtain ⟨h0, h1, h2⟩ := h.cells
  have HH := Aside0.mk h
  have HL := Aside0.mk hl
  have HLL := Aside0.mk hL
  clear h hl h1 h2 hL
  go_enter Try.func22, Try.ntmps22
  go_wp2
  go_loopw [3, 11] (fun v i wr => ∃ k : Nat, k ≤ L.length ∧ i = .int .i64 (k : Int) ∧ Aside0 (Kd.N kO 31 wr w.heap.size (fun k => w.heap.size ≤ k) v (L.take k)) ∧ Aside0 (Below w.heap.size w wr)) (fun _ i _ => L.length - (intOf i).toNat)
  case atStart => exact ⟨0, Nat.zero_le _, rfl, ⟨Kd.N_nil _ _ _ _ _⟩, ⟨Below.refl _ _⟩⟩
  case round =>
    obtain ⟨k, hk, rfl, HN, HB⟩ := hrel
    by_cases hlt : k < L.length
    · have hlt' : (k : Int) < (L.length : Int) := by omega
      obtain ⟨ad, A0, c0, e, hc, hle, hF⟩ := HH.out.dom k (by omega) hlt'
      cases e
      rw [Int.toNat_natCast] at hc
      replace hc := (HB.out.cell (World.block_lt_of_cell? w _ hc)).trans hc
      have HF := Aside0.mk (Kd.F_now (Kd.F_below hF HB.out))
      have HLT := Aside0.mk hlt
      have HLE := Aside0.mk (HL.out _ (show rd_L3 L k ∈ L from by rw [rd_L3, Int.toNat_natCast, List.getD_eq_getElem?_getD, List.getElem?_eq_getElem hlt]; exact List.getElem_mem hlt))
      have p1 := eq_true (show 0 ≤ (k : Int) by omega)
      have q1 := eq_true hlt'
      have q2 : decide ((k : Int) < (L.length : Int)) = true := decide_eq_true hlt'
      clear hF hlt hlt' hle
      go_wp2_with fail
      refine (clone_r A0 c0 (rd_L3 L k) wr HF.out (by have := HLE.out; omega)).mono ?_
      rintro e w2 ⟨v2, rfl, hN2, hb2⟩
      obtain ⟨A2, c2, rfl⟩ := Kd.N_slice hN2
      have HN2 := Aside0.mk hN2
      have HB2 := Aside0.mk hb2
      clear hN2 hb2 hc
      go_wp2_with (first | ((with_reducible refine gate_builtin (b := .append) (xs := #[.tmp 15, .tmp 18]) rfl ?_); at_builtin; refine Kd.N_append kO (w0 := w) w.heap.size rfl (.tmp 15) (.tmp 18) 28 31 (.slice none 0 0) 24 rfl Try.underlying28 info31 rfl (by decide) (by omega) u3 (L.take k) (rd_L3 L k) [.slice A2 (rd_L3 L k).length c2] (fun k => w.heap.size ≤ k) (fun k => wr.heap.size ≤ k) rfl rfl (FKO_of_N HN2.out) ?aP (fun k hk => Nat.le_trans (Nat.le_trans HB.out.size HB2.out.size) hk) (Kd.N_below HN.out HB2.out) (HB.out.trans (HB2.out.mono HB.out.size)) (Nat.le_trans HB.out.size HB2.out.size) ?aL ?_; (case aP => exact fun k hk => ⟨Nat.le_trans HB.out.size hk, fun he => absurd (Kd.N_lt HN.out k he.symm) (by omega)⟩); (case aL => have := HLL.out; have := HLT.out; rw [List.length_take]; omega); intro v3 w3 hN3 hb3 hg3 hat3; have HN3 := Aside0.mk hN3; have HB3 := Aside0.mk hb3; clear hN3 hb3 hg3 hat3))
      have HW := Aside0.mk (wrap_next k (by have := HLL.out; omega))
      go_roundw
      case rel => exact ⟨k + 1, HLT.out, by rw [HW.out], ⟨by have := HN3.out; rwa [show rd_L3 L k = L.getD k [] from by rw [rd_L3, Int.toNat_natCast], take_next L [] k HLT.out] at this⟩, HB3⟩
      case measure => have := HLT.out; rw [HW.out]; simp [intOf]; omega
    · obtain rfl : k = L.length := by omega
      have q2 : decide ((L.length : Int) < (L.length : Int)) = false := by simp
      go_wp2
      go_ret
      exact ⟨_, rfl, by have := HN.out; rwa [List.take_length] at this, HB.out⟩
end
end Go.Proofs.Ytcjachhdoogbaaa.PT

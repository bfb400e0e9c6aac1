/- slices.Clone over ranges, over changes, over whole numbers: what comes back is a row of the call's own whose elements share. No conditions but the lengths' bounds. -/
import Derived.Test.YtcjachhdoogbaaaPTx0
set_option linter.unusedVariables false
set_option linter.unusedSimpArgs false
namespace Go.Proofs.Ytcjachhdoogbaaa.PT
open Go.RowKit Go.Proofs.YtcjachhdoogbaaaW.PrintWords Go.Proofs.YtcjachhdoogbaaaW.PrintLast Go.Proofs.YtcjachhdoogbaaaW.PrintMore
theorem info67 : (Try.prog.info? 67).map (fun i => (i.zero, i.size, i.bytes)) = some (some (.agg #[.int .i64 0, .slice none 0 0]), 2, 32) := by kernel_rfl
set_option maxRecDepth 100000 in
set_option maxHeartbeats 1000000 in
theorem clone33 (A : Option Addr) (c : Nat) (l : List S62) (w : World) (okp : Nat → Prop) (h : Kd.F k62 w okp A l.length l) (hl : l.length * 16 ≤ 140737488355328) :
    Calls Try.prog 33 #[.slice A l.length c] w fun e w' => ∃ v, e = .returned v ∧ Kd.N k62 62 w' w.heap.size (fun k => okp k ∨ w.heap.size ≤ k) v l ∧ Below w.heap.size w w' := by
  have HF := Aside0.mk (Kd.F_bound h)
  have HL := Aside0.mk hl
  have HB := Aside0.mk (Below.refl w.heap.size w)
  clear h hl
  rcases A with _ | ad
  · have h0 : l = [] := by
      rcases Nat.eq_zero_or_pos l.length with h0 | h0
      · exact List.eq_nil_of_length_eq_zero h0
      · obtain ⟨ad, h, _⟩ := (Kd.F_now HF.out).2.2 h0
        cases h
    subst h0
    have he : ∀ w : World, (binOp .eql 31 (.slice none 0 c) (.slice none 0 0)).run Try.prog w = .ok (.bool true) w := fun _ => rfl
    go_enter Try.func33, Try.ntmps33
    go_wp2
    go_ret
    exact ⟨_, rfl, Kd.N_nil _ _ _ _ _, HB.out⟩
  · have he : ∀ w : World, (binOp .eql 31 (.slice (some ad) l.length c) (.slice none 0 0)).run Try.prog w = .ok (.bool false) w := fun _ => rfl
    go_enter Try.func33, Try.ntmps33
    go_wp2_with (first | ((with_reducible refine gate_dst (N := 5) rfl ?_); refine Kd.N_lit k62 (w0 := w) w.heap.size 62 ?hg (N' := 5) ?hd (xs := ([] : List S62)) (inner := []) (ok := fun k => (okp k ∧ k < w.heap.size) ∨ w.heap.size ≤ k) (okp := fun _ => False) ?hr ?hp (fun _ hk => hk.elim) (.inr (Nat.le_refl _)) HB.out (Nat.le_refl _) (by simp) ?_; (case hd => rfl); (case hg => rfl); (case hr => first | (go_simp; done) | (go_simp; rfl)); (case hp => exact (Reps.none _ _)); intro v1 w1 hN hb hg hat; have HN := Aside0.mk hN; have HB1 := Aside0.mk hb; have HA := Aside0.mk hat; clear hN hb hg hat) | ((with_reducible refine gate_builtin (b := .append) (xs := #[.tmp 5, .tmp 6]) rfl ?_); at_builtin; refine Kd.N_append_rows k62 (w0 := w) w.heap.size rfl (.tmp 5) (.tmp 6) 31 62 (.agg #[(.int .i64 0), (.int .i64 0)]) 16 rfl Try.underlying31 info62 rfl (by decide) (by omega) v1 [] l (some ad) l.length c _ (fun k => okp k ∧ k < w.heap.size) rfl rfl HN.out (Kd.F_below HF.out HB1.out) ?aK (fun k hk => .inr (Nat.le_trans HB1.out.size hk)) HB1.out HB1.out.size (by have := HL.out; simpa using this) ?_; (case aK => exact fun k hk => ⟨.inl hk, fun he => by obtain ⟨b, hb, hlt⟩ := HA.out; rw [hb] at he; cases he; omega⟩); intro v2 w2 hN2 hb2 hg2 hat2; have HN2 := Aside0.mk hN2; have HB2 := Aside0.mk hb2; clear hN2 hb2 hg2 hat2))
    go_ret
    exact ⟨_, rfl, Kd.N_mono HN2.out (fun k hk => hk.imp And.left id), HB2.out⟩
set_option maxRecDepth 100000 in
set_option maxHeartbeats 1000000 in
theorem clone43 (A : Option Addr) (c : Nat) (l : List S67) (w : World) (okp : Nat → Prop) (h : Kd.F k67 w okp A l.length l) (hl : l.length * 32 ≤ 140737488355328) :
    Calls Try.prog 43 #[.slice A l.length c] w fun e w' => ∃ v, e = .returned v ∧ Kd.N k67 67 w' w.heap.size (fun k => okp k ∨ w.heap.size ≤ k) v l ∧ Below w.heap.size w w' := by
  have HF := Aside0.mk (Kd.F_bound h)
  have HL := Aside0.mk hl
  have HB := Aside0.mk (Below.refl w.heap.size w)
  clear h hl
  rcases A with _ | ad
  · have h0 : l = [] := by
      rcases Nat.eq_zero_or_pos l.length with h0 | h0
      · exact List.eq_nil_of_length_eq_zero h0
      · obtain ⟨ad, h, _⟩ := (Kd.F_now HF.out).2.2 h0
        cases h
    subst h0
    have he : ∀ w : World, (binOp .eql 37 (.slice none 0 c) (.slice none 0 0)).run Try.prog w = .ok (.bool true) w := fun _ => rfl
    go_enter Try.func43, Try.ntmps43
    go_wp2
    go_ret
    exact ⟨_, rfl, Kd.N_nil _ _ _ _ _, HB.out⟩
  · have he : ∀ w : World, (binOp .eql 37 (.slice (some ad) l.length c) (.slice none 0 0)).run Try.prog w = .ok (.bool false) w := fun _ => rfl
    go_enter Try.func43, Try.ntmps43
    go_wp2_with (first | ((with_reducible refine gate_dst (N := 5) rfl ?_); refine Kd.N_lit k67 (w0 := w) w.heap.size 67 ?hg (N' := 5) ?hd (xs := ([] : List S67)) (inner := []) (ok := fun k => (okp k ∧ k < w.heap.size) ∨ w.heap.size ≤ k) (okp := fun _ => False) ?hr ?hp (fun _ hk => hk.elim) (.inr (Nat.le_refl _)) HB.out (Nat.le_refl _) (by simp) ?_; (case hd => rfl); (case hg => rfl); (case hr => first | (go_simp; done) | (go_simp; rfl)); (case hp => exact (Reps.none _ _)); intro v1 w1 hN hb hg hat; have HN := Aside0.mk hN; have HB1 := Aside0.mk hb; have HA := Aside0.mk hat; clear hN hb hg hat) | ((with_reducible refine gate_builtin (b := .append) (xs := #[.tmp 5, .tmp 6]) rfl ?_); at_builtin; refine Kd.N_append_rows k67 (w0 := w) w.heap.size rfl (.tmp 5) (.tmp 6) 37 67 (.agg #[(.int .i64 0), (.slice none 0 0)]) 32 rfl Try.underlying37 info67 rfl (by decide) (by omega) v1 [] l (some ad) l.length c _ (fun k => okp k ∧ k < w.heap.size) rfl rfl HN.out (Kd.F_below HF.out HB1.out) ?aK (fun k hk => .inr (Nat.le_trans HB1.out.size hk)) HB1.out HB1.out.size (by have := HL.out; simpa using this) ?_; (case aK => exact fun k hk => ⟨.inl hk, fun he => by obtain ⟨b, hb, hlt⟩ := HA.out; rw [hb] at he; cases he; omega⟩); intro v2 w2 hN2 hb2 hg2 hat2; have HN2 := Aside0.mk hN2; have HB2 := Aside0.mk hb2; clear hN2 hb2 hg2 hat2))
    go_ret
    exact ⟨_, rfl, Kd.N_mono HN2.out (fun k hk => hk.imp And.left id), HB2.out⟩
set_option maxRecDepth 100000 in
set_option maxHeartbeats 1000000 in
theorem clone44 (A : Option Addr) (c : Nat) (l : List Int) (w : World) (okp : Nat → Prop) (h : Kd.F (Kd.int .i64) w okp A l.length l) (hl : l.length * 8 ≤ 140737488355328) :
    Calls Try.prog 44 #[.slice A l.length c] w fun e w' => ∃ v, e = .returned v ∧ Kd.N (Kd.int .i64) 3 w' w.heap.size (fun k => okp k ∨ w.heap.size ≤ k) v l ∧ Below w.heap.size w w' := by
  have HF := Aside0.mk (Kd.F_bound h)
  have HL := Aside0.mk hl
  have HB := Aside0.mk (Below.refl w.heap.size w)
  clear h hl
  rcases A with _ | ad
  · have h0 : l = [] := by
      rcases Nat.eq_zero_or_pos l.length with h0 | h0
      · exact List.eq_nil_of_length_eq_zero h0
      · obtain ⟨ad, h, _⟩ := (Kd.F_now HF.out).2.2 h0
        cases h
    subst h0
    have he : ∀ w : World, (binOp .eql 30 (.slice none 0 c) (.slice none 0 0)).run Try.prog w = .ok (.bool true) w := fun _ => rfl
    go_enter Try.func44, Try.ntmps44
    go_wp2
    go_ret
    exact ⟨_, rfl, Kd.N_nil _ _ _ _ _, HB.out⟩
  · have he : ∀ w : World, (binOp .eql 30 (.slice (some ad) l.length c) (.slice none 0 0)).run Try.prog w = .ok (.bool false) w := fun _ => rfl
    go_enter Try.func44, Try.ntmps44
    go_wp2_with (first | ((with_reducible refine gate_dst (N := 5) rfl ?_); refine Kd.N_lit (Kd.int .i64) (w0 := w) w.heap.size 3 ?hg (N' := 5) ?hd (xs := ([] : List Int)) (inner := []) (ok := fun k => (okp k ∧ k < w.heap.size) ∨ w.heap.size ≤ k) (okp := fun _ => False) ?hr ?hp (fun _ hk => hk.elim) (.inr (Nat.le_refl _)) HB.out (Nat.le_refl _) (by simp) ?_; (case hd => rfl); (case hg => rfl); (case hr => first | (go_simp; done) | (go_simp; rfl)); (case hp => exact (Reps.none _ _)); intro v1 w1 hN hb hg hat; have HN := Aside0.mk hN; have HB1 := Aside0.mk hb; have HA := Aside0.mk hat; clear hN hb hg hat) | ((with_reducible refine gate_builtin (b := .append) (xs := #[.tmp 5, .tmp 6]) rfl ?_); at_builtin; refine Kd.N_append_rows (Kd.int .i64) (w0 := w) w.heap.size rfl (.tmp 5) (.tmp 6) 30 3 (.int .i64 0) 8 rfl Try.underlying30 info3 rfl (by decide) (by omega) v1 [] l (some ad) l.length c _ (fun k => okp k ∧ k < w.heap.size) rfl rfl HN.out (Kd.F_below HF.out HB1.out) ?aK (fun k hk => .inr (Nat.le_trans HB1.out.size hk)) HB1.out HB1.out.size (by have := HL.out; simpa using this) ?_; (case aK => exact fun k hk => ⟨.inl hk, fun he => by obtain ⟨b, hb, hlt⟩ := HA.out; rw [hb] at he; cases he; omega⟩); intro v2 w2 hN2 hb2 hg2 hat2; have HN2 := Aside0.mk hN2; have HB2 := Aside0.mk hb2; clear hN2 hb2 hg2 hat2))
    go_ret
    exact ⟨_, rfl, Kd.N_mono HN2.out (fun k hk => hk.imp And.left id), HB2.out⟩
theorem N62 {w : World} {e base : Nat} {ok ok' : Nat → Prop} {v : Value} {xs : List S62} (h : Kd.N k62 e w base ok v xs) (hok : ∀ k, v.ownBlock = some k → ok' k) : Kd.N k62 e w base ok' v xs := by
  obtain ⟨h0, rows, hl, hR, hf⟩ := h
  refine ⟨hok, rows, hl, hR, fun j x c hx hc W' _ => ?_⟩
  obtain rfl := k62_open (Kd.FK_now (hf j x c hx hc))
  exact k62_mk W' x
theorem N3 {w : World} {e base : Nat} {ok ok' : Nat → Prop} {v : Value} {xs : List Int} (h : Kd.N (Kd.int .i64) e w base ok v xs) (hok : ∀ k, v.ownBlock = some k → ok' k) : Kd.N (Kd.int .i64) e w base ok' v xs := by
  obtain ⟨h0, rows, hl, hR, hf⟩ := h
  refine ⟨hok, rows, hl, hR, fun j x c hx hc W' _ => ?_⟩
  have h1 : (Kd.int .i64).K w x c := Kd.FK_now (hf j x c hx hc)
  exact h1
theorem clone_r (A : Option Addr) (c : Nat) (l : List S62) (w : World) (h : Kd.C k62 w A l.length l) (hl : l.length * 16 ≤ 140737488355328) :
    Calls Try.prog 33 #[.slice A l.length c] w fun e w' => ∃ v, e = .returned v ∧ Kd.N k62 62 w' w.heap.size (fun k => w.heap.size ≤ k) v l ∧ Below w.heap.size w w' := by
  refine (clone33 A c l w (fun k => k < w.heap.size) (Kd.C_F (Kd.heap_iso _ (Kd.heap_pair (Kd.heap_int _) (Kd.heap_int _))) h) hl).mono ?_
  rintro e w' ⟨v, he, hN, hb⟩
  exact ⟨v, he, N62 hN (Kd.N_base hN), hb⟩
end Go.Proofs.Ytcjachhdoogbaaa.PT

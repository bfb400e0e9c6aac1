/- The program's store and the document's side by side: what each call does to both, and what it keeps. No conditions but the lengths' bounds. -/
import Derived.Test.YtcjachhdoogbaaaTPart
import Derived.Test.YtcjachhdoogbaaaTCopyU
set_option linter.unusedVariables false
set_option linter.unusedSimpArgs false
namespace Go.Proofs.Ytcjachhdoogbaaa.PT
open Go.RowKit Go.Proofs.YtcjachhdoogbaaaW.PrintWords Go.Proofs.YtcjachhdoogbaaaW.PrintLast Go.Proofs.YtcjachhdoogbaaaW.PrintMore
/-! Marks -/
/-- The document's state at a mark. -/
def snap (L : List (List S62)) (C : List S67) (m : Int) : S74 := ⟨undo L C m.toNat, m⟩
structure Mrk (C : List S67) (M : List Int) (n : Nat) : Prop where
  len : M.length ≤ n
  rng : ∀ m ∈ M, 0 ≤ m ∧ m ≤ C.length
  srt : M.Pairwise (· ≤ ·)
theorem Mrk.more {C : List S67} {M : List Int} {n k : Nat} (h : Mrk C M n) (hk : n ≤ k) : Mrk C M k := ⟨Nat.le_trans h.len hk, h.rng, h.srt⟩
theorem mrk_set {L L' : List (List S62)} {C C' : List S67} {M : List Int} {i r : Int} {d : List S62} {n : Nat} (h : Good L C n) (hm : Mrk C M n) (hd : d.length ≤ 1000000) (hs : setS KK L C i d = some (L', C', r)) :
    Mrk C' M (n + 1) ∧ M.map (snap L C) = M.map (snap L' C') := by
  obtain ⟨_, _, h1, _, h2, _⟩ := setS_good (by rw [kk]; omega) h hd hs
  refine ⟨⟨Nat.le_succ_of_le hm.len, fun m hmm => ⟨(hm.rng m hmm).1, by have := (hm.rng m hmm).2; omega⟩, hm.srt⟩, List.map_congr_left (fun m hmm => ?_)⟩
  have := hm.rng m hmm
  unfold snap
  rw [h1 m.toNat (by omega)]
theorem mrk_mark (L : List (List S62)) {C : List S67} {M : List Int} {n : Nat} (hm : Mrk C M n) : Mrk C (M ++ [(C.length : Int)]) (n + 1) ∧ M.map (snap L C) ++ [(⟨L, (C.length : Int)⟩ : S74)] = (M ++ [(C.length : Int)]).map (snap L C) := by
  refine ⟨⟨by rw [List.length_append, List.length_singleton]; have := hm.len; omega, fun m hmm => ?_, List.pairwise_append.2 ⟨hm.srt, List.pairwise_singleton _ _, fun a ha b hb => ?_⟩⟩, ?_⟩
  · rcases List.mem_append.1 hmm with h | h
    · exact hm.rng m h
    · rw [List.mem_singleton.1 h]; exact ⟨by omega, by omega⟩
  · rw [List.mem_singleton.1 hb]; exact (hm.rng a ha).2
  · rw [List.map_append, List.map_singleton]
    unfold snap
    rw [Int.toNat_natCast, undo_all]
theorem undo_take (L : List (List S62)) (C : List S67) (i j : Nat) (hij : i ≤ j) (hj : j ≤ C.length) : undo (undo L C j) (C.take j) i = undo L C i := by
  unfold undo
  rw [← List.foldr_append]
  congr 1
  rw [← List.drop_append_of_le_length (by rw [List.length_take]; omega), List.take_append_drop]
theorem mrk_back (L : List (List S62)) {C : List S67} {M : List Int} {m : Int} {n : Nat} (hm : Mrk C (M ++ [m]) n) : Mrk (C.take m.toNat) M (n + 1) ∧ (M ++ [m]).map (snap L C) = M.map (snap (undo L C m.toNat) (C.take m.toNat)) ++ [(⟨undo L C m.toNat, m⟩ : S74)] ∧ ((C.take m.toNat).length : Int) = m ∧ 0 ≤ m := by
  have hmr := hm.rng m (by simp)
  have hle : ∀ a ∈ M, a ≤ m := fun a ha => (List.pairwise_append.1 hm.srt).2.2 a ha m (by simp)
  have hl := hm.len
  rw [List.length_append, List.length_singleton] at hl
  have ht : ((C.take m.toNat).length : Int) = m := by rw [List.length_take]; omega
  refine ⟨⟨by omega, fun a ha => ⟨(hm.rng a (by simp [ha])).1, by rw [ht]; exact hle a ha⟩, (List.pairwise_append.1 hm.srt).1⟩, ?_, ht, hmr.1⟩
  rw [List.map_append, List.map_singleton]
  congr 1
  refine List.map_congr_left (fun a ha => ?_)
  have h1 := (hm.rng a (by simp [ha])).1
  have h2 := hle a ha
  unfold snap
  rw [undo_take L C a.toNat m.toNat (by omega) (by omega)]
/-! Both stores -/
structure Duo (T R : Nat → Prop) (w0 w : World) (base g kb : Nat) (L : List (List S62)) (C : List S67) (M : List Int) (n : Nat) (LR : List (List S62)) (N : Int) (KM : List S74) : Prop where
  s : Stat T w0 w base g L C M n
  r : RSt R w base kb LR N KM
  ap : ∀ k, T k → ¬ R k
  rhi : ∀ k, R k → k < w.heap.size
theorem keeps_of {T T' S : Nat → Prop} {w w' : World} (hk : Kept w w' S) (hS : ∀ k, S k → T k) (hT : ∀ k, T' k → T k ∨ w.heap.size ≤ k) : Keeps w w' T T' := fun d A c l hl =>
  ⟨hl.1, Kd.F_mono (Kd.F_kept hl.2 hk (fun k hk1 h2 => hk1.1 (hS k h2))) (fun k hk2 => ⟨fun h1 => (hT k h1).elim hk2.1 (fun h2 => absurd hk2.2 (Nat.not_lt.2 h2)), Nat.lt_of_lt_of_le hk2.2 hk.1⟩)⟩
section
variable {T R : Nat → Prop} {w0 w w' : World} {base g kb n : Nat} {L : List (List S62)} {C : List S67} {M : List Int} {LR : List (List S62)} {N : Int} {KM : List S74}
theorem Duo.read (h : Duo T R w0 w base g kb L C M n LR N KM) (hb : Below w.heap.size w w') : Duo T R w0 w' base g kb L C M n LR N KM :=
  ⟨h.s.read hb, h.r.below hb, h.ap, fun k hk => Nat.lt_of_lt_of_le (h.rhi k hk) hb.size⟩
theorem Duo.sWrote {L' : List (List S62)} {C' : List S67} {M' : List Int} {n' : Nat} (h : Duo T R w0 w base g kb L C M n LR N KM) (hs : St (fun k => T k ∨ w.heap.size ≤ k) w' base g L' C' M') (hb : Below base w0 w') (hk : Kept w w' T) (hg : Good L' C' n') :
    ∃ T', Duo T' R w0 w' base g kb L' C' M' n' LR N KM ∧ Keeps w w' (fun k => T k ∨ R k) (fun k => T' k ∨ R k) :=
  ⟨fun k => (T k ∨ w.heap.size ≤ k) ∧ k < w'.heap.size,
    ⟨⟨hs.bound, hb, fun k hk => hk.1.elim (h.s.lo k) (fun h1 => Nat.le_trans h.s.size h1), fun k hk => hk.2, Nat.le_trans h.s.size hk.1, hg⟩, h.r.step (fun k h1 hlt => hk.2 k hlt (fun h2 => h.ap k h2 h1)),
      fun k h1 h2 => h1.1.elim (fun h3 => h.ap k h3 h2) (fun h3 => absurd (h.rhi k h2) (Nat.not_lt.2 h3)), fun k h1 => Nat.lt_of_lt_of_le (h.rhi k h1) hk.1⟩,
    keeps_of hk (fun k h1 => .inl h1) (fun k h1 => h1.elim (fun h2 => h2.1.elim (fun h3 => .inl (.inl h3)) .inr) (fun h2 => .inl (.inr h2)))⟩
theorem Duo.rWrote {LR' : List (List S62)} {N' : Int} {KM' : List S74} (h : Duo T R w0 w base g kb L C M n LR N KM) (hr : RSt (fun k => R k ∨ w.heap.size ≤ k) w' base kb LR' N' KM') (hb : Below base w0 w') (hk : Kept w w' R) :
    ∃ R', Duo T R' w0 w' base g kb L C M n LR' N' KM' ∧ Keeps w w' (fun k => T k ∨ R k) (fun k => T k ∨ R' k) :=
  ⟨fun k => (R k ∨ w.heap.size ≤ k) ∧ k < w'.heap.size,
    ⟨⟨h.s.st.step (fun k h1 hlt => hk.2 k hlt (h.ap k h1)), hb, h.s.lo, fun k h1 => Nat.lt_of_lt_of_le (h.s.hi k h1) hk.1, Nat.le_trans h.s.size hk.1, h.s.good⟩, hr.bound,
      fun k h1 h2 => h2.1.elim (h.ap k h1) (fun h3 => absurd (h.s.hi k h1) (Nat.not_lt.2 h3)), fun k h1 => h1.2⟩,
    keeps_of hk (fun k h1 => .inr h1) (fun k h1 => h1.elim (fun h2 => .inl (.inl h2)) (fun h2 => h2.1.elim (fun h3 => .inl (.inr h3)) .inr))⟩
theorem Duo.more (h : Duo T R w0 w base g kb L C M n LR N KM) {k : Nat} (hk : n ≤ k) : Duo T R w0 w base g kb L C M k LR N KM := ⟨h.s.more hk, h.r, h.ap, h.rhi⟩
theorem d_set (i : Int) (A : Option Addr) (c : Nat) (d : List S62) (L' : List (List S62)) (C' : List S67) (r : Int) (h : Duo T R w0 w base g kb L C M n LR N KM) (hd : Held k62 (fun k => T k ∨ R k) w A c d) (hdl : d.length ≤ 1000000) (hn : n ≤ 900000) (hs : setS KK L C i d = some (L', C', r)) :
    Calls Try.prog 14 #[.pointer (some ⟨g, 0, none⟩), .int .i64 i, .slice A d.length c] w fun e w' =>
      ∃ T', e = .returned (.int .i64 r) ∧ Duo T' R w0 w' base g kb L' C' M (n + 1) LR N KM ∧ Keeps w w' (fun k => T k ∨ R k) (fun k => T' k ∨ R k) := by
  refine (set_calls (w0 := w0) KK i A c d (fun k => ¬ (T k ∨ R k) ∧ k < w.heap.size) L' C' r h.s.st h.s.below h.s.size hd.2 (fun k hk h1 => hk.1 (.inl h1)) hd.1 (by have := h.s.good.few; omega) hdl hs).mono ?_
  rintro e w' ⟨rfl, hst, hb, hk⟩
  obtain ⟨T', h1, h2⟩ := h.sWrote hst hb hk (setS_good (by rw [kk]; omega) h.s.good hdl hs).1
  exact ⟨T', rfl, h1, h2⟩
theorem d_mark (h : Duo T R w0 w base g kb L C M n LR N KM) (hM : M.length ≤ 1000000) : Calls Try.prog 23 #[.pointer (some ⟨g, 0, none⟩)] w fun e w' =>
    ∃ T', e = .returned (.tuple #[]) ∧ Duo T' R w0 w' base g kb L C (M ++ [(C.length : Int)]) n LR N KM ∧ Keeps w w' (fun k => T k ∨ R k) (fun k => T' k ∨ R k) := by
  refine (mark_calls (w0 := w0) h.s.st h.s.below h.s.size hM).mono ?_
  rintro e w' ⟨rfl, hst, hb, hk⟩
  obtain ⟨T', h1, h2⟩ := h.sWrote hst hb hk h.s.good
  exact ⟨T', rfl, h1, h2⟩
theorem d_back (m : Int) (h : Duo T R w0 w base g kb L C (M ++ [m]) n LR N KM) (hm : 0 ≤ m) (hM : M.length ≤ 1000000) (hn : n ≤ 1000000) : Calls Try.prog 25 #[.pointer (some ⟨g, 0, none⟩)] w fun e w' =>
    ∃ T', e = .returned (.int .i64 0) ∧ Duo T' R w0 w' base g kb (undo L C m.toNat) (C.take m.toNat) M n LR N KM ∧ Keeps w w' (fun k => T k ∨ R k) (fun k => T' k ∨ R k) := by
  refine (back_calls (w0 := w0) m h.s.st h.s.below h.s.size hm (fun c hc => (h.s.good.at_ c hc).1) ⟨hM, by have := h.s.good.few; omega⟩).mono ?_
  rintro e w' ⟨rfl, hst, hb, hk⟩
  obtain ⟨T', h1, h2⟩ := h.sWrote hst hb hk (good_undo h.s.good _)
  exact ⟨T', rfl, h1, h2⟩
theorem d_rset (i : Int) (A : Option Addr) (c : Nat) (d : List S62) (L' : List (List S62)) (N' r : Int) (h : Duo T R w0 w base g kb L C M n LR N KM) (hd : Held k62 (fun k => T k ∨ R k) w A c d) (hdl : d.length ≤ 10000) (hL : LR.length ≤ 8 ∧ ∀ x ∈ LR, Dom x) (hN : 0 ≤ N ∧ N ≤ 1000000) (hr : setR LR N i d = (L', N', r)) :
    Calls Try.prog 28 #[.pointer (some ⟨kb, 0, none⟩), .int .i64 i, .slice A d.length c] w fun e w' =>
      ∃ R', e = .returned (.int .i64 r) ∧ Duo T R' w0 w' base g kb L C M n L' N' KM ∧ Keeps w w' (fun k => T k ∨ R k) (fun k => T k ∨ R' k) := by
  refine (rset_calls (w0 := w0) i A c d L' N' r h.r h.s.below h.s.size hd.now hd.1 hdl hL hN hr).mono ?_
  rintro e w' ⟨rfl, hst, hb, hk⟩
  obtain ⟨R', h1, h2⟩ := h.rWrote hst hb hk
  exact ⟨R', rfl, h1, h2⟩
theorem d_rmark (h : Duo T R w0 w base g kb L C M n LR N KM) (hL : LR.length ≤ 8 ∧ ∀ x ∈ LR, x.length ≤ 10000) (hKL : KM.length ≤ 100000) : Calls Try.prog 29 #[.pointer (some ⟨kb, 0, none⟩)] w fun e w' =>
      ∃ R', e = .returned (.tuple #[]) ∧ Duo T R' w0 w' base g kb L C M n LR N (KM ++ [(⟨LR, N⟩ : S74)]) ∧ Keeps w w' (fun k => T k ∨ R k) (fun k => T k ∨ R' k) := by
  refine (rmark_calls (w0 := w0) h.r h.s.below h.s.size hL hKL).mono ?_
  rintro e w' ⟨rfl, hst, hb, hk⟩
  obtain ⟨R', h1, h2⟩ := h.rWrote hst hb hk
  exact ⟨R', rfl, h1, h2⟩
theorem d_rback (p : S74) (h : Duo T R w0 w base g kb L C M n LR N (KM ++ [p])) (hL : p.f0.length ≤ 8 ∧ ∀ x ∈ p.f0, x.length ≤ 10000) (hKL : KM.length ≤ 100000) : Calls Try.prog 30 #[.pointer (some ⟨kb, 0, none⟩)] w fun e w' =>
      ∃ R', e = .returned (.int .i64 0) ∧ Duo T R' w0 w' base g kb L C M n p.f0 p.f1 KM ∧ Keeps w w' (fun k => T k ∨ R k) (fun k => T k ∨ R' k) := by
  refine (rback_calls (w0 := w0) p h.r h.s.below h.s.size hL hKL).mono ?_
  rintro e w' ⟨rfl, hst, hb, hk⟩
  obtain ⟨R', h1, h2⟩ := h.rWrote hst hb hk
  exact ⟨R', rfl, h1, h2⟩
theorem d_same (h : Duo T R w0 w base g kb L C M n L (C.length : Int) KM) (hK : KM.length = M.length) : Calls Try.prog 21 #[.pointer (some ⟨g, 0, none⟩), .pointer (some ⟨kb, 0, none⟩)] w fun e w' => e = .returned (.bool true) ∧ Below w.heap.size w w' := by
  obtain ⟨Al, cl, Am, cm, _, _, hblk, hle, hF, _⟩ := h.r
  rw [hK] at hblk
  exact same_calls h.s hblk (Kd.F_now hF) hle
theorem d_part (f0 f1 : Int) (A2 : Option Addr) (c2 : Nat) (l2 : List Int) (A3 : Option Addr) (c3 : Nat) (l3 : List S62) (h : Duo T R w0 w base g kb L C M n LR N KM) (hL : LR.length ≤ 8 ∧ ∀ x ∈ LR, Dom x) (h2 : Held (Kd.int .i64) (fun k => T k ∨ R k) w A2 c2 l2) (h3 : Held k62 (fun k => T k ∨ R k) w A3 c3 l3) :
    Calls Try.prog 27 #[.pointer (some ⟨kb, 0, none⟩), .agg #[.int .i64 f0, .int .i64 f1, .slice A2 l2.length c2, .slice A3 l3.length c3]] w fun e w' =>
      ∃ A' c' d, e = .returned (.slice A' (List.length d) c') ∧ Held k62 (fun k => T k ∨ R k) w' A' c' d ∧ d.length ≤ 10000 ∧ Below w.heap.size w w' := by
  refine (part_calls (fun k => ¬ (T k ∨ R k) ∧ k < w.heap.size) f0 f1 A2 c2 l2 A3 c3 l3 h.r hL h2.now h2.1 h3.2 h3.1).mono ?_
  rintro e w' ⟨hb, A', c', d, rfl, hl, hF, hd⟩
  refine ⟨A', c', d, rfl, ⟨hl, Kd.F_mono (Kd.F_bound hF) (fun k hk => ⟨fun h1 => hk.1.elim (fun h2 => h2.1 h1) (fun h2 => ?_), hk.2⟩)⟩, hd, hb⟩
  exact absurd h2 (Nat.not_le.2 (h1.elim (h.s.hi k) (h.rhi k)))
theorem StU.below {T U : Nat → Prop} (h : StU T U w base g L C M) (hb : Below w.heap.size w w') : StU T U w' base g L C M := by
  obtain ⟨lv, cv, mv, h1, h2⟩ := h
  exact ⟨lv, cv, mv, h1.below hb, h2⟩
/-- A copy: the store goes on as the copy; the old one writes U alone. -/
theorem d_copy (h : Duo T R w0 w base g kb L C M n LR N KM) (hn : n ≤ 1000000) (hM : M.length ≤ 1000000) : Calls Try.prog 31 #[.pointer (some ⟨g, 0, none⟩)] w fun e w' =>
    ∃ g' T' To U, e = .returned (.pointer (some ⟨g', 0, none⟩)) ∧ Duo T' R w0 w' base g' kb L C M n LR N KM ∧ StU To U w' base g L C M ∧ (∀ k, U k → ¬ T' k ∧ ¬ R k ∧ base ≤ k) ∧ Keeps w w' (fun k => T k ∨ R k) (fun k => (T' k ∨ U k) ∨ R k) := by
  refine (copyU_calls h.s.st h.s.size (fun x hx => by have := h.s.good.small x hx; omega) ⟨by have := h.s.good.len; omega, by have := h.s.good.few; omega, hM⟩).mono ?_
  rintro e w' ⟨hb, g', U, rfl, hU, hold, hnew⟩
  have hd := h.read hb
  refine ⟨g', fun k => ((T k ∧ ¬ U k) ∨ w.heap.size ≤ k) ∧ k < w'.heap.size, T, U, rfl, ⟨⟨hnew.bound, hd.s.below, fun k hk => hk.1.elim (fun h1 => h.s.lo k h1.1) (fun h1 => Nat.le_trans h.s.size h1), fun k hk => hk.2, hd.s.size, h.s.good⟩, hd.r,
    fun k h1 h2 => h1.1.elim (fun h3 => h.ap k h3.1 h2) (fun h3 => absurd (h.rhi k h2) (Nat.not_lt.2 h3)), hd.rhi⟩, hold, fun k hk => ⟨fun h1 => h1.1.elim (fun h2 => h2.2 hk) (fun h2 => absurd (hU k hk).2 (Nat.not_lt.2 h2)), h.ap k (hU k hk).1, h.s.lo k (hU k hk).1⟩, ?_⟩
  exact keeps_of (Kept.of_below hb (fun _ => False)) (fun _ h1 => h1.elim) (fun k h1 => h1.elim (fun h2 => h2.elim (fun h3 => h3.1.elim (fun h4 => .inl (.inl h4.1)) .inr) (fun h3 => .inl (.inl (hU k h3).1))) (fun h2 => .inl (.inr h2)))
/-- What the old store writes is apart from both. -/
theorem Duo.other {U : Nat → Prop} (h : Duo T R w0 w base g kb L C M n LR N KM) (hu : ∀ k, U k → ¬ T k ∧ ¬ R k ∧ base ≤ k) (hk : Kept w w' U) (hb : Below base w0 w') :
    Duo T R w0 w' base g kb L C M n LR N KM ∧ Keeps w w' (fun k => (T k ∨ U k) ∨ R k) (fun k => (T k ∨ U k) ∨ R k) :=
  ⟨⟨⟨h.s.st.step (fun k h1 hlt => hk.2 k hlt (fun h2 => (hu k h2).1 h1)), hb, h.s.lo, fun k h1 => Nat.lt_of_lt_of_le (h.s.hi k h1) hk.1, Nat.le_trans h.s.size hk.1, h.s.good⟩, h.r.step (fun k h1 hlt => hk.2 k hlt (fun h2 => (hu k h2).2.1 h1)), h.ap, fun k h1 => Nat.lt_of_lt_of_le (h.rhi k h1) hk.1⟩,
    keeps_of hk (fun k h1 => .inl (.inr h1)) (fun k h1 => .inl h1)⟩
theorem d_oldback {To U : Nat → Prop} {go no : Nat} {Lo : List (List S62)} {Co : List S67} {Mo : List Int} (h : Duo T R w0 w base g kb L C M n LR N KM) (ho : StU To U w base go Lo Co Mo) (hu : ∀ k, U k → ¬ T k ∧ ¬ R k ∧ base ≤ k) (hg : Good Lo Co no) (hm : Mrk Co Mo no) (hn : no ≤ 100000) :
    Calls Try.prog 25 #[.pointer (some ⟨go, 0, none⟩)] w fun e w' => ∃ r L1 C1 M1 T1, e = .returned (.int .i64 r) ∧ Duo T R w0 w' base g kb L C M n LR N KM ∧ StU T1 U w' base go L1 C1 M1 ∧ Good L1 C1 no ∧ Keeps w w' (fun k => (T k ∨ U k) ∨ R k) (fun k => (T k ∨ U k) ∨ R k) := by
  have hml := hm.len
  by_cases hM : 0 < Mo.length
  · obtain ⟨M', m, rfl⟩ := last_of hM
    rw [List.length_append, List.length_singleton] at hml
    refine (back_callsU (w0 := w0) m ho h.s.below h.s.size (hm.rng m (by simp)).1 (fun c hc => (hg.at_ c hc).1) ⟨by omega, by have := hg.few; omega⟩).mono ?_
    rintro e w' ⟨rfl, hst, hb, hk⟩
    obtain ⟨h1, h2⟩ := h.other hu hk hb
    exact ⟨0, _, _, _, _, rfl, h1, hst, good_undo hg _, h2⟩
  · obtain rfl : Mo = [] := List.eq_nil_of_length_eq_zero (by omega)
    obtain ⟨lv, cv, mv, hv, hU⟩ := ho
    refine (back_none ⟨lv, cv, mv, hv⟩).mono ?_
    rintro e w' ⟨rfl, hb⟩
    exact ⟨_, _, _, _, _, rfl, h.read hb, ⟨lv, cv, mv, hv.below hb, hU⟩, hg, keeps_of (Kept.of_below hb (fun _ => False)) (fun _ h1 => h1.elim) (fun k h1 => .inl h1)⟩
theorem d_oldset {To U : Nat → Prop} {go no : Nat} {Lo : List (List S62)} {Co : List S67} {Mo : List Int} (h : Duo T R w0 w base g kb L C M n LR N KM) (ho : StU To U w base go Lo Co Mo) (hu : ∀ k, U k → ¬ T k ∧ ¬ R k ∧ base ≤ k) (hg : Good Lo Co no) (hn : no ≤ 100000) :
    Calls Try.prog 14 #[.pointer (some ⟨go, 0, none⟩), .int .i64 0, .slice none 0 0] w fun e w' => ∃ r, e = .returned (.int .i64 r) ∧ Duo T R w0 w' base g kb L C M n LR N KM ∧ Keeps w w' (fun k => (T k ∨ U k) ∨ R k) (fun k => T k ∨ R k) := by
  obtain ⟨L', C', r, hs, _⟩ := setS_f KK Lo Co 0 [] (by rw [kk]; omega) hg.dom (by simp)
  refine (set_callsU (w0 := w0) KK 0 none 0 [] (fun _ => False) L' C' r ho h.s.below h.s.size (Kd.F_nil _ _ _) (fun _ h1 => h1.elim) (Nat.le_refl _) (by have := hg.few; omega) (by simp) hs).mono ?_
  rintro e w' ⟨rfl, _, hb, hk⟩
  refine ⟨r, rfl, (h.other hu hk hb).1, keeps_of hk (fun k h1 => .inl (.inr h1)) (fun k h1 => .inl (h1.elim (fun h2 => .inl (.inl h2)) .inr))⟩
end
/-- Domains of some lists, told by the list that they are. -/
theorem s_domsX (A : Option Addr) (c : Nat) (l : List (List Int)) (D : List (List S62)) (w : World) (hr : Kd.C kI w A l.length l) (hc : l.length ≤ c) (hD : secateurlaw03_doms.f KK l = some D) : Calls Try.prog 11 #[.slice A l.length c] w fun e w' =>
    ∃ A' c', e = .returned (.slice A' (List.length D) c') ∧ Fr kL w w' A' c' D ∧ Below w.heap.size w w' := by
  refine (secateurlaw03_doms.calls KK A c l D w hr hc hD).mono ?_
  rintro e w' ⟨v, rfl, hR, hb⟩
  obtain ⟨A', c', rfl, hf⟩ := fr_of_R (Kd.S_R hR)
  exact ⟨A', c', rfl, hf, hb⟩
end Go.Proofs.Ytcjachhdoogbaaa.PT

/- The calls of a law on a store, in one form: the store's state, and what is held beside it. No conditions but the lengths' bounds. -/
import Derived.Test.YtcjachhdoogbaaaTLaw
set_option linter.unusedVariables false
set_option linter.unusedSimpArgs false
namespace Go.Proofs.Ytcjachhdoogbaaa.PT
open Go.RowKit Go.Proofs.YtcjachhdoogbaaaW.PrintWords Go.Proofs.YtcjachhdoogbaaaW.PrintLast Go.Proofs.YtcjachhdoogbaaaW.PrintMore
/-- A row that was made behind w. -/
def Fr {α : Type} (d : Kd α) (w w' : World) (A : Option Addr) (c : Nat) (l : List α) : Prop := l.length ≤ c ∧ Kd.F d w' (fun k => w.heap.size ≤ k) A l.length l
theorem fr_of_R {α : Type} {d : Kd α} {e : Nat} {w w' : World} {ok : Nat → Prop} {v : Value} {l : List α} (h : d.R e w' w.heap.size ok v l) : ∃ A c, v = .slice A l.length c ∧ Fr d w w' A c l := by
  obtain ⟨A, c, rfl, hl, _⟩ := Kd.R_reads h
  exact ⟨A, c, rfl, hl, Kd.F_mono (Kd.R_F (Kd.R_bound h)) (fun k hk => hk.2.1)⟩
theorem fr_of_N {α : Type} {d : Kd α} {e base : Nat} {w w' : World} {v : Value} {l : List α} (h : d.N e w' base (fun k => w.heap.size ≤ k) v l) : ∃ A c, v = .slice A l.length c ∧ Fr d w w' A c l := by
  obtain ⟨A, c, rfl, hl, _⟩ := Kd.N_reads h
  exact ⟨A, c, rfl, hl, Kd.N_F h⟩
/-- A row apart from the territory T. -/
def Held {α : Type} (d : Kd α) (T : Nat → Prop) (w : World) (A : Option Addr) (c : Nat) (l : List α) : Prop := l.length ≤ c ∧ Kd.F d w (fun k => ¬ T k ∧ k < w.heap.size) A l.length l
theorem Held.now {α : Type} {d : Kd α} {T : Nat → Prop} {w : World} {A : Option Addr} {c : Nat} {l : List α} (h : Held d T w A c l) : d.C w A l.length l := Kd.F_now h.2
theorem Held.below {α : Type} {d : Kd α} {T : Nat → Prop} {w w' : World} {A : Option Addr} {c : Nat} {l : List α} (h : Held d T w A c l) (hb : Below w.heap.size w w') : Held d T w' A c l :=
  ⟨h.1, Kd.F_mono (Kd.F_below h.2 hb) (fun k hk => ⟨hk.1, Nat.lt_of_lt_of_le hk.2 hb.size⟩)⟩
theorem Held.of_C {α : Type} {d : Kd α} {T : Nat → Prop} {w : World} {base : Nat} {A : Option Addr} {c : Nat} {l : List α} (hd : Kd.Heap d) (h : d.C w A l.length l) (hc : l.length ≤ c) (hT : ∀ k, T k → base ≤ k) (hw : w.heap.size ≤ base) : Held d T w A c l :=
  ⟨hc, Kd.F_mono (Kd.C_F hd h) (fun k hk => ⟨fun h => absurd (hT k h) (Nat.not_le.2 (Nat.lt_of_lt_of_le hk hw)), hk⟩)⟩
theorem Fr.held {α : Type} {d : Kd α} {T : Nat → Prop} {w w' : World} {A : Option Addr} {c : Nat} {l : List α} (h : Fr d w w' A c l) (hT : ∀ k, T k → k < w.heap.size) : Held d T w' A c l :=
  ⟨h.1, Kd.F_mono (Kd.F_bound h.2) (fun k hk => ⟨fun h => absurd (hT k h) (Nat.not_lt.2 hk.1), hk.2⟩)⟩
/-- The store: its state, its territory from base on. -/
structure Stat (T : Nat → Prop) (w0 w : World) (base g : Nat) (L : List (List S62)) (C : List S67) (M : List Int) (n : Nat) : Prop where
  st : St T w base g L C M
  below : Below base w0 w
  lo : ∀ k, T k → base ≤ k
  hi : ∀ k, T k → k < w.heap.size
  size : base ≤ w.heap.size
  good : Good L C n
/-- What is held beside the store stays. -/
def Keeps (w w' : World) (T T' : Nat → Prop) : Prop := ∀ {α : Type} (d : Kd α) (A : Option Addr) (c : Nat) (l : List α), Held d T w A c l → Held d T' w' A c l
section
variable {T : Nat → Prop} {w w0 w' : World} {base g n : Nat} {L : List (List S62)} {C : List S67} {M : List Int}
theorem Stat.read (h : Stat T w0 w base g L C M n) (hb : Below w.heap.size w w') : Stat T w0 w' base g L C M n :=
  ⟨h.st.below hb, h.below.trans (hb.mono h.size), h.lo, fun k hk => Nat.lt_of_lt_of_le (h.hi k hk) hb.size, Nat.le_trans h.size hb.size, h.good⟩
theorem Stat.wrote {L' : List (List S62)} {C' : List S67} {M' : List Int} {n' : Nat} (h : Stat T w0 w base g L C M n) (hs : St (fun k => T k ∨ w.heap.size ≤ k) w' base g L' C' M') (hb : Below base w0 w') (hk : Kept w w' T) (hg : Good L' C' n') :
    ∃ T', Stat T' w0 w' base g L' C' M' n' ∧ Keeps w w' T T' :=
  ⟨fun k => (T k ∨ w.heap.size ≤ k) ∧ k < w'.heap.size, ⟨hs.bound, hb, fun k hk => hk.1.elim (h.lo k) (fun h1 => Nat.le_trans h.size h1), fun k hk => hk.2, Nat.le_trans h.size hk.1, hg⟩,
    fun d A c l hl => ⟨hl.1, Kd.F_mono (Kd.F_kept hl.2 hk (fun k hk => hk.1)) (fun k hk2 => ⟨fun h1 => h1.1.elim hk2.1 (fun h2 => absurd hk2.2 (Nat.not_lt.2 h2)), Nat.lt_of_lt_of_le hk2.2 hk.1⟩)⟩⟩
theorem s_len (h : Stat T w0 w base g L C M n) : Calls Try.prog 18 #[.pointer (some ⟨g, 0, none⟩)] w fun e w' => e = .returned (.int .i64 L.length) ∧ Below w.heap.size w w' := len_calls h.st
theorem s_changes (h : Stat T w0 w base g L C M n) : Calls Try.prog 13 #[.pointer (some ⟨g, 0, none⟩)] w fun e w' => e = .returned (.int .i64 C.length) ∧ Below w.heap.size w w' := changes_calls h.st
theorem s_level (h : Stat T w0 w base g L C M n) : Calls Try.prog 24 #[.pointer (some ⟨g, 0, none⟩)] w fun e w' => e = .returned (.int .i64 M.length) ∧ Below w.heap.size w w' := level_calls h.st
theorem s_get (i : Int) (h : Stat T w0 w base g L C M n) : Calls Try.prog 12 #[.pointer (some ⟨g, 0, none⟩), .int .i64 i] w fun e w' =>
    ∃ A c, e = .returned (.slice A (getL L i).length c) ∧ Fr k62 w w' A c (getL L i) ∧ Below w.heap.size w w' :=
  (get_calls i (getL L i) rfl h.st (fun h0 h1 => by have := h.good.small _ (rdL3_mem L i h0 h1); omega)).mono (fun e w' hh => by
    obtain ⟨v, rfl, hN, hb⟩ := hh
    obtain ⟨A, c, rfl, hf⟩ := fr_of_N hN
    exact ⟨A, c, rfl, hf, hb⟩)
theorem s_all (h : Stat T w0 w base g L C M n) : Calls Try.prog 22 #[.pointer (some ⟨g, 0, none⟩)] w fun e w' =>
    ∃ A c, e = .returned (.slice A L.length c) ∧ Fr kL w w' A c L ∧ Below w.heap.size w w' :=
  (all_calls h.st (fun x hx => by have := h.good.small x hx; omega) (by have := h.good.len; omega)).mono (fun e w' hh => by
    obtain ⟨v, rfl, hN, hb⟩ := hh
    obtain ⟨A, c, rfl, hf⟩ := fr_of_N hN
    exact ⟨A, c, rfl, hf, hb⟩)
/-- Fuel enough for all. -/
def KK : Nat := 40000000
theorem kk : KK = 40000000 := rfl
theorem s_set (i : Int) (A : Option Addr) (c : Nat) (d : List S62) (h : Stat T w0 w base g L C M n) (hd : Held k62 T w A c d) (hdl : d.length ≤ 1000000) (hn : n ≤ 900000) :
    Calls Try.prog 14 #[.pointer (some ⟨g, 0, none⟩), .int .i64 i, .slice A d.length c] w fun e w' =>
      ∃ L' C' r T', e = .returned (.int .i64 r) ∧ setS KK L C i d = some (L', C', r) ∧ Stat T' w0 w' base g L' C' M (n + 1) ∧ Keeps w w' T T' := by
  obtain ⟨L', C', r, hs, _⟩ := setS_f KK L C i d (by rw [kk]; omega) h.good.dom hdl
  refine (set_calls (w0 := w0) KK i A c d (fun k => ¬ T k ∧ k < w.heap.size) L' C' r h.st h.below h.size hd.2 (fun k hk => hk.1) hd.1 (by have := h.good.few; omega) hdl hs).mono ?_
  rintro e w' ⟨rfl, hst, hb, hk⟩
  obtain ⟨T', h1, h2⟩ := h.wrote hst hb hk (setS_good (by rw [kk]; omega) h.good hdl hs).1
  exact ⟨L', C', r, T', rfl, hs, h1, h2⟩
theorem s_mark (h : Stat T w0 w base g L C M n) (hM : M.length ≤ 1000000) : Calls Try.prog 23 #[.pointer (some ⟨g, 0, none⟩)] w fun e w' =>
    ∃ T', e = .returned (.tuple #[]) ∧ Stat T' w0 w' base g L C (M ++ [(C.length : Int)]) n ∧ Keeps w w' T T' := by
  refine (mark_calls (w0 := w0) h.st h.below h.size hM).mono ?_
  rintro e w' ⟨rfl, hst, hb, hk⟩
  obtain ⟨T', h1, h2⟩ := h.wrote hst hb hk h.good
  exact ⟨T', rfl, h1, h2⟩
theorem undo_mem (L : List (List S62)) (C : List S67) (x : List S62) (h : x ∈ C.foldr putc L) : x ∈ L ∨ ∃ c ∈ C, x = c.f1 := by
  induction C with
  | nil => exact .inl h
  | cons c C ih =>
    rw [List.foldr_cons, putc] at h
    rcases mem_set_of h with h | h
    · exact .inr ⟨c, by simp, h⟩
    · rcases ih h with h | ⟨d, hd, h⟩
      · exact .inl h
      · exact .inr ⟨d, by simp [hd], h⟩
theorem good_undo (h : Good L C n) (j : Nat) : Good (undo L C j) (C.take j) n := by
  have hl : (undo L C j).length = L.length := undo_len _ _
  refine ⟨by rw [hl]; exact h.len, fun x hx => ?_, fun c hc => ?_, Nat.le_trans (by rw [List.length_take]; omega) h.few⟩
  · rcases undo_mem _ _ _ hx with hx | ⟨c, hc, rfl⟩
    · exact h.dom x hx
    · exact (h.at_ c (List.mem_of_mem_drop hc)).2
  · rw [hl]; exact h.at_ c (List.mem_of_mem_take hc)
theorem s_back (m : Int) (h : Stat T w0 w base g L C (M ++ [m]) n) (hm : 0 ≤ m) (hM : M.length ≤ 1000000) (hn : n ≤ 1000000) : Calls Try.prog 25 #[.pointer (some ⟨g, 0, none⟩)] w fun e w' =>
    ∃ T', e = .returned (.int .i64 0) ∧ Stat T' w0 w' base g (undo L C m.toNat) (C.take m.toNat) M n ∧ Keeps w w' T T' := by
  refine (back_calls (w0 := w0) m h.st h.below h.size hm (fun c hc => (h.good.at_ c hc).1) ⟨hM, by have := h.good.few; omega⟩).mono ?_
  rintro e w' ⟨rfl, hst, hb, hk⟩
  obtain ⟨T', h1, h2⟩ := h.wrote hst hb hk (good_undo h.good _)
  exact ⟨T', rfl, h1, h2⟩
end
theorem s_small (A : Option Addr) (c : Nat) (l : List Int) (w : World) (hr : Kd.C (Kd.int .i64) w A l.length l) (hc : l.length ≤ c) : Calls Try.prog 15 #[.slice A l.length c] w fun e w' =>
    ∃ A' c' d, e = .returned (.slice A' (List.length d) c') ∧ Fr k62 w w' A' c' d ∧ Dom d ∧ d.length ≤ 30 ∧ Below w.heap.size w w' := by
  obtain ⟨d, h1, h2, h3⟩ := small_f KK l (by rw [kk]; omega)
  refine (secateurlaw02_Small.calls KK A c l d w hr hc h1).mono ?_
  rintro e w' ⟨v, rfl, hR, hb⟩
  obtain ⟨A', c', rfl, hf⟩ := fr_of_R hR
  exact ⟨A', c', d, rfl, hf, h2, h3, hb⟩
theorem s_pick (A0 : Option Addr) (c0 : Nat) (a : List S62) (A1 : Option Addr) (c1 : Nat) (b : List S62) (inn : Bool) (w : World) (ha : Kd.C k62 w A0 a.length a) (hc0 : a.length ≤ c0) (hb : Kd.C k62 w A1 b.length b) (hc1 : b.length ≤ c1) (da : Dom a) (db : Dom b) :
    Calls Try.prog 17 #[.slice A0 a.length c0, .slice A1 b.length c1, .bool inn] w fun e w' =>
      ∃ A' c' d, e = .returned (.slice A' (List.length d) c') ∧ Fr k62 w w' A' c' d ∧ d.length ≤ 10000 ∧ (d.length = 0 ↔ (vals a).filter (fun v => decide (v ∈ vals b) == inn) = []) ∧ Below w.heap.size w w' := by
  obtain ⟨d, h1, h2, h3⟩ := pick_f KK a b inn da db (by rw [kk]; omega)
  refine (secateurref02_Pick.calls KK A0 c0 a A1 c1 b inn d w ha hc0 hb hc1 h1).mono ?_
  rintro e w' ⟨v, rfl, hR, hb⟩
  obtain ⟨A', c', rfl, hf⟩ := fr_of_R hR
  exact ⟨A', c', d, rfl, hf, h2, h3, hb⟩
theorem s_same (A0 : Option Addr) (c0 : Nat) (a : List S62) (A1 : Option Addr) (c1 : Nat) (b : List S62) (w : World) (ha : Kd.C k62 w A0 a.length a) (hc0 : a.length ≤ c0) (hb : Kd.C k62 w A1 b.length b) (hc1 : b.length ≤ c1) (hl : a.length ≤ 1000000) :
    Calls Try.prog 16 #[.slice A0 a.length c0, .slice A1 b.length c1] w fun e w' => e = .returned (.bool (decide (a = b))) ∧ Below w.heap.size w w' :=
  (secateurref02_Same.calls KK A0 c0 a A1 c1 b _ w ha hc0 hb hc1 (rsame_f KK a b hl (by rw [kk]; omega))).mono (fun e w' hh => ⟨hh.1, hh.2.below⟩)
theorem s_lsame (A0 : Option Addr) (c0 : Nat) (a : List (List S62)) (A1 : Option Addr) (c1 : Nat) (b : List (List S62)) (w : World) (ha : Kd.C kL w A0 a.length a) (hc0 : a.length ≤ c0) (hb : Kd.C kL w A1 b.length b) (hc1 : b.length ≤ c1) (hl : a.length ≤ 1000) (hx : ∀ x ∈ a, x.length ≤ 4096) :
    Calls Try.prog 26 #[.slice A0 a.length c0, .slice A1 b.length c1] w fun e w' => e = .returned (.bool (decide (a = b))) ∧ Below w.heap.size w w' :=
  (secateurref03_Same.calls KK A0 c0 a A1 c1 b _ w ha hc0 hb hc1 (lsame_f KK a b (by omega) 4096 (by omega) hx (by rw [kk]; omega))).mono (fun e w' hh => ⟨hh.1, hh.2.below⟩)
theorem s_doms (A : Option Addr) (c : Nat) (l : List (List Int)) (w : World) (hr : Kd.C kI w A l.length l) (hc : l.length ≤ c) : Calls Try.prog 11 #[.slice A l.length c] w fun e w' =>
    ∃ A' c' D, e = .returned (.slice A' (List.length D) c') ∧ Fr kL w w' A' c' D ∧ Good D [] 0 ∧ (∀ x ∈ D, x.length ≤ 30) ∧ Below w.heap.size w w' := by
  obtain ⟨d, h1, h2, h3⟩ := doms_f KK l (by rw [kk]; omega)
  refine (secateurlaw03_doms.calls KK A c l d w hr hc h1).mono ?_
  rintro e w' ⟨v, rfl, hR, hb⟩
  obtain ⟨A', c', rfl, hf⟩ := fr_of_R (Kd.S_R hR)
  exact ⟨A', c', d, rfl, hf, ⟨by omega, fun x hx => (h3 x hx).1, fun c hc => (by cases hc), by simp⟩, fun x hx => (h3 x hx).2, hb⟩
theorem newS_zero (k : Nat) (D : List (List S62)) (hk : 5000 ≤ k) (h : ∀ x ∈ D, Dom x) : newS k D = some 0 := by
  induction D with
  | nil => rfl
  | cons d D ih =>
    have hd := h d (by simp)
    have := dom_len d hd
    rw [newS, check_f k d (by omega) (by omega), Option.bind_some, (chk_zero d).2 hd, if_pos rfl]
    exact ih (fun x hx => h x (by simp [hx]))
theorem s_new (A : Option Addr) (c : Nat) (D : List (List S62)) (w : World) (hr : Kd.C kL w A D.length D) (hc : D.length ≤ c) (hg : Good D [] 0) : Calls Try.prog 10 #[.slice A D.length c] w fun e w' =>
    ∃ g T, e = .returned (.tuple #[.pointer (some ⟨g, 0, none⟩), .int .i64 0]) ∧ Stat T w w' w.heap.size g D [] [] 0 := by
  refine (new_calls KK A c D 0 w hr hc ⟨by have := hg.len; omega, fun x hx => by have := hg.small x hx; omega⟩ (newS_zero KK D (by rw [kk]; omega) hg.dom)).mono ?_
  rintro e w' ⟨hb, ⟨_, g, rfl, hs⟩ | ⟨h0, _⟩⟩
  · exact ⟨g, fun k => w.heap.size ≤ k ∧ k < w'.heap.size, rfl, ⟨hs.bound, hb, fun k hk => hk.1, fun k hk => hk.2, hb.size, hg⟩⟩
  · exact absurd rfl h0
theorem heap62 : Kd.Heap k62 := Kd.heap_iso _ (Kd.heap_pair (Kd.heap_int _) (Kd.heap_int _))
theorem heap33 : Kd.Heap k33 := Kd.heap_iso _ (Kd.heap_pair (Kd.heap_int _) (Kd.heap_pair (Kd.heap_int _) (Kd.heap_pair (Kd.heap_slice _ (Kd.heap_int _)) (Kd.heap_slice _ heap62))))
end Go.Proofs.Ytcjachhdoogbaaa.PT

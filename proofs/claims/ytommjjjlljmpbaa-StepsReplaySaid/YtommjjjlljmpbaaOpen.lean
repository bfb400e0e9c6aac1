/- What is handed to a law of package steps, opened to the cells that its walk reads: one step, a slice of steps, a slice of whole numbers. No conditions but what the judge hands over. -/
import Derived.Test.YtommjjjlljmpbaaPStepsx0
import Derived.Deep.Slices
import Derived.ChangeSame
set_option linter.unusedVariables false
namespace Go.Proofs.Ytommjjjlljmpbaa.PSteps
open Go.RowKit Go.ChangeShapes Go.WideShapes Go.Deep Go.Proofs.YtommjjjlljmpbaaW.PrintWords
theorem cells23 {H : Type} {enc : TypeId × Value → H} {w : World} {base : Nat} {spare : Nat → Bool} {held : Bool} {fuel : Nat} {cs : List Value} {x : DataW H × List MemPlace}
    (h : DataW.trod enc Try.prog w base spare held fuel 23 cs = some x) : ∃ s : S23, cs = [.int .i64 s.f0, .int .i64 s.f1, .int .i64 s.f2, .int .i64 s.f3, .int .i64 s.f4] := by
  obtain ⟨xs, n, _, _, hl, hlen, hf⟩ := DataW.trod_struct Try.underlying23 h
  have hl : cs.length = 5 := hl
  match cs, hl with
  | [c0, c1, c2, c3, c4], _ =>
    match xs, hlen with
    | [y0, y1, y2, y3, y4], _ =>
      obtain ⟨n0, e0, _⟩ := DataW.trod_int (k := .i64) Try.underlying3 (hf 0 _ rfl)
      obtain ⟨n1, e1, _⟩ := DataW.trod_int (k := .i64) Try.underlying3 (hf 1 _ rfl)
      obtain ⟨n2, e2, _⟩ := DataW.trod_int (k := .i64) Try.underlying3 (hf 2 _ rfl)
      obtain ⟨n3, e3, _⟩ := DataW.trod_int (k := .i64) Try.underlying3 (hf 3 _ rfl)
      obtain ⟨n4, e4, _⟩ := DataW.trod_int (k := .i64) Try.underlying3 (hf 4 _ rfl)
      have e0 : [c0] = [Value.int .i64 n0] := e0
      have e1 : [c1] = [Value.int .i64 n1] := e1
      have e2 : [c2] = [Value.int .i64 n2] := e2
      have e3 : [c3] = [Value.int .i64 n3] := e3
      have e4 : [c4] = [Value.int .i64 n4] := e4
      cases e0; cases e1; cases e2; cases e3; cases e4
      exact ⟨⟨n0, n1, n2, n3, n4⟩, rfl⟩
theorem open_step {H : Type} {enc : TypeId × Value → H} {w : World} {base : Nat} {spare : Nat → Bool} {held : Bool} {r : Reach} {b0 : Nat} {v : Value} {d : DataW H} {p : List MemPlace}
    (hv : Value.okWide Try.prog w r b0 23 v) (h : DataW.Trod enc Try.prog w base spare held 23 v d p) : ∃ s : S23, v = .agg #[.int .i64 s.f0, .int .i64 s.f1, .int .i64 s.f2, .int .i64 s.f3, .int .i64 s.f4] := by
  obtain ⟨cs, rfl, hsz⟩ := okWide_struct Try.underlying23 hv
  obtain ⟨fuel, hf⟩ := h
  obtain ⟨s, hs⟩ := cells23 hf
  have hs : cs.toList = _ := hs
  exact ⟨s, by rw [← hs]⟩
theorem open_steps {H : Type} {enc : TypeId × Value → H} {w : World} {base : Nat} {spare : Nat → Bool} {held : Bool} {r : Reach} {b0 : Nat} {v : Value} {d : DataW H} {p : List MemPlace}
    (hv : Value.okWide Try.prog w r b0 35 v) (h : DataW.Trod enc Try.prog w base spare held 35 v d p) : ∃ A c l, v = .slice A l.length c ∧ Kd.C k23 w A l.length l ∧ l.length ≤ c := by
  obtain ⟨a, len, cap, rfl⟩ := okWide_slice Try.underlying35 hv
  obtain ⟨fuel, hf⟩ := h
  rcases open_slice Try.underlying35 hf with ⟨hcs, _⟩ | ⟨ad, ln, cp, m, n, D, Pl, hcs, _, hl, hm, hmm, _, hi⟩
  · simp [Value.cells] at hcs
    obtain ⟨rfl, rfl, rfl⟩ := hcs
    exact ⟨none, 0, [], rfl, ⟨rfl, by simp, fun h => absurd h (by simp)⟩, Nat.le_refl _⟩
  · simp [Value.cells] at hcs
    obtain ⟨rfl, rfl, rfl⟩ := hcs
    have hlm : len ≤ m := by rw [hmm]; split <;> omega
    have hex : ∀ i, ∃ s : S23, i < len → ∀ j u, ([.int .i64 s.f0, .int .i64 s.f1, .int .i64 s.f2, .int .i64 s.f3, .int .i64 s.f4] : List Value)[j]? = some u → w.cell? (ad.add (i * 5 + j)) = some u := fun i => by
      by_cases hil : i < len
      · obtain ⟨cs', hc, ht⟩ := hi i (by omega)
        obtain ⟨s, rfl⟩ := cells23 ht
        refine ⟨s, fun _ j u hj => ?_⟩
        obtain ⟨_, _, hat⟩ := World.cells?_some hc
        have hj5 : j < 5 := (List.getElem?_eq_some_iff.1 hj).1
        have := hat j hj5
        rw [← Go.Deep.add_add, ← hj]
        exact this
      · exact ⟨z23, fun h => absurd h hil⟩
    let f : Nat → S23 := fun i => (hex i).choose
    have hF : ∀ i, i < len → ∀ j u, ([.int .i64 (f i).f0, .int .i64 (f i).f1, .int .i64 (f i).f2, .int .i64 (f i).f3, .int .i64 (f i).f4] : List Value)[j]? = some u → w.cell? (ad.add (i * 5 + j)) = some u := fun i => (hex i).choose_spec
    have hlen : ((List.range len).map f).length = len := by simp
    refine ⟨some ad, cap, (List.range len).map f, by rw [hlen], ⟨rfl, ?_, fun _ => ⟨ad, rfl, fun j p hj => ?_⟩⟩, by omega⟩
    · rw [hlen]; have : maxLen = 9223372036854775807 := rfl; omega
    · obtain ⟨hj1, hj2⟩ := List.getElem?_eq_some_iff.1 hj
      have hjl : j < len := by simpa using hj1
      have : p = f j := by rw [← hj2]; simp
      subst this
      exact ⟨_, rfl, k23_mk w (f j), hF j hjl⟩
theorem open_nums {H : Type} {enc : TypeId × Value → H} {w : World} {base : Nat} {held : Bool} {r : Reach} {b0 : Nat} {v : Value} {d : DataW H} {p : List MemPlace}
    (hv : Value.okWide Try.prog w r b0 28 v) (h : DataW.Trod enc Try.prog w base (fun _ => true) held 28 v d p) : ∃ A c l, v = .slice A l.length c ∧ Kd.C (Kd.int .i64) w A l.length l ∧ l.length ≤ c := by
  obtain ⟨a, len, cap, rfl⟩ := okWide_slice Try.underlying28 hv
  obtain ⟨fuel, hf⟩ := h
  rcases open_ints Try.underlying28 Try.underlying3 (by kernel_rfl) hf with ⟨hcs, _⟩ | ⟨x, l, c, zs, hcs, _, hl, hm, hz, _, hcell, hwz⟩
  · simp [Value.cells] at hcs
    obtain ⟨rfl, rfl, rfl⟩ := hcs
    exact ⟨none, 0, [], rfl, ⟨rfl, by simp, fun h => absurd h (by simp)⟩, Nat.le_refl _⟩
  · simp [Value.cells] at hcs
    obtain ⟨rfl, rfl, rfl⟩ := hcs
    obtain ⟨l, rfl, hr0, hm0, hw0, hc0⟩ := ReadsInt.ofRowC (w := w) (a := some x) (len := len) (cap := cap) (zs := zs) (.inr ⟨_, rfl, hl, hm, by simpa using hz, hcell, hwz⟩)
    exact ⟨_, _, l, rfl, Kd.C_of_reads (d := (0 : Int)) (h1 := fun _ => rfl) hr0, hc0⟩
end Go.Proofs.Ytommjjjlljmpbaa.PSteps

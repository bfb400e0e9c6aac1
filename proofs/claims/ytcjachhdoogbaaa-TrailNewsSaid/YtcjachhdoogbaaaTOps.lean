/- The calls of a script as values, and what is handed to the laws opened to what their walks read. No conditions but what is handed over. -/
import Derived.Test.YtcjachhdoogbaaaTFixed
import Derived.Deep.Slices
import Derived.ChangeSame
set_option linter.unusedVariables false
set_option linter.unusedSimpArgs false
namespace Go.Proofs.Ytcjachhdoogbaaa.PT
open Go.RowKit Go.Proofs.YtcjachhdoogbaaaW.PrintWords Go.Proofs.YtcjachhdoogbaaaW.PrintLast Go.Proofs.YtcjachhdoogbaaaW.PrintMore
structure S33 where
  f0 : Int
  f1 : Int
  f2 : List Int
  f3 : List S62
def z33 : S33 := ⟨(0 : Int), (0 : Int), ([] : List Int), ([] : List S62)⟩
abbrev kI : Kd (List Int) := Kd.slice 3 (Kd.int .i64)
def k33 : Kd S33 := Kd.iso (Kd.pair (Kd.int .i64) (Kd.pair (Kd.int .i64) (Kd.pair kI (Kd.slice 62 k62)))) (fun x : S33 => (x.f0, x.f1, x.f2, x.f3))
theorem k33_open {w : World} {x : S33} {cs : List Value} (h : k33.K w x cs) : ∃ A2 c2 A3 c3, cs = [.int .i64 x.f0, .int .i64 x.f1, .slice A2 x.f2.length c2, .slice A3 x.f3.length c3] ∧ x.f2.length ≤ c2 ∧ (Kd.int .i64).C w A2 x.f2.length x.f2 ∧ x.f3.length ≤ c3 ∧ k62.C w A3 x.f3.length x.f3 := by
  obtain ⟨_, _, rfl, rfl, ⟨_, _, rfl, rfl, ⟨_, _, rfl, ⟨A2, c2, rfl, l2, g2⟩, ⟨A3, c3, rfl, l3, g3⟩⟩⟩⟩ := h
  exact ⟨A2, c2, A3, c3, rfl, l2, g2, l3, g3⟩
theorem k33_mk (w : World) (x : S33) {A2 : Option Addr} {c2 : Nat} {A3 : Option Addr} {c3 : Nat} (l2 : x.f2.length ≤ c2) (g2 : (Kd.int .i64).C w A2 x.f2.length x.f2) (l3 : x.f3.length ≤ c3) (g3 : k62.C w A3 x.f3.length x.f3) : k33.K w x [.int .i64 x.f0, .int .i64 x.f1, .slice A2 x.f2.length c2, .slice A3 x.f3.length c3] :=
  ⟨[.int .i64 x.f0], [.int .i64 x.f1, .slice A2 x.f2.length c2, .slice A3 x.f3.length c3], rfl, rfl, ⟨[.int .i64 x.f1], [.slice A2 x.f2.length c2, .slice A3 x.f3.length c3], rfl, rfl, ⟨[.slice A2 x.f2.length c2], [.slice A3 x.f3.length c3], rfl, ⟨A2, c2, rfl, l2, g2⟩, ⟨A3, c3, rfl, l3, g3⟩⟩⟩⟩
def rd_T33 (xs : List S33) (i : Int) : S33 := xs.getD i.toNat z33
theorem at_T33 {w : World} {A : Option Addr} {n : Nat} {xs : List S33} (h : Kd.C k33 w A n xs) (i : Int) (h0 : 0 ≤ i) (h1 : i < n) : ∃ ad A2 c2 A3 c3, A = some ad ∧
    w.cell? (ad.add (i.toNat * 4)) = some (.int .i64 (rd_T33 xs i).f0) ∧ w.cell? ⟨(ad.add (i.toNat * 4)).block, (ad.add (i.toNat * 4)).off + 1, none⟩ = some (.int .i64 (rd_T33 xs i).f1) ∧
    w.cell? ⟨(ad.add (i.toNat * 4)).block, (ad.add (i.toNat * 4)).off + 2, none⟩ = some (.slice A2 (rd_T33 xs i).f2.length c2) ∧ w.cell? ⟨(ad.add (i.toNat * 4)).block, (ad.add (i.toNat * 4)).off + 3, none⟩ = some (.slice A3 (rd_T33 xs i).f3.length c3) ∧
    (rd_T33 xs i).f2.length ≤ c2 ∧ (Kd.int .i64).C w A2 (rd_T33 xs i).f2.length (rd_T33 xs i).f2 ∧ (rd_T33 xs i).f3.length ≤ c3 ∧ k62.C w A3 (rd_T33 xs i).f3.length (rd_T33 xs i).f3 := by
  obtain ⟨ad, c, e, _, hK, hc0⟩ := Kd.C_get h z33 i h0 h1
  have hc : ∀ j u, c[j]? = some u → w.cell? (ad.add (i.toNat * 4 + j)) = some u := hc0
  obtain ⟨A2, c2, A3, c3, rfl, l2, g2, l3, g3⟩ := k33_open hK
  exact ⟨ad, A2, c2, A3, c3, e, hc 0 _ rfl, by rw [← add_field _ _ 1 (by omega)]; exact hc 1 _ rfl, by rw [← add_field _ _ 2 (by omega)]; exact hc 2 _ rfl, by rw [← add_field _ _ 3 (by omega)]; exact hc 3 _ rfl, l2, g2, l3, g3⟩
/-! What is handed over -/
open Go.ChangeShapes Go.WideShapes Go.Deep
/-- What reads as a value of type t is one of kind d. -/
def Opens {α : Type} (d : Kd α) (t : TypeId) (w : World) : Prop := Try.prog.cellsOf t = d.sz ∧ ∀ {H : Type} (enc : TypeId × Value → H) (base : Nat) (spare : Nat → Bool) (held : Bool) (fuel : Nat) (cs : List Value) (x : DataW H × List MemPlace),
  DataW.trod enc Try.prog w base spare held fuel t cs = some x → ∃ p : α, d.K w p cs
theorem opens_int (w : World) : Opens (Kd.int .i64) 3 w := ⟨by kernel_rfl, fun enc base spare held fuel cs x h => by
  obtain ⟨n, e, _⟩ := DataW.trod_int (k := .i64) Try.underlying3 h
  exact ⟨n, by rw [e]; rfl⟩⟩
theorem opens_row {α : Type} {d : Kd α} {t e : TypeId} {w : World} [Inhabited α] (ho : Opens d e w) (ht : Try.prog.underlying t = some (.slice e)) {H : Type} {enc : TypeId × Value → H} {base : Nat} {spare : Nat → Bool} {held : Bool} {fuel : Nat} {cs : List Value} {x : DataW H × List MemPlace}
    (h : DataW.trod enc Try.prog w base spare held fuel t cs = some x) : ∃ A c l, cs = [.slice A (List.length l) c] ∧ Kd.C d w A l.length l ∧ l.length ≤ c := by
  rcases open_slice ht h with ⟨hcs, _⟩ | ⟨ad, len, cap, m, n, D, Pl, hcs, _, hl, hm, hmm, _, hi⟩
  · exact ⟨none, 0, [], hcs, ⟨rfl, by simp, fun h => absurd h (by simp)⟩, Nat.le_refl _⟩
  · have hlm : len ≤ m := by rw [hmm]; split <;> omega
    have hex : ∀ i, ∃ p : α, i < len → ∃ c, c.length = d.sz ∧ d.K w p c ∧ ∀ j u, c[j]? = some u → w.cell? (ad.add (i * d.sz + j)) = some u := fun i => by
      by_cases hil : i < len
      · obtain ⟨cs', hc, htr⟩ := hi i (by omega)
        obtain ⟨p, hp⟩ := ho.2 _ _ _ _ _ _ _ htr
        rw [ho.1] at hc
        obtain ⟨_, _, hat⟩ := World.cells?_some hc
        refine ⟨p, fun _ => ⟨cs', d.K_len hp, hp, fun j u hj => ?_⟩⟩
        have hjl : j < d.sz := by rw [← d.K_len hp]; exact (List.getElem?_eq_some_iff.1 hj).1
        have := hat j hjl
        rw [← Go.Deep.add_add, ← hj]
        exact this
      · exact ⟨default, fun h => absurd h hil⟩
    let f : Nat → α := fun i => (hex i).choose
    have hF : ∀ i, i < len → ∃ c, c.length = d.sz ∧ d.K w (f i) c ∧ ∀ j u, c[j]? = some u → w.cell? (ad.add (i * d.sz + j)) = some u := fun i => (hex i).choose_spec
    have hlen : ((List.range len).map f).length = len := by simp
    refine ⟨some ad, cap, (List.range len).map f, by rw [hlen]; exact hcs, ⟨rfl, ?_, fun _ => ⟨ad, rfl, fun j p hj => ?_⟩⟩, by omega⟩
    · rw [hlen]; have : maxLen = 9223372036854775807 := rfl; omega
    · obtain ⟨hj1, hj2⟩ := List.getElem?_eq_some_iff.1 hj
      have hjl : j < len := by simpa using hj1
      have : p = f j := by rw [← hj2]; simp
      subst this
      exact hF j hjl
theorem opens_slice {α : Type} {d : Kd α} {t e : TypeId} {w : World} [Inhabited α] (ho : Opens d e w) (ht : Try.prog.underlying t = some (.slice e)) (hc : Try.prog.cellsOf t = 1) : Opens (Kd.slice e d) t w := ⟨hc, fun enc base spare held fuel cs x h => by
  obtain ⟨A, c, l, e, h1, h2⟩ := opens_row ho ht h
  exact ⟨l, A, c, e, h2, h1⟩⟩
theorem opens_62 (w : World) : Opens k62 62 w := ⟨by kernel_rfl, fun enc base spare held fuel cs x h => by
  obtain ⟨xs, n, _, _, hl, hlen, hf⟩ := DataW.trod_struct Try.underlying62 h
  have hl : cs.length = 2 := hl
  match cs, hl with
  | [c0, c1], _ =>
    match xs, hlen with
    | [y0, y1], _ =>
      obtain ⟨n0, e0, _⟩ := DataW.trod_int (k := .i64) Try.underlying3 (hf 0 _ rfl)
      obtain ⟨n1, e1, _⟩ := DataW.trod_int (k := .i64) Try.underlying3 (hf 1 _ rfl)
      have e0 : [c0] = [Value.int .i64 n0] := e0
      have e1 : [c1] = [Value.int .i64 n1] := e1
      cases e0; cases e1
      exact ⟨⟨n0, n1⟩, k62_mk w ⟨n0, n1⟩⟩⟩
instance : Inhabited S62 := ⟨z62⟩
instance : Inhabited S33 := ⟨z33⟩
theorem opens_33 (w : World) : Opens k33 33 w := ⟨by kernel_rfl, fun enc base spare held fuel cs x h => by
  obtain ⟨xs, n, _, _, hl, hlen, hf⟩ := DataW.trod_struct Try.underlying33 h
  have hl : cs.length = 4 := hl
  match cs, hl with
  | [c0, c1, c2, c3], _ =>
    match xs, hlen with
    | [y0, y1, y2, y3], _ =>
      obtain ⟨n0, e0, _⟩ := DataW.trod_int (k := .i64) Try.underlying3 (hf 0 _ rfl)
      obtain ⟨n1, e1, _⟩ := DataW.trod_int (k := .i64) Try.underlying3 (hf 1 _ rfl)
      obtain ⟨A2, q2, l2, e2, g2, h2⟩ := opens_row (opens_int w) Try.underlying30 (hf 2 _ rfl)
      obtain ⟨A3, q3, l3, e3, g3, h3⟩ := opens_row (opens_62 w) Try.underlying31 (hf 3 _ rfl)
      have e0 : [c0] = [Value.int .i64 n0] := e0
      have e1 : [c1] = [Value.int .i64 n1] := e1
      have e2 : [c2] = [Value.slice A2 l2.length q2] := e2
      have e3 : [c3] = [Value.slice A3 l3.length q3] := e3
      cases e0; cases e1; cases e2; cases e3
      exact ⟨⟨n0, n1, l2, l3⟩, k33_mk w ⟨n0, n1, l2, l3⟩ h2 g2 h3 g3⟩⟩
theorem open_row {α : Type} {d : Kd α} {t e : TypeId} {w : World} [Inhabited α] (ho : Opens d e w) (ht : Try.prog.underlying t = some (.slice e)) {H : Type} {enc : TypeId × Value → H} {base : Nat} {spare : Nat → Bool} {held : Bool} {r : Reach} {b0 : Nat} {v : Value} {x : DataW H} {p : List MemPlace}
    (hv : Value.okWide Try.prog w r b0 t v) (h : DataW.Trod enc Try.prog w base spare held t v x p) : ∃ A c l, v = .slice A (List.length l) c ∧ Kd.C d w A l.length l ∧ l.length ≤ c := by
  obtain ⟨a, len, cap, rfl⟩ := okWide_slice ht hv
  obtain ⟨fuel, hf⟩ := h
  obtain ⟨A, c, l, e, h1, h2⟩ := opens_row ho ht hf
  refine ⟨A, c, l, ?_, h1, h2⟩
  simpa [Value.cells] using e
end Go.Proofs.Ytcjachhdoogbaaa.PT

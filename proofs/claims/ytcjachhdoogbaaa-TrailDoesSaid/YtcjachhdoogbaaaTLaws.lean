/- What is handed to a law, opened; what the calls do over lists alone; the calls of a law in one form; marks; the step of a drawn region's walk. No conditions but the lengths' bounds. -/
import Derived.Test.YtcjachhdoogbaaaTFixed
import Derived.Deep.Slices
import Derived.ChangeSame
set_option linter.unusedVariables false
set_option linter.unusedSimpArgs false
namespace Go.Proofs.Ytcjachhdoogbaaa.PT
open Go.RowKit Go.Proofs.YtcjachhdoogbaaaW.PrintWords Go.Proofs.YtcjachhdoogbaaaW.PrintLast Go.Proofs.YtcjachhdoogbaaaW.PrintMore
/-! The calls of a script as values, and what is handed to the laws opened to what their walks read. No conditions but what is handed over. -/
section
structure S33 where
  f0 : Int
  f1 : Int
  f2 : List Int
  f3 : List S62
def z33 : S33 := ⟨(0 : Int), (0 : Int), ([] : List Int), ([] : List S62)⟩
abbrev kI : Kd (List Int) := Kd.slice 3 (Kd.int .i64)
def k33 : Kd S33 := Kd.iso (Kd.pair (Kd.int .i64) (Kd.pair (Kd.int .i64) (Kd.pair kI (Kd.slice 62 k62)))) (fun x : S33 => (x.f0, x.f1, x.f2, x.f3))
theorem k33_open {w : World} {x : S33} {cs : List Value} (h : k33.K w x cs) : ∃ A2 c2 A3 c3, cs = [.int .i64 x.f0, .int .i64 x.f1, .slice A2 x.f2.length c2, .slice A3 x.f3.length c3] ∧ x.f2.length ≤ c2 ∧ (Kd.int .i64).C w A2 x.f2.length x.f2 ∧ x.f3.length ≤ c3 ∧ k62.C w A3 x.f3.length x.f3 := by
  obtain ⟨_, _, rfl, rfl, ⟨_, _, rfl, rfl, ⟨_, _, rfl, ⟨A2, c2, rfl, l2, g2⟩, ⟨A3, c3, rfl, l3, g3⟩⟩⟩⟩ := h
  exact ⟨A2, c2, A3, c3, rfl, l2, g2, l3, g3⟩
theorem k33_mk (w : World) (x : S33) {A2 : Option Addr} {c2 : Nat} {A3 : Option Addr} {c3 : Nat} (l2 : x.f2.length ≤ c2) (g2 : (Kd.int .i64).C w A2 x.f2.length x.f2) (l3 : x.f3.length ≤ c3) (g3 : k62.C w A3 x.f3.length x.f3) : k33.K w x [.int .i64 x.f0, .int .i64 x.f1, .slice A2 x.f2.length c2, .slice A3 x.f3.length c3] :=
  ⟨[.int .i64 x.f0], [.int .i64 x.f1, .slice A2 x.f2.length c2, .slice A3 x.f3.length c3], rfl, rfl, ⟨[.int .i64 x.f1], [.slice A2 x.f2.length c2, .slice A3 x.f3.length c3], rfl, rfl, ⟨[.slice A2 x.f2.length c2], [.slice A3 x.f3.length c3], rfl, ⟨A2, c2, rfl, l2, g2⟩, ⟨A3, c3, rfl, l3, g3⟩⟩⟩⟩
def rd_T33 (xs : List S33) (i : Int) : S33 := xs.getD i.toNat z33
theorem at_T33 {w : World} {A : Option Addr} {n : Nat} {xs : List S33} (h : Kd.C k33 w A n xs) (i : Int) (h0 : 0 ≤ i) (h1 : i < n) : ∃ ad A2 c2 A3 c3, A = some ad ∧
    w.cell? (ad.add (i.toNat * 4)) = some (.int .i64 (rd_T33 xs i).f0) ∧ w.cell? ⟨(ad.add (i.toNat * 4)).block, (ad.add (i.toNat * 4)).off + 1, none⟩ = some (.int .i64 (rd_T33 xs i).f1) ∧
    w.cell? ⟨(ad.add (i.toNat * 4)).block, (ad.add (i.toNat * 4)).off + 2, none⟩ = some (.slice A2 (rd_T33 xs i).f2.length c2) ∧ w.cell? ⟨(ad.add (i.toNat * 4)).block, (ad.add (i.toNat * 4)).off + 3, none⟩ = some (.slice A3 (rd_T33 xs i).f3.length c3) ∧
    (rd_T33 xs i).f2.length ≤ c2 ∧ (Kd.int .i64).C w A2 (rd_T33 xs i).f2.length (rd_T33 xs i).f2 ∧ (rd_T33 xs i).f3.length ≤ c3 ∧ k62.C w A3 (rd_T33 xs i).f3.length (rd_T33 xs i).f3 := by
  obtain ⟨ad, c, e, _, hK, hc0⟩ := Kd.C_get h z33 i h0 h1
  have hc : ∀ j u, c[j]? = some u → w.cell? (ad.add (i.toNat * 4 + j)) = some u := hc0
  obtain ⟨A2, c2, A3, c3, rfl, l2, g2, l3, g3⟩ := k33_open hK
  exact ⟨ad, A2, c2, A3, c3, e, hc 0 _ rfl, by rw [← add_field _ _ 1 (by omega)]; exact hc 1 _ rfl, by rw [← add_field _ _ 2 (by omega)]; exact hc 2 _ rfl, by rw [← add_field _ _ 3 (by omega)]; exact hc 3 _ rfl, l2, g2, l3, g3⟩
/-! What is handed over -/
open Go.ChangeShapes Go.WideShapes Go.Deep
/-- What reads as a value of type t is one of kind d. -/
def Opens {α : Type} (d : Kd α) (t : TypeId) (w : World) : Prop := Try.prog.cellsOf t = d.sz ∧ ∀ {H : Type} (enc : TypeId × Value → H) (base : Nat) (spare : Nat → Bool) (held : Bool) (fuel : Nat) (cs : List Value) (x : DataW H × List MemPlace),
  DataW.trod enc Try.prog w base spare held fuel t cs = some x → ∃ p : α, d.K w p cs
theorem opens_int (w : World) : Opens (Kd.int .i64) 3 w := ⟨by kernel_rfl, fun enc base spare held fuel cs x h => by
  obtain ⟨n, e, _⟩ := DataW.trod_int (k := .i64) Try.underlying3 h
  exact ⟨n, by rw [e]; rfl⟩⟩
theorem opens_row {α : Type} {d : Kd α} {t e : TypeId} {w : World} [Inhabited α] (ho : Opens d e w) (ht : Try.prog.underlying t = some (.slice e)) {H : Type} {enc : TypeId × Value → H} {base : Nat} {spare : Nat → Bool} {held : Bool} {fuel : Nat} {cs : List Value} {x : DataW H × List MemPlace}
    (h : DataW.trod enc Try.prog w base spare held fuel t cs = some x) : ∃ A c l, cs = [.slice A (List.length l) c] ∧ Kd.C d w A l.length l ∧ l.length ≤ c := by
  rcases open_slice ht h with ⟨hcs, _⟩ | ⟨ad, len, cap, m, n, D, Pl, hcs, _, hl, hm, hmm, _, hi⟩
  · exact ⟨none, 0, [], hcs, ⟨rfl, by simp, fun h => absurd h (by simp)⟩, Nat.le_refl _⟩
  · have hlm : len ≤ m := by rw [hmm]; split <;> omega
    have hex : ∀ i, ∃ p : α, i < len → ∃ c, c.length = d.sz ∧ d.K w p c ∧ ∀ j u, c[j]? = some u → w.cell? (ad.add (i * d.sz + j)) = some u := fun i => by
      by_cases hil : i < len
      · obtain ⟨cs', hc, htr⟩ := hi i (by omega)
        obtain ⟨p, hp⟩ := ho.2 _ _ _ _ _ _ _ htr
        rw [ho.1] at hc
        obtain ⟨_, _, hat⟩ := World.cells?_some hc
        refine ⟨p, fun _ => ⟨cs', d.K_len hp, hp, fun j u hj => ?_⟩⟩
        have hjl : j < d.sz := by rw [← d.K_len hp]; exact (List.getElem?_eq_some_iff.1 hj).1
        have := hat j hjl
        rw [← Go.Deep.add_add, ← hj]
        exact this
      · exact ⟨default, fun h => absurd h hil⟩
    let f : Nat → α := fun i => (hex i).choose
    have hF : ∀ i, i < len → ∃ c, c.length = d.sz ∧ d.K w (f i) c ∧ ∀ j u, c[j]? = some u → w.cell? (ad.add (i * d.sz + j)) = some u := fun i => (hex i).choose_spec
    have hlen : ((List.range len).map f).length = len := by simp
    refine ⟨some ad, cap, (List.range len).map f, by rw [hlen]; exact hcs, ⟨rfl, ?_, fun _ => ⟨ad, rfl, fun j p hj => ?_⟩⟩, by omega⟩
    · rw [hlen]; have : maxLen = 9223372036854775807 := rfl; omega
    · obtain ⟨hj1, hj2⟩ := List.getElem?_eq_some_iff.1 hj
      have hjl : j < len := by simpa using hj1
      have : p = f j := by rw [← hj2]; simp
      subst this
      exact hF j hjl
theorem opens_slice {α : Type} {d : Kd α} {t e : TypeId} {w : World} [Inhabited α] (ho : Opens d e w) (ht : Try.prog.underlying t = some (.slice e)) (hc : Try.prog.cellsOf t = 1) : Opens (Kd.slice e d) t w := ⟨hc, fun enc base spare held fuel cs x h => by
  obtain ⟨A, c, l, e, h1, h2⟩ := opens_row ho ht h
  exact ⟨l, A, c, e, h2, h1⟩⟩
theorem opens_62 (w : World) : Opens k62 62 w := ⟨by kernel_rfl, fun enc base spare held fuel cs x h => by
  obtain ⟨xs, n, _, _, hl, hlen, hf⟩ := DataW.trod_struct Try.underlying62 h
  have hl : cs.length = 2 := hl
  match cs, hl with
  | [c0, c1], _ =>
    match xs, hlen with
    | [y0, y1], _ =>
      obtain ⟨n0, e0, _⟩ := DataW.trod_int (k := .i64) Try.underlying3 (hf 0 _ rfl)
      obtain ⟨n1, e1, _⟩ := DataW.trod_int (k := .i64) Try.underlying3 (hf 1 _ rfl)
      have e0 : [c0] = [Value.int .i64 n0] := e0
      have e1 : [c1] = [Value.int .i64 n1] := e1
      cases e0; cases e1
      exact ⟨⟨n0, n1⟩, k62_mk w ⟨n0, n1⟩⟩⟩
instance : Inhabited S62 := ⟨z62⟩
instance : Inhabited S33 := ⟨z33⟩
theorem opens_33 (w : World) : Opens k33 33 w := ⟨by kernel_rfl, fun enc base spare held fuel cs x h => by
  obtain ⟨xs, n, _, _, hl, hlen, hf⟩ := DataW.trod_struct Try.underlying33 h
  have hl : cs.length = 4 := hl
  match cs, hl with
  | [c0, c1, c2, c3], _ =>
    match xs, hlen with
    | [y0, y1, y2, y3], _ =>
      obtain ⟨n0, e0, _⟩ := DataW.trod_int (k := .i64) Try.underlying3 (hf 0 _ rfl)
      obtain ⟨n1, e1, _⟩ := DataW.trod_int (k := .i64) Try.underlying3 (hf 1 _ rfl)
      obtain ⟨A2, q2, l2, e2, g2, h2⟩ := opens_row (opens_int w) Try.underlying30 (hf 2 _ rfl)
      obtain ⟨A3, q3, l3, e3, g3, h3⟩ := opens_row (opens_62 w) Try.underlying31 (hf 3 _ rfl)
      have e0 : [c0] = [Value.int .i64 n0] := e0
      have e1 : [c1] = [Value.int .i64 n1] := e1
      have e2 : [c2] = [Value.slice A2 l2.length q2] := e2
      have e3 : [c3] = [Value.slice A3 l3.length q3] := e3
      cases e0; cases e1; cases e2; cases e3
      exact ⟨⟨n0, n1, l2, l3⟩, k33_mk w ⟨n0, n1, l2, l3⟩ h2 g2 h3 g3⟩⟩
theorem open_row {α : Type} {d : Kd α} {t e : TypeId} {w : World} [Inhabited α] (ho : Opens d e w) (ht : Try.prog.underlying t = some (.slice e)) {H : Type} {enc : TypeId × Value → H} {base : Nat} {spare : Nat → Bool} {held : Bool} {r : Reach} {b0 : Nat} {v : Value} {x : DataW H} {p : List MemPlace}
    (hv : Value.okWide Try.prog w r b0 t v) (h : DataW.Trod enc Try.prog w base spare held t v x p) : ∃ A c l, v = .slice A (List.length l) c ∧ Kd.C d w A l.length l ∧ l.length ≤ c := by
  obtain ⟨a, len, cap, rfl⟩ := okWide_slice ht hv
  obtain ⟨fuel, hf⟩ := h
  obtain ⟨A, c, l, e, h1, h2⟩ := opens_row ho ht hf
  refine ⟨A, c, l, ?_, h1, h2⟩
  simpa [Value.cells] using e
end
/-! What Set, Mark and Back do to domains and changes, over lists alone. No conditions but the lengths' bounds. -/
section
theorem rdL3_mem (L : List (List S62)) (i : Int) (h0 : 0 ≤ i) (h1 : i < L.length) : rd_L3 L i ∈ L := by
  have hi : i.toNat < L.length := by omega
  rw [rd_L3, List.getD_eq_getElem?_getD, List.getElem?_eq_getElem hi]
  exact List.getElem_mem hi
/-- A domain's list, or none. -/
def getL (L : List (List S62)) (i : Int) : List S62 := if 0 ≤ i ∧ i < L.length then rd_L3 L i else []
theorem dom_nil : Dom [] := ⟨fun i hi => absurd hi (by simp), by simp [cnt]⟩
theorem getL_dom (L : List (List S62)) (h : ∀ x ∈ L, Dom x) (i : Int) : Dom (getL L i) := by
  unfold getL
  by_cases c : 0 ≤ i ∧ i < L.length
  · rw [if_pos c]; exact h _ (rdL3_mem L i c.1 c.2)
  · rw [if_neg c]; exact dom_nil
/-- Where Set changes: the domain is there, the new one is right and within it. -/
def Fits (L : List (List S62)) (i : Int) (d : List S62) : Prop := (0 ≤ i ∧ i < L.length) ∧ Dom d ∧ ∀ v, v ∈ vals d → v ∈ vals (rd_L3 L i)
theorem setS_f (k : Nat) (L : List (List S62)) (C : List S67) (i : Int) (d : List S62) (hk : 34000000 ≤ k) (hL : ∀ x ∈ L, Dom x) (hd : d.length ≤ 1000000) :
    ∃ L' C' r, setS k L C i d = some (L', C', r) ∧ (r = 0 ↔ Fits L i d) ∧
      ((L' = L ∧ C' = C ∧ (r = 0 → d = rd_L3 L i)) ∨ (r = 0 ∧ d ≠ rd_L3 L i ∧ L' = L.set i.toNat d ∧ C' = C ++ [(⟨i, rd_L3 L i⟩ : S67)])) := by
  unfold setS
  by_cases c : 0 ≤ i ∧ i < L.length
  · rw [if_pos c, check_f k d hd (by omega), Option.bind_some]
    by_cases ch : chk d = 0
    · have hdd := (chk_zero d).1 ch
      have hli := hL _ (rdL3_mem L i c.1 c.2)
      obtain ⟨m, h1, h2, h3⟩ := minus_f k d (rd_L3 L i) hdd hli hk
      rw [if_pos ch, h1, Option.bind_some]
      by_cases cm : m.length = 0
      · have hsub := h3.1 cm
        rw [if_neg (by omega), same_f k d _ hd (by omega), Option.bind_some]
        by_cases ce : d = rd_L3 L i
        · rw [if_pos (decide_eq_true ce)]
          exact ⟨_, _, _, rfl, ⟨fun _ => ⟨c, hdd, hsub⟩, fun _ => rfl⟩, .inl ⟨rfl, rfl, fun _ => ce⟩⟩
        · rw [if_neg (by simpa using ce)]
          exact ⟨_, _, _, rfl, ⟨fun _ => ⟨c, hdd, hsub⟩, fun _ => rfl⟩, .inr ⟨rfl, ce, rfl, rfl⟩⟩
      · rw [if_pos (by omega)]
        exact ⟨_, _, _, rfl, ⟨fun h => by omega, fun h => absurd (h3.2 h.2.2) cm⟩, .inl ⟨rfl, rfl, fun h => by omega⟩⟩
    · rw [if_neg ch]
      exact ⟨_, _, _, rfl, ⟨fun h => absurd h ch, fun h => (chk_zero d).2 h.2.1⟩, .inl ⟨rfl, rfl, fun h => absurd h ch⟩⟩
  · rw [if_neg c]
    exact ⟨_, _, _, rfl, ⟨fun h => by omega, fun h => absurd h.1 c⟩, .inl ⟨rfl, rfl, fun h => by omega⟩⟩
/-- What all calls keep: domains are domains, changes are of domains that are there; what was before all changes. -/
structure Good (L : List (List S62)) (C : List S67) (n : Nat) : Prop where
  len : L.length ≤ 8
  dom : ∀ x ∈ L, Dom x
  at_ : ∀ c ∈ C, (0 ≤ c.f0 ∧ c.f0 < L.length) ∧ Dom c.f1
  few : C.length ≤ n
theorem Good.small {L : List (List S62)} {C : List S67} {n : Nat} (h : Good L C n) : ∀ x ∈ L, x.length ≤ 4096 := fun x hx => dom_len x (h.dom x hx)
theorem mem_set_of {α : Type} {l : List α} {i : Nat} {a x : α} (h : x ∈ l.set i a) : x = a ∨ x ∈ l := by
  rcases List.mem_or_eq_of_mem_set h with h1 | h1
  · exact .inr h1
  · exact .inl h1
theorem rdL3_set (L : List (List S62)) (i : Int) (d : List S62) (h0 : 0 ≤ i) (h1 : i < L.length) : rd_L3 (L.set i.toNat d) i = d := by
  rw [rd_L3, List.getD_eq_getElem?_getD, List.getElem?_set_self (by omega)]; rfl
theorem set_back (L : List (List S62)) (i : Int) (d : List S62) (h0 : 0 ≤ i) (h1 : i < L.length) : (L.set i.toNat d).set i.toNat (rd_L3 L i) = L := by
  rw [List.set_set]
  apply List.ext_getElem?
  intro j
  by_cases hj : i.toNat = j
  · subst hj
    rw [List.getElem?_set_self (by omega), rd_L3, List.getD_eq_getElem?_getD, List.getElem?_eq_getElem (show i.toNat < L.length by omega)]; rfl
  · rw [List.getElem?_set_ne hj]
/-- A Set keeps all that, adds at most one change, and to go back over it leads to where it was. -/
theorem setS_good {k : Nat} {L L' : List (List S62)} {C C' : List S67} {i r : Int} {d : List S62} {n : Nat} (hk : 34000000 ≤ k) (h : Good L C n) (hd : d.length ≤ 1000000) (hs : setS k L C i d = some (L', C', r)) :
    Good L' C' (n + 1) ∧ L'.length = L.length ∧ (∀ j, j ≤ C.length → undo L' C' j = undo L C j) ∧ (∀ j, j ≤ C.length → C'.take j = C.take j) ∧ C.length ≤ C'.length ∧ (∀ v j, v ∈ vals (getL L' j) → v ∈ vals (getL L j)) := by
  obtain ⟨L1, C1, r1, e, hr, hc⟩ := setS_f k L C i d hk h.dom hd
  rw [hs] at e
  cases e
  rcases hc with ⟨rfl, rfl, _⟩ | ⟨h0, hne, rfl, rfl⟩
  · exact ⟨⟨h.len, h.dom, h.at_, by have := h.few; omega⟩, rfl, fun _ _ => rfl, fun _ _ => rfl, Nat.le_refl _, fun _ _ h => h⟩
  · obtain ⟨⟨c0, c1⟩, hdd, hsub⟩ := hr.1 h0
    refine ⟨⟨by rw [List.length_set]; exact h.len, fun x hx => ?_, fun c hc => ?_, by rw [List.length_append, List.length_singleton]; have := h.few; omega⟩, List.length_set .., fun j hj => ?_, fun j hj => ?_, by rw [List.length_append]; omega, fun v j hv => ?_⟩
    · rcases mem_set_of hx with rfl | hx
      · exact hdd
      · exact h.dom x hx
    · rw [List.length_set]
      rcases List.mem_append.1 hc with hc | hc
      · exact h.at_ c hc
      · rw [List.mem_singleton.1 hc]; exact ⟨⟨c0, c1⟩, h.dom _ (rdL3_mem L i c0 c1)⟩
    · unfold undo
      rw [List.drop_append_of_le_length hj, List.foldr_append]
      congr 1
      show (L.set i.toNat d).set i.toNat (rd_L3 L i) = L
      exact set_back L i d c0 c1
    · rw [List.take_append_of_le_length hj]
    · unfold getL at hv ⊢
      rw [List.length_set] at hv
      by_cases cj : 0 ≤ j ∧ j < L.length
      · rw [if_pos cj] at hv ⊢
        by_cases hji : j = i
        · subst hji
          rw [rdL3_set L j d c0 c1] at hv
          exact hsub v hv
        · have : rd_L3 (L.set i.toNat d) j = rd_L3 L j := by
            rw [rd_L3, rd_L3, List.getD_eq_getElem?_getD, List.getD_eq_getElem?_getD, List.getElem?_set_ne (by omega)]
          rwa [this] at hv
      · rw [if_neg cj] at hv; rw [if_neg cj]; exact hv
end
/-! The calls of a law on a store, in one form: the store's state, and what is held beside it. No conditions but the lengths' bounds. -/
section
/-- A row that was made behind w. -/
def Fr {α : Type} (d : Kd α) (w w' : World) (A : Option Addr) (c : Nat) (l : List α) : Prop := l.length ≤ c ∧ Kd.F d w' (fun k => w.heap.size ≤ k) A l.length l
theorem fr_of_R {α : Type} {d : Kd α} {e : Nat} {w w' : World} {ok : Nat → Prop} {v : Value} {l : List α} (h : d.R e w' w.heap.size ok v l) : ∃ A c, v = .slice A l.length c ∧ Fr d w w' A c l := by
  obtain ⟨A, c, rfl, hl, _⟩ := Kd.R_reads h
  exact ⟨A, c, rfl, hl, Kd.F_mono (Kd.R_F (Kd.R_bound h)) (fun k hk => hk.2.1)⟩
theorem fr_of_N {α : Type} {d : Kd α} {e base : Nat} {w w' : World} {v : Value} {l : List α} (h : d.N e w' base (fun k => w.heap.size ≤ k) v l) : ∃ A c, v = .slice A l.length c ∧ Fr d w w' A c l := by
  obtain ⟨A, c, rfl, hl, _⟩ := Kd.N_reads h
  exact ⟨A, c, rfl, hl, Kd.N_F h⟩
/-- A row apart from the territory T. -/
def Held {α : Type} (d : Kd α) (T : Nat → Prop) (w : World) (A : Option Addr) (c : Nat) (l : List α) : Prop := l.length ≤ c ∧ Kd.F d w (fun k => ¬ T k ∧ k < w.heap.size) A l.length l
theorem Held.now {α : Type} {d : Kd α} {T : Nat → Prop} {w : World} {A : Option Addr} {c : Nat} {l : List α} (h : Held d T w A c l) : d.C w A l.length l := Kd.F_now h.2
theorem Held.below {α : Type} {d : Kd α} {T : Nat → Prop} {w w' : World} {A : Option Addr} {c : Nat} {l : List α} (h : Held d T w A c l) (hb : Below w.heap.size w w') : Held d T w' A c l :=
  ⟨h.1, Kd.F_mono (Kd.F_below h.2 hb) (fun k hk => ⟨hk.1, Nat.lt_of_lt_of_le hk.2 hb.size⟩)⟩
theorem Held.of_C {α : Type} {d : Kd α} {T : Nat → Prop} {w : World} {base : Nat} {A : Option Addr} {c : Nat} {l : List α} (hd : Kd.Heap d) (h : d.C w A l.length l) (hc : l.length ≤ c) (hT : ∀ k, T k → base ≤ k) (hw : w.heap.size ≤ base) : Held d T w A c l :=
  ⟨hc, Kd.F_mono (Kd.C_F hd h) (fun k hk => ⟨fun h => absurd (hT k h) (Nat.not_le.2 (Nat.lt_of_lt_of_le hk hw)), hk⟩)⟩
theorem Fr.held {α : Type} {d : Kd α} {T : Nat → Prop} {w w' : World} {A : Option Addr} {c : Nat} {l : List α} (h : Fr d w w' A c l) (hT : ∀ k, T k → k < w.heap.size) : Held d T w' A c l :=
  ⟨h.1, Kd.F_mono (Kd.F_bound h.2) (fun k hk => ⟨fun h => absurd (hT k h) (Nat.not_lt.2 hk.1), hk.2⟩)⟩
/-- The store: its state, its territory from base on. -/
structure Stat (T : Nat → Prop) (w0 w : World) (base g : Nat) (L : List (List S62)) (C : List S67) (M : List Int) (n : Nat) : Prop where
  st : St T w base g L C M
  below : Below base w0 w
  lo : ∀ k, T k → base ≤ k
  hi : ∀ k, T k → k < w.heap.size
  size : base ≤ w.heap.size
  good : Good L C n
/-- What is held beside the store stays. -/
def Keeps (w w' : World) (T T' : Nat → Prop) : Prop := ∀ {α : Type} (d : Kd α) (A : Option Addr) (c : Nat) (l : List α), Held d T w A c l → Held d T' w' A c l
section
variable {T : Nat → Prop} {w w0 w' : World} {base g n : Nat} {L : List (List S62)} {C : List S67} {M : List Int}
theorem Stat.read (h : Stat T w0 w base g L C M n) (hb : Below w.heap.size w w') : Stat T w0 w' base g L C M n :=
  ⟨h.st.below hb, h.below.trans (hb.mono h.size), h.lo, fun k hk => Nat.lt_of_lt_of_le (h.hi k hk) hb.size, Nat.le_trans h.size hb.size, h.good⟩
theorem Stat.wrote {L' : List (List S62)} {C' : List S67} {M' : List Int} {n' : Nat} (h : Stat T w0 w base g L C M n) (hs : St (fun k => T k ∨ w.heap.size ≤ k) w' base g L' C' M') (hb : Below base w0 w') (hk : Kept w w' T) (hg : Good L' C' n') :
    ∃ T', Stat T' w0 w' base g L' C' M' n' ∧ Keeps w w' T T' :=
  ⟨fun k => (T k ∨ w.heap.size ≤ k) ∧ k < w'.heap.size, ⟨hs.bound, hb, fun k hk => hk.1.elim (h.lo k) (fun h1 => Nat.le_trans h.size h1), fun k hk => hk.2, Nat.le_trans h.size hk.1, hg⟩,
    fun d A c l hl => ⟨hl.1, Kd.F_mono (Kd.F_kept hl.2 hk (fun k hk => hk.1)) (fun k hk2 => ⟨fun h1 => h1.1.elim hk2.1 (fun h2 => absurd hk2.2 (Nat.not_lt.2 h2)), Nat.lt_of_lt_of_le hk2.2 hk.1⟩)⟩⟩
theorem s_len (h : Stat T w0 w base g L C M n) : Calls Try.prog 18 #[.pointer (some ⟨g, 0, none⟩)] w fun e w' => e = .returned (.int .i64 L.length) ∧ Below w.heap.size w w' := len_calls h.st
theorem s_changes (h : Stat T w0 w base g L C M n) : Calls Try.prog 13 #[.pointer (some ⟨g, 0, none⟩)] w fun e w' => e = .returned (.int .i64 C.length) ∧ Below w.heap.size w w' := changes_calls h.st
theorem s_level (h : Stat T w0 w base g L C M n) : Calls Try.prog 24 #[.pointer (some ⟨g, 0, none⟩)] w fun e w' => e = .returned (.int .i64 M.length) ∧ Below w.heap.size w w' := level_calls h.st
theorem s_get (i : Int) (h : Stat T w0 w base g L C M n) : Calls Try.prog 12 #[.pointer (some ⟨g, 0, none⟩), .int .i64 i] w fun e w' =>
    ∃ A c, e = .returned (.slice A (getL L i).length c) ∧ Fr k62 w w' A c (getL L i) ∧ Below w.heap.size w w' :=
  (get_calls i (getL L i) rfl h.st (fun h0 h1 => by have := h.good.small _ (rdL3_mem L i h0 h1); omega)).mono (fun e w' hh => by
    obtain ⟨v, rfl, hN, hb⟩ := hh
    obtain ⟨A, c, rfl, hf⟩ := fr_of_N hN
    exact ⟨A, c, rfl, hf, hb⟩)
theorem s_all (h : Stat T w0 w base g L C M n) : Calls Try.prog 22 #[.pointer (some ⟨g, 0, none⟩)] w fun e w' =>
    ∃ A c, e = .returned (.slice A L.length c) ∧ Fr kL w w' A c L ∧ Below w.heap.size w w' :=
  (all_calls h.st (fun x hx => by have := h.good.small x hx; omega) (by have := h.good.len; omega)).mono (fun e w' hh => by
    obtain ⟨v, rfl, hN, hb⟩ := hh
    obtain ⟨A, c, rfl, hf⟩ := fr_of_N hN
    exact ⟨A, c, rfl, hf, hb⟩)
/-- Fuel enough for all. -/
def KK : Nat := 40000000
theorem kk : KK = 40000000 := rfl
theorem s_set (i : Int) (A : Option Addr) (c : Nat) (d : List S62) (h : Stat T w0 w base g L C M n) (hd : Held k62 T w A c d) (hdl : d.length ≤ 1000000) (hn : n ≤ 900000) :
    Calls Try.prog 14 #[.pointer (some ⟨g, 0, none⟩), .int .i64 i, .slice A d.length c] w fun e w' =>
      ∃ L' C' r T', e = .returned (.int .i64 r) ∧ setS KK L C i d = some (L', C', r) ∧ Stat T' w0 w' base g L' C' M (n + 1) ∧ Keeps w w' T T' := by
  obtain ⟨L', C', r, hs, _⟩ := setS_f KK L C i d (by rw [kk]; omega) h.good.dom hdl
  refine (set_calls (w0 := w0) KK i A c d (fun k => ¬ T k ∧ k < w.heap.size) L' C' r h.st h.below h.size hd.2 (fun k hk => hk.1) hd.1 (by have := h.good.few; omega) hdl hs).mono ?_
  rintro e w' ⟨rfl, hst, hb, hk⟩
  obtain ⟨T', h1, h2⟩ := h.wrote hst hb hk (setS_good (by rw [kk]; omega) h.good hdl hs).1
  exact ⟨L', C', r, T', rfl, hs, h1, h2⟩
theorem s_mark (h : Stat T w0 w base g L C M n) (hM : M.length ≤ 1000000) : Calls Try.prog 23 #[.pointer (some ⟨g, 0, none⟩)] w fun e w' =>
    ∃ T', e = .returned (.tuple #[]) ∧ Stat T' w0 w' base g L C (M ++ [(C.length : Int)]) n ∧ Keeps w w' T T' := by
  refine (mark_calls (w0 := w0) h.st h.below h.size hM).mono ?_
  rintro e w' ⟨rfl, hst, hb, hk⟩
  obtain ⟨T', h1, h2⟩ := h.wrote hst hb hk h.good
  exact ⟨T', rfl, h1, h2⟩
theorem undo_mem (L : List (List S62)) (C : List S67) (x : List S62) (h : x ∈ C.foldr putc L) : x ∈ L ∨ ∃ c ∈ C, x = c.f1 := by
  induction C with
  | nil => exact .inl h
  | cons c C ih =>
    rw [List.foldr_cons, putc] at h
    rcases mem_set_of h with h | h
    · exact .inr ⟨c, by simp, h⟩
    · rcases ih h with h | ⟨d, hd, h⟩
      · exact .inl h
      · exact .inr ⟨d, by simp [hd], h⟩
theorem good_undo (h : Good L C n) (j : Nat) : Good (undo L C j) (C.take j) n := by
  have hl : (undo L C j).length = L.length := undo_len _ _
  refine ⟨by rw [hl]; exact h.len, fun x hx => ?_, fun c hc => ?_, Nat.le_trans (by rw [List.length_take]; omega) h.few⟩
  · rcases undo_mem _ _ _ hx with hx | ⟨c, hc, rfl⟩
    · exact h.dom x hx
    · exact (h.at_ c (List.mem_of_mem_drop hc)).2
  · rw [hl]; exact h.at_ c (List.mem_of_mem_take hc)
theorem s_back (m : Int) (h : Stat T w0 w base g L C (M ++ [m]) n) (hm : 0 ≤ m) (hM : M.length ≤ 1000000) (hn : n ≤ 1000000) : Calls Try.prog 25 #[.pointer (some ⟨g, 0, none⟩)] w fun e w' =>
    ∃ T', e = .returned (.int .i64 0) ∧ Stat T' w0 w' base g (undo L C m.toNat) (C.take m.toNat) M n ∧ Keeps w w' T T' := by
  refine (back_calls (w0 := w0) m h.st h.below h.size hm (fun c hc => (h.good.at_ c hc).1) ⟨hM, by have := h.good.few; omega⟩).mono ?_
  rintro e w' ⟨rfl, hst, hb, hk⟩
  obtain ⟨T', h1, h2⟩ := h.wrote hst hb hk (good_undo h.good _)
  exact ⟨T', rfl, h1, h2⟩
end
theorem s_small (A : Option Addr) (c : Nat) (l : List Int) (w : World) (hr : Kd.C (Kd.int .i64) w A l.length l) (hc : l.length ≤ c) : Calls Try.prog 15 #[.slice A l.length c] w fun e w' =>
    ∃ A' c' d, e = .returned (.slice A' (List.length d) c') ∧ Fr k62 w w' A' c' d ∧ Dom d ∧ d.length ≤ 30 ∧ Below w.heap.size w w' := by
  obtain ⟨d, h1, h2, h3⟩ := small_f KK l (by rw [kk]; omega)
  refine (secateurlaw02_Small.calls KK A c l d w hr hc h1).mono ?_
  rintro e w' ⟨v, rfl, hR, hb⟩
  obtain ⟨A', c', rfl, hf⟩ := fr_of_R hR
  exact ⟨A', c', d, rfl, hf, h2, h3, hb⟩
theorem s_pick (A0 : Option Addr) (c0 : Nat) (a : List S62) (A1 : Option Addr) (c1 : Nat) (b : List S62) (inn : Bool) (w : World) (ha : Kd.C k62 w A0 a.length a) (hc0 : a.length ≤ c0) (hb : Kd.C k62 w A1 b.length b) (hc1 : b.length ≤ c1) (da : Dom a) (db : Dom b) :
    Calls Try.prog 17 #[.slice A0 a.length c0, .slice A1 b.length c1, .bool inn] w fun e w' =>
      ∃ A' c' d, e = .returned (.slice A' (List.length d) c') ∧ Fr k62 w w' A' c' d ∧ d.length ≤ 10000 ∧ (d.length = 0 ↔ (vals a).filter (fun v => decide (v ∈ vals b) == inn) = []) ∧ Below w.heap.size w w' := by
  obtain ⟨d, h1, h2, h3⟩ := pick_f KK a b inn da db (by rw [kk]; omega)
  refine (secateurref02_Pick.calls KK A0 c0 a A1 c1 b inn d w ha hc0 hb hc1 h1).mono ?_
  rintro e w' ⟨v, rfl, hR, hb⟩
  obtain ⟨A', c', rfl, hf⟩ := fr_of_R hR
  exact ⟨A', c', d, rfl, hf, h2, h3, hb⟩
theorem s_same (A0 : Option Addr) (c0 : Nat) (a : List S62) (A1 : Option Addr) (c1 : Nat) (b : List S62) (w : World) (ha : Kd.C k62 w A0 a.length a) (hc0 : a.length ≤ c0) (hb : Kd.C k62 w A1 b.length b) (hc1 : b.length ≤ c1) (hl : a.length ≤ 1000000) :
    Calls Try.prog 16 #[.slice A0 a.length c0, .slice A1 b.length c1] w fun e w' => e = .returned (.bool (decide (a = b))) ∧ Below w.heap.size w w' :=
  (secateurref02_Same.calls KK A0 c0 a A1 c1 b _ w ha hc0 hb hc1 (rsame_f KK a b hl (by rw [kk]; omega))).mono (fun e w' hh => ⟨hh.1, hh.2.below⟩)
theorem s_lsame (A0 : Option Addr) (c0 : Nat) (a : List (List S62)) (A1 : Option Addr) (c1 : Nat) (b : List (List S62)) (w : World) (ha : Kd.C kL w A0 a.length a) (hc0 : a.length ≤ c0) (hb : Kd.C kL w A1 b.length b) (hc1 : b.length ≤ c1) (hl : a.length ≤ 1000) (hx : ∀ x ∈ a, x.length ≤ 4096) :
    Calls Try.prog 26 #[.slice A0 a.length c0, .slice A1 b.length c1] w fun e w' => e = .returned (.bool (decide (a = b))) ∧ Below w.heap.size w w' :=
  (secateurref03_Same.calls KK A0 c0 a A1 c1 b _ w ha hc0 hb hc1 (lsame_f KK a b (by omega) 4096 (by omega) hx (by rw [kk]; omega))).mono (fun e w' hh => ⟨hh.1, hh.2.below⟩)
theorem s_doms (A : Option Addr) (c : Nat) (l : List (List Int)) (w : World) (hr : Kd.C kI w A l.length l) (hc : l.length ≤ c) : Calls Try.prog 11 #[.slice A l.length c] w fun e w' =>
    ∃ A' c' D, e = .returned (.slice A' (List.length D) c') ∧ Fr kL w w' A' c' D ∧ Good D [] 0 ∧ (∀ x ∈ D, x.length ≤ 30) ∧ Below w.heap.size w w' := by
  obtain ⟨d, h1, h2, h3⟩ := doms_f KK l (by rw [kk]; omega)
  refine (secateurlaw03_doms.calls KK A c l d w hr hc h1).mono ?_
  rintro e w' ⟨v, rfl, hR, hb⟩
  obtain ⟨A', c', rfl, hf⟩ := fr_of_R (Kd.S_R hR)
  exact ⟨A', c', d, rfl, hf, ⟨by omega, fun x hx => (h3 x hx).1, fun c hc => (by cases hc), by simp⟩, fun x hx => (h3 x hx).2, hb⟩
theorem newS_zero (k : Nat) (D : List (List S62)) (hk : 5000 ≤ k) (h : ∀ x ∈ D, Dom x) : newS k D = some 0 := by
  induction D with
  | nil => rfl
  | cons d D ih =>
    have hd := h d (by simp)
    have := dom_len d hd
    rw [newS, check_f k d (by omega) (by omega), Option.bind_some, (chk_zero d).2 hd, if_pos rfl]
    exact ih (fun x hx => h x (by simp [hx]))
theorem s_new (A : Option Addr) (c : Nat) (D : List (List S62)) (w : World) (hr : Kd.C kL w A D.length D) (hc : D.length ≤ c) (hg : Good D [] 0) : Calls Try.prog 10 #[.slice A D.length c] w fun e w' =>
    ∃ g T, e = .returned (.tuple #[.pointer (some ⟨g, 0, none⟩), .int .i64 0]) ∧ Stat T w w' w.heap.size g D [] [] 0 := by
  refine (new_calls KK A c D 0 w hr hc ⟨by have := hg.len; omega, fun x hx => by have := hg.small x hx; omega⟩ (newS_zero KK D (by rw [kk]; omega) hg.dom)).mono ?_
  rintro e w' ⟨hb, ⟨_, g, rfl, hs⟩ | ⟨h0, _⟩⟩
  · exact ⟨g, fun k => w.heap.size ≤ k ∧ k < w'.heap.size, rfl, ⟨hs.bound, hb, fun k hk => hk.1, fun k hk => hk.2, hb.size, hg⟩⟩
  · exact absurd rfl h0
theorem heap62 : Kd.Heap k62 := Kd.heap_iso _ (Kd.heap_pair (Kd.heap_int _) (Kd.heap_int _))
theorem heap33 : Kd.Heap k33 := Kd.heap_iso _ (Kd.heap_pair (Kd.heap_int _) (Kd.heap_pair (Kd.heap_int _) (Kd.heap_pair (Kd.heap_slice _ (Kd.heap_int _)) (Kd.heap_slice _ heap62))))
end
/-! More on the calls of a law on a store: a script's calls, a Set whose answer is known. No conditions but the lengths' bounds. -/
section
theorem and_seven (a : Int) : ∃ c : Int, Go.bits BinOp.and IntKind.i64 a 7 = c ∧ 0 ≤ c ∧ c ≤ 7 := by
  refine ⟨a % 8, ?_, by omega, by omega⟩
  have h16 : (BitVec.ofInt 64 7).toNat = 2 ^ 3 - 1 := by decide
  have key : (BitVec.ofInt 64 a &&& BitVec.ofInt 64 7).toNat = (a % ((2 ^ 64 : Nat) : Int)).toNat % 2 ^ 3 := by
    rw [BitVec.toNat_and, BitVec.toNat_ofInt, h16, Nat.and_two_pow_sub_one_eq_mod]
  show IntKind.i64.wrap ((BitVec.ofInt 64 a &&& BitVec.ofInt 64 7).toNat : Nat) = a % 8
  rw [key, IntKind.wrap_i64]
  omega
theorem Good.more {L : List (List S62)} {C : List S67} {n m : Nat} (h : Good L C n) (hm : n ≤ m) : Good L C m := ⟨h.len, h.dom, h.at_, Nat.le_trans h.few hm⟩
theorem Stat.more {T : Nat → Prop} {w0 w : World} {base g : Nat} {L : List (List S62)} {C : List S67} {M : List Int} {n m : Nat} (h : Stat T w0 w base g L C M n) (hm : n ≤ m) : Stat T w0 w base g L C M m := ⟨h.st, h.below, h.lo, h.hi, h.size, h.good.more hm⟩
theorem filter_none {x y : List Int} (h : ∀ v, v ∈ x → v ∈ y) : x.filter (fun v => decide (v ∈ y) == false) = [] := by
  rw [List.filter_eq_nil_iff]
  intro v hv
  simp [h v hv]
theorem k33_openF {W : World} {ok : Nat → Prop} {x : S33} {cs : List Value} (h : Kd.FK k33 W ok x cs) : ∃ A2 c2 A3 c3, cs = [.int .i64 x.f0, .int .i64 x.f1, .slice A2 x.f2.length c2, .slice A3 x.f3.length c3] ∧ x.f2.length ≤ c2 ∧ Kd.F (Kd.int .i64) W ok A2 x.f2.length x.f2 ∧ x.f3.length ≤ c3 ∧ Kd.F k62 W ok A3 x.f3.length x.f3 := by
  obtain ⟨A2, c2, A3, c3, rfl, l2, _, l3, _⟩ := k33_open (Kd.FK_now h)
  refine ⟨A2, c2, A3, c3, rfl, l2, fun W' hW => ?_, l3, fun W' hW => ?_⟩
  · obtain ⟨A2', c2', A3', c3', he, _, g2, _, g3⟩ := k33_open (h W' hW)
    simp only [List.cons.injEq, Value.slice.injEq, true_and, and_true] at he
    rw [he.1.1]; exact g2
  · obtain ⟨A2', c2', A3', c3', he, _, g2, _, g3⟩ := k33_open (h W' hW)
    simp only [List.cons.injEq, Value.slice.injEq, true_and, and_true] at he
    rw [he.2.1]; exact g3
theorem at_H33 {T : Nat → Prop} {w : World} {A : Option Addr} {c : Nat} {xs : List S33} (h : Held k33 T w A c xs) (i : Int) (h0 : 0 ≤ i) (h1 : i < xs.length) : ∃ ad A2 c2 A3 c3, A = some ad ∧
    w.cell? (ad.add (i.toNat * 4)) = some (.int .i64 (rd_T33 xs i).f0) ∧ w.cell? ⟨(ad.add (i.toNat * 4)).block, (ad.add (i.toNat * 4)).off + 1, none⟩ = some (.int .i64 (rd_T33 xs i).f1) ∧
    w.cell? ⟨(ad.add (i.toNat * 4)).block, (ad.add (i.toNat * 4)).off + 2, none⟩ = some (.slice A2 (rd_T33 xs i).f2.length c2) ∧ w.cell? ⟨(ad.add (i.toNat * 4)).block, (ad.add (i.toNat * 4)).off + 3, none⟩ = some (.slice A3 (rd_T33 xs i).f3.length c3) ∧
    Held (Kd.int .i64) T w A2 c2 (rd_T33 xs i).f2 ∧ Held k62 T w A3 c3 (rd_T33 xs i).f3 := by
  obtain ⟨ad, c', e, _, hK, hc0, _⟩ := Kd.F_get h.2 z33 i h0 h1
  have hc : ∀ j u, c'[j]? = some u → w.cell? (ad.add (i.toNat * 4 + j)) = some u := hc0
  obtain ⟨A2, c2, A3, c3, rfl, l2, g2, l3, g3⟩ := k33_openF hK
  exact ⟨ad, A2, c2, A3, c3, e, hc 0 _ rfl, by rw [← add_field _ _ 1 (by omega)]; exact hc 1 _ rfl, by rw [← add_field _ _ 2 (by omega)]; exact hc 2 _ rfl, by rw [← add_field _ _ 3 (by omega)]; exact hc 3 _ rfl, ⟨l2, g2⟩, ⟨l3, g3⟩⟩
theorem s_set2 {T : Nat → Prop} {w w0 : World} {base g n : Nat} {L : List (List S62)} {C : List S67} {M : List Int} (i : Int) (A : Option Addr) (c : Nat) (d : List S62) (L' : List (List S62)) (C' : List S67) (r : Int) (h : Stat T w0 w base g L C M n) (hd : Held k62 T w A c d) (hdl : d.length ≤ 1000000) (hn : n ≤ 900000) (hs : setS KK L C i d = some (L', C', r)) :
    Calls Try.prog 14 #[.pointer (some ⟨g, 0, none⟩), .int .i64 i, .slice A d.length c] w fun e w' => ∃ T', e = .returned (.int .i64 r) ∧ Stat T' w0 w' base g L' C' M (n + 1) ∧ Keeps w w' T T' ∧ Kept w w' T := by
  refine (set_calls (w0 := w0) KK i A c d (fun k => ¬ T k ∧ k < w.heap.size) L' C' r h.st h.below h.size hd.2 (fun k hk => hk.1) hd.1 (by have := h.good.few; omega) hdl hs).mono ?_
  rintro e w' ⟨rfl, hst, hb, hk⟩
  obtain ⟨T', h1, h2⟩ := h.wrote hst hb hk (setS_good (by rw [kk]; omega) h.good hdl hs).1
  exact ⟨T', rfl, h1, h2, hk⟩
theorem set_none {L L' : List (List S62)} {C C' : List S67} {i r : Int} {d : List S62} {n : Nat} (h : Good L C n) (hd : d.length ≤ 1000000) (hs : setS KK L C i d = some (L', C', r)) (hr : r ≠ 0) : L' = L ∧ C' = C := by
  obtain ⟨L1, C1, r1, e, _, hc⟩ := setS_f KK L C i d (by rw [kk]; omega) h.dom hd
  rw [hs] at e
  cases e
  rcases hc with ⟨rfl, rfl, _⟩ | ⟨h0, _⟩
  · exact ⟨rfl, rfl⟩
  · exact absurd h0 hr
end
/-! Marks and what going back leads to, over lists alone; a cell that a call keeps. No conditions. -/
section
theorem kept_cell {w w' : World} {T : Nat → Prop} (hk : Kept w w' T) {a : Addr} {v : Value} (hn : ¬ T a.block) (h : w.cell? a = some v) : w'.cell? a = some v :=
  (World.cell?_of_block (w := w) (hk.2 a.block (World.block_lt_of_cell? w a h) hn)).trans h
theorem at_H33n {T : Nat → Prop} {w : World} {ad : Addr} {c : Nat} {xs : List S33} (h : Held k33 T w (some ad) c xs) (h1 : 0 < xs.length) : ¬ T ad.block := by
  obtain ⟨ad', c', e, _, _, _, ho⟩ := Kd.F_get h.2 z33 0 (by omega) (by omega)
  cases e
  exact (ho (by show 0 < 4; omega)).1
theorem at_block (ad : Addr) (n : Nat) : (ad.add n).block = ad.block := add_block ad n
/-- The first mark is at no change; without marks there is no change. -/
structure Marks (M : List Int) (C : List S67) : Prop where
  pos : ∀ m ∈ M, 0 ≤ m
  head : ∀ m M', M = m :: M' → m = 0
  none : M = [] → C = []
theorem Marks.mark {M : List Int} {C C' : List S67} (h : Marks M C) : Marks (M ++ [(C.length : Int)]) C' := by
  refine ⟨fun m hm => ?_, fun m M' e => ?_, fun e => by simp at e⟩
  · rcases List.mem_append.1 hm with hm | hm
    · exact h.pos m hm
    · rw [List.mem_singleton.1 hm]; omega
  · cases M with
    | nil =>
      have := h.none rfl
      subst this
      simp at e
      exact e.1.symm
    | cons a M2 =>
      rw [List.cons_append] at e
      have e1 := (List.cons.injEq .. ▸ e : a = m ∧ _)
      exact e1.1 ▸ h.head a M2 rfl
theorem Marks.set {M : List Int} {C C' : List S67} (h : Marks M C) (hM : M ≠ []) : Marks M C' := ⟨h.pos, h.head, fun e => absurd e hM⟩
theorem Marks.back {M : List Int} {m : Int} {C : List S67} (h : Marks (M ++ [m]) C) : 0 ≤ m ∧ Marks M (C.take m.toNat) := by
  refine ⟨h.pos m (by simp), fun x hx => h.pos x (by simp [hx]), fun x M' e => h.head x (M' ++ [m]) (by rw [e]; rfl), fun e => ?_⟩
  subst e
  have : m = 0 := h.head m [] rfl
  subst this
  rfl
theorem undo_undo (L : List (List S62)) (C : List S67) (j : Nat) : undo (undo L C j) (C.take j) 0 = undo L C 0 := by
  unfold undo
  rw [List.drop_zero, List.drop_zero, ← List.foldr_append, List.take_append_drop]
theorem undo_nil (L : List (List S62)) : undo L [] 0 = L := rfl
theorem last_of {M : List Int} (h : 0 < M.length) : ∃ M' m, M = M' ++ [m] := by
  have hn : M ≠ [] := by intro e; rw [e] at h; exact absurd h (by decide)
  exact ⟨M.dropLast, M.getLast hn, (List.dropLast_concat_getLast hn).symm⟩
end
/-! The step of a drawn region's walk that takes an operation ahead, or passes over one that its guard bars, with its side conditions met by the way. No conditions. -/
section
section
variable {P : Program} {ops : Array Oper} {Q : Exit → Act → World → Prop} {md : Region.Mode} {S : World → Prop} {oi : Oper} {v : Value} {fuel : Nat} {listed l' : Array Bool} {a a' : Act} {w : World}
/-- Operation i is taken. -/
theorem tk (i : Nat) (hS : S w) (h : wpAnyH P md ops Q S fuel l' a' w)
    (hi : ops[i]? = some oi := by rfl) (hs : Region.noSelect ops = true := by kernel_rfl) (hf : Region.free md ops listed i = true := by kernel_rfl) (hr : (Region.ready md ops listed).contains i = true := by kernel_rfl)
    (hw : Region.wanted oi (yielded ops a.tmps) = true := by rfl) (hy : ∀ w, S w → (execOp a.eval oi).run P w = .ok (.value v) w := by (intro w hSw; (try dsimp only at hSw); go_simp; all_goals (with_reducible rfl)))
    (hl : listed.setIfInBounds i true = l' := by ((try simp only [List.setIfInBounds_toArray, List.set_cons_zero, List.set_cons_succ]); rfl))
    (ha : a.put oi.dst v = a' := by ((try simp only [Act.put, List.setIfInBounds_toArray, List.set_cons_zero, List.set_cons_succ, List.getElem_toArray, List.getElem_cons_zero, List.getElem_cons_succ, i64_w]); rfl))
    (hQ : ∀ c a w, Q (.panic c) (a.put oi.dst v) w → Q (.panic c) a w := by exact fun _ _ _ h => h) : wpAnyH P md ops Q S (fuel + 1) listed a w := by
  subst hl ha
  exact wpAnyH_take hi hs hf hr hQ (.inl ⟨hw, hy⟩) hS h
/-- Operation i is passed over. -/
theorem sk (i : Nat) (hS : S w) (h : wpAnyH P md ops Q S fuel l' a' w)
    (hi : ops[i]? = some oi := by rfl) (hs : Region.noSelect ops = true := by kernel_rfl) (hf : Region.free md ops listed i = true := by kernel_rfl) (hr : (Region.ready md ops listed).contains i = true := by kernel_rfl)
    (hw : Region.wanted oi (yielded ops a.tmps) = false := by rfl)
    (hl : listed.setIfInBounds i true = l' := by ((try simp only [List.setIfInBounds_toArray, List.set_cons_zero, List.set_cons_succ]); rfl))
    (ha : a.put oi.dst undef = a' := by ((try simp only [Act.put, List.setIfInBounds_toArray, List.set_cons_zero, List.set_cons_succ, List.getElem_toArray, List.getElem_cons_zero, List.getElem_cons_succ, i64_w]); rfl))
    (hQ : ∀ c a w, Q (.panic c) (a.put oi.dst undef) w → Q (.panic c) a w := by exact fun _ _ _ h => h) : wpAnyH P md ops Q S (fuel + 1) listed a w := by
  subst hl ha
  exact wpAnyH_take hi hs hf hr hQ (.inr ⟨hw, rfl⟩) hS h
end
end
end Go.Proofs.Ytcjachhdoogbaaa.PT

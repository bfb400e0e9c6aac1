-- Written by a program of this session (the kit's print, some functions given by hand).
import Derived.Test.YtcjachhdoogbaaaPTx0
import Derived.Test.YtcjachhdoogbaaaPTx6
namespace Go.Proofs.Ytcjachhdoogbaaa.PT
open Go.RowKit Go.Proofs.YtcjachhdoogbaaaW.PrintWords Go.Proofs.YtcjachhdoogbaaaW.PrintLast Go.Proofs.YtcjachhdoogbaaaW.PrintMore
attribute [local go_sem] max2_int min2_int max_two min_two max_three min_three max_four min_four   -- for this text's walks alone
set_option linter.unusedVariables false
set_option linter.unusedSimpArgs false

abbrev ckq0 : Array Bool := #[false, false, false, false, false, false, false, false, false, false, false, false, false, false, false, false, false, false, false, false, false, false, false, false, false, false, false, false, false, false, false, false, false, false, false, false, false, false, false, false, false, false, false, false, false, false, false, false]
abbrev ckq1 : Array Bool := #[true, false, false, false, false, false, false, false, false, false, false, false, false, false, false, false, false, false, false, false, false, false, false, false, false, false, false, false, false, false, false, false, false, false, false, false, false, false, false, false, false, false, false, false, false, false, false, false]
abbrev ckq2 : Array Bool := #[true, true, false, false, false, false, false, false, false, false, false, false, false, false, false, false, false, false, false, false, false, false, false, false, false, false, false, false, false, false, false, false, false, false, false, false, false, false, false, false, false, false, false, false, false, false, false, false]
abbrev ckq3 : Array Bool := #[true, true, true, false, false, false, false, false, false, false, false, false, false, false, false, false, false, false, false, false, false, false, false, false, false, false, false, false, false, false, false, false, false, false, false, false, false, false, false, false, false, false, false, false, false, false, false, false]
abbrev ckq4 : Array Bool := #[true, true, true, true, false, false, false, false, false, false, false, false, false, false, false, false, false, false, false, false, false, false, false, false, false, false, false, false, false, false, false, false, false, false, false, false, false, false, false, false, false, false, false, false, false, false, false, false]
abbrev ckq5 : Array Bool := #[true, true, true, true, true, false, false, false, false, false, false, false, false, false, false, false, false, false, false, false, false, false, false, false, false, false, false, false, false, false, false, false, false, false, false, false, false, false, false, false, false, false, false, false, false, false, false, false]
abbrev ckq6 : Array Bool := #[true, true, true, true, true, true, false, false, false, false, false, false, false, false, false, false, false, false, false, false, false, false, false, false, false, false, false, false, false, false, false, false, false, false, false, false, false, false, false, false, false, false, false, false, false, false, false, false]
abbrev ckq7 : Array Bool := #[true, true, true, true, true, true, true, false, false, false, false, false, false, false, false, false, false, false, false, false, false, false, false, false, false, false, false, false, false, false, false, false, false, false, false, false, false, false, false, false, false, false, false, false, false, false, false, false]
abbrev ckq8 : Array Bool := #[true, true, true, true, true, true, true, true, false, false, false, false, false, false, false, false, false, false, false, false, false, false, false, false, false, false, false, false, false, false, false, false, false, false, false, false, false, false, false, false, false, false, false, false, false, false, false, false]
abbrev ckq9 : Array Bool := #[true, true, true, true, true, true, true, true, true, false, false, false, false, false, false, false, false, false, false, false, false, false, false, false, false, false, false, false, false, false, false, false, false, false, false, false, false, false, false, false, false, false, false, false, false, false, false, false]
abbrev ckq10 : Array Bool := #[true, true, true, true, true, true, true, true, true, true, false, false, false, false, false, false, false, false, false, false, false, false, false, false, false, false, false, false, false, false, false, false, false, false, false, false, false, false, false, false, false, false, false, false, false, false, false, false]
abbrev ckq11 : Array Bool := #[true, true, true, true, true, true, true, true, true, true, true, false, false, false, false, false, false, false, false, false, false, false, false, false, false, false, false, false, false, false, false, false, false, false, false, false, false, false, false, false, false, false, false, false, false, false, false, false]
abbrev ckq12 : Array Bool := #[true, true, true, true, true, true, true, true, true, true, true, true, false, false, false, false, false, false, false, false, false, false, false, false, false, false, false, false, false, false, false, false, false, false, false, false, false, false, false, false, false, false, false, false, false, false, false, false]
abbrev ckq13 : Array Bool := #[true, true, true, true, true, true, true, true, true, true, true, true, true, false, false, false, false, false, false, false, false, false, false, false, false, false, false, false, false, false, false, false, false, false, false, false, false, false, false, false, false, false, false, false, false, false, false, false]
abbrev ckq14 : Array Bool := #[true, true, true, true, true, true, true, true, true, true, true, true, true, true, false, false, false, false, false, false, false, false, false, false, false, false, false, false, false, false, false, false, false, false, false, false, false, false, false, false, false, false, false, false, false, false, false, false]
abbrev ckq15 : Array Bool := #[true, true, true, true, true, true, true, true, true, true, true, true, true, true, true, false, false, false, false, false, false, false, false, false, false, false, false, false, false, false, false, false, false, false, false, false, false, false, false, false, false, false, false, false, false, false, false, false]
abbrev ckq16 : Array Bool := #[true, true, true, true, true, true, true, true, true, true, true, true, true, true, true, true, false, false, false, false, false, false, false, false, false, false, false, false, false, false, false, false, false, false, false, false, false, false, false, false, false, false, false, false, false, false, false, false]
abbrev ckq17 : Array Bool := #[true, true, true, true, true, true, true, true, true, true, true, true, true, true, true, true, true, false, false, false, false, false, false, false, false, false, false, false, false, false, false, false, false, false, false, false, false, false, false, false, false, false, false, false, false, false, false, false]
abbrev ckq18 : Array Bool := #[true, true, true, true, true, true, true, true, true, true, true, true, true, true, true, true, true, true, false, false, false, false, false, false, false, false, false, false, false, false, false, false, false, false, false, false, false, false, false, false, false, false, false, false, false, false, false, false]
abbrev ckq19 : Array Bool := #[true, true, true, true, true, true, true, true, true, true, true, true, true, true, true, true, true, true, true, false, false, false, false, false, false, false, false, false, false, false, false, false, false, false, false, false, false, false, false, false, false, false, false, false, false, false, false, false]
abbrev ckq20 : Array Bool := #[true, true, true, true, true, true, true, true, true, true, true, true, true, true, true, true, true, true, true, true, false, false, false, false, false, false, false, false, false, false, false, false, false, false, false, false, false, false, false, false, false, false, false, false, false, false, false, false]
abbrev ckq21 : Array Bool := #[true, true, true, true, true, true, true, true, true, true, true, true, true, true, true, true, true, true, true, true, true, false, false, false, false, false, false, false, false, false, false, false, false, false, false, false, false, false, false, false, false, false, false, false, false, false, false, false]
abbrev ckq22 : Array Bool := #[true, true, true, true, true, true, true, true, true, true, true, true, true, true, true, true, true, true, true, true, true, false, true, false, false, false, false, false, false, false, false, false, false, false, false, false, false, false, false, false, false, false, false, false, false, false, false, false]
abbrev ckq23 : Array Bool := #[true, true, true, true, true, true, true, true, true, true, true, true, true, true, true, true, true, true, true, true, true, false, true, true, false, false, false, false, false, false, false, false, false, false, false, false, false, false, false, false, false, false, false, false, false, false, false, false]
abbrev ckq24 : Array Bool := #[true, true, true, true, true, true, true, true, true, true, true, true, true, true, true, true, true, true, true, true, true, false, true, true, true, false, false, false, false, false, false, false, false, false, false, false, false, false, false, false, false, false, false, false, false, false, false, false]
abbrev ckq25 : Array Bool := #[true, true, true, true, true, true, true, true, true, true, true, true, true, true, true, true, true, true, true, true, true, false, true, true, true, true, false, false, false, false, false, false, false, false, false, false, false, false, false, false, false, false, false, false, false, false, false, false]
abbrev ckq26 : Array Bool := #[true, true, true, true, true, true, true, true, true, true, true, true, true, true, true, true, true, true, true, true, true, true, true, true, true, true, false, false, false, false, false, false, false, false, false, false, false, false, false, false, false, false, false, false, false, false, false, false]
abbrev ckq27 : Array Bool := #[true, true, true, true, true, true, true, true, true, true, true, true, true, true, true, true, true, true, true, true, true, true, true, true, true, true, true, false, false, false, false, false, false, false, false, false, false, false, false, false, false, false, false, false, false, false, false, false]
abbrev ckq28 : Array Bool := #[true, true, true, true, true, true, true, true, true, true, true, true, true, true, true, true, true, true, true, true, true, true, true, true, true, true, true, true, false, false, false, false, false, false, false, false, false, false, false, false, false, false, false, false, false, false, false, false]
abbrev ckq29 : Array Bool := #[true, true, true, true, true, true, true, true, true, true, true, true, true, true, true, true, true, true, true, true, true, true, true, true, true, true, true, true, true, false, false, false, false, false, false, false, false, false, false, false, false, false, false, false, false, false, false, false]
abbrev ckq30 : Array Bool := #[true, true, true, true, true, true, true, true, true, true, true, true, true, true, true, true, true, true, true, true, true, true, true, true, true, true, true, true, true, true, false, false, false, false, false, false, false, false, false, false, false, false, false, false, false, false, false, false]
abbrev ckq31 : Array Bool := #[true, true, true, true, true, true, true, true, true, true, true, true, true, true, true, true, true, true, true, true, true, true, true, true, true, true, true, true, true, true, true, false, false, false, false, false, false, false, false, false, false, false, false, false, false, false, false, false]
abbrev ckq32 : Array Bool := #[true, true, true, true, true, true, true, true, true, true, true, true, true, true, true, true, true, true, true, true, true, true, true, true, true, true, true, true, true, true, true, true, false, false, false, false, false, false, false, false, false, false, false, false, false, false, false, false]
abbrev ckq33 : Array Bool := #[true, true, true, true, true, true, true, true, true, true, true, true, true, true, true, true, true, true, true, true, true, true, true, true, true, true, true, true, true, true, true, true, true, false, false, false, false, false, false, false, false, false, false, false, false, false, false, false]
abbrev ckq34 : Array Bool := #[true, true, true, true, true, true, true, true, true, true, true, true, true, true, true, true, true, true, true, true, true, true, true, true, true, true, true, true, true, true, true, true, true, true, false, false, false, false, false, false, false, false, false, false, false, false, false, false]
abbrev ckq35 : Array Bool := #[true, true, true, true, true, true, true, true, true, true, true, true, true, true, true, true, true, true, true, true, true, true, true, true, true, true, true, true, true, true, true, true, true, true, true, false, false, false, false, false, false, false, false, false, false, false, false, false]
abbrev ckq36 : Array Bool := #[true, true, true, true, true, true, true, true, true, true, true, true, true, true, true, true, true, true, true, true, true, true, true, true, true, true, true, true, true, true, true, true, true, true, true, true, false, false, false, false, false, false, false, false, false, false, false, false]
abbrev ckq37 : Array Bool := #[true, true, true, true, true, true, true, true, true, true, true, true, true, true, true, true, true, true, true, true, true, true, true, true, true, true, true, true, true, true, true, true, true, true, true, true, true, false, false, false, false, false, false, false, false, false, false, false]
abbrev ckq38 : Array Bool := #[true, true, true, true, true, true, true, true, true, true, true, true, true, true, true, true, true, true, true, true, true, true, true, true, true, true, true, true, true, true, true, true, true, true, true, true, true, true, false, false, false, false, false, false, false, false, false, false]
abbrev ckq39 : Array Bool := #[true, true, true, true, true, true, true, true, true, true, true, true, true, true, true, true, true, true, true, true, true, true, true, true, true, true, true, true, true, true, true, true, true, true, true, true, true, true, true, false, false, false, false, false, false, false, false, false]
abbrev ckq40 : Array Bool := #[true, true, true, true, true, true, true, true, true, true, true, true, true, true, true, true, true, true, true, true, true, true, true, true, true, true, true, true, true, true, true, true, true, true, true, true, true, true, true, true, false, false, false, false, false, false, false, false]
abbrev ckq41 : Array Bool := #[true, true, true, true, true, true, true, true, true, true, true, true, true, true, true, true, true, true, true, true, true, true, true, true, true, true, true, true, true, true, true, true, true, true, true, true, true, true, true, true, true, false, false, false, false, false, false, false]
abbrev ckq42 : Array Bool := #[true, true, true, true, true, true, true, true, true, true, true, true, true, true, true, true, true, true, true, true, true, true, true, true, true, true, true, true, true, true, true, true, true, true, true, true, true, true, true, true, true, true, false, false, false, false, false, false]
abbrev ckq43 : Array Bool := #[true, true, true, true, true, true, true, true, true, true, true, true, true, true, true, true, true, true, true, true, true, true, true, true, true, true, true, true, true, true, true, true, true, true, true, true, true, true, true, true, true, true, true, false, false, false, false, false]
abbrev ckq44 : Array Bool := #[true, true, true, true, true, true, true, true, true, true, true, true, true, true, true, true, true, true, true, true, true, true, true, true, true, true, true, true, true, true, true, true, true, true, true, true, true, true, true, true, true, true, true, true, false, false, false, false]
abbrev ckq45 : Array Bool := #[true, true, true, true, true, true, true, true, true, true, true, true, true, true, true, true, true, true, true, true, true, true, true, true, true, true, true, true, true, true, true, true, true, true, true, true, true, true, true, true, true, true, true, true, true, false, false, false]
abbrev ckq46 : Array Bool := #[true, true, true, true, true, true, true, true, true, true, true, true, true, true, true, true, true, true, true, true, true, true, true, true, true, true, true, true, true, true, true, true, true, true, true, true, true, true, true, true, true, true, true, true, true, true, false, false]
abbrev ckq47 : Array Bool := #[true, true, true, true, true, true, true, true, true, true, true, true, true, true, true, true, true, true, true, true, true, true, true, true, true, true, true, true, true, true, true, true, true, true, true, true, true, true, true, true, true, true, true, true, true, true, true, false]
abbrev ckq48 : Array Bool := #[true, true, true, true, true, true, true, true, true, true, true, true, true, true, true, true, true, true, true, true, true, true, true, true, true, true, true, true, true, true, true, true, true, true, true, true, true, true, true, true, true, true, true, true, true, true, true, true]
abbrev ckq49 : Array Bool := #[true, true, true, true, true, true, true, true, true, true, true, true, true, true, true, true, true, true, true, true, true, true, true, true, true, true, true, true, true, true, true, true, true, true, true, true, true, false, true, false, false, false, false, false, false, false, false, false]
abbrev ckq50 : Array Bool := #[true, true, true, true, true, true, true, true, true, true, true, true, true, true, true, true, true, true, true, true, true, true, true, true, true, true, true, true, true, true, true, true, true, true, true, true, true, false, true, true, false, false, false, false, false, false, false, false]
abbrev ckq51 : Array Bool := #[true, true, true, true, true, true, true, true, true, true, true, true, true, true, true, true, true, true, true, true, true, true, true, true, true, true, true, true, true, true, true, true, true, true, true, true, true, false, true, true, true, false, false, false, false, false, false, false]
abbrev ckq52 : Array Bool := #[true, true, true, true, true, true, true, true, true, true, true, true, true, true, true, true, true, true, true, true, true, true, true, true, true, true, true, true, true, true, true, true, true, true, true, true, true, false, true, true, true, true, false, false, false, false, false, false]
abbrev ckq53 : Array Bool := #[true, true, true, true, true, true, true, true, true, true, true, true, true, true, true, true, true, true, true, true, true, true, true, true, true, true, true, true, true, true, true, true, true, true, true, true, true, false, true, true, true, true, true, false, false, false, false, false]
abbrev ckq54 : Array Bool := #[false, false, false, false, false, false, false, false, false, false, false, false, false, false, false]
abbrev ckq55 : Array Bool := #[true, false, false, false, false, false, false, false, false, false, false, false, false, false, false]
abbrev ckq56 : Array Bool := #[true, true, false, false, false, false, false, false, false, false, false, false, false, false, false]
abbrev ckq57 : Array Bool := #[true, true, true, false, false, false, false, false, false, false, false, false, false, false, false]
abbrev ckq58 : Array Bool := #[true, true, true, true, false, false, false, false, false, false, false, false, false, false, false]
abbrev ckq59 : Array Bool := #[true, true, true, true, true, false, false, false, false, false, false, false, false, false, false]
abbrev ckq60 : Array Bool := #[true, true, true, true, true, false, true, false, false, false, false, false, false, false, false]
abbrev ckq61 : Array Bool := #[true, true, true, true, true, false, true, true, false, false, false, false, false, false, false]
abbrev ckq62 : Array Bool := #[true, true, true, true, true, false, true, true, true, false, false, false, false, false, false]
abbrev ckq63 : Array Bool := #[true, true, true, true, true, false, true, true, true, true, false, false, false, false, false]
abbrev ckq64 : Array Bool := #[true, true, true, true, true, true, true, true, true, true, false, false, false, false, false]
abbrev ckq65 : Array Bool := #[true, true, true, true, true, true, true, true, true, true, true, false, false, false, false]
abbrev ckq66 : Array Bool := #[true, true, true, true, true, true, true, true, true, true, true, true, false, false, false]
abbrev ckq67 : Array Bool := #[true, true, true, true, true, true, true, true, true, true, true, true, true, false, false]
abbrev ckq68 : Array Bool := #[true, true, true, true, true, true, true, true, true, true, true, true, true, true, false]
abbrev ckq69 : Array Bool := #[true, true, true, true, true, true, true, true, true, true, true, true, true, true, true]
abbrev ckq70 : Array Bool := #[true, true, true, true, true, true, true, true, true, true, true, true, true, true, true, true, true, true, true, true, true, true, false, false, false, false, false, false, false, false, false, false, false, false, false, false, false, false, false, false, false, false, false, false, false, false, false, false]
abbrev ckq71 : Array Bool := #[true, true, true, true, true, true, true, true, true, true, true, true, true, true, true, true, true, true, true, true, true, true, true, false, false, false, false, false, false, false, false, false, false, false, false, false, false, false, false, false, false, false, false, false, false, false, false, false]
abbrev ckq72 : Array Bool := #[true, true, true, true, true, true, true, true, true, true, true, true, true, true, true, true, true, true, true, true, true, true, true, true, false, false, false, false, false, false, false, false, false, false, false, false, false, false, false, false, false, false, false, false, false, false, false, false]
abbrev ckq73 : Array Bool := #[true, true, true, true, true, true, true, true, true, true, true, true, true, true, true, true, true, true, true, true, true, true, true, true, true, false, false, false, false, false, false, false, false, false, false, false, false, false, false, false, false, false, false, false, false, false, false, false]
theorem cksa {α : Type} (l : List α) (i : Nat) (a : α) : l.toArray.setIfInBounds i a = (l.set i a).toArray := by simp
theorem cksz {α : Type} {l : List α} {a b : α} : (a :: l).set 0 b = b :: l := by simp
theorem ckss {α : Type} {l : List α} {i : Nat} {a b : α} : (a :: l).set (i + 1) b = a :: l.set i b := by simp
/-! ### r2Check: function 41 -/
def r2Check.l0 : Nat → List (S62) → Int → Int → Option (Int)
  | 0, _, _, _ => none
  | k + 1, x0, x3, x4 => if x4 < (x0.length : Int) then (if 0 ≤ x4 then ((secateurref02_Value.f ((rd_T62 x0 x4).f0)).bind fun t243 => (if t243 = true then ((secateurref02_Value.f ((rd_T62 x0 x4).f1)).bind fun t245 => (if t245 = true then (if ((rd_T62 x0 x4).f0) > ((rd_T62 x0 x4).f1) then (some 20) else (if x4 > 0 then (if 0 ≤ (wrap64 (x4 - 1)) then (if (wrap64 (x4 - 1)) < (x0.length : Int) then (if (wrap64 (((rd_T62 x0 x4).f0) - ((rd_T62 x0 (wrap64 (x4 - 1))).f1))) < 2 then (some 20) else (r2Check.l0 k x0 (wrap64 (x3 + (wrap64 ((wrap64 (((rd_T62 x0 x4).f1) - ((rd_T62 x0 x4).f0))) + 1)))) (wrap64 (x4 + 1)))) else (none)) else (none)) else (r2Check.l0 k x0 (wrap64 (x3 + (wrap64 ((wrap64 (((rd_T62 x0 x4).f1) - ((rd_T62 x0 x4).f0))) + 1)))) (wrap64 (x4 + 1))))) else (some 20))) else (some 20))) else (none)) else (if x3 > 4096 then (some 2) else (some 0))
def r2Check.f (k : Nat) (l0 : List (S62)) : Option (Int) := r2Check.l0 k l0 0 0
theorem r2Check.mono_l : ∀ k, (∀ y0 y1 y2, LeO (r2Check.l0 k y0 y1 y2) (r2Check.l0 (k + 1) y0 y1 y2))
  | 0 => fun _ _ _ r h => by simp [r2Check.l0] at h
  | k + 1 => by
    have ih0 := r2Check.mono_l k
    · intro y0 y1 y2
      unfold r2Check.l0
      repeat' first
      | (with_reducible exact ih0 _ _ _)
      | (with_reducible exact LeO.refl _)
      | (with_reducible exact LeO.none _)
      | (with_reducible refine LeO.ite ?_ ?_)
      | (with_reducible refine LeO.bind ?_ (fun _ => ?_))
      | exact ih0 _ _ _
      | exact LeO.none _
      | refine LeO.ite ?_ ?_
      | refine LeO.bind ?_ (fun _ => ?_)
theorem r2Check.mono : ∀ a0 k, LeO (r2Check.f k a0) (r2Check.f (k + 1) a0) := by
  intro a0 k
  have ih0 := r2Check.mono_l k
  unfold r2Check.f
  repeat' first
      | (with_reducible exact ih0 _ _ _)
      | (with_reducible exact LeO.refl _)
      | (with_reducible exact LeO.none _)
      | (with_reducible refine LeO.ite ?_ ?_)
      | (with_reducible refine LeO.bind ?_ (fun _ => ?_))
      | exact ih0 _ _ _
      | exact LeO.none _
      | refine LeO.ite ?_ ?_
      | refine LeO.bind ?_ (fun _ => ?_)
def r2Check.T5 : Bool × List (List Nat × List Nat) := (true, [([], []), ([], []), ([0, 1], [0, 1]), ([2], [2]), ([3], [3]), ([4], [4]), ([5], [5]), ([6, 5], [6]), ([7], [7]), ([7], [7]), ([8, 9, 7], [7, 8, 9]), ([10, 7], [7, 10]), ([11, 7], [7, 11]), ([12, 7, 7], [7, 12]), ([13, 7], [7, 13]), ([7, 14], [7, 14]), ([15, 13], [15]), ([16], [16]), ([16], [16]), ([17, 18, 16], [16, 17, 18]), ([19, 16], [16, 19]), ([20, 16], [16, 20]), ([16], [16]), ([16], [16]), ([22, 23, 16], [16, 22, 23]), ([24, 16], [16, 24]), ([25, 16], [16, 25]), ([21, 26, 16], [16, 21, 26]), ([16, 27], [16, 27]), ([28, 16], [28]), ([29], [29]), ([30, 29], [29, 30]), ([31, 29, 29], [29, 31]), ([32], [32]), ([32], [32]), ([33, 34, 32], [32, 33, 34]), ([35, 32], [32, 35]), ([36, 32], [32, 36]), ([32], [32]), ([32], [32]), ([39, 32], [32, 39]), ([38, 40, 32], [32, 38, 40]), ([41, 32], [32, 41]), ([42, 32], [32, 42]), ([37, 43, 32], [32, 37, 43]), ([44, 32], [32, 44]), ([32, 45, 29], [29, 32, 45]), ([29, 46], [29, 46])])
def r2Check.B5 : List Nat := [0, 0, 3, 7, 15, 31, 63, 127, 255, 255, 1023, 2047, 4095, 8191, 16383, 32767, 65535, 131071, 131071, 524287, 1048575, 2097151, 131071, 131071, 12713983, 29491199, 63045631, 134217727, 268435455, 536870911, 1073741823, 2147483647, 4294967295, 8589934591, 8589934591, 34359738367, 68719476735, 137438953471, 8589934591, 8589934591, 558345748479, 1932735283199, 4131758538751, 8529805049855, 17592186044415, 35184372088831, 70368744177663, 140737488355327]
theorem r2Check.tab5 : rtab .any (opsOf Try.f41 5) = r2Check.T5 := by kernel_rfl
theorem r2Check.bits5 : waitsOk r2Check.T5.2 r2Check.B5 = true := by kernel_rfl
def r2Check.T7 : Bool × List (List Nat × List Nat) := (true, [([], []), ([], []), ([], []), ([1, 2], [1, 2]), ([3], [3]), ([4], [4]), ([], []), ([], []), ([6, 7], [6, 7]), ([8], [8]), ([9], [9]), ([5, 10], [5, 10]), ([11], [11]), ([0, 12], [0, 12]), ([13, 0, 1, 2, 3, 4, 5, 6, 7, 8, 9, 10, 11, 12, 13], [0, 13])])
def r2Check.B7 : List Nat := [0, 0, 0, 6, 14, 30, 0, 0, 192, 448, 960, 2046, 4094, 8191, 16383]
theorem r2Check.tab7 : rtab .any (opsOf Try.f41 7) = r2Check.T7 := by kernel_rfl
theorem r2Check.bits7 : waitsOk r2Check.T7.2 r2Check.B7 = true := by kernel_rfl
set_option maxHeartbeats 8000000 in
set_option maxRecDepth 100000 in
theorem r2Check.calls (k : Nat) (A0 : Option Addr) (c0 : Nat) (l0 : List (S62)) (r : Int) (w : World) (hr0 : Kd.C k62 w A0 l0.length l0) (hc0 : l0.length ≤ c0) (h : r2Check.f k l0 = some r) :
    Calls Try.prog 41 #[.slice A0 l0.length c0] w fun e w' => e = .returned (.int .i64 r) ∧ Below w.heap.size w w' := by
  have HR0 := Aside0.mk hr0
  have HC0 := Aside0.mk hc0
  clear hr0 hc0
  have HB := Aside0.mk (Below.refl w.heap.size w)
  have H : (r2Check.l0 k l0 0 0) = some r := h
  clear h
  have H' := Aside0.mk H
  clear H
  go_enter Try.func41, Try.ntmps41
  go_wp2
  go_loopg [3, 4] k (fun kq v3 v4 w' => ∃ (x3_1 : Int) (x4_1 : Int), v3 = .int .i64 x3_1 ∧ v4 = .int .i64 x4_1 ∧ Aside0 (r2Check.l0 kq l0 x3_1 x4_1 = some r) ∧ Aside0 (kq ≤ k) ∧ Aside0 (Below w.heap.size w w'))
  case atStart => exact ⟨(0), (0), (by first | rfl | (simp; done) | (simp [*]; done)), (by first | rfl | (simp; done) | (simp [*]; done)), H', ⟨Nat.le_refl _⟩, ⟨by repeat (first | (with_reducible first | exact HB.out | apply below_alloc | apply pw_below_drewN | apply below_drew1) | exact HB.out)⟩⟩
  case round =>
    clear H'
    obtain ⟨x3_1, x4_1, rfl, rfl, HA, HK1, HB⟩ := hrel
    cases gk with
    | zero => exact absurd HA.out (by simp [r2Check.l0])
    | succ k1 =>
      have H := HA.out
      clear HA
      simp only [r2Check.l0] at H
      by_cases c2 : x4_1 < (l0.length : Int)
      · rw [if_pos c2] at H
        have c2b0 : decide (x4_1 < (l0.length : Int)) = true := decide_eq_true c2
        clear c2
        by_cases c3 : 0 ≤ x4_1
        · rw [if_pos c3] at H
          have c3b0 : decide (0 ≤ x4_1) = true := decide_eq_true c3
          clear c3
          replace H := Option.bind_eq_some_iff.mp H
          obtain ⟨t243, A40, H⟩ := H
          replace H : (if t243 = true then ((secateurref02_Value.f ((rd_T62 l0 x4_1).f1)).bind fun t245 => (if t245 = true then (if ((rd_T62 l0 x4_1).f0) > ((rd_T62 l0 x4_1).f1) then (some 20) else (if x4_1 > 0 then (if 0 ≤ (wrap64 (x4_1 - 1)) then (if (wrap64 (x4_1 - 1)) < (l0.length : Int) then (if (wrap64 (((rd_T62 l0 x4_1).f0) - ((rd_T62 l0 (wrap64 (x4_1 - 1))).f1))) < 2 then (some 20) else (r2Check.l0 k1 l0 (wrap64 (x3_1 + (wrap64 ((wrap64 (((rd_T62 l0 x4_1).f1) - ((rd_T62 l0 x4_1).f0))) + 1)))) (wrap64 (x4_1 + 1)))) else (none)) else (none)) else (r2Check.l0 k1 l0 (wrap64 (x3_1 + (wrap64 ((wrap64 (((rd_T62 l0 x4_1).f1) - ((rd_T62 l0 x4_1).f0))) + 1)))) (wrap64 (x4_1 + 1))))) else (some 20))) else (some 20)) = some r := H
          have A4 := Aside0.mk A40
          clear A40
          by_cases c5 : t243 = true
          · subst c5
            have H1 : ((secateurref02_Value.f ((rd_T62 l0 x4_1).f1)).bind fun t245 => (if t245 = true then (if ((rd_T62 l0 x4_1).f0) > ((rd_T62 l0 x4_1).f1) then (some 20) else (if x4_1 > 0 then (if 0 ≤ (wrap64 (x4_1 - 1)) then (if (wrap64 (x4_1 - 1)) < (l0.length : Int) then (if (wrap64 (((rd_T62 l0 x4_1).f0) - ((rd_T62 l0 (wrap64 (x4_1 - 1))).f1))) < 2 then (some 20) else (r2Check.l0 k1 l0 (wrap64 (x3_1 + (wrap64 ((wrap64 (((rd_T62 l0 x4_1).f1) - ((rd_T62 l0 x4_1).f0))) + 1)))) (wrap64 (x4_1 + 1)))) else (none)) else (none)) else (r2Check.l0 k1 l0 (wrap64 (x3_1 + (wrap64 ((wrap64 (((rd_T62 l0 x4_1).f1) - ((rd_T62 l0 x4_1).f0))) + 1)))) (wrap64 (x4_1 + 1))))) else (some 20))) = some r := by rw [if_pos rfl] at H; exact H
            clear H
            have H := H1
            clear H1
            replace H := Option.bind_eq_some_iff.mp H
            obtain ⟨t245, A60, H⟩ := H
            replace H : (if t245 = true then (if ((rd_T62 l0 x4_1).f0) > ((rd_T62 l0 x4_1).f1) then (some 20) else (if x4_1 > 0 then (if 0 ≤ (wrap64 (x4_1 - 1)) then (if (wrap64 (x4_1 - 1)) < (l0.length : Int) then (if (wrap64 (((rd_T62 l0 x4_1).f0) - ((rd_T62 l0 (wrap64 (x4_1 - 1))).f1))) < 2 then (some 20) else (r2Check.l0 k1 l0 (wrap64 (x3_1 + (wrap64 ((wrap64 (((rd_T62 l0 x4_1).f1) - ((rd_T62 l0 x4_1).f0))) + 1)))) (wrap64 (x4_1 + 1)))) else (none)) else (none)) else (r2Check.l0 k1 l0 (wrap64 (x3_1 + (wrap64 ((wrap64 (((rd_T62 l0 x4_1).f1) - ((rd_T62 l0 x4_1).f0))) + 1)))) (wrap64 (x4_1 + 1))))) else (some 20)) = some r := H
            have A6 := Aside0.mk A60
            clear A60
            by_cases c7 : t245 = true
            · subst c7
              have H1 : (if ((rd_T62 l0 x4_1).f0) > ((rd_T62 l0 x4_1).f1) then (some 20) else (if x4_1 > 0 then (if 0 ≤ (wrap64 (x4_1 - 1)) then (if (wrap64 (x4_1 - 1)) < (l0.length : Int) then (if (wrap64 (((rd_T62 l0 x4_1).f0) - ((rd_T62 l0 (wrap64 (x4_1 - 1))).f1))) < 2 then (some 20) else (r2Check.l0 k1 l0 (wrap64 (x3_1 + (wrap64 ((wrap64 (((rd_T62 l0 x4_1).f1) - ((rd_T62 l0 x4_1).f0))) + 1)))) (wrap64 (x4_1 + 1)))) else (none)) else (none)) else (r2Check.l0 k1 l0 (wrap64 (x3_1 + (wrap64 ((wrap64 (((rd_T62 l0 x4_1).f1) - ((rd_T62 l0 x4_1).f0))) + 1)))) (wrap64 (x4_1 + 1))))) = some r := by rw [if_pos rfl] at H; exact H
              clear H
              have H := H1
              clear H1
              by_cases c8 : ((rd_T62 l0 x4_1).f0) > ((rd_T62 l0 x4_1).f1)
              · rw [if_pos c8] at H
                have c8b0 : decide (((rd_T62 l0 x4_1).f1) < ((rd_T62 l0 x4_1).f0)) = true := decide_eq_true c8
                clear c8
                obtain rfl := Option.some.inj H
                try go_wp2
                have n0_ := Aside0.mk (below_drew1 HB.out)
                clear HB
                have HB := n0_
                clear n0_
                have p242 : 0 ≤ (x4_1 : Int) := of_decide_eq_true (by first | (with_reducible assumption) | assumption)
                have q242 : x4_1 < (l0.length : Int) := of_decide_eq_true (by first | (with_reducible assumption) | assumption)
                obtain ⟨ad242, e242, hx242_0, hx242_1⟩ := at_T62 HR0.out x4_1 p242 q242
                have hw242_1 := hx242_1
                have hw242_0 := hx242_0
                cases e242
                replace hx242_0 := (HB.out.cell (World.block_lt_of_cell? w _ hx242_0)).trans hx242_0
                replace hx242_1 := (HB.out.cell (World.block_lt_of_cell? w _ hx242_1)).trans hx242_1
                replace p242 := eq_true p242
                replace q242 := eq_true q242
                have p244 : 0 ≤ (x4_1 : Int) := of_decide_eq_true (by first | (with_reducible assumption) | assumption)
                have q244 : x4_1 < (l0.length : Int) := of_decide_eq_true (by first | (with_reducible assumption) | assumption)
                obtain ⟨ad244, e244, hx244_0, hx244_1⟩ := at_T62 HR0.out x4_1 p244 q244
                have hw244_1 := hx244_1
                have hw244_0 := hx244_0
                obtain rfl : ad242 = ad244 := (by injection e244)
                replace hx244_0 := (HB.out.cell (World.block_lt_of_cell? w _ hx244_0)).trans hx244_0
                replace hx244_1 := (HB.out.cell (World.block_lt_of_cell? w _ hx244_1)).trans hx244_1
                replace p244 := eq_true p244
                replace q244 := eq_true q244
                have p246 : 0 ≤ (x4_1 : Int) := of_decide_eq_true (by first | (with_reducible assumption) | assumption)
                have q246 : x4_1 < (l0.length : Int) := of_decide_eq_true (by first | (with_reducible assumption) | assumption)
                obtain ⟨ad246, e246, hx246_0, hx246_1⟩ := at_T62 HR0.out x4_1 p246 q246
                have hw246_1 := hx246_1
                have hw246_0 := hx246_0
                obtain rfl : ad242 = ad246 := (by injection e246)
                replace hx246_0 := (HB.out.cell (World.block_lt_of_cell? w _ hx246_0)).trans hx246_0
                replace hx246_1 := (HB.out.cell (World.block_lt_of_cell? w _ hx246_1)).trans hx246_1
                replace p246 := eq_true p246
                replace q246 := eq_true q246
                have p247 : 0 ≤ (x4_1 : Int) := of_decide_eq_true (by first | (with_reducible assumption) | assumption)
                have q247 : x4_1 < (l0.length : Int) := of_decide_eq_true (by first | (with_reducible assumption) | assumption)
                obtain ⟨ad247, e247, hx247_0, hx247_1⟩ := at_T62 HR0.out x4_1 p247 q247
                have hw247_1 := hx247_1
                have hw247_0 := hx247_0
                obtain rfl : ad242 = ad247 := (by injection e247)
                replace hx247_0 := (HB.out.cell (World.block_lt_of_cell? w _ hx247_0)).trans hx247_0
                replace hx247_1 := (HB.out.cell (World.block_lt_of_cell? w _ hx247_1)).trans hx247_1
                replace p247 := eq_true p247
                replace q247 := eq_true q247
                refine start_ (n := 48) (S := fun w' => w'.cell? (ad242.add ((x4_1).toNat * 2)) = some (.int .i64 ((rd_T62 l0 x4_1).f0)) ∧ w'.cell? ⟨(ad242.add ((x4_1).toNat * 2)).block, (ad242.add ((x4_1).toNat * 2)).off + 1, none⟩ = some (.int .i64 ((rd_T62 l0 x4_1).f1)) ∧ w'.cell? (ad242.add ((x4_1).toNat * 2)) = some (.int .i64 ((rd_T62 l0 x4_1).f0)) ∧ w'.cell? ⟨(ad242.add ((x4_1).toNat * 2)).block, (ad242.add ((x4_1).toNat * 2)).off + 1, none⟩ = some (.int .i64 ((rd_T62 l0 x4_1).f1)) ∧ w'.cell? (ad242.add ((x4_1).toNat * 2)) = some (.int .i64 ((rd_T62 l0 x4_1).f0)) ∧ w'.cell? ⟨(ad242.add ((x4_1).toNat * 2)).block, (ad242.add ((x4_1).toNat * 2)).off + 1, none⟩ = some (.int .i64 ((rd_T62 l0 x4_1).f1)) ∧ w'.cell? (ad242.add ((x4_1).toNat * 2)) = some (.int .i64 ((rd_T62 l0 x4_1).f0)) ∧ w'.cell? ⟨(ad242.add ((x4_1).toNat * 2)).block, (ad242.add ((x4_1).toNat * 2)).off + 1, none⟩ = some (.int .i64 ((rd_T62 l0 x4_1).f1))) (ds := []) ckq0 (by kernel_rfl) rfl rfl ⟨((HB.out.cell (World.block_lt_of_cell? w _ hw242_0)).trans hw242_0), ((HB.out.cell (World.block_lt_of_cell? w _ hw242_1)).trans hw242_1), ((HB.out.cell (World.block_lt_of_cell? w _ hw244_0)).trans hw244_0), ((HB.out.cell (World.block_lt_of_cell? w _ hw244_1)).trans hw244_1), ((HB.out.cell (World.block_lt_of_cell? w _ hw246_0)).trans hw246_0), ((HB.out.cell (World.block_lt_of_cell? w _ hw246_1)).trans hw246_1), ((HB.out.cell (World.block_lt_of_cell? w _ hw247_0)).trans hw247_0), ((HB.out.cell (World.block_lt_of_cell? w _ hw247_1)).trans hw247_1)⟩ (fun hHeld => ?_); refine with_tabW r2Check.tab5 r2Check.bits5 (fun HT_ HW_ => ?_)
                generalize wr.drew = w9 at HB hx242_0 hx242_1 hx244_0 hx244_1 hx246_0 hx246_1 hx247_0 hx247_1 hHeld ⊢
                refine pure_ (i := 0) (N := some 11) (v := ?_) (a' := ?_) ckq1 rfl rfl (any_of HT_.out (by kernel_rfl)) (fun _ _ _ h => h) (Or.inl ⟨by rfl, ?_⟩) ?_ ?_
                rotate_left; (· intro w'; go_simp; with_reducible rfl); rotate_left; (· simp only [Act.put, cksa, cksz, ckss, i64_w, i32_w]; rfl)
                refine pure_ (i := 1) (N := some 12) (v := ?_) (a' := ?_) ckq2 rfl rfl (any_of HT_.out (by kernel_rfl)) (fun _ _ _ h => h) (Or.inl ⟨by rfl, ?_⟩) ?_ ?_
                rotate_left; (· intro w'; go_simp; with_reducible rfl); rotate_left; (· simp only [Act.put, cksa, cksz, ckss, i64_w, i32_w]; rfl)
                refine pure_ (i := 2) (N := some 13) (v := ?_) (a' := ?_) ckq3 rfl rfl (any_of HT_.out (by kernel_rfl)) (fun _ _ _ h => h) (Or.inl ⟨by rfl, ?_⟩) ?_ ?_
                rotate_left; (· intro w'; go_simp; with_reducible rfl); rotate_left; (· simp only [Act.put, cksa, cksz, ckss, i64_w, i32_w]; rfl)
                refine pure_ (i := 3) (N := some 14) (v := ?_) (a' := ?_) ckq4 rfl rfl (any_of HT_.out (by kernel_rfl)) (fun _ _ _ h => h) (Or.inl ⟨by rfl, ?_⟩) ?_ ?_
                rotate_left; (· intro w'; go_simp; with_reducible rfl); rotate_left; (· simp only [Act.put, cksa, cksz, ckss, i64_w, i32_w]; rfl)
                refine take_ (i := 4) (N := some 15) (v := ?_) (a' := ?_) ckq5 rfl rfl (take_ofW HT_.out HW_.out (by kernel_rfl)) (fun _ _ _ h => h) (Or.inl ⟨by rfl, ?_⟩) hHeld ?_ ?_
                rotate_left; (· rintro w' ⟨s0, s1, s2, s3, s4, s5, s6, s7⟩; go_simp; with_reducible rfl); rotate_left; (· simp only [Act.put, cksa, cksz, ckss, i64_w, i32_w]; rfl)
                refine one_ (i := 5) (N := some 16) ckq6 rfl rfl (one_of HT_.out (by kernel_rfl)) (by decide) (fun K hK => ?_)
                refine goes_ Try.func48 (by kernel_rfl) rfl #[.int .i64 ((rd_T62 l0 x4_1).f0)] (by rfl) rfl rfl (by (try simp only [List.map_toArray, List.map_cons, List.map_nil]); first | done | rfl | (simp only [List.length_drop, List.length_take]; rfl)) ?_
                with_reducible refine (secateurref02_Value.calls ((rd_T62 l0 x4_1).f0) true _ A4.out).mono ?_
                rintro e w' ⟨rfl, ⟨nd, rfl⟩⟩
                refine ⟨_, rfl, ?_⟩
                refine hK.out _ _ ⟨((HB.out.cell (World.block_lt_of_cell? w _ hw242_0)).trans hw242_0), ((HB.out.cell (World.block_lt_of_cell? w _ hw242_1)).trans hw242_1), ((HB.out.cell (World.block_lt_of_cell? w _ hw244_0)).trans hw244_0), ((HB.out.cell (World.block_lt_of_cell? w _ hw244_1)).trans hw244_1), ((HB.out.cell (World.block_lt_of_cell? w _ hw246_0)).trans hw246_0), ((HB.out.cell (World.block_lt_of_cell? w _ hw246_1)).trans hw246_1), ((HB.out.cell (World.block_lt_of_cell? w _ hw247_0)).trans hw247_0), ((HB.out.cell (World.block_lt_of_cell? w _ hw247_1)).trans hw247_1)⟩ (fun hHeld => ?_)
                clear hK K
                refine norm_ (a' := ?_) ?_ ?_
                rotate_left
                · show Act.put _ (some 16) _ = _
                  simp only [Act.put, cksa, cksz, ckss, i64_w, i32_w]
                  rfl
                refine pure_ (i := 6) (N := some 17) (v := ?_) (a' := ?_) ckq7 rfl rfl (any_of HT_.out (by kernel_rfl)) (fun _ _ _ h => h) (Or.inl ⟨by rfl, ?_⟩) ?_ ?_
                rotate_left; (· intro w'; go_simp; with_reducible rfl); rotate_left; (· simp only [Act.put, cksa, cksz, ckss, i64_w, i32_w]; rfl)
                refine pure_ (i := 7) (N := some 18) (v := ?_) (a' := ?_) ckq8 rfl rfl (any_of HT_.out (by kernel_rfl)) (fun _ _ _ h => h) (Or.inl ⟨by rfl, ?_⟩) ?_ ?_
                rotate_left; (· intro w'; go_simp; with_reducible rfl); rotate_left; (· simp only [Act.put, cksa, cksz, ckss, i64_w, i32_w]; rfl)
                refine pure_ (i := 8) (N := some 19) (v := ?_) (a' := ?_) ckq9 rfl rfl (any_of HT_.out (by kernel_rfl)) (fun _ _ _ h => h) (Or.inl ⟨by rfl, ?_⟩) ?_ ?_
                rotate_left; (· intro w'; go_simp; with_reducible rfl); rotate_left; (· simp only [Act.put, cksa, cksz, ckss, i64_w, i32_w]; rfl)
                refine pure_ (i := 9) (N := some 20) (v := ?_) (a' := ?_) ckq10 rfl rfl (any_of HT_.out (by kernel_rfl)) (fun _ _ _ h => h) (Or.inl ⟨by rfl, ?_⟩) ?_ ?_
                rotate_left; (· intro w'; go_simp; with_reducible rfl); rotate_left; (· simp only [Act.put, cksa, cksz, ckss, i64_w, i32_w]; rfl)
                refine pure_ (i := 10) (N := some 21) (v := ?_) (a' := ?_) ckq11 rfl rfl (any_of HT_.out (by kernel_rfl)) (fun _ _ _ h => h) (Or.inl ⟨by rfl, ?_⟩) ?_ ?_
                rotate_left; (· intro w'; go_simp; with_reducible rfl); rotate_left; (· simp only [Act.put, cksa, cksz, ckss, i64_w, i32_w]; rfl)
                refine pure_ (i := 11) (N := some 22) (v := ?_) (a' := ?_) ckq12 rfl rfl (any_of HT_.out (by kernel_rfl)) (fun _ _ _ h => h) (Or.inl ⟨by rfl, ?_⟩) ?_ ?_
                rotate_left; (· intro w'; go_simp; with_reducible rfl); rotate_left; (· simp only [Act.put, cksa, cksz, ckss, i64_w, i32_w]; rfl)
                refine take_ (i := 12) (N := some 23) (v := ?_) (a' := ?_) ckq13 rfl rfl (take_ofW HT_.out HW_.out (by kernel_rfl)) (fun _ _ _ h => h) (Or.inl ⟨by rfl, ?_⟩) hHeld ?_ ?_
                rotate_left; (· rintro w' ⟨s0, s1, s2, s3, s4, s5, s6, s7⟩; go_simp; with_reducible rfl); rotate_left; (· simp only [Act.put, cksa, cksz, ckss, i64_w, i32_w]; rfl)
                refine one_ (i := 13) (N := some 24) ckq14 rfl rfl (one_of HT_.out (by kernel_rfl)) (by decide) (fun K hK => ?_)
                refine goes_ Try.func48 (by kernel_rfl) rfl #[.int .i64 ((rd_T62 l0 x4_1).f1)] (by rfl) rfl rfl (by (try simp only [List.map_toArray, List.map_cons, List.map_nil]); first | done | rfl | (simp only [List.length_drop, List.length_take]; rfl)) ?_
                with_reducible refine (secateurref02_Value.calls ((rd_T62 l0 x4_1).f1) true _ A6.out).mono ?_
                rintro e w' ⟨rfl, ⟨nd, rfl⟩⟩
                refine ⟨_, rfl, ?_⟩
                refine hK.out _ _ ⟨((HB.out.cell (World.block_lt_of_cell? w _ hw242_0)).trans hw242_0), ((HB.out.cell (World.block_lt_of_cell? w _ hw242_1)).trans hw242_1), ((HB.out.cell (World.block_lt_of_cell? w _ hw244_0)).trans hw244_0), ((HB.out.cell (World.block_lt_of_cell? w _ hw244_1)).trans hw244_1), ((HB.out.cell (World.block_lt_of_cell? w _ hw246_0)).trans hw246_0), ((HB.out.cell (World.block_lt_of_cell? w _ hw246_1)).trans hw246_1), ((HB.out.cell (World.block_lt_of_cell? w _ hw247_0)).trans hw247_0), ((HB.out.cell (World.block_lt_of_cell? w _ hw247_1)).trans hw247_1)⟩ (fun hHeld => ?_)
                clear hK K
                refine norm_ (a' := ?_) ?_ ?_
                rotate_left
                · show Act.put _ (some 24) _ = _
                  simp only [Act.put, cksa, cksz, ckss, i64_w, i32_w]
                  rfl
                refine pure_ (i := 14) (N := some 25) (v := ?_) (a' := ?_) ckq15 rfl rfl (any_of HT_.out (by kernel_rfl)) (fun _ _ _ h => h) (Or.inl ⟨by rfl, ?_⟩) ?_ ?_
                rotate_left; (· intro w'; go_simp; with_reducible rfl); rotate_left; (· simp only [Act.put, cksa, cksz, ckss, i64_w, i32_w]; rfl)
                refine pure_ (i := 15) (N := some 26) (v := ?_) (a' := ?_) ckq16 rfl rfl (any_of HT_.out (by kernel_rfl)) (fun _ _ _ h => h) (Or.inl ⟨by rfl, ?_⟩) ?_ ?_
                rotate_left; (· intro w'; go_simp; with_reducible rfl); rotate_left; (· simp only [Act.put, cksa, cksz, ckss, i64_w, i32_w]; rfl)
                refine pure_ (i := 16) (N := some 27) (v := ?_) (a' := ?_) ckq17 rfl rfl (any_of HT_.out (by kernel_rfl)) (fun _ _ _ h => h) (Or.inl ⟨by rfl, ?_⟩) ?_ ?_
                rotate_left; (· intro w'; go_simp; with_reducible rfl); rotate_left; (· simp only [Act.put, cksa, cksz, ckss, i64_w, i32_w]; rfl)
                refine pure_ (i := 17) (N := some 28) (v := ?_) (a' := ?_) ckq18 rfl rfl (any_of HT_.out (by kernel_rfl)) (fun _ _ _ h => h) (Or.inl ⟨by rfl, ?_⟩) ?_ ?_
                rotate_left; (· intro w'; go_simp; with_reducible rfl); rotate_left; (· simp only [Act.put, cksa, cksz, ckss, i64_w, i32_w]; rfl)
                refine pure_ (i := 18) (N := some 29) (v := ?_) (a' := ?_) ckq19 rfl rfl (any_of HT_.out (by kernel_rfl)) (fun _ _ _ h => h) (Or.inl ⟨by rfl, ?_⟩) ?_ ?_
                rotate_left; (· intro w'; go_simp; with_reducible rfl); rotate_left; (· simp only [Act.put, cksa, cksz, ckss, i64_w, i32_w]; rfl)
                refine pure_ (i := 19) (N := some 30) (v := ?_) (a' := ?_) ckq20 rfl rfl (any_of HT_.out (by kernel_rfl)) (fun _ _ _ h => h) (Or.inl ⟨by rfl, ?_⟩) ?_ ?_
                rotate_left; (· intro w'; go_simp; with_reducible rfl); rotate_left; (· simp only [Act.put, cksa, cksz, ckss, i64_w, i32_w]; rfl)
                refine pure_ (i := 20) (N := some 31) (v := ?_) (a' := ?_) ckq21 rfl rfl (any_of HT_.out (by kernel_rfl)) (fun _ _ _ h => h) (Or.inl ⟨by rfl, ?_⟩) ?_ ?_
                rotate_left; (· intro w'; go_simp; with_reducible rfl); rotate_left; (· simp only [Act.put, cksa, cksz, ckss, i64_w, i32_w]; rfl)
                refine pure_ (i := 22) (N := some 33) (v := ?_) (a' := ?_) ckq22 rfl rfl (any_of HT_.out (by kernel_rfl)) (fun _ _ _ h => h) (Or.inl ⟨by rfl, ?_⟩) ?_ ?_
                rotate_left; (· intro w'; go_simp; with_reducible rfl); rotate_left; (· simp only [Act.put, cksa, cksz, ckss, i64_w, i32_w]; rfl)
                refine pure_ (i := 23) (N := some 34) (v := ?_) (a' := ?_) ckq23 rfl rfl (any_of HT_.out (by kernel_rfl)) (fun _ _ _ h => h) (Or.inl ⟨by rfl, ?_⟩) ?_ ?_
                rotate_left; (· intro w'; go_simp; with_reducible rfl); rotate_left; (· simp only [Act.put, cksa, cksz, ckss, i64_w, i32_w]; rfl)
                refine pure_ (i := 24) (N := some 35) (v := ?_) (a' := ?_) ckq24 rfl rfl (any_of HT_.out (by kernel_rfl)) (fun _ _ _ h => h) (Or.inl ⟨by rfl, ?_⟩) ?_ ?_
                rotate_left; (· intro w'; go_simp; with_reducible rfl); rotate_left; (· simp only [Act.put, cksa, cksz, ckss, i64_w, i32_w]; rfl)
                refine pure_ (i := 25) (N := some 36) (v := ?_) (a' := ?_) ckq25 rfl rfl (any_of HT_.out (by kernel_rfl)) (fun _ _ _ h => h) (Or.inl ⟨by rfl, ?_⟩) ?_ ?_
                rotate_left; (· intro w'; go_simp; with_reducible rfl); rotate_left; (· simp only [Act.put, cksa, cksz, ckss, i64_w, i32_w]; rfl)
                refine take_ (i := 21) (N := some 32) (v := ?_) (a' := ?_) ckq26 rfl rfl (take_ofW HT_.out HW_.out (by kernel_rfl)) (fun _ _ _ h => h) (Or.inl ⟨by rfl, ?_⟩) hHeld ?_ ?_
                rotate_left; (· rintro w' ⟨s0, s1, s2, s3, s4, s5, s6, s7⟩; go_simp; with_reducible rfl); rotate_left; (· simp only [Act.put, cksa, cksz, ckss, i64_w, i32_w]; rfl)
                refine take_ (i := 26) (N := some 37) (v := ?_) (a' := ?_) ckq27 rfl rfl (take_ofW HT_.out HW_.out (by kernel_rfl)) (fun _ _ _ h => h) (Or.inl ⟨by rfl, ?_⟩) hHeld ?_ ?_
                rotate_left; (· rintro w' ⟨s0, s1, s2, s3, s4, s5, s6, s7⟩; go_simp; with_reducible rfl); rotate_left; (· simp only [Act.put, cksa, cksz, ckss, i64_w, i32_w]; rfl)
                refine pure_ (i := 27) (N := some 38) (v := ?_) (a' := ?_) ckq28 rfl rfl (any_of HT_.out (by kernel_rfl)) (fun _ _ _ h => h) (Or.inl ⟨by rfl, ?_⟩) ?_ ?_
                rotate_left; (· intro w'; go_simp; with_reducible rfl); rotate_left; (· simp only [Act.put, cksa, cksz, ckss, i64_w, i32_w]; rfl)
                refine pure_ (i := 28) (N := some 39) (v := ?_) (a' := ?_) ckq29 rfl rfl (any_of HT_.out (by kernel_rfl)) (fun _ _ _ h => h) (Or.inl ⟨by rfl, ?_⟩) ?_ ?_
                rotate_left; (· intro w'; go_simp; with_reducible rfl); rotate_left; (· simp only [Act.put, cksa, cksz, ckss, i64_w, i32_w]; rfl)
                refine pure_ (i := 29) (N := some 40) (v := ?_) (a' := ?_) ckq30 rfl rfl (any_of HT_.out (by kernel_rfl)) (fun _ _ _ h => h) (Or.inl ⟨by rfl, ?_⟩) ?_ ?_
                rotate_left; (· intro w'; go_simp; with_reducible rfl); rotate_left; (· simp only [Act.put, cksa, cksz, ckss, i64_w, i32_w]; rfl)
                refine pure_ (i := 30) (N := some 41) (v := undef) (a' := ?_) ckq31 rfl rfl (any_of HT_.out (by kernel_rfl)) (fun _ _ _ h => h) (Or.inr ⟨by rfl, rfl⟩) ?_ ?_
                rotate_left; (· simp only [Act.put, cksa, cksz, ckss, i64_w, i32_w]; rfl)
                refine pure_ (i := 31) (N := some 42) (v := undef) (a' := ?_) ckq32 rfl rfl (any_of HT_.out (by kernel_rfl)) (fun _ _ _ h => h) (Or.inr ⟨by rfl, rfl⟩) ?_ ?_
                rotate_left; (· simp only [Act.put, cksa, cksz, ckss, i64_w, i32_w]; rfl)
                refine pure_ (i := 32) (N := some 43) (v := undef) (a' := ?_) ckq33 rfl rfl (any_of HT_.out (by kernel_rfl)) (fun _ _ _ h => h) (Or.inr ⟨by rfl, rfl⟩) ?_ ?_
                rotate_left; (· simp only [Act.put, cksa, cksz, ckss, i64_w, i32_w]; rfl)
                refine pure_ (i := 33) (N := some 44) (v := undef) (a' := ?_) ckq34 rfl rfl (any_of HT_.out (by kernel_rfl)) (fun _ _ _ h => h) (Or.inr ⟨by rfl, rfl⟩) ?_ ?_
                rotate_left; (· simp only [Act.put, cksa, cksz, ckss, i64_w, i32_w]; rfl)
                refine pure_ (i := 34) (N := some 45) (v := undef) (a' := ?_) ckq35 rfl rfl (any_of HT_.out (by kernel_rfl)) (fun _ _ _ h => h) (Or.inr ⟨by rfl, rfl⟩) ?_ ?_
                rotate_left; (· simp only [Act.put, cksa, cksz, ckss, i64_w, i32_w]; rfl)
                refine pure_ (i := 35) (N := some 46) (v := undef) (a' := ?_) ckq36 rfl rfl (any_of HT_.out (by kernel_rfl)) (fun _ _ _ h => h) (Or.inr ⟨by rfl, rfl⟩) ?_ ?_
                rotate_left; (· simp only [Act.put, cksa, cksz, ckss, i64_w, i32_w]; rfl)
                refine pure_ (i := 36) (N := some 47) (v := undef) (a' := ?_) ckq37 rfl rfl (any_of HT_.out (by kernel_rfl)) (fun _ _ _ h => h) (Or.inr ⟨by rfl, rfl⟩) ?_ ?_
                rotate_left; (· simp only [Act.put, cksa, cksz, ckss, i64_w, i32_w]; rfl)
                refine pure_ (i := 37) (N := some 48) (v := undef) (a' := ?_) ckq38 rfl rfl (any_of HT_.out (by kernel_rfl)) (fun _ _ _ h => h) (Or.inr ⟨by rfl, rfl⟩) ?_ ?_
                rotate_left; (· simp only [Act.put, cksa, cksz, ckss, i64_w, i32_w]; rfl)
                refine pure_ (i := 38) (N := some 49) (v := undef) (a' := ?_) ckq39 rfl rfl (any_of HT_.out (by kernel_rfl)) (fun _ _ _ h => h) (Or.inr ⟨by rfl, rfl⟩) ?_ ?_
                rotate_left; (· simp only [Act.put, cksa, cksz, ckss, i64_w, i32_w]; rfl)
                refine pure_ (i := 39) (N := some 50) (v := undef) (a' := ?_) ckq40 rfl rfl (any_of HT_.out (by kernel_rfl)) (fun _ _ _ h => h) (Or.inr ⟨by rfl, rfl⟩) ?_ ?_
                rotate_left; (· simp only [Act.put, cksa, cksz, ckss, i64_w, i32_w]; rfl)
                refine pure_ (i := 40) (N := some 51) (v := undef) (a' := ?_) ckq41 rfl rfl (any_of HT_.out (by kernel_rfl)) (fun _ _ _ h => h) (Or.inr ⟨by rfl, rfl⟩) ?_ ?_
                rotate_left; (· simp only [Act.put, cksa, cksz, ckss, i64_w, i32_w]; rfl)
                refine pure_ (i := 41) (N := some 52) (v := undef) (a' := ?_) ckq42 rfl rfl (any_of HT_.out (by kernel_rfl)) (fun _ _ _ h => h) (Or.inr ⟨by rfl, rfl⟩) ?_ ?_
                rotate_left; (· simp only [Act.put, cksa, cksz, ckss, i64_w, i32_w]; rfl)
                refine pure_ (i := 42) (N := some 53) (v := undef) (a' := ?_) ckq43 rfl rfl (any_of HT_.out (by kernel_rfl)) (fun _ _ _ h => h) (Or.inr ⟨by rfl, rfl⟩) ?_ ?_
                rotate_left; (· simp only [Act.put, cksa, cksz, ckss, i64_w, i32_w]; rfl)
                refine pure_ (i := 43) (N := some 54) (v := undef) (a' := ?_) ckq44 rfl rfl (any_of HT_.out (by kernel_rfl)) (fun _ _ _ h => h) (Or.inr ⟨by rfl, rfl⟩) ?_ ?_
                rotate_left; (· simp only [Act.put, cksa, cksz, ckss, i64_w, i32_w]; rfl)
                refine pure_ (i := 44) (N := some 55) (v := undef) (a' := ?_) ckq45 rfl rfl (any_of HT_.out (by kernel_rfl)) (fun _ _ _ h => h) (Or.inr ⟨by rfl, rfl⟩) ?_ ?_
                rotate_left; (· simp only [Act.put, cksa, cksz, ckss, i64_w, i32_w]; rfl)
                refine pure_ (i := 45) (N := some 56) (v := undef) (a' := ?_) ckq46 rfl rfl (any_of HT_.out (by kernel_rfl)) (fun _ _ _ h => h) (Or.inr ⟨by rfl, rfl⟩) ?_ ?_
                rotate_left; (· simp only [Act.put, cksa, cksz, ckss, i64_w, i32_w]; rfl)
                refine pure_ (i := 46) (N := some 57) (v := undef) (a' := ?_) ckq47 rfl rfl (any_of HT_.out (by kernel_rfl)) (fun _ _ _ h => h) (Or.inr ⟨by rfl, rfl⟩) ?_ ?_
                rotate_left; (· simp only [Act.put, cksa, cksz, ckss, i64_w, i32_w]; rfl)
                refine pure_ (i := 47) (N := some 58) (v := ?_) (a' := ?_) ckq48 rfl rfl (any_of HT_.out (by kernel_rfl)) (fun _ _ _ h => h) (Or.inl ⟨by rfl, ?_⟩) ?_ ?_
                rotate_left; (· intro w'; go_simp; with_reducible rfl); rotate_left; (· simp only [Act.put, cksa, cksz, ckss, i64_w, i32_w]; rfl)
                refine done_ (done_of HT_.out (by kernel_rfl)) ?_
                try go_wp2
                go_ret
                exact ⟨by first | rfl | (simp [errW_none, errW_some] <;> rfl) | (simp [*, errW_none, errW_some] <;> rfl), by repeat (first | (with_reducible first | exact HB.out | apply below_alloc | apply pw_below_drewN | apply below_drew1) | exact HB.out)⟩
              · rw [if_neg c8] at H
                have c8b0 : decide (((rd_T62 l0 x4_1).f1) < ((rd_T62 l0 x4_1).f0)) = false := decide_eq_false c8
                clear c8
                by_cases c10 : x4_1 > 0
                · rw [if_pos c10] at H
                  have c10b0 : decide (0 < x4_1) = true := decide_eq_true c10
                  clear c10
                  obtain ⟨ji11, hji11⟩ : ∃ j_ : Int, (wrap64 (x4_1 - 1)) = j_ := ⟨_, rfl⟩
                  replace H : (if 0 ≤ (ji11) then (if (ji11) < (l0.length : Int) then (if (wrap64 (((rd_T62 l0 x4_1).f0) - ((rd_T62 l0 (ji11)).f1))) < 2 then (some 20) else (r2Check.l0 k1 l0 (wrap64 (x3_1 + (wrap64 ((wrap64 (((rd_T62 l0 x4_1).f1) - ((rd_T62 l0 x4_1).f0))) + 1)))) (wrap64 (x4_1 + 1)))) else (none)) else (none)) = some r := by first | (rw [hji11] at H; exact H) | (simp only [hji11] at H ⊢; exact H)
                  (try rw [hji11] at A4)
                  (try rw [hji11] at A6)
                  have hji11w : (IntKind.i64.wrap (x4_1 - 1)) = ji11 := (i64_w _).trans hji11
                  by_cases c12 : 0 ≤ (ji11)
                  · rw [if_pos c12] at H
                    have c12b0 : decide (0 ≤ (ji11)) = true := decide_eq_true c12
                    clear c12
                    by_cases c13 : (ji11) < (l0.length : Int)
                    · rw [if_pos c13] at H
                      have c13b0 : decide ((ji11) < (l0.length : Int)) = true := decide_eq_true c13
                      clear c13
                      by_cases c14 : (wrap64 (((rd_T62 l0 x4_1).f0) - ((rd_T62 l0 (ji11)).f1))) < 2
                      · rw [if_pos c14] at H
                        have c14b0 : decide ((wrap64 (((rd_T62 l0 x4_1).f0) - ((rd_T62 l0 (ji11)).f1))) < 2) = true := decide_eq_true c14
                        clear c14
                        obtain rfl := Option.some.inj H
                        try go_wp2
                        have n0_ := Aside0.mk (below_drew1 HB.out)
                        clear HB
                        have HB := n0_
                        clear n0_
                        have p242 : 0 ≤ (x4_1 : Int) := of_decide_eq_true (by first | (with_reducible assumption) | assumption)
                        have q242 : x4_1 < (l0.length : Int) := of_decide_eq_true (by first | (with_reducible assumption) | assumption)
                        obtain ⟨ad242, e242, hx242_0, hx242_1⟩ := at_T62 HR0.out x4_1 p242 q242
                        have hw242_1 := hx242_1
                        have hw242_0 := hx242_0
                        cases e242
                        replace hx242_0 := (HB.out.cell (World.block_lt_of_cell? w _ hx242_0)).trans hx242_0
                        replace hx242_1 := (HB.out.cell (World.block_lt_of_cell? w _ hx242_1)).trans hx242_1
                        replace p242 := eq_true p242
                        replace q242 := eq_true q242
                        have p244 : 0 ≤ (x4_1 : Int) := of_decide_eq_true (by first | (with_reducible assumption) | assumption)
                        have q244 : x4_1 < (l0.length : Int) := of_decide_eq_true (by first | (with_reducible assumption) | assumption)
                        obtain ⟨ad244, e244, hx244_0, hx244_1⟩ := at_T62 HR0.out x4_1 p244 q244
                        have hw244_1 := hx244_1
                        have hw244_0 := hx244_0
                        obtain rfl : ad242 = ad244 := (by injection e244)
                        replace hx244_0 := (HB.out.cell (World.block_lt_of_cell? w _ hx244_0)).trans hx244_0
                        replace hx244_1 := (HB.out.cell (World.block_lt_of_cell? w _ hx244_1)).trans hx244_1
                        replace p244 := eq_true p244
                        replace q244 := eq_true q244
                        have p246 : 0 ≤ (x4_1 : Int) := of_decide_eq_true (by first | (with_reducible assumption) | assumption)
                        have q246 : x4_1 < (l0.length : Int) := of_decide_eq_true (by first | (with_reducible assumption) | assumption)
                        obtain ⟨ad246, e246, hx246_0, hx246_1⟩ := at_T62 HR0.out x4_1 p246 q246
                        have hw246_1 := hx246_1
                        have hw246_0 := hx246_0
                        obtain rfl : ad242 = ad246 := (by injection e246)
                        replace hx246_0 := (HB.out.cell (World.block_lt_of_cell? w _ hx246_0)).trans hx246_0
                        replace hx246_1 := (HB.out.cell (World.block_lt_of_cell? w _ hx246_1)).trans hx246_1
                        replace p246 := eq_true p246
                        replace q246 := eq_true q246
                        have p247 : 0 ≤ (x4_1 : Int) := of_decide_eq_true (by first | (with_reducible assumption) | assumption)
                        have q247 : x4_1 < (l0.length : Int) := of_decide_eq_true (by first | (with_reducible assumption) | assumption)
                        obtain ⟨ad247, e247, hx247_0, hx247_1⟩ := at_T62 HR0.out x4_1 p247 q247
                        have hw247_1 := hx247_1
                        have hw247_0 := hx247_0
                        obtain rfl : ad242 = ad247 := (by injection e247)
                        replace hx247_0 := (HB.out.cell (World.block_lt_of_cell? w _ hx247_0)).trans hx247_0
                        replace hx247_1 := (HB.out.cell (World.block_lt_of_cell? w _ hx247_1)).trans hx247_1
                        replace p247 := eq_true p247
                        replace q247 := eq_true q247
                        have p248 : 0 ≤ (x4_1 : Int) := of_decide_eq_true (by first | (with_reducible assumption) | assumption)
                        have q248 : x4_1 < (l0.length : Int) := of_decide_eq_true (by first | (with_reducible assumption) | assumption)
                        obtain ⟨ad248, e248, hx248_0, hx248_1⟩ := at_T62 HR0.out x4_1 p248 q248
                        have hw248_1 := hx248_1
                        have hw248_0 := hx248_0
                        obtain rfl : ad242 = ad248 := (by injection e248)
                        replace hx248_0 := (HB.out.cell (World.block_lt_of_cell? w _ hx248_0)).trans hx248_0
                        replace hx248_1 := (HB.out.cell (World.block_lt_of_cell? w _ hx248_1)).trans hx248_1
                        replace p248 := eq_true p248
                        replace q248 := eq_true q248
                        have p249 : 0 ≤ ((ji11) : Int) := of_decide_eq_true (by first | (with_reducible assumption) | assumption)
                        have q249 : (ji11) < (l0.length : Int) := of_decide_eq_true (by first | (with_reducible assumption) | assumption)
                        obtain ⟨ad249, e249, hx249_0, hx249_1⟩ := at_T62 HR0.out (ji11) p249 q249
                        have hw249_1 := hx249_1
                        have hw249_0 := hx249_0
                        obtain rfl : ad242 = ad249 := (by injection e249)
                        replace hx249_0 := (HB.out.cell (World.block_lt_of_cell? w _ hx249_0)).trans hx249_0
                        replace hx249_1 := (HB.out.cell (World.block_lt_of_cell? w _ hx249_1)).trans hx249_1
                        replace p249 := eq_true p249
                        replace q249 := eq_true q249
                        refine start_ (n := 48) (S := fun w' => w'.cell? (ad242.add ((x4_1).toNat * 2)) = some (.int .i64 ((rd_T62 l0 x4_1).f0)) ∧ w'.cell? ⟨(ad242.add ((x4_1).toNat * 2)).block, (ad242.add ((x4_1).toNat * 2)).off + 1, none⟩ = some (.int .i64 ((rd_T62 l0 x4_1).f1)) ∧ w'.cell? (ad242.add ((x4_1).toNat * 2)) = some (.int .i64 ((rd_T62 l0 x4_1).f0)) ∧ w'.cell? ⟨(ad242.add ((x4_1).toNat * 2)).block, (ad242.add ((x4_1).toNat * 2)).off + 1, none⟩ = some (.int .i64 ((rd_T62 l0 x4_1).f1)) ∧ w'.cell? (ad242.add ((x4_1).toNat * 2)) = some (.int .i64 ((rd_T62 l0 x4_1).f0)) ∧ w'.cell? ⟨(ad242.add ((x4_1).toNat * 2)).block, (ad242.add ((x4_1).toNat * 2)).off + 1, none⟩ = some (.int .i64 ((rd_T62 l0 x4_1).f1)) ∧ w'.cell? (ad242.add ((x4_1).toNat * 2)) = some (.int .i64 ((rd_T62 l0 x4_1).f0)) ∧ w'.cell? ⟨(ad242.add ((x4_1).toNat * 2)).block, (ad242.add ((x4_1).toNat * 2)).off + 1, none⟩ = some (.int .i64 ((rd_T62 l0 x4_1).f1)) ∧ w'.cell? (ad242.add ((x4_1).toNat * 2)) = some (.int .i64 ((rd_T62 l0 x4_1).f0)) ∧ w'.cell? ⟨(ad242.add ((x4_1).toNat * 2)).block, (ad242.add ((x4_1).toNat * 2)).off + 1, none⟩ = some (.int .i64 ((rd_T62 l0 x4_1).f1)) ∧ w'.cell? (ad242.add (((ji11)).toNat * 2)) = some (.int .i64 ((rd_T62 l0 (ji11)).f0)) ∧ w'.cell? ⟨(ad242.add (((ji11)).toNat * 2)).block, (ad242.add (((ji11)).toNat * 2)).off + 1, none⟩ = some (.int .i64 ((rd_T62 l0 (ji11)).f1))) (ds := []) ckq0 (by kernel_rfl) rfl rfl ⟨((HB.out.cell (World.block_lt_of_cell? w _ hw242_0)).trans hw242_0), ((HB.out.cell (World.block_lt_of_cell? w _ hw242_1)).trans hw242_1), ((HB.out.cell (World.block_lt_of_cell? w _ hw244_0)).trans hw244_0), ((HB.out.cell (World.block_lt_of_cell? w _ hw244_1)).trans hw244_1), ((HB.out.cell (World.block_lt_of_cell? w _ hw246_0)).trans hw246_0), ((HB.out.cell (World.block_lt_of_cell? w _ hw246_1)).trans hw246_1), ((HB.out.cell (World.block_lt_of_cell? w _ hw247_0)).trans hw247_0), ((HB.out.cell (World.block_lt_of_cell? w _ hw247_1)).trans hw247_1), ((HB.out.cell (World.block_lt_of_cell? w _ hw248_0)).trans hw248_0), ((HB.out.cell (World.block_lt_of_cell? w _ hw248_1)).trans hw248_1), ((HB.out.cell (World.block_lt_of_cell? w _ hw249_0)).trans hw249_0), ((HB.out.cell (World.block_lt_of_cell? w _ hw249_1)).trans hw249_1)⟩ (fun hHeld => ?_); refine with_tabW r2Check.tab5 r2Check.bits5 (fun HT_ HW_ => ?_)
                        generalize wr.drew = w15 at HB hx242_0 hx242_1 hx244_0 hx244_1 hx246_0 hx246_1 hx247_0 hx247_1 hx248_0 hx248_1 hx249_0 hx249_1 hHeld ⊢
                        refine pure_ (i := 0) (N := some 11) (v := ?_) (a' := ?_) ckq1 rfl rfl (any_of HT_.out (by kernel_rfl)) (fun _ _ _ h => h) (Or.inl ⟨by rfl, ?_⟩) ?_ ?_
                        rotate_left; (· intro w'; go_simp; with_reducible rfl); rotate_left; (· simp only [Act.put, cksa, cksz, ckss, i64_w, i32_w]; rfl)
                        refine pure_ (i := 1) (N := some 12) (v := ?_) (a' := ?_) ckq2 rfl rfl (any_of HT_.out (by kernel_rfl)) (fun _ _ _ h => h) (Or.inl ⟨by rfl, ?_⟩) ?_ ?_
                        rotate_left; (· intro w'; go_simp; with_reducible rfl); rotate_left; (· simp only [Act.put, cksa, cksz, ckss, i64_w, i32_w]; rfl)
                        refine pure_ (i := 2) (N := some 13) (v := ?_) (a' := ?_) ckq3 rfl rfl (any_of HT_.out (by kernel_rfl)) (fun _ _ _ h => h) (Or.inl ⟨by rfl, ?_⟩) ?_ ?_
                        rotate_left; (· intro w'; go_simp; with_reducible rfl); rotate_left; (· simp only [Act.put, cksa, cksz, ckss, i64_w, i32_w]; rfl)
                        refine pure_ (i := 3) (N := some 14) (v := ?_) (a' := ?_) ckq4 rfl rfl (any_of HT_.out (by kernel_rfl)) (fun _ _ _ h => h) (Or.inl ⟨by rfl, ?_⟩) ?_ ?_
                        rotate_left; (· intro w'; go_simp; with_reducible rfl); rotate_left; (· simp only [Act.put, cksa, cksz, ckss, i64_w, i32_w]; rfl)
                        refine take_ (i := 4) (N := some 15) (v := ?_) (a' := ?_) ckq5 rfl rfl (take_ofW HT_.out HW_.out (by kernel_rfl)) (fun _ _ _ h => h) (Or.inl ⟨by rfl, ?_⟩) hHeld ?_ ?_
                        rotate_left; (· rintro w' ⟨s0, s1, s2, s3, s4, s5, s6, s7, s8, s9, s10, s11⟩; go_simp; with_reducible rfl); rotate_left; (· simp only [Act.put, cksa, cksz, ckss, i64_w, i32_w]; rfl)
                        refine one_ (i := 5) (N := some 16) ckq6 rfl rfl (one_of HT_.out (by kernel_rfl)) (by decide) (fun K hK => ?_)
                        refine goes_ Try.func48 (by kernel_rfl) rfl #[.int .i64 ((rd_T62 l0 x4_1).f0)] (by rfl) rfl rfl (by (try simp only [List.map_toArray, List.map_cons, List.map_nil]); first | done | rfl | (simp only [List.length_drop, List.length_take]; rfl)) ?_
                        with_reducible refine (secateurref02_Value.calls ((rd_T62 l0 x4_1).f0) true _ A4.out).mono ?_
                        rintro e w' ⟨rfl, ⟨nd, rfl⟩⟩
                        refine ⟨_, rfl, ?_⟩
                        refine hK.out _ _ ⟨((HB.out.cell (World.block_lt_of_cell? w _ hw242_0)).trans hw242_0), ((HB.out.cell (World.block_lt_of_cell? w _ hw242_1)).trans hw242_1), ((HB.out.cell (World.block_lt_of_cell? w _ hw244_0)).trans hw244_0), ((HB.out.cell (World.block_lt_of_cell? w _ hw244_1)).trans hw244_1), ((HB.out.cell (World.block_lt_of_cell? w _ hw246_0)).trans hw246_0), ((HB.out.cell (World.block_lt_of_cell? w _ hw246_1)).trans hw246_1), ((HB.out.cell (World.block_lt_of_cell? w _ hw247_0)).trans hw247_0), ((HB.out.cell (World.block_lt_of_cell? w _ hw247_1)).trans hw247_1), ((HB.out.cell (World.block_lt_of_cell? w _ hw248_0)).trans hw248_0), ((HB.out.cell (World.block_lt_of_cell? w _ hw248_1)).trans hw248_1), ((HB.out.cell (World.block_lt_of_cell? w _ hw249_0)).trans hw249_0), ((HB.out.cell (World.block_lt_of_cell? w _ hw249_1)).trans hw249_1)⟩ (fun hHeld => ?_)
                        clear hK K
                        refine norm_ (a' := ?_) ?_ ?_
                        rotate_left
                        · show Act.put _ (some 16) _ = _
                          simp only [Act.put, cksa, cksz, ckss, i64_w, i32_w]
                          rfl
                        refine pure_ (i := 6) (N := some 17) (v := ?_) (a' := ?_) ckq7 rfl rfl (any_of HT_.out (by kernel_rfl)) (fun _ _ _ h => h) (Or.inl ⟨by rfl, ?_⟩) ?_ ?_
                        rotate_left; (· intro w'; go_simp; with_reducible rfl); rotate_left; (· simp only [Act.put, cksa, cksz, ckss, i64_w, i32_w]; rfl)
                        refine pure_ (i := 7) (N := some 18) (v := ?_) (a' := ?_) ckq8 rfl rfl (any_of HT_.out (by kernel_rfl)) (fun _ _ _ h => h) (Or.inl ⟨by rfl, ?_⟩) ?_ ?_
                        rotate_left; (· intro w'; go_simp; with_reducible rfl); rotate_left; (· simp only [Act.put, cksa, cksz, ckss, i64_w, i32_w]; rfl)
                        refine pure_ (i := 8) (N := some 19) (v := ?_) (a' := ?_) ckq9 rfl rfl (any_of HT_.out (by kernel_rfl)) (fun _ _ _ h => h) (Or.inl ⟨by rfl, ?_⟩) ?_ ?_
                        rotate_left; (· intro w'; go_simp; with_reducible rfl); rotate_left; (· simp only [Act.put, cksa, cksz, ckss, i64_w, i32_w]; rfl)
                        refine pure_ (i := 9) (N := some 20) (v := ?_) (a' := ?_) ckq10 rfl rfl (any_of HT_.out (by kernel_rfl)) (fun _ _ _ h => h) (Or.inl ⟨by rfl, ?_⟩) ?_ ?_
                        rotate_left; (· intro w'; go_simp; with_reducible rfl); rotate_left; (· simp only [Act.put, cksa, cksz, ckss, i64_w, i32_w]; rfl)
                        refine pure_ (i := 10) (N := some 21) (v := ?_) (a' := ?_) ckq11 rfl rfl (any_of HT_.out (by kernel_rfl)) (fun _ _ _ h => h) (Or.inl ⟨by rfl, ?_⟩) ?_ ?_
                        rotate_left; (· intro w'; go_simp; with_reducible rfl); rotate_left; (· simp only [Act.put, cksa, cksz, ckss, i64_w, i32_w]; rfl)
                        refine pure_ (i := 11) (N := some 22) (v := ?_) (a' := ?_) ckq12 rfl rfl (any_of HT_.out (by kernel_rfl)) (fun _ _ _ h => h) (Or.inl ⟨by rfl, ?_⟩) ?_ ?_
                        rotate_left; (· intro w'; go_simp; with_reducible rfl); rotate_left; (· simp only [Act.put, cksa, cksz, ckss, i64_w, i32_w]; rfl)
                        refine take_ (i := 12) (N := some 23) (v := ?_) (a' := ?_) ckq13 rfl rfl (take_ofW HT_.out HW_.out (by kernel_rfl)) (fun _ _ _ h => h) (Or.inl ⟨by rfl, ?_⟩) hHeld ?_ ?_
                        rotate_left; (· rintro w' ⟨s0, s1, s2, s3, s4, s5, s6, s7, s8, s9, s10, s11⟩; go_simp; with_reducible rfl); rotate_left; (· simp only [Act.put, cksa, cksz, ckss, i64_w, i32_w]; rfl)
                        refine one_ (i := 13) (N := some 24) ckq14 rfl rfl (one_of HT_.out (by kernel_rfl)) (by decide) (fun K hK => ?_)
                        refine goes_ Try.func48 (by kernel_rfl) rfl #[.int .i64 ((rd_T62 l0 x4_1).f1)] (by rfl) rfl rfl (by (try simp only [List.map_toArray, List.map_cons, List.map_nil]); first | done | rfl | (simp only [List.length_drop, List.length_take]; rfl)) ?_
                        with_reducible refine (secateurref02_Value.calls ((rd_T62 l0 x4_1).f1) true _ A6.out).mono ?_
                        rintro e w' ⟨rfl, ⟨nd, rfl⟩⟩
                        refine ⟨_, rfl, ?_⟩
                        refine hK.out _ _ ⟨((HB.out.cell (World.block_lt_of_cell? w _ hw242_0)).trans hw242_0), ((HB.out.cell (World.block_lt_of_cell? w _ hw242_1)).trans hw242_1), ((HB.out.cell (World.block_lt_of_cell? w _ hw244_0)).trans hw244_0), ((HB.out.cell (World.block_lt_of_cell? w _ hw244_1)).trans hw244_1), ((HB.out.cell (World.block_lt_of_cell? w _ hw246_0)).trans hw246_0), ((HB.out.cell (World.block_lt_of_cell? w _ hw246_1)).trans hw246_1), ((HB.out.cell (World.block_lt_of_cell? w _ hw247_0)).trans hw247_0), ((HB.out.cell (World.block_lt_of_cell? w _ hw247_1)).trans hw247_1), ((HB.out.cell (World.block_lt_of_cell? w _ hw248_0)).trans hw248_0), ((HB.out.cell (World.block_lt_of_cell? w _ hw248_1)).trans hw248_1), ((HB.out.cell (World.block_lt_of_cell? w _ hw249_0)).trans hw249_0), ((HB.out.cell (World.block_lt_of_cell? w _ hw249_1)).trans hw249_1)⟩ (fun hHeld => ?_)
                        clear hK K
                        refine norm_ (a' := ?_) ?_ ?_
                        rotate_left
                        · show Act.put _ (some 24) _ = _
                          simp only [Act.put, cksa, cksz, ckss, i64_w, i32_w]
                          rfl
                        refine pure_ (i := 14) (N := some 25) (v := ?_) (a' := ?_) ckq15 rfl rfl (any_of HT_.out (by kernel_rfl)) (fun _ _ _ h => h) (Or.inl ⟨by rfl, ?_⟩) ?_ ?_
                        rotate_left; (· intro w'; go_simp; with_reducible rfl); rotate_left; (· simp only [Act.put, cksa, cksz, ckss, i64_w, i32_w]; rfl)
                        refine pure_ (i := 15) (N := some 26) (v := ?_) (a' := ?_) ckq16 rfl rfl (any_of HT_.out (by kernel_rfl)) (fun _ _ _ h => h) (Or.inl ⟨by rfl, ?_⟩) ?_ ?_
                        rotate_left; (· intro w'; go_simp; with_reducible rfl); rotate_left; (· simp only [Act.put, cksa, cksz, ckss, i64_w, i32_w]; rfl)
                        refine pure_ (i := 16) (N := some 27) (v := ?_) (a' := ?_) ckq17 rfl rfl (any_of HT_.out (by kernel_rfl)) (fun _ _ _ h => h) (Or.inl ⟨by rfl, ?_⟩) ?_ ?_
                        rotate_left; (· intro w'; go_simp; with_reducible rfl); rotate_left; (· simp only [Act.put, cksa, cksz, ckss, i64_w, i32_w]; rfl)
                        refine pure_ (i := 17) (N := some 28) (v := ?_) (a' := ?_) ckq18 rfl rfl (any_of HT_.out (by kernel_rfl)) (fun _ _ _ h => h) (Or.inl ⟨by rfl, ?_⟩) ?_ ?_
                        rotate_left; (· intro w'; go_simp; with_reducible rfl); rotate_left; (· simp only [Act.put, cksa, cksz, ckss, i64_w, i32_w]; rfl)
                        refine pure_ (i := 18) (N := some 29) (v := ?_) (a' := ?_) ckq19 rfl rfl (any_of HT_.out (by kernel_rfl)) (fun _ _ _ h => h) (Or.inl ⟨by rfl, ?_⟩) ?_ ?_
                        rotate_left; (· intro w'; go_simp; with_reducible rfl); rotate_left; (· simp only [Act.put, cksa, cksz, ckss, i64_w, i32_w]; rfl)
                        refine pure_ (i := 19) (N := some 30) (v := ?_) (a' := ?_) ckq20 rfl rfl (any_of HT_.out (by kernel_rfl)) (fun _ _ _ h => h) (Or.inl ⟨by rfl, ?_⟩) ?_ ?_
                        rotate_left; (· intro w'; go_simp; with_reducible rfl); rotate_left; (· simp only [Act.put, cksa, cksz, ckss, i64_w, i32_w]; rfl)
                        refine pure_ (i := 20) (N := some 31) (v := ?_) (a' := ?_) ckq21 rfl rfl (any_of HT_.out (by kernel_rfl)) (fun _ _ _ h => h) (Or.inl ⟨by rfl, ?_⟩) ?_ ?_
                        rotate_left; (· intro w'; go_simp; with_reducible rfl); rotate_left; (· simp only [Act.put, cksa, cksz, ckss, i64_w, i32_w]; rfl)
                        refine pure_ (i := 22) (N := some 33) (v := ?_) (a' := ?_) ckq22 rfl rfl (any_of HT_.out (by kernel_rfl)) (fun _ _ _ h => h) (Or.inl ⟨by rfl, ?_⟩) ?_ ?_
                        rotate_left; (· intro w'; go_simp; with_reducible rfl); rotate_left; (· simp only [Act.put, cksa, cksz, ckss, i64_w, i32_w]; rfl)
                        refine pure_ (i := 23) (N := some 34) (v := ?_) (a' := ?_) ckq23 rfl rfl (any_of HT_.out (by kernel_rfl)) (fun _ _ _ h => h) (Or.inl ⟨by rfl, ?_⟩) ?_ ?_
                        rotate_left; (· intro w'; go_simp; with_reducible rfl); rotate_left; (· simp only [Act.put, cksa, cksz, ckss, i64_w, i32_w]; rfl)
                        refine pure_ (i := 24) (N := some 35) (v := ?_) (a' := ?_) ckq24 rfl rfl (any_of HT_.out (by kernel_rfl)) (fun _ _ _ h => h) (Or.inl ⟨by rfl, ?_⟩) ?_ ?_
                        rotate_left; (· intro w'; go_simp; with_reducible rfl); rotate_left; (· simp only [Act.put, cksa, cksz, ckss, i64_w, i32_w]; rfl)
                        refine pure_ (i := 25) (N := some 36) (v := ?_) (a' := ?_) ckq25 rfl rfl (any_of HT_.out (by kernel_rfl)) (fun _ _ _ h => h) (Or.inl ⟨by rfl, ?_⟩) ?_ ?_
                        rotate_left; (· intro w'; go_simp; with_reducible rfl); rotate_left; (· simp only [Act.put, cksa, cksz, ckss, i64_w, i32_w]; rfl)
                        refine take_ (i := 21) (N := some 32) (v := ?_) (a' := ?_) ckq26 rfl rfl (take_ofW HT_.out HW_.out (by kernel_rfl)) (fun _ _ _ h => h) (Or.inl ⟨by rfl, ?_⟩) hHeld ?_ ?_
                        rotate_left; (· rintro w' ⟨s0, s1, s2, s3, s4, s5, s6, s7, s8, s9, s10, s11⟩; go_simp; with_reducible rfl); rotate_left; (· simp only [Act.put, cksa, cksz, ckss, i64_w, i32_w]; rfl)
                        refine take_ (i := 26) (N := some 37) (v := ?_) (a' := ?_) ckq27 rfl rfl (take_ofW HT_.out HW_.out (by kernel_rfl)) (fun _ _ _ h => h) (Or.inl ⟨by rfl, ?_⟩) hHeld ?_ ?_
                        rotate_left; (· rintro w' ⟨s0, s1, s2, s3, s4, s5, s6, s7, s8, s9, s10, s11⟩; go_simp; with_reducible rfl); rotate_left; (· simp only [Act.put, cksa, cksz, ckss, i64_w, i32_w]; rfl)
                        refine pure_ (i := 27) (N := some 38) (v := ?_) (a' := ?_) ckq28 rfl rfl (any_of HT_.out (by kernel_rfl)) (fun _ _ _ h => h) (Or.inl ⟨by rfl, ?_⟩) ?_ ?_
                        rotate_left; (· intro w'; go_simp; with_reducible rfl); rotate_left; (· simp only [Act.put, cksa, cksz, ckss, i64_w, i32_w]; rfl)
                        refine pure_ (i := 28) (N := some 39) (v := ?_) (a' := ?_) ckq29 rfl rfl (any_of HT_.out (by kernel_rfl)) (fun _ _ _ h => h) (Or.inl ⟨by rfl, ?_⟩) ?_ ?_
                        rotate_left; (· intro w'; go_simp; with_reducible rfl); rotate_left; (· simp only [Act.put, cksa, cksz, ckss, i64_w, i32_w]; rfl)
                        refine pure_ (i := 29) (N := some 40) (v := ?_) (a' := ?_) ckq30 rfl rfl (any_of HT_.out (by kernel_rfl)) (fun _ _ _ h => h) (Or.inl ⟨by rfl, ?_⟩) ?_ ?_
                        rotate_left; (· intro w'; go_simp; with_reducible rfl); rotate_left; (· simp only [Act.put, cksa, cksz, ckss, i64_w, i32_w]; rfl)
                        refine pure_ (i := 30) (N := some 41) (v := ?_) (a' := ?_) ckq31 rfl rfl (any_of HT_.out (by kernel_rfl)) (fun _ _ _ h => h) (Or.inl ⟨by rfl, ?_⟩) ?_ ?_
                        rotate_left; (· intro w'; go_simp; with_reducible rfl); rotate_left; (· simp only [Act.put, cksa, cksz, ckss, i64_w, i32_w]; rfl)
                        refine pure_ (i := 31) (N := some 42) (v := ?_) (a' := ?_) ckq32 rfl rfl (any_of HT_.out (by kernel_rfl)) (fun _ _ _ h => h) (Or.inl ⟨by rfl, ?_⟩) ?_ ?_
                        rotate_left; (· intro w'; go_simp; with_reducible rfl); rotate_left; (· simp only [Act.put, cksa, cksz, ckss, i64_w, i32_w]; rfl)
                        refine pure_ (i := 32) (N := some 43) (v := ?_) (a' := ?_) ckq33 rfl rfl (any_of HT_.out (by kernel_rfl)) (fun _ _ _ h => h) (Or.inl ⟨by rfl, ?_⟩) ?_ ?_
                        rotate_left; (· intro w'; go_simp; with_reducible rfl); rotate_left; (· simp only [Act.put, cksa, cksz, ckss, i64_w, i32_w]; rfl)
                        refine pure_ (i := 33) (N := some 44) (v := ?_) (a' := ?_) ckq34 rfl rfl (any_of HT_.out (by kernel_rfl)) (fun _ _ _ h => h) (Or.inl ⟨by rfl, ?_⟩) ?_ ?_
                        rotate_left; (· intro w'; go_simp; with_reducible rfl); rotate_left; (· simp only [Act.put, cksa, cksz, ckss, i64_w, i32_w]; rfl)
                        refine pure_ (i := 34) (N := some 45) (v := ?_) (a' := ?_) ckq35 rfl rfl (any_of HT_.out (by kernel_rfl)) (fun _ _ _ h => h) (Or.inl ⟨by rfl, ?_⟩) ?_ ?_
                        rotate_left; (· intro w'; go_simp; with_reducible rfl); rotate_left; (· simp only [Act.put, cksa, cksz, ckss, i64_w, i32_w]; rfl)
                        refine pure_ (i := 35) (N := some 46) (v := ?_) (a' := ?_) ckq36 rfl rfl (any_of HT_.out (by kernel_rfl)) (fun _ _ _ h => h) (Or.inl ⟨by rfl, ?_⟩) ?_ ?_
                        rotate_left; (· intro w'; go_simp; with_reducible rfl); rotate_left; (· simp only [Act.put, cksa, cksz, ckss, i64_w, i32_w]; rfl)
                        refine pure_ (i := 36) (N := some 47) (v := ?_) (a' := ?_) ckq37 rfl rfl (any_of HT_.out (by kernel_rfl)) (fun _ _ _ h => h) (Or.inl ⟨by rfl, ?_⟩) ?_ ?_
                        rotate_left; (· intro w'; go_simp; with_reducible rfl); rotate_left; (· simp only [Act.put, cksa, cksz, ckss, i64_w, i32_w]; rfl)
                        refine pure_ (i := 38) (N := some 49) (v := ?_) (a' := ?_) ckq49 rfl rfl (any_of HT_.out (by kernel_rfl)) (fun _ _ _ h => h) (Or.inl ⟨by rfl, ?_⟩) ?_ ?_
                        rotate_left; (· intro w'; go_simp; with_reducible rfl); rotate_left; (· simp only [Act.put, cksa, cksz, ckss, i64_w, i32_w]; rfl)
                        refine pure_ (i := 39) (N := some 50) (v := ?_) (a' := ?_) ckq50 rfl rfl (any_of HT_.out (by kernel_rfl)) (fun _ _ _ h => h) (Or.inl ⟨by rfl, ?_⟩) ?_ ?_
                        rotate_left; (· intro w'; go_simp; with_reducible rfl); rotate_left; (· simp only [Act.put, cksa, cksz, ckss, i64_w, i32_w]; rfl)
                        refine pure_ (i := 40) (N := some 51) (v := ?_) (a' := ?_) ckq51 rfl rfl (any_of HT_.out (by kernel_rfl)) (fun _ _ _ h => h) (Or.inl ⟨by rfl, ?_⟩) ?_ ?_
                        rotate_left; (· intro w'; go_simp; with_reducible rfl); rotate_left; (· simp only [Act.put, cksa, cksz, ckss, i64_w, i32_w]; rfl)
                        refine pure_ (i := 41) (N := some 52) (v := ?_) (a' := ?_) ckq52 rfl rfl (any_of HT_.out (by kernel_rfl)) (fun _ _ _ h => h) (Or.inl ⟨by rfl, ?_⟩) ?_ ?_
                        rotate_left; (· intro w'; go_simp; with_reducible rfl); rotate_left; (· simp only [Act.put, cksa, cksz, ckss, i64_w, i32_w]; rfl)
                        refine pure_ (i := 42) (N := some 53) (v := ?_) (a' := ?_) ckq53 rfl rfl (any_of HT_.out (by kernel_rfl)) (fun _ _ _ h => h) (Or.inl ⟨by rfl, ?_⟩) ?_ ?_
                        rotate_left; (· intro w'; go_simp; with_reducible rfl); rotate_left; (· simp only [Act.put, cksa, cksz, ckss, i64_w, i32_w]; rfl)
                        refine take_ (i := 37) (N := some 48) (v := ?_) (a' := ?_) ckq43 rfl rfl (take_ofW HT_.out HW_.out (by kernel_rfl)) (fun _ _ _ h => h) (Or.inl ⟨by rfl, ?_⟩) hHeld ?_ ?_
                        rotate_left; (· rintro w' ⟨s0, s1, s2, s3, s4, s5, s6, s7, s8, s9, s10, s11⟩; go_simp; with_reducible rfl); rotate_left; (· simp only [Act.put, cksa, cksz, ckss, i64_w, i32_w]; rfl)
                        refine take_ (i := 43) (N := some 54) (v := ?_) (a' := ?_) ckq44 rfl rfl (take_ofW HT_.out HW_.out (by kernel_rfl)) (fun _ _ _ h => h) (Or.inl ⟨by rfl, ?_⟩) hHeld ?_ ?_
                        rotate_left; (· rintro w' ⟨s0, s1, s2, s3, s4, s5, s6, s7, s8, s9, s10, s11⟩; go_simp; with_reducible rfl); rotate_left; (· simp only [Act.put, cksa, cksz, ckss, i64_w, i32_w]; rfl)
                        refine pure_ (i := 44) (N := some 55) (v := ?_) (a' := ?_) ckq45 rfl rfl (any_of HT_.out (by kernel_rfl)) (fun _ _ _ h => h) (Or.inl ⟨by rfl, ?_⟩) ?_ ?_
                        rotate_left; (· intro w'; go_simp; with_reducible rfl); rotate_left; (· simp only [Act.put, cksa, cksz, ckss, i64_w, i32_w]; rfl)
                        refine pure_ (i := 45) (N := some 56) (v := ?_) (a' := ?_) ckq46 rfl rfl (any_of HT_.out (by kernel_rfl)) (fun _ _ _ h => h) (Or.inl ⟨by rfl, ?_⟩) ?_ ?_
                        rotate_left; (· intro w'; go_simp; with_reducible rfl); rotate_left; (· simp only [Act.put, cksa, cksz, ckss, i64_w, i32_w]; rfl)
                        refine pure_ (i := 46) (N := some 57) (v := ?_) (a' := ?_) ckq47 rfl rfl (any_of HT_.out (by kernel_rfl)) (fun _ _ _ h => h) (Or.inl ⟨by rfl, ?_⟩) ?_ ?_
                        rotate_left; (· intro w'; go_simp; with_reducible rfl); rotate_left; (· simp only [Act.put, cksa, cksz, ckss, i64_w, i32_w]; rfl)
                        refine pure_ (i := 47) (N := some 58) (v := ?_) (a' := ?_) ckq48 rfl rfl (any_of HT_.out (by kernel_rfl)) (fun _ _ _ h => h) (Or.inl ⟨by rfl, ?_⟩) ?_ ?_
                        rotate_left; (· intro w'; go_simp; with_reducible rfl); rotate_left; (· simp only [Act.put, cksa, cksz, ckss, i64_w, i32_w]; rfl)
                        refine done_ (done_of HT_.out (by kernel_rfl)) ?_
                        try go_wp2
                        go_ret
                        exact ⟨by first | rfl | (simp [errW_none, errW_some] <;> rfl) | (simp only [← hji11]; first | rfl | (simp [errW_none, errW_some] <;> rfl)) | (simp [*, errW_none, errW_some] <;> rfl), by repeat (first | (with_reducible first | exact HB.out | apply below_alloc | apply pw_below_drewN | apply below_drew1) | exact HB.out)⟩
                      · rw [if_neg c14] at H
                        have c14b0 : decide ((wrap64 (((rd_T62 l0 x4_1).f0) - ((rd_T62 l0 (ji11)).f1))) < 2) = false := decide_eq_false c14
                        clear c14
                        have H' := Aside0.mk H
                        clear H
                        try go_wp2
                        have n0_ := Aside0.mk (below_drew1 HB.out)
                        clear HB
                        have HB := n0_
                        clear n0_
                        have p242 : 0 ≤ (x4_1 : Int) := of_decide_eq_true (by first | (with_reducible assumption) | assumption)
                        have q242 : x4_1 < (l0.length : Int) := of_decide_eq_true (by first | (with_reducible assumption) | assumption)
                        obtain ⟨ad242, e242, hx242_0, hx242_1⟩ := at_T62 HR0.out x4_1 p242 q242
                        have hw242_1 := hx242_1
                        have hw242_0 := hx242_0
                        cases e242
                        replace hx242_0 := (HB.out.cell (World.block_lt_of_cell? w _ hx242_0)).trans hx242_0
                        replace hx242_1 := (HB.out.cell (World.block_lt_of_cell? w _ hx242_1)).trans hx242_1
                        replace p242 := eq_true p242
                        replace q242 := eq_true q242
                        have p244 : 0 ≤ (x4_1 : Int) := of_decide_eq_true (by first | (with_reducible assumption) | assumption)
                        have q244 : x4_1 < (l0.length : Int) := of_decide_eq_true (by first | (with_reducible assumption) | assumption)
                        obtain ⟨ad244, e244, hx244_0, hx244_1⟩ := at_T62 HR0.out x4_1 p244 q244
                        have hw244_1 := hx244_1
                        have hw244_0 := hx244_0
                        obtain rfl : ad242 = ad244 := (by injection e244)
                        replace hx244_0 := (HB.out.cell (World.block_lt_of_cell? w _ hx244_0)).trans hx244_0
                        replace hx244_1 := (HB.out.cell (World.block_lt_of_cell? w _ hx244_1)).trans hx244_1
                        replace p244 := eq_true p244
                        replace q244 := eq_true q244
                        have p246 : 0 ≤ (x4_1 : Int) := of_decide_eq_true (by first | (with_reducible assumption) | assumption)
                        have q246 : x4_1 < (l0.length : Int) := of_decide_eq_true (by first | (with_reducible assumption) | assumption)
                        obtain ⟨ad246, e246, hx246_0, hx246_1⟩ := at_T62 HR0.out x4_1 p246 q246
                        have hw246_1 := hx246_1
                        have hw246_0 := hx246_0
                        obtain rfl : ad242 = ad246 := (by injection e246)
                        replace hx246_0 := (HB.out.cell (World.block_lt_of_cell? w _ hx246_0)).trans hx246_0
                        replace hx246_1 := (HB.out.cell (World.block_lt_of_cell? w _ hx246_1)).trans hx246_1
                        replace p246 := eq_true p246
                        replace q246 := eq_true q246
                        have p247 : 0 ≤ (x4_1 : Int) := of_decide_eq_true (by first | (with_reducible assumption) | assumption)
                        have q247 : x4_1 < (l0.length : Int) := of_decide_eq_true (by first | (with_reducible assumption) | assumption)
                        obtain ⟨ad247, e247, hx247_0, hx247_1⟩ := at_T62 HR0.out x4_1 p247 q247
                        have hw247_1 := hx247_1
                        have hw247_0 := hx247_0
                        obtain rfl : ad242 = ad247 := (by injection e247)
                        replace hx247_0 := (HB.out.cell (World.block_lt_of_cell? w _ hx247_0)).trans hx247_0
                        replace hx247_1 := (HB.out.cell (World.block_lt_of_cell? w _ hx247_1)).trans hx247_1
                        replace p247 := eq_true p247
                        replace q247 := eq_true q247
                        have p248 : 0 ≤ (x4_1 : Int) := of_decide_eq_true (by first | (with_reducible assumption) | assumption)
                        have q248 : x4_1 < (l0.length : Int) := of_decide_eq_true (by first | (with_reducible assumption) | assumption)
                        obtain ⟨ad248, e248, hx248_0, hx248_1⟩ := at_T62 HR0.out x4_1 p248 q248
                        have hw248_1 := hx248_1
                        have hw248_0 := hx248_0
                        obtain rfl : ad242 = ad248 := (by injection e248)
                        replace hx248_0 := (HB.out.cell (World.block_lt_of_cell? w _ hx248_0)).trans hx248_0
                        replace hx248_1 := (HB.out.cell (World.block_lt_of_cell? w _ hx248_1)).trans hx248_1
                        replace p248 := eq_true p248
                        replace q248 := eq_true q248
                        have p249 : 0 ≤ ((ji11) : Int) := of_decide_eq_true (by first | (with_reducible assumption) | assumption)
                        have q249 : (ji11) < (l0.length : Int) := of_decide_eq_true (by first | (with_reducible assumption) | assumption)
                        obtain ⟨ad249, e249, hx249_0, hx249_1⟩ := at_T62 HR0.out (ji11) p249 q249
                        have hw249_1 := hx249_1
                        have hw249_0 := hx249_0
                        obtain rfl : ad242 = ad249 := (by injection e249)
                        replace hx249_0 := (HB.out.cell (World.block_lt_of_cell? w _ hx249_0)).trans hx249_0
                        replace hx249_1 := (HB.out.cell (World.block_lt_of_cell? w _ hx249_1)).trans hx249_1
                        replace p249 := eq_true p249
                        replace q249 := eq_true q249
                        refine start_ (n := 48) (S := fun w' => w'.cell? (ad242.add ((x4_1).toNat * 2)) = some (.int .i64 ((rd_T62 l0 x4_1).f0)) ∧ w'.cell? ⟨(ad242.add ((x4_1).toNat * 2)).block, (ad242.add ((x4_1).toNat * 2)).off + 1, none⟩ = some (.int .i64 ((rd_T62 l0 x4_1).f1)) ∧ w'.cell? (ad242.add ((x4_1).toNat * 2)) = some (.int .i64 ((rd_T62 l0 x4_1).f0)) ∧ w'.cell? ⟨(ad242.add ((x4_1).toNat * 2)).block, (ad242.add ((x4_1).toNat * 2)).off + 1, none⟩ = some (.int .i64 ((rd_T62 l0 x4_1).f1)) ∧ w'.cell? (ad242.add ((x4_1).toNat * 2)) = some (.int .i64 ((rd_T62 l0 x4_1).f0)) ∧ w'.cell? ⟨(ad242.add ((x4_1).toNat * 2)).block, (ad242.add ((x4_1).toNat * 2)).off + 1, none⟩ = some (.int .i64 ((rd_T62 l0 x4_1).f1)) ∧ w'.cell? (ad242.add ((x4_1).toNat * 2)) = some (.int .i64 ((rd_T62 l0 x4_1).f0)) ∧ w'.cell? ⟨(ad242.add ((x4_1).toNat * 2)).block, (ad242.add ((x4_1).toNat * 2)).off + 1, none⟩ = some (.int .i64 ((rd_T62 l0 x4_1).f1)) ∧ w'.cell? (ad242.add ((x4_1).toNat * 2)) = some (.int .i64 ((rd_T62 l0 x4_1).f0)) ∧ w'.cell? ⟨(ad242.add ((x4_1).toNat * 2)).block, (ad242.add ((x4_1).toNat * 2)).off + 1, none⟩ = some (.int .i64 ((rd_T62 l0 x4_1).f1)) ∧ w'.cell? (ad242.add (((ji11)).toNat * 2)) = some (.int .i64 ((rd_T62 l0 (ji11)).f0)) ∧ w'.cell? ⟨(ad242.add (((ji11)).toNat * 2)).block, (ad242.add (((ji11)).toNat * 2)).off + 1, none⟩ = some (.int .i64 ((rd_T62 l0 (ji11)).f1))) (ds := []) ckq0 (by kernel_rfl) rfl rfl ⟨((HB.out.cell (World.block_lt_of_cell? w _ hw242_0)).trans hw242_0), ((HB.out.cell (World.block_lt_of_cell? w _ hw242_1)).trans hw242_1), ((HB.out.cell (World.block_lt_of_cell? w _ hw244_0)).trans hw244_0), ((HB.out.cell (World.block_lt_of_cell? w _ hw244_1)).trans hw244_1), ((HB.out.cell (World.block_lt_of_cell? w _ hw246_0)).trans hw246_0), ((HB.out.cell (World.block_lt_of_cell? w _ hw246_1)).trans hw246_1), ((HB.out.cell (World.block_lt_of_cell? w _ hw247_0)).trans hw247_0), ((HB.out.cell (World.block_lt_of_cell? w _ hw247_1)).trans hw247_1), ((HB.out.cell (World.block_lt_of_cell? w _ hw248_0)).trans hw248_0), ((HB.out.cell (World.block_lt_of_cell? w _ hw248_1)).trans hw248_1), ((HB.out.cell (World.block_lt_of_cell? w _ hw249_0)).trans hw249_0), ((HB.out.cell (World.block_lt_of_cell? w _ hw249_1)).trans hw249_1)⟩ (fun hHeld => ?_); refine with_tabW r2Check.tab5 r2Check.bits5 (fun HT_ HW_ => ?_)
                        generalize wr.drew = w16 at HB hx242_0 hx242_1 hx244_0 hx244_1 hx246_0 hx246_1 hx247_0 hx247_1 hx248_0 hx248_1 hx249_0 hx249_1 hHeld ⊢
                        refine pure_ (i := 0) (N := some 11) (v := ?_) (a' := ?_) ckq1 rfl rfl (any_of HT_.out (by kernel_rfl)) (fun _ _ _ h => h) (Or.inl ⟨by rfl, ?_⟩) ?_ ?_
                        rotate_left; (· intro w'; go_simp; with_reducible rfl); rotate_left; (· simp only [Act.put, cksa, cksz, ckss, i64_w, i32_w]; rfl)
                        refine pure_ (i := 1) (N := some 12) (v := ?_) (a' := ?_) ckq2 rfl rfl (any_of HT_.out (by kernel_rfl)) (fun _ _ _ h => h) (Or.inl ⟨by rfl, ?_⟩) ?_ ?_
                        rotate_left; (· intro w'; go_simp; with_reducible rfl); rotate_left; (· simp only [Act.put, cksa, cksz, ckss, i64_w, i32_w]; rfl)
                        refine pure_ (i := 2) (N := some 13) (v := ?_) (a' := ?_) ckq3 rfl rfl (any_of HT_.out (by kernel_rfl)) (fun _ _ _ h => h) (Or.inl ⟨by rfl, ?_⟩) ?_ ?_
                        rotate_left; (· intro w'; go_simp; with_reducible rfl); rotate_left; (· simp only [Act.put, cksa, cksz, ckss, i64_w, i32_w]; rfl)
                        refine pure_ (i := 3) (N := some 14) (v := ?_) (a' := ?_) ckq4 rfl rfl (any_of HT_.out (by kernel_rfl)) (fun _ _ _ h => h) (Or.inl ⟨by rfl, ?_⟩) ?_ ?_
                        rotate_left; (· intro w'; go_simp; with_reducible rfl); rotate_left; (· simp only [Act.put, cksa, cksz, ckss, i64_w, i32_w]; rfl)
                        refine take_ (i := 4) (N := some 15) (v := ?_) (a' := ?_) ckq5 rfl rfl (take_ofW HT_.out HW_.out (by kernel_rfl)) (fun _ _ _ h => h) (Or.inl ⟨by rfl, ?_⟩) hHeld ?_ ?_
                        rotate_left; (· rintro w' ⟨s0, s1, s2, s3, s4, s5, s6, s7, s8, s9, s10, s11⟩; go_simp; with_reducible rfl); rotate_left; (· simp only [Act.put, cksa, cksz, ckss, i64_w, i32_w]; rfl)
                        refine one_ (i := 5) (N := some 16) ckq6 rfl rfl (one_of HT_.out (by kernel_rfl)) (by decide) (fun K hK => ?_)
                        refine goes_ Try.func48 (by kernel_rfl) rfl #[.int .i64 ((rd_T62 l0 x4_1).f0)] (by rfl) rfl rfl (by (try simp only [List.map_toArray, List.map_cons, List.map_nil]); first | done | rfl | (simp only [List.length_drop, List.length_take]; rfl)) ?_
                        with_reducible refine (secateurref02_Value.calls ((rd_T62 l0 x4_1).f0) true _ A4.out).mono ?_
                        rintro e w' ⟨rfl, ⟨nd, rfl⟩⟩
                        refine ⟨_, rfl, ?_⟩
                        refine hK.out _ _ ⟨((HB.out.cell (World.block_lt_of_cell? w _ hw242_0)).trans hw242_0), ((HB.out.cell (World.block_lt_of_cell? w _ hw242_1)).trans hw242_1), ((HB.out.cell (World.block_lt_of_cell? w _ hw244_0)).trans hw244_0), ((HB.out.cell (World.block_lt_of_cell? w _ hw244_1)).trans hw244_1), ((HB.out.cell (World.block_lt_of_cell? w _ hw246_0)).trans hw246_0), ((HB.out.cell (World.block_lt_of_cell? w _ hw246_1)).trans hw246_1), ((HB.out.cell (World.block_lt_of_cell? w _ hw247_0)).trans hw247_0), ((HB.out.cell (World.block_lt_of_cell? w _ hw247_1)).trans hw247_1), ((HB.out.cell (World.block_lt_of_cell? w _ hw248_0)).trans hw248_0), ((HB.out.cell (World.block_lt_of_cell? w _ hw248_1)).trans hw248_1), ((HB.out.cell (World.block_lt_of_cell? w _ hw249_0)).trans hw249_0), ((HB.out.cell (World.block_lt_of_cell? w _ hw249_1)).trans hw249_1)⟩ (fun hHeld => ?_)
                        clear hK K
                        refine norm_ (a' := ?_) ?_ ?_
                        rotate_left
                        · show Act.put _ (some 16) _ = _
                          simp only [Act.put, cksa, cksz, ckss, i64_w, i32_w]
                          rfl
                        refine pure_ (i := 6) (N := some 17) (v := ?_) (a' := ?_) ckq7 rfl rfl (any_of HT_.out (by kernel_rfl)) (fun _ _ _ h => h) (Or.inl ⟨by rfl, ?_⟩) ?_ ?_
                        rotate_left; (· intro w'; go_simp; with_reducible rfl); rotate_left; (· simp only [Act.put, cksa, cksz, ckss, i64_w, i32_w]; rfl)
                        refine pure_ (i := 7) (N := some 18) (v := ?_) (a' := ?_) ckq8 rfl rfl (any_of HT_.out (by kernel_rfl)) (fun _ _ _ h => h) (Or.inl ⟨by rfl, ?_⟩) ?_ ?_
                        rotate_left; (· intro w'; go_simp; with_reducible rfl); rotate_left; (· simp only [Act.put, cksa, cksz, ckss, i64_w, i32_w]; rfl)
                        refine pure_ (i := 8) (N := some 19) (v := ?_) (a' := ?_) ckq9 rfl rfl (any_of HT_.out (by kernel_rfl)) (fun _ _ _ h => h) (Or.inl ⟨by rfl, ?_⟩) ?_ ?_
                        rotate_left; (· intro w'; go_simp; with_reducible rfl); rotate_left; (· simp only [Act.put, cksa, cksz, ckss, i64_w, i32_w]; rfl)
                        refine pure_ (i := 9) (N := some 20) (v := ?_) (a' := ?_) ckq10 rfl rfl (any_of HT_.out (by kernel_rfl)) (fun _ _ _ h => h) (Or.inl ⟨by rfl, ?_⟩) ?_ ?_
                        rotate_left; (· intro w'; go_simp; with_reducible rfl); rotate_left; (· simp only [Act.put, cksa, cksz, ckss, i64_w, i32_w]; rfl)
                        refine pure_ (i := 10) (N := some 21) (v := ?_) (a' := ?_) ckq11 rfl rfl (any_of HT_.out (by kernel_rfl)) (fun _ _ _ h => h) (Or.inl ⟨by rfl, ?_⟩) ?_ ?_
                        rotate_left; (· intro w'; go_simp; with_reducible rfl); rotate_left; (· simp only [Act.put, cksa, cksz, ckss, i64_w, i32_w]; rfl)
                        refine pure_ (i := 11) (N := some 22) (v := ?_) (a' := ?_) ckq12 rfl rfl (any_of HT_.out (by kernel_rfl)) (fun _ _ _ h => h) (Or.inl ⟨by rfl, ?_⟩) ?_ ?_
                        rotate_left; (· intro w'; go_simp; with_reducible rfl); rotate_left; (· simp only [Act.put, cksa, cksz, ckss, i64_w, i32_w]; rfl)
                        refine take_ (i := 12) (N := some 23) (v := ?_) (a' := ?_) ckq13 rfl rfl (take_ofW HT_.out HW_.out (by kernel_rfl)) (fun _ _ _ h => h) (Or.inl ⟨by rfl, ?_⟩) hHeld ?_ ?_
                        rotate_left; (· rintro w' ⟨s0, s1, s2, s3, s4, s5, s6, s7, s8, s9, s10, s11⟩; go_simp; with_reducible rfl); rotate_left; (· simp only [Act.put, cksa, cksz, ckss, i64_w, i32_w]; rfl)
                        refine one_ (i := 13) (N := some 24) ckq14 rfl rfl (one_of HT_.out (by kernel_rfl)) (by decide) (fun K hK => ?_)
                        refine goes_ Try.func48 (by kernel_rfl) rfl #[.int .i64 ((rd_T62 l0 x4_1).f1)] (by rfl) rfl rfl (by (try simp only [List.map_toArray, List.map_cons, List.map_nil]); first | done | rfl | (simp only [List.length_drop, List.length_take]; rfl)) ?_
                        with_reducible refine (secateurref02_Value.calls ((rd_T62 l0 x4_1).f1) true _ A6.out).mono ?_
                        rintro e w' ⟨rfl, ⟨nd, rfl⟩⟩
                        refine ⟨_, rfl, ?_⟩
                        refine hK.out _ _ ⟨((HB.out.cell (World.block_lt_of_cell? w _ hw242_0)).trans hw242_0), ((HB.out.cell (World.block_lt_of_cell? w _ hw242_1)).trans hw242_1), ((HB.out.cell (World.block_lt_of_cell? w _ hw244_0)).trans hw244_0), ((HB.out.cell (World.block_lt_of_cell? w _ hw244_1)).trans hw244_1), ((HB.out.cell (World.block_lt_of_cell? w _ hw246_0)).trans hw246_0), ((HB.out.cell (World.block_lt_of_cell? w _ hw246_1)).trans hw246_1), ((HB.out.cell (World.block_lt_of_cell? w _ hw247_0)).trans hw247_0), ((HB.out.cell (World.block_lt_of_cell? w _ hw247_1)).trans hw247_1), ((HB.out.cell (World.block_lt_of_cell? w _ hw248_0)).trans hw248_0), ((HB.out.cell (World.block_lt_of_cell? w _ hw248_1)).trans hw248_1), ((HB.out.cell (World.block_lt_of_cell? w _ hw249_0)).trans hw249_0), ((HB.out.cell (World.block_lt_of_cell? w _ hw249_1)).trans hw249_1)⟩ (fun hHeld => ?_)
                        clear hK K
                        refine norm_ (a' := ?_) ?_ ?_
                        rotate_left
                        · show Act.put _ (some 24) _ = _
                          simp only [Act.put, cksa, cksz, ckss, i64_w, i32_w]
                          rfl
                        refine pure_ (i := 14) (N := some 25) (v := ?_) (a' := ?_) ckq15 rfl rfl (any_of HT_.out (by kernel_rfl)) (fun _ _ _ h => h) (Or.inl ⟨by rfl, ?_⟩) ?_ ?_
                        rotate_left; (· intro w'; go_simp; with_reducible rfl); rotate_left; (· simp only [Act.put, cksa, cksz, ckss, i64_w, i32_w]; rfl)
                        refine pure_ (i := 15) (N := some 26) (v := ?_) (a' := ?_) ckq16 rfl rfl (any_of HT_.out (by kernel_rfl)) (fun _ _ _ h => h) (Or.inl ⟨by rfl, ?_⟩) ?_ ?_
                        rotate_left; (· intro w'; go_simp; with_reducible rfl); rotate_left; (· simp only [Act.put, cksa, cksz, ckss, i64_w, i32_w]; rfl)
                        refine pure_ (i := 16) (N := some 27) (v := ?_) (a' := ?_) ckq17 rfl rfl (any_of HT_.out (by kernel_rfl)) (fun _ _ _ h => h) (Or.inl ⟨by rfl, ?_⟩) ?_ ?_
                        rotate_left; (· intro w'; go_simp; with_reducible rfl); rotate_left; (· simp only [Act.put, cksa, cksz, ckss, i64_w, i32_w]; rfl)
                        refine pure_ (i := 17) (N := some 28) (v := ?_) (a' := ?_) ckq18 rfl rfl (any_of HT_.out (by kernel_rfl)) (fun _ _ _ h => h) (Or.inl ⟨by rfl, ?_⟩) ?_ ?_
                        rotate_left; (· intro w'; go_simp; with_reducible rfl); rotate_left; (· simp only [Act.put, cksa, cksz, ckss, i64_w, i32_w]; rfl)
                        refine pure_ (i := 18) (N := some 29) (v := ?_) (a' := ?_) ckq19 rfl rfl (any_of HT_.out (by kernel_rfl)) (fun _ _ _ h => h) (Or.inl ⟨by rfl, ?_⟩) ?_ ?_
                        rotate_left; (· intro w'; go_simp; with_reducible rfl); rotate_left; (· simp only [Act.put, cksa, cksz, ckss, i64_w, i32_w]; rfl)
                        refine pure_ (i := 19) (N := some 30) (v := ?_) (a' := ?_) ckq20 rfl rfl (any_of HT_.out (by kernel_rfl)) (fun _ _ _ h => h) (Or.inl ⟨by rfl, ?_⟩) ?_ ?_
                        rotate_left; (· intro w'; go_simp; with_reducible rfl); rotate_left; (· simp only [Act.put, cksa, cksz, ckss, i64_w, i32_w]; rfl)
                        refine pure_ (i := 20) (N := some 31) (v := ?_) (a' := ?_) ckq21 rfl rfl (any_of HT_.out (by kernel_rfl)) (fun _ _ _ h => h) (Or.inl ⟨by rfl, ?_⟩) ?_ ?_
                        rotate_left; (· intro w'; go_simp; with_reducible rfl); rotate_left; (· simp only [Act.put, cksa, cksz, ckss, i64_w, i32_w]; rfl)
                        refine pure_ (i := 22) (N := some 33) (v := ?_) (a' := ?_) ckq22 rfl rfl (any_of HT_.out (by kernel_rfl)) (fun _ _ _ h => h) (Or.inl ⟨by rfl, ?_⟩) ?_ ?_
                        rotate_left; (· intro w'; go_simp; with_reducible rfl); rotate_left; (· simp only [Act.put, cksa, cksz, ckss, i64_w, i32_w]; rfl)
                        refine pure_ (i := 23) (N := some 34) (v := ?_) (a' := ?_) ckq23 rfl rfl (any_of HT_.out (by kernel_rfl)) (fun _ _ _ h => h) (Or.inl ⟨by rfl, ?_⟩) ?_ ?_
                        rotate_left; (· intro w'; go_simp; with_reducible rfl); rotate_left; (· simp only [Act.put, cksa, cksz, ckss, i64_w, i32_w]; rfl)
                        refine pure_ (i := 24) (N := some 35) (v := ?_) (a' := ?_) ckq24 rfl rfl (any_of HT_.out (by kernel_rfl)) (fun _ _ _ h => h) (Or.inl ⟨by rfl, ?_⟩) ?_ ?_
                        rotate_left; (· intro w'; go_simp; with_reducible rfl); rotate_left; (· simp only [Act.put, cksa, cksz, ckss, i64_w, i32_w]; rfl)
                        refine pure_ (i := 25) (N := some 36) (v := ?_) (a' := ?_) ckq25 rfl rfl (any_of HT_.out (by kernel_rfl)) (fun _ _ _ h => h) (Or.inl ⟨by rfl, ?_⟩) ?_ ?_
                        rotate_left; (· intro w'; go_simp; with_reducible rfl); rotate_left; (· simp only [Act.put, cksa, cksz, ckss, i64_w, i32_w]; rfl)
                        refine take_ (i := 21) (N := some 32) (v := ?_) (a' := ?_) ckq26 rfl rfl (take_ofW HT_.out HW_.out (by kernel_rfl)) (fun _ _ _ h => h) (Or.inl ⟨by rfl, ?_⟩) hHeld ?_ ?_
                        rotate_left; (· rintro w' ⟨s0, s1, s2, s3, s4, s5, s6, s7, s8, s9, s10, s11⟩; go_simp; with_reducible rfl); rotate_left; (· simp only [Act.put, cksa, cksz, ckss, i64_w, i32_w]; rfl)
                        refine take_ (i := 26) (N := some 37) (v := ?_) (a' := ?_) ckq27 rfl rfl (take_ofW HT_.out HW_.out (by kernel_rfl)) (fun _ _ _ h => h) (Or.inl ⟨by rfl, ?_⟩) hHeld ?_ ?_
                        rotate_left; (· rintro w' ⟨s0, s1, s2, s3, s4, s5, s6, s7, s8, s9, s10, s11⟩; go_simp; with_reducible rfl); rotate_left; (· simp only [Act.put, cksa, cksz, ckss, i64_w, i32_w]; rfl)
                        refine pure_ (i := 27) (N := some 38) (v := ?_) (a' := ?_) ckq28 rfl rfl (any_of HT_.out (by kernel_rfl)) (fun _ _ _ h => h) (Or.inl ⟨by rfl, ?_⟩) ?_ ?_
                        rotate_left; (· intro w'; go_simp; with_reducible rfl); rotate_left; (· simp only [Act.put, cksa, cksz, ckss, i64_w, i32_w]; rfl)
                        refine pure_ (i := 28) (N := some 39) (v := ?_) (a' := ?_) ckq29 rfl rfl (any_of HT_.out (by kernel_rfl)) (fun _ _ _ h => h) (Or.inl ⟨by rfl, ?_⟩) ?_ ?_
                        rotate_left; (· intro w'; go_simp; with_reducible rfl); rotate_left; (· simp only [Act.put, cksa, cksz, ckss, i64_w, i32_w]; rfl)
                        refine pure_ (i := 29) (N := some 40) (v := ?_) (a' := ?_) ckq30 rfl rfl (any_of HT_.out (by kernel_rfl)) (fun _ _ _ h => h) (Or.inl ⟨by rfl, ?_⟩) ?_ ?_
                        rotate_left; (· intro w'; go_simp; with_reducible rfl); rotate_left; (· simp only [Act.put, cksa, cksz, ckss, i64_w, i32_w]; rfl)
                        refine pure_ (i := 30) (N := some 41) (v := ?_) (a' := ?_) ckq31 rfl rfl (any_of HT_.out (by kernel_rfl)) (fun _ _ _ h => h) (Or.inl ⟨by rfl, ?_⟩) ?_ ?_
                        rotate_left; (· intro w'; go_simp; with_reducible rfl); rotate_left; (· simp only [Act.put, cksa, cksz, ckss, i64_w, i32_w]; rfl)
                        refine pure_ (i := 31) (N := some 42) (v := ?_) (a' := ?_) ckq32 rfl rfl (any_of HT_.out (by kernel_rfl)) (fun _ _ _ h => h) (Or.inl ⟨by rfl, ?_⟩) ?_ ?_
                        rotate_left; (· intro w'; go_simp; with_reducible rfl); rotate_left; (· simp only [Act.put, cksa, cksz, ckss, i64_w, i32_w]; rfl)
                        refine pure_ (i := 32) (N := some 43) (v := ?_) (a' := ?_) ckq33 rfl rfl (any_of HT_.out (by kernel_rfl)) (fun _ _ _ h => h) (Or.inl ⟨by rfl, ?_⟩) ?_ ?_
                        rotate_left; (· intro w'; go_simp; with_reducible rfl); rotate_left; (· simp only [Act.put, cksa, cksz, ckss, i64_w, i32_w]; rfl)
                        refine pure_ (i := 33) (N := some 44) (v := ?_) (a' := ?_) ckq34 rfl rfl (any_of HT_.out (by kernel_rfl)) (fun _ _ _ h => h) (Or.inl ⟨by rfl, ?_⟩) ?_ ?_
                        rotate_left; (· intro w'; go_simp; with_reducible rfl); rotate_left; (· simp only [Act.put, cksa, cksz, ckss, i64_w, i32_w]; rfl)
                        refine pure_ (i := 34) (N := some 45) (v := ?_) (a' := ?_) ckq35 rfl rfl (any_of HT_.out (by kernel_rfl)) (fun _ _ _ h => h) (Or.inl ⟨by rfl, ?_⟩) ?_ ?_
                        rotate_left; (· intro w'; go_simp; with_reducible rfl); rotate_left; (· simp only [Act.put, cksa, cksz, ckss, i64_w, i32_w]; rfl)
                        refine pure_ (i := 35) (N := some 46) (v := ?_) (a' := ?_) ckq36 rfl rfl (any_of HT_.out (by kernel_rfl)) (fun _ _ _ h => h) (Or.inl ⟨by rfl, ?_⟩) ?_ ?_
                        rotate_left; (· intro w'; go_simp; with_reducible rfl); rotate_left; (· simp only [Act.put, cksa, cksz, ckss, i64_w, i32_w]; rfl)
                        refine pure_ (i := 36) (N := some 47) (v := ?_) (a' := ?_) ckq37 rfl rfl (any_of HT_.out (by kernel_rfl)) (fun _ _ _ h => h) (Or.inl ⟨by rfl, ?_⟩) ?_ ?_
                        rotate_left; (· intro w'; go_simp; with_reducible rfl); rotate_left; (· simp only [Act.put, cksa, cksz, ckss, i64_w, i32_w]; rfl)
                        refine pure_ (i := 38) (N := some 49) (v := ?_) (a' := ?_) ckq49 rfl rfl (any_of HT_.out (by kernel_rfl)) (fun _ _ _ h => h) (Or.inl ⟨by rfl, ?_⟩) ?_ ?_
                        rotate_left; (· intro w'; go_simp; with_reducible rfl); rotate_left; (· simp only [Act.put, cksa, cksz, ckss, i64_w, i32_w]; rfl)
                        refine pure_ (i := 39) (N := some 50) (v := ?_) (a' := ?_) ckq50 rfl rfl (any_of HT_.out (by kernel_rfl)) (fun _ _ _ h => h) (Or.inl ⟨by rfl, ?_⟩) ?_ ?_
                        rotate_left; (· intro w'; go_simp; with_reducible rfl); rotate_left; (· simp only [Act.put, cksa, cksz, ckss, i64_w, i32_w]; rfl)
                        refine pure_ (i := 40) (N := some 51) (v := ?_) (a' := ?_) ckq51 rfl rfl (any_of HT_.out (by kernel_rfl)) (fun _ _ _ h => h) (Or.inl ⟨by rfl, ?_⟩) ?_ ?_
                        rotate_left; (· intro w'; go_simp; with_reducible rfl); rotate_left; (· simp only [Act.put, cksa, cksz, ckss, i64_w, i32_w]; rfl)
                        refine pure_ (i := 41) (N := some 52) (v := ?_) (a' := ?_) ckq52 rfl rfl (any_of HT_.out (by kernel_rfl)) (fun _ _ _ h => h) (Or.inl ⟨by rfl, ?_⟩) ?_ ?_
                        rotate_left; (· intro w'; go_simp; with_reducible rfl); rotate_left; (· simp only [Act.put, cksa, cksz, ckss, i64_w, i32_w]; rfl)
                        refine pure_ (i := 42) (N := some 53) (v := ?_) (a' := ?_) ckq53 rfl rfl (any_of HT_.out (by kernel_rfl)) (fun _ _ _ h => h) (Or.inl ⟨by rfl, ?_⟩) ?_ ?_
                        rotate_left; (· intro w'; go_simp; with_reducible rfl); rotate_left; (· simp only [Act.put, cksa, cksz, ckss, i64_w, i32_w]; rfl)
                        refine take_ (i := 37) (N := some 48) (v := ?_) (a' := ?_) ckq43 rfl rfl (take_ofW HT_.out HW_.out (by kernel_rfl)) (fun _ _ _ h => h) (Or.inl ⟨by rfl, ?_⟩) hHeld ?_ ?_
                        rotate_left; (· rintro w' ⟨s0, s1, s2, s3, s4, s5, s6, s7, s8, s9, s10, s11⟩; go_simp; with_reducible rfl); rotate_left; (· simp only [Act.put, cksa, cksz, ckss, i64_w, i32_w]; rfl)
                        refine take_ (i := 43) (N := some 54) (v := ?_) (a' := ?_) ckq44 rfl rfl (take_ofW HT_.out HW_.out (by kernel_rfl)) (fun _ _ _ h => h) (Or.inl ⟨by rfl, ?_⟩) hHeld ?_ ?_
                        rotate_left; (· rintro w' ⟨s0, s1, s2, s3, s4, s5, s6, s7, s8, s9, s10, s11⟩; go_simp; with_reducible rfl); rotate_left; (· simp only [Act.put, cksa, cksz, ckss, i64_w, i32_w]; rfl)
                        refine pure_ (i := 44) (N := some 55) (v := ?_) (a' := ?_) ckq45 rfl rfl (any_of HT_.out (by kernel_rfl)) (fun _ _ _ h => h) (Or.inl ⟨by rfl, ?_⟩) ?_ ?_
                        rotate_left; (· intro w'; go_simp; with_reducible rfl); rotate_left; (· simp only [Act.put, cksa, cksz, ckss, i64_w, i32_w]; rfl)
                        refine pure_ (i := 45) (N := some 56) (v := ?_) (a' := ?_) ckq46 rfl rfl (any_of HT_.out (by kernel_rfl)) (fun _ _ _ h => h) (Or.inl ⟨by rfl, ?_⟩) ?_ ?_
                        rotate_left; (· intro w'; go_simp; with_reducible rfl); rotate_left; (· simp only [Act.put, cksa, cksz, ckss, i64_w, i32_w]; rfl)
                        refine pure_ (i := 46) (N := some 57) (v := ?_) (a' := ?_) ckq47 rfl rfl (any_of HT_.out (by kernel_rfl)) (fun _ _ _ h => h) (Or.inl ⟨by rfl, ?_⟩) ?_ ?_
                        rotate_left; (· intro w'; go_simp; with_reducible rfl); rotate_left; (· simp only [Act.put, cksa, cksz, ckss, i64_w, i32_w]; rfl)
                        refine pure_ (i := 47) (N := some 58) (v := ?_) (a' := ?_) ckq48 rfl rfl (any_of HT_.out (by kernel_rfl)) (fun _ _ _ h => h) (Or.inl ⟨by rfl, ?_⟩) ?_ ?_
                        rotate_left; (· intro w'; go_simp; with_reducible rfl); rotate_left; (· simp only [Act.put, cksa, cksz, ckss, i64_w, i32_w]; rfl)
                        refine done_ (done_of HT_.out (by kernel_rfl)) ?_
                        try go_wp2
                        (try (rw [drewN_self w16]; generalize hq_ : World.drewN w16 _ = w16; have n0_ : Aside0 (Below w.heap.size w w16) := ⟨by rw [← hq_]; exact (by repeat (first | (with_reducible first | exact HB.out | apply below_alloc | apply pw_below_drewN | apply below_drew1) | exact HB.out))⟩; clear HB hq_; have HB := n0_; clear n0_))
                        have n0_ := Aside0.mk (below_drew1 HB.out)
                        clear HB
                        have HB := n0_
                        clear n0_
                        have p250 : 0 ≤ (x4_1 : Int) := of_decide_eq_true (by first | (with_reducible assumption) | assumption)
                        have q250 : x4_1 < (l0.length : Int) := of_decide_eq_true (by first | (with_reducible assumption) | assumption)
                        obtain ⟨ad250, e250, hx250_0, hx250_1⟩ := at_T62 HR0.out x4_1 p250 q250
                        have hw250_1 := hx250_1
                        have hw250_0 := hx250_0
                        obtain rfl : ad242 = ad250 := (by injection e250)
                        replace hx250_0 := (HB.out.cell (World.block_lt_of_cell? w _ hx250_0)).trans hx250_0
                        replace hx250_1 := (HB.out.cell (World.block_lt_of_cell? w _ hx250_1)).trans hx250_1
                        replace p250 := eq_true p250
                        replace q250 := eq_true q250
                        have p251 : 0 ≤ (x4_1 : Int) := of_decide_eq_true (by first | (with_reducible assumption) | assumption)
                        have q251 : x4_1 < (l0.length : Int) := of_decide_eq_true (by first | (with_reducible assumption) | assumption)
                        obtain ⟨ad251, e251, hx251_0, hx251_1⟩ := at_T62 HR0.out x4_1 p251 q251
                        have hw251_1 := hx251_1
                        have hw251_0 := hx251_0
                        obtain rfl : ad242 = ad251 := (by injection e251)
                        replace hx251_0 := (HB.out.cell (World.block_lt_of_cell? w _ hx251_0)).trans hx251_0
                        replace hx251_1 := (HB.out.cell (World.block_lt_of_cell? w _ hx251_1)).trans hx251_1
                        replace p251 := eq_true p251
                        replace q251 := eq_true q251
                        refine start_ (n := 15) (S := fun w' => w'.cell? (ad242.add ((x4_1).toNat * 2)) = some (.int .i64 ((rd_T62 l0 x4_1).f0)) ∧ w'.cell? ⟨(ad242.add ((x4_1).toNat * 2)).block, (ad242.add ((x4_1).toNat * 2)).off + 1, none⟩ = some (.int .i64 ((rd_T62 l0 x4_1).f1)) ∧ w'.cell? (ad242.add ((x4_1).toNat * 2)) = some (.int .i64 ((rd_T62 l0 x4_1).f0)) ∧ w'.cell? ⟨(ad242.add ((x4_1).toNat * 2)).block, (ad242.add ((x4_1).toNat * 2)).off + 1, none⟩ = some (.int .i64 ((rd_T62 l0 x4_1).f1))) (ds := []) ckq54 (by kernel_rfl) rfl rfl ⟨((HB.out.cell (World.block_lt_of_cell? w _ hw250_0)).trans hw250_0), ((HB.out.cell (World.block_lt_of_cell? w _ hw250_1)).trans hw250_1), ((HB.out.cell (World.block_lt_of_cell? w _ hw251_0)).trans hw251_0), ((HB.out.cell (World.block_lt_of_cell? w _ hw251_1)).trans hw251_1)⟩ (fun hHeld => ?_); refine with_tabW r2Check.tab7 r2Check.bits7 (fun HT_ HW_ => ?_)
                        generalize w16.drew = w17 at HB hx250_0 hx250_1 hx251_0 hx251_1 hHeld ⊢
                        refine pure_ (i := 0) (N := some 59) (v := ?_) (a' := ?_) ckq55 rfl rfl (any_of HT_.out (by kernel_rfl)) (fun _ _ _ h => h) (Or.inl ⟨by rfl, ?_⟩) ?_ ?_
                        rotate_left; (· intro w'; go_simp; with_reducible rfl); rotate_left; (· simp only [Act.put, cksa, cksz, ckss, i64_w, i32_w]; rfl)
                        refine pure_ (i := 1) (N := some 60) (v := ?_) (a' := ?_) ckq56 rfl rfl (any_of HT_.out (by kernel_rfl)) (fun _ _ _ h => h) (Or.inl ⟨by rfl, ?_⟩) ?_ ?_
                        rotate_left; (· intro w'; go_simp; with_reducible rfl); rotate_left; (· simp only [Act.put, cksa, cksz, ckss, i64_w, i32_w]; rfl)
                        refine pure_ (i := 2) (N := some 61) (v := ?_) (a' := ?_) ckq57 rfl rfl (any_of HT_.out (by kernel_rfl)) (fun _ _ _ h => h) (Or.inl ⟨by rfl, ?_⟩) ?_ ?_
                        rotate_left; (· intro w'; go_simp; with_reducible rfl); rotate_left; (· simp only [Act.put, cksa, cksz, ckss, i64_w, i32_w]; rfl)
                        refine pure_ (i := 3) (N := some 62) (v := ?_) (a' := ?_) ckq58 rfl rfl (any_of HT_.out (by kernel_rfl)) (fun _ _ _ h => h) (Or.inl ⟨by rfl, ?_⟩) ?_ ?_
                        rotate_left; (· intro w'; go_simp; with_reducible rfl); rotate_left; (· simp only [Act.put, cksa, cksz, ckss, i64_w, i32_w]; rfl)
                        refine pure_ (i := 4) (N := some 63) (v := ?_) (a' := ?_) ckq59 rfl rfl (any_of HT_.out (by kernel_rfl)) (fun _ _ _ h => h) (Or.inl ⟨by rfl, ?_⟩) ?_ ?_
                        rotate_left; (· intro w'; go_simp; with_reducible rfl); rotate_left; (· simp only [Act.put, cksa, cksz, ckss, i64_w, i32_w]; rfl)
                        refine pure_ (i := 6) (N := some 65) (v := ?_) (a' := ?_) ckq60 rfl rfl (any_of HT_.out (by kernel_rfl)) (fun _ _ _ h => h) (Or.inl ⟨by rfl, ?_⟩) ?_ ?_
                        rotate_left; (· intro w'; go_simp; with_reducible rfl); rotate_left; (· simp only [Act.put, cksa, cksz, ckss, i64_w, i32_w]; rfl)
                        refine pure_ (i := 7) (N := some 66) (v := ?_) (a' := ?_) ckq61 rfl rfl (any_of HT_.out (by kernel_rfl)) (fun _ _ _ h => h) (Or.inl ⟨by rfl, ?_⟩) ?_ ?_
                        rotate_left; (· intro w'; go_simp; with_reducible rfl); rotate_left; (· simp only [Act.put, cksa, cksz, ckss, i64_w, i32_w]; rfl)
                        refine pure_ (i := 8) (N := some 67) (v := ?_) (a' := ?_) ckq62 rfl rfl (any_of HT_.out (by kernel_rfl)) (fun _ _ _ h => h) (Or.inl ⟨by rfl, ?_⟩) ?_ ?_
                        rotate_left; (· intro w'; go_simp; with_reducible rfl); rotate_left; (· simp only [Act.put, cksa, cksz, ckss, i64_w, i32_w]; rfl)
                        refine pure_ (i := 9) (N := some 68) (v := ?_) (a' := ?_) ckq63 rfl rfl (any_of HT_.out (by kernel_rfl)) (fun _ _ _ h => h) (Or.inl ⟨by rfl, ?_⟩) ?_ ?_
                        rotate_left; (· intro w'; go_simp; with_reducible rfl); rotate_left; (· simp only [Act.put, cksa, cksz, ckss, i64_w, i32_w]; rfl)
                        refine take_ (i := 5) (N := some 64) (v := ?_) (a' := ?_) ckq64 rfl rfl (take_ofW HT_.out HW_.out (by kernel_rfl)) (fun _ _ _ h => h) (Or.inl ⟨by rfl, ?_⟩) hHeld ?_ ?_
                        rotate_left; (· rintro w' ⟨s0, s1, s2, s3⟩; go_simp; with_reducible rfl); rotate_left; (· simp only [Act.put, cksa, cksz, ckss, i64_w, i32_w]; rfl)
                        refine take_ (i := 10) (N := some 69) (v := ?_) (a' := ?_) ckq65 rfl rfl (take_ofW HT_.out HW_.out (by kernel_rfl)) (fun _ _ _ h => h) (Or.inl ⟨by rfl, ?_⟩) hHeld ?_ ?_
                        rotate_left; (· rintro w' ⟨s0, s1, s2, s3⟩; go_simp; with_reducible rfl); rotate_left; (· simp only [Act.put, cksa, cksz, ckss, i64_w, i32_w]; rfl)
                        refine pure_ (i := 11) (N := some 70) (v := ?_) (a' := ?_) ckq66 rfl rfl (any_of HT_.out (by kernel_rfl)) (fun _ _ _ h => h) (Or.inl ⟨by rfl, ?_⟩) ?_ ?_
                        rotate_left; (· intro w'; go_simp; with_reducible rfl); rotate_left; (· simp only [Act.put, cksa, cksz, ckss, i64_w, i32_w]; rfl)
                        refine pure_ (i := 12) (N := some 71) (v := ?_) (a' := ?_) ckq67 rfl rfl (any_of HT_.out (by kernel_rfl)) (fun _ _ _ h => h) (Or.inl ⟨by rfl, ?_⟩) ?_ ?_
                        rotate_left; (· intro w'; go_simp; with_reducible rfl); rotate_left; (· simp only [Act.put, cksa, cksz, ckss, i64_w, i32_w]; rfl)
                        refine pure_ (i := 13) (N := some 72) (v := ?_) (a' := ?_) ckq68 rfl rfl (any_of HT_.out (by kernel_rfl)) (fun _ _ _ h => h) (Or.inl ⟨by rfl, ?_⟩) ?_ ?_
                        rotate_left; (· intro w'; go_simp; with_reducible rfl); rotate_left; (· simp only [Act.put, cksa, cksz, ckss, i64_w, i32_w]; rfl)
                        refine pure_ (i := 14) (N := some 3) (v := ?_) (a' := ?_) ckq69 rfl rfl (any_of HT_.out (by kernel_rfl)) (fun _ _ _ h => h) (Or.inl ⟨by rfl, ?_⟩) ?_ ?_
                        rotate_left; (· intro w'; go_simp; with_reducible rfl); rotate_left; (· simp only [Act.put, cksa, cksz, ckss, i64_w, i32_w]; rfl)
                        refine done_ (done_of HT_.out (by kernel_rfl)) ?_
                        try go_wp2
                        go_roundg k1
                        case measure => have := HK1.out; omega
                        case rel => exact ⟨(wrap64 (x3_1 + (wrap64 ((wrap64 (((rd_T62 l0 x4_1).f1) - ((rd_T62 l0 x4_1).f0))) + 1)))), (wrap64 (x4_1 + 1)), (by first | rfl | (simp; done) | (simp [*]; done)), (by first | rfl | (simp; done) | (simp [*]; done)), H', ⟨by have := HK1.out; omega⟩, ⟨by repeat (first | (with_reducible first | exact HB.out | apply below_alloc | apply pw_below_drewN | apply below_drew1) | exact HB.out)⟩⟩
                    · rw [if_neg c13] at H
                      exact absurd H (by simp)
                  · rw [if_neg c12] at H
                    exact absurd H (by simp)
                · rw [if_neg c10] at H
                  have c10b0 : decide (0 < x4_1) = false := decide_eq_false c10
                  clear c10
                  have H' := Aside0.mk H
                  clear H
                  try go_wp2
                  have n0_ := Aside0.mk (below_drew1 HB.out)
                  clear HB
                  have HB := n0_
                  clear n0_
                  have p242 : 0 ≤ (x4_1 : Int) := of_decide_eq_true (by first | (with_reducible assumption) | assumption)
                  have q242 : x4_1 < (l0.length : Int) := of_decide_eq_true (by first | (with_reducible assumption) | assumption)
                  obtain ⟨ad242, e242, hx242_0, hx242_1⟩ := at_T62 HR0.out x4_1 p242 q242
                  have hw242_1 := hx242_1
                  have hw242_0 := hx242_0
                  cases e242
                  replace hx242_0 := (HB.out.cell (World.block_lt_of_cell? w _ hx242_0)).trans hx242_0
                  replace hx242_1 := (HB.out.cell (World.block_lt_of_cell? w _ hx242_1)).trans hx242_1
                  replace p242 := eq_true p242
                  replace q242 := eq_true q242
                  have p244 : 0 ≤ (x4_1 : Int) := of_decide_eq_true (by first | (with_reducible assumption) | assumption)
                  have q244 : x4_1 < (l0.length : Int) := of_decide_eq_true (by first | (with_reducible assumption) | assumption)
                  obtain ⟨ad244, e244, hx244_0, hx244_1⟩ := at_T62 HR0.out x4_1 p244 q244
                  have hw244_1 := hx244_1
                  have hw244_0 := hx244_0
                  obtain rfl : ad242 = ad244 := (by injection e244)
                  replace hx244_0 := (HB.out.cell (World.block_lt_of_cell? w _ hx244_0)).trans hx244_0
                  replace hx244_1 := (HB.out.cell (World.block_lt_of_cell? w _ hx244_1)).trans hx244_1
                  replace p244 := eq_true p244
                  replace q244 := eq_true q244
                  have p246 : 0 ≤ (x4_1 : Int) := of_decide_eq_true (by first | (with_reducible assumption) | assumption)
                  have q246 : x4_1 < (l0.length : Int) := of_decide_eq_true (by first | (with_reducible assumption) | assumption)
                  obtain ⟨ad246, e246, hx246_0, hx246_1⟩ := at_T62 HR0.out x4_1 p246 q246
                  have hw246_1 := hx246_1
                  have hw246_0 := hx246_0
                  obtain rfl : ad242 = ad246 := (by injection e246)
                  replace hx246_0 := (HB.out.cell (World.block_lt_of_cell? w _ hx246_0)).trans hx246_0
                  replace hx246_1 := (HB.out.cell (World.block_lt_of_cell? w _ hx246_1)).trans hx246_1
                  replace p246 := eq_true p246
                  replace q246 := eq_true q246
                  have p247 : 0 ≤ (x4_1 : Int) := of_decide_eq_true (by first | (with_reducible assumption) | assumption)
                  have q247 : x4_1 < (l0.length : Int) := of_decide_eq_true (by first | (with_reducible assumption) | assumption)
                  obtain ⟨ad247, e247, hx247_0, hx247_1⟩ := at_T62 HR0.out x4_1 p247 q247
                  have hw247_1 := hx247_1
                  have hw247_0 := hx247_0
                  obtain rfl : ad242 = ad247 := (by injection e247)
                  replace hx247_0 := (HB.out.cell (World.block_lt_of_cell? w _ hx247_0)).trans hx247_0
                  replace hx247_1 := (HB.out.cell (World.block_lt_of_cell? w _ hx247_1)).trans hx247_1
                  replace p247 := eq_true p247
                  replace q247 := eq_true q247
                  refine start_ (n := 48) (S := fun w' => w'.cell? (ad242.add ((x4_1).toNat * 2)) = some (.int .i64 ((rd_T62 l0 x4_1).f0)) ∧ w'.cell? ⟨(ad242.add ((x4_1).toNat * 2)).block, (ad242.add ((x4_1).toNat * 2)).off + 1, none⟩ = some (.int .i64 ((rd_T62 l0 x4_1).f1)) ∧ w'.cell? (ad242.add ((x4_1).toNat * 2)) = some (.int .i64 ((rd_T62 l0 x4_1).f0)) ∧ w'.cell? ⟨(ad242.add ((x4_1).toNat * 2)).block, (ad242.add ((x4_1).toNat * 2)).off + 1, none⟩ = some (.int .i64 ((rd_T62 l0 x4_1).f1)) ∧ w'.cell? (ad242.add ((x4_1).toNat * 2)) = some (.int .i64 ((rd_T62 l0 x4_1).f0)) ∧ w'.cell? ⟨(ad242.add ((x4_1).toNat * 2)).block, (ad242.add ((x4_1).toNat * 2)).off + 1, none⟩ = some (.int .i64 ((rd_T62 l0 x4_1).f1)) ∧ w'.cell? (ad242.add ((x4_1).toNat * 2)) = some (.int .i64 ((rd_T62 l0 x4_1).f0)) ∧ w'.cell? ⟨(ad242.add ((x4_1).toNat * 2)).block, (ad242.add ((x4_1).toNat * 2)).off + 1, none⟩ = some (.int .i64 ((rd_T62 l0 x4_1).f1))) (ds := []) ckq0 (by kernel_rfl) rfl rfl ⟨((HB.out.cell (World.block_lt_of_cell? w _ hw242_0)).trans hw242_0), ((HB.out.cell (World.block_lt_of_cell? w _ hw242_1)).trans hw242_1), ((HB.out.cell (World.block_lt_of_cell? w _ hw244_0)).trans hw244_0), ((HB.out.cell (World.block_lt_of_cell? w _ hw244_1)).trans hw244_1), ((HB.out.cell (World.block_lt_of_cell? w _ hw246_0)).trans hw246_0), ((HB.out.cell (World.block_lt_of_cell? w _ hw246_1)).trans hw246_1), ((HB.out.cell (World.block_lt_of_cell? w _ hw247_0)).trans hw247_0), ((HB.out.cell (World.block_lt_of_cell? w _ hw247_1)).trans hw247_1)⟩ (fun hHeld => ?_); refine with_tabW r2Check.tab5 r2Check.bits5 (fun HT_ HW_ => ?_)
                  generalize wr.drew = w18 at HB hx242_0 hx242_1 hx244_0 hx244_1 hx246_0 hx246_1 hx247_0 hx247_1 hHeld ⊢
                  refine pure_ (i := 0) (N := some 11) (v := ?_) (a' := ?_) ckq1 rfl rfl (any_of HT_.out (by kernel_rfl)) (fun _ _ _ h => h) (Or.inl ⟨by rfl, ?_⟩) ?_ ?_
                  rotate_left; (· intro w'; go_simp; with_reducible rfl); rotate_left; (· simp only [Act.put, cksa, cksz, ckss, i64_w, i32_w]; rfl)
                  refine pure_ (i := 1) (N := some 12) (v := ?_) (a' := ?_) ckq2 rfl rfl (any_of HT_.out (by kernel_rfl)) (fun _ _ _ h => h) (Or.inl ⟨by rfl, ?_⟩) ?_ ?_
                  rotate_left; (· intro w'; go_simp; with_reducible rfl); rotate_left; (· simp only [Act.put, cksa, cksz, ckss, i64_w, i32_w]; rfl)
                  refine pure_ (i := 2) (N := some 13) (v := ?_) (a' := ?_) ckq3 rfl rfl (any_of HT_.out (by kernel_rfl)) (fun _ _ _ h => h) (Or.inl ⟨by rfl, ?_⟩) ?_ ?_
                  rotate_left; (· intro w'; go_simp; with_reducible rfl); rotate_left; (· simp only [Act.put, cksa, cksz, ckss, i64_w, i32_w]; rfl)
                  refine pure_ (i := 3) (N := some 14) (v := ?_) (a' := ?_) ckq4 rfl rfl (any_of HT_.out (by kernel_rfl)) (fun _ _ _ h => h) (Or.inl ⟨by rfl, ?_⟩) ?_ ?_
                  rotate_left; (· intro w'; go_simp; with_reducible rfl); rotate_left; (· simp only [Act.put, cksa, cksz, ckss, i64_w, i32_w]; rfl)
                  refine take_ (i := 4) (N := some 15) (v := ?_) (a' := ?_) ckq5 rfl rfl (take_ofW HT_.out HW_.out (by kernel_rfl)) (fun _ _ _ h => h) (Or.inl ⟨by rfl, ?_⟩) hHeld ?_ ?_
                  rotate_left; (· rintro w' ⟨s0, s1, s2, s3, s4, s5, s6, s7⟩; go_simp; with_reducible rfl); rotate_left; (· simp only [Act.put, cksa, cksz, ckss, i64_w, i32_w]; rfl)
                  refine one_ (i := 5) (N := some 16) ckq6 rfl rfl (one_of HT_.out (by kernel_rfl)) (by decide) (fun K hK => ?_)
                  refine goes_ Try.func48 (by kernel_rfl) rfl #[.int .i64 ((rd_T62 l0 x4_1).f0)] (by rfl) rfl rfl (by (try simp only [List.map_toArray, List.map_cons, List.map_nil]); first | done | rfl | (simp only [List.length_drop, List.length_take]; rfl)) ?_
                  with_reducible refine (secateurref02_Value.calls ((rd_T62 l0 x4_1).f0) true _ A4.out).mono ?_
                  rintro e w' ⟨rfl, ⟨nd, rfl⟩⟩
                  refine ⟨_, rfl, ?_⟩
                  refine hK.out _ _ ⟨((HB.out.cell (World.block_lt_of_cell? w _ hw242_0)).trans hw242_0), ((HB.out.cell (World.block_lt_of_cell? w _ hw242_1)).trans hw242_1), ((HB.out.cell (World.block_lt_of_cell? w _ hw244_0)).trans hw244_0), ((HB.out.cell (World.block_lt_of_cell? w _ hw244_1)).trans hw244_1), ((HB.out.cell (World.block_lt_of_cell? w _ hw246_0)).trans hw246_0), ((HB.out.cell (World.block_lt_of_cell? w _ hw246_1)).trans hw246_1), ((HB.out.cell (World.block_lt_of_cell? w _ hw247_0)).trans hw247_0), ((HB.out.cell (World.block_lt_of_cell? w _ hw247_1)).trans hw247_1)⟩ (fun hHeld => ?_)
                  clear hK K
                  refine norm_ (a' := ?_) ?_ ?_
                  rotate_left
                  · show Act.put _ (some 16) _ = _
                    simp only [Act.put, cksa, cksz, ckss, i64_w, i32_w]
                    rfl
                  refine pure_ (i := 6) (N := some 17) (v := ?_) (a' := ?_) ckq7 rfl rfl (any_of HT_.out (by kernel_rfl)) (fun _ _ _ h => h) (Or.inl ⟨by rfl, ?_⟩) ?_ ?_
                  rotate_left; (· intro w'; go_simp; with_reducible rfl); rotate_left; (· simp only [Act.put, cksa, cksz, ckss, i64_w, i32_w]; rfl)
                  refine pure_ (i := 7) (N := some 18) (v := ?_) (a' := ?_) ckq8 rfl rfl (any_of HT_.out (by kernel_rfl)) (fun _ _ _ h => h) (Or.inl ⟨by rfl, ?_⟩) ?_ ?_
                  rotate_left; (· intro w'; go_simp; with_reducible rfl); rotate_left; (· simp only [Act.put, cksa, cksz, ckss, i64_w, i32_w]; rfl)
                  refine pure_ (i := 8) (N := some 19) (v := ?_) (a' := ?_) ckq9 rfl rfl (any_of HT_.out (by kernel_rfl)) (fun _ _ _ h => h) (Or.inl ⟨by rfl, ?_⟩) ?_ ?_
                  rotate_left; (· intro w'; go_simp; with_reducible rfl); rotate_left; (· simp only [Act.put, cksa, cksz, ckss, i64_w, i32_w]; rfl)
                  refine pure_ (i := 9) (N := some 20) (v := ?_) (a' := ?_) ckq10 rfl rfl (any_of HT_.out (by kernel_rfl)) (fun _ _ _ h => h) (Or.inl ⟨by rfl, ?_⟩) ?_ ?_
                  rotate_left; (· intro w'; go_simp; with_reducible rfl); rotate_left; (· simp only [Act.put, cksa, cksz, ckss, i64_w, i32_w]; rfl)
                  refine pure_ (i := 10) (N := some 21) (v := ?_) (a' := ?_) ckq11 rfl rfl (any_of HT_.out (by kernel_rfl)) (fun _ _ _ h => h) (Or.inl ⟨by rfl, ?_⟩) ?_ ?_
                  rotate_left; (· intro w'; go_simp; with_reducible rfl); rotate_left; (· simp only [Act.put, cksa, cksz, ckss, i64_w, i32_w]; rfl)
                  refine pure_ (i := 11) (N := some 22) (v := ?_) (a' := ?_) ckq12 rfl rfl (any_of HT_.out (by kernel_rfl)) (fun _ _ _ h => h) (Or.inl ⟨by rfl, ?_⟩) ?_ ?_
                  rotate_left; (· intro w'; go_simp; with_reducible rfl); rotate_left; (· simp only [Act.put, cksa, cksz, ckss, i64_w, i32_w]; rfl)
                  refine take_ (i := 12) (N := some 23) (v := ?_) (a' := ?_) ckq13 rfl rfl (take_ofW HT_.out HW_.out (by kernel_rfl)) (fun _ _ _ h => h) (Or.inl ⟨by rfl, ?_⟩) hHeld ?_ ?_
                  rotate_left; (· rintro w' ⟨s0, s1, s2, s3, s4, s5, s6, s7⟩; go_simp; with_reducible rfl); rotate_left; (· simp only [Act.put, cksa, cksz, ckss, i64_w, i32_w]; rfl)
                  refine one_ (i := 13) (N := some 24) ckq14 rfl rfl (one_of HT_.out (by kernel_rfl)) (by decide) (fun K hK => ?_)
                  refine goes_ Try.func48 (by kernel_rfl) rfl #[.int .i64 ((rd_T62 l0 x4_1).f1)] (by rfl) rfl rfl (by (try simp only [List.map_toArray, List.map_cons, List.map_nil]); first | done | rfl | (simp only [List.length_drop, List.length_take]; rfl)) ?_
                  with_reducible refine (secateurref02_Value.calls ((rd_T62 l0 x4_1).f1) true _ A6.out).mono ?_
                  rintro e w' ⟨rfl, ⟨nd, rfl⟩⟩
                  refine ⟨_, rfl, ?_⟩
                  refine hK.out _ _ ⟨((HB.out.cell (World.block_lt_of_cell? w _ hw242_0)).trans hw242_0), ((HB.out.cell (World.block_lt_of_cell? w _ hw242_1)).trans hw242_1), ((HB.out.cell (World.block_lt_of_cell? w _ hw244_0)).trans hw244_0), ((HB.out.cell (World.block_lt_of_cell? w _ hw244_1)).trans hw244_1), ((HB.out.cell (World.block_lt_of_cell? w _ hw246_0)).trans hw246_0), ((HB.out.cell (World.block_lt_of_cell? w _ hw246_1)).trans hw246_1), ((HB.out.cell (World.block_lt_of_cell? w _ hw247_0)).trans hw247_0), ((HB.out.cell (World.block_lt_of_cell? w _ hw247_1)).trans hw247_1)⟩ (fun hHeld => ?_)
                  clear hK K
                  refine norm_ (a' := ?_) ?_ ?_
                  rotate_left
                  · show Act.put _ (some 24) _ = _
                    simp only [Act.put, cksa, cksz, ckss, i64_w, i32_w]
                    rfl
                  refine pure_ (i := 14) (N := some 25) (v := ?_) (a' := ?_) ckq15 rfl rfl (any_of HT_.out (by kernel_rfl)) (fun _ _ _ h => h) (Or.inl ⟨by rfl, ?_⟩) ?_ ?_
                  rotate_left; (· intro w'; go_simp; with_reducible rfl); rotate_left; (· simp only [Act.put, cksa, cksz, ckss, i64_w, i32_w]; rfl)
                  refine pure_ (i := 15) (N := some 26) (v := ?_) (a' := ?_) ckq16 rfl rfl (any_of HT_.out (by kernel_rfl)) (fun _ _ _ h => h) (Or.inl ⟨by rfl, ?_⟩) ?_ ?_
                  rotate_left; (· intro w'; go_simp; with_reducible rfl); rotate_left; (· simp only [Act.put, cksa, cksz, ckss, i64_w, i32_w]; rfl)
                  refine pure_ (i := 16) (N := some 27) (v := ?_) (a' := ?_) ckq17 rfl rfl (any_of HT_.out (by kernel_rfl)) (fun _ _ _ h => h) (Or.inl ⟨by rfl, ?_⟩) ?_ ?_
                  rotate_left; (· intro w'; go_simp; with_reducible rfl); rotate_left; (· simp only [Act.put, cksa, cksz, ckss, i64_w, i32_w]; rfl)
                  refine pure_ (i := 17) (N := some 28) (v := ?_) (a' := ?_) ckq18 rfl rfl (any_of HT_.out (by kernel_rfl)) (fun _ _ _ h => h) (Or.inl ⟨by rfl, ?_⟩) ?_ ?_
                  rotate_left; (· intro w'; go_simp; with_reducible rfl); rotate_left; (· simp only [Act.put, cksa, cksz, ckss, i64_w, i32_w]; rfl)
                  refine pure_ (i := 18) (N := some 29) (v := ?_) (a' := ?_) ckq19 rfl rfl (any_of HT_.out (by kernel_rfl)) (fun _ _ _ h => h) (Or.inl ⟨by rfl, ?_⟩) ?_ ?_
                  rotate_left; (· intro w'; go_simp; with_reducible rfl); rotate_left; (· simp only [Act.put, cksa, cksz, ckss, i64_w, i32_w]; rfl)
                  refine pure_ (i := 19) (N := some 30) (v := ?_) (a' := ?_) ckq20 rfl rfl (any_of HT_.out (by kernel_rfl)) (fun _ _ _ h => h) (Or.inl ⟨by rfl, ?_⟩) ?_ ?_
                  rotate_left; (· intro w'; go_simp; with_reducible rfl); rotate_left; (· simp only [Act.put, cksa, cksz, ckss, i64_w, i32_w]; rfl)
                  refine pure_ (i := 20) (N := some 31) (v := ?_) (a' := ?_) ckq21 rfl rfl (any_of HT_.out (by kernel_rfl)) (fun _ _ _ h => h) (Or.inl ⟨by rfl, ?_⟩) ?_ ?_
                  rotate_left; (· intro w'; go_simp; with_reducible rfl); rotate_left; (· simp only [Act.put, cksa, cksz, ckss, i64_w, i32_w]; rfl)
                  refine pure_ (i := 22) (N := some 33) (v := ?_) (a' := ?_) ckq22 rfl rfl (any_of HT_.out (by kernel_rfl)) (fun _ _ _ h => h) (Or.inl ⟨by rfl, ?_⟩) ?_ ?_
                  rotate_left; (· intro w'; go_simp; with_reducible rfl); rotate_left; (· simp only [Act.put, cksa, cksz, ckss, i64_w, i32_w]; rfl)
                  refine pure_ (i := 23) (N := some 34) (v := ?_) (a' := ?_) ckq23 rfl rfl (any_of HT_.out (by kernel_rfl)) (fun _ _ _ h => h) (Or.inl ⟨by rfl, ?_⟩) ?_ ?_
                  rotate_left; (· intro w'; go_simp; with_reducible rfl); rotate_left; (· simp only [Act.put, cksa, cksz, ckss, i64_w, i32_w]; rfl)
                  refine pure_ (i := 24) (N := some 35) (v := ?_) (a' := ?_) ckq24 rfl rfl (any_of HT_.out (by kernel_rfl)) (fun _ _ _ h => h) (Or.inl ⟨by rfl, ?_⟩) ?_ ?_
                  rotate_left; (· intro w'; go_simp; with_reducible rfl); rotate_left; (· simp only [Act.put, cksa, cksz, ckss, i64_w, i32_w]; rfl)
                  refine pure_ (i := 25) (N := some 36) (v := ?_) (a' := ?_) ckq25 rfl rfl (any_of HT_.out (by kernel_rfl)) (fun _ _ _ h => h) (Or.inl ⟨by rfl, ?_⟩) ?_ ?_
                  rotate_left; (· intro w'; go_simp; with_reducible rfl); rotate_left; (· simp only [Act.put, cksa, cksz, ckss, i64_w, i32_w]; rfl)
                  refine take_ (i := 21) (N := some 32) (v := ?_) (a' := ?_) ckq26 rfl rfl (take_ofW HT_.out HW_.out (by kernel_rfl)) (fun _ _ _ h => h) (Or.inl ⟨by rfl, ?_⟩) hHeld ?_ ?_
                  rotate_left; (· rintro w' ⟨s0, s1, s2, s3, s4, s5, s6, s7⟩; go_simp; with_reducible rfl); rotate_left; (· simp only [Act.put, cksa, cksz, ckss, i64_w, i32_w]; rfl)
                  refine take_ (i := 26) (N := some 37) (v := ?_) (a' := ?_) ckq27 rfl rfl (take_ofW HT_.out HW_.out (by kernel_rfl)) (fun _ _ _ h => h) (Or.inl ⟨by rfl, ?_⟩) hHeld ?_ ?_
                  rotate_left; (· rintro w' ⟨s0, s1, s2, s3, s4, s5, s6, s7⟩; go_simp; with_reducible rfl); rotate_left; (· simp only [Act.put, cksa, cksz, ckss, i64_w, i32_w]; rfl)
                  refine pure_ (i := 27) (N := some 38) (v := ?_) (a' := ?_) ckq28 rfl rfl (any_of HT_.out (by kernel_rfl)) (fun _ _ _ h => h) (Or.inl ⟨by rfl, ?_⟩) ?_ ?_
                  rotate_left; (· intro w'; go_simp; with_reducible rfl); rotate_left; (· simp only [Act.put, cksa, cksz, ckss, i64_w, i32_w]; rfl)
                  refine pure_ (i := 28) (N := some 39) (v := ?_) (a' := ?_) ckq29 rfl rfl (any_of HT_.out (by kernel_rfl)) (fun _ _ _ h => h) (Or.inl ⟨by rfl, ?_⟩) ?_ ?_
                  rotate_left; (· intro w'; go_simp; with_reducible rfl); rotate_left; (· simp only [Act.put, cksa, cksz, ckss, i64_w, i32_w]; rfl)
                  refine pure_ (i := 29) (N := some 40) (v := ?_) (a' := ?_) ckq30 rfl rfl (any_of HT_.out (by kernel_rfl)) (fun _ _ _ h => h) (Or.inl ⟨by rfl, ?_⟩) ?_ ?_
                  rotate_left; (· intro w'; go_simp; with_reducible rfl); rotate_left; (· simp only [Act.put, cksa, cksz, ckss, i64_w, i32_w]; rfl)
                  refine pure_ (i := 30) (N := some 41) (v := ?_) (a' := ?_) ckq31 rfl rfl (any_of HT_.out (by kernel_rfl)) (fun _ _ _ h => h) (Or.inl ⟨by rfl, ?_⟩) ?_ ?_
                  rotate_left; (· intro w'; go_simp; with_reducible rfl); rotate_left; (· simp only [Act.put, cksa, cksz, ckss, i64_w, i32_w]; rfl)
                  refine pure_ (i := 31) (N := some 42) (v := ?_) (a' := ?_) ckq32 rfl rfl (any_of HT_.out (by kernel_rfl)) (fun _ _ _ h => h) (Or.inl ⟨by rfl, ?_⟩) ?_ ?_
                  rotate_left; (· intro w'; go_simp; with_reducible rfl); rotate_left; (· simp only [Act.put, cksa, cksz, ckss, i64_w, i32_w]; rfl)
                  refine pure_ (i := 32) (N := some 43) (v := ?_) (a' := ?_) ckq33 rfl rfl (any_of HT_.out (by kernel_rfl)) (fun _ _ _ h => h) (Or.inl ⟨by rfl, ?_⟩) ?_ ?_
                  rotate_left; (· intro w'; go_simp; with_reducible rfl); rotate_left; (· simp only [Act.put, cksa, cksz, ckss, i64_w, i32_w]; rfl)
                  refine pure_ (i := 33) (N := some 44) (v := undef) (a' := ?_) ckq34 rfl rfl (any_of HT_.out (by kernel_rfl)) (fun _ _ _ h => h) (Or.inr ⟨by rfl, rfl⟩) ?_ ?_
                  rotate_left; (· simp only [Act.put, cksa, cksz, ckss, i64_w, i32_w]; rfl)
                  refine pure_ (i := 34) (N := some 45) (v := undef) (a' := ?_) ckq35 rfl rfl (any_of HT_.out (by kernel_rfl)) (fun _ _ _ h => h) (Or.inr ⟨by rfl, rfl⟩) ?_ ?_
                  rotate_left; (· simp only [Act.put, cksa, cksz, ckss, i64_w, i32_w]; rfl)
                  refine pure_ (i := 35) (N := some 46) (v := undef) (a' := ?_) ckq36 rfl rfl (any_of HT_.out (by kernel_rfl)) (fun _ _ _ h => h) (Or.inr ⟨by rfl, rfl⟩) ?_ ?_
                  rotate_left; (· simp only [Act.put, cksa, cksz, ckss, i64_w, i32_w]; rfl)
                  refine pure_ (i := 36) (N := some 47) (v := undef) (a' := ?_) ckq37 rfl rfl (any_of HT_.out (by kernel_rfl)) (fun _ _ _ h => h) (Or.inr ⟨by rfl, rfl⟩) ?_ ?_
                  rotate_left; (· simp only [Act.put, cksa, cksz, ckss, i64_w, i32_w]; rfl)
                  refine pure_ (i := 37) (N := some 48) (v := undef) (a' := ?_) ckq38 rfl rfl (any_of HT_.out (by kernel_rfl)) (fun _ _ _ h => h) (Or.inr ⟨by rfl, rfl⟩) ?_ ?_
                  rotate_left; (· simp only [Act.put, cksa, cksz, ckss, i64_w, i32_w]; rfl)
                  refine pure_ (i := 38) (N := some 49) (v := undef) (a' := ?_) ckq39 rfl rfl (any_of HT_.out (by kernel_rfl)) (fun _ _ _ h => h) (Or.inr ⟨by rfl, rfl⟩) ?_ ?_
                  rotate_left; (· simp only [Act.put, cksa, cksz, ckss, i64_w, i32_w]; rfl)
                  refine pure_ (i := 39) (N := some 50) (v := undef) (a' := ?_) ckq40 rfl rfl (any_of HT_.out (by kernel_rfl)) (fun _ _ _ h => h) (Or.inr ⟨by rfl, rfl⟩) ?_ ?_
                  rotate_left; (· simp only [Act.put, cksa, cksz, ckss, i64_w, i32_w]; rfl)
                  refine pure_ (i := 40) (N := some 51) (v := undef) (a' := ?_) ckq41 rfl rfl (any_of HT_.out (by kernel_rfl)) (fun _ _ _ h => h) (Or.inr ⟨by rfl, rfl⟩) ?_ ?_
                  rotate_left; (· simp only [Act.put, cksa, cksz, ckss, i64_w, i32_w]; rfl)
                  refine pure_ (i := 41) (N := some 52) (v := undef) (a' := ?_) ckq42 rfl rfl (any_of HT_.out (by kernel_rfl)) (fun _ _ _ h => h) (Or.inr ⟨by rfl, rfl⟩) ?_ ?_
                  rotate_left; (· simp only [Act.put, cksa, cksz, ckss, i64_w, i32_w]; rfl)
                  refine pure_ (i := 42) (N := some 53) (v := undef) (a' := ?_) ckq43 rfl rfl (any_of HT_.out (by kernel_rfl)) (fun _ _ _ h => h) (Or.inr ⟨by rfl, rfl⟩) ?_ ?_
                  rotate_left; (· simp only [Act.put, cksa, cksz, ckss, i64_w, i32_w]; rfl)
                  refine pure_ (i := 43) (N := some 54) (v := undef) (a' := ?_) ckq44 rfl rfl (any_of HT_.out (by kernel_rfl)) (fun _ _ _ h => h) (Or.inr ⟨by rfl, rfl⟩) ?_ ?_
                  rotate_left; (· simp only [Act.put, cksa, cksz, ckss, i64_w, i32_w]; rfl)
                  refine pure_ (i := 44) (N := some 55) (v := undef) (a' := ?_) ckq45 rfl rfl (any_of HT_.out (by kernel_rfl)) (fun _ _ _ h => h) (Or.inr ⟨by rfl, rfl⟩) ?_ ?_
                  rotate_left; (· simp only [Act.put, cksa, cksz, ckss, i64_w, i32_w]; rfl)
                  refine pure_ (i := 45) (N := some 56) (v := undef) (a' := ?_) ckq46 rfl rfl (any_of HT_.out (by kernel_rfl)) (fun _ _ _ h => h) (Or.inr ⟨by rfl, rfl⟩) ?_ ?_
                  rotate_left; (· simp only [Act.put, cksa, cksz, ckss, i64_w, i32_w]; rfl)
                  refine pure_ (i := 46) (N := some 57) (v := ?_) (a' := ?_) ckq47 rfl rfl (any_of HT_.out (by kernel_rfl)) (fun _ _ _ h => h) (Or.inl ⟨by rfl, ?_⟩) ?_ ?_
                  rotate_left; (· intro w'; go_simp; with_reducible rfl); rotate_left; (· simp only [Act.put, cksa, cksz, ckss, i64_w, i32_w]; rfl)
                  refine pure_ (i := 47) (N := some 58) (v := ?_) (a' := ?_) ckq48 rfl rfl (any_of HT_.out (by kernel_rfl)) (fun _ _ _ h => h) (Or.inl ⟨by rfl, ?_⟩) ?_ ?_
                  rotate_left; (· intro w'; go_simp; with_reducible rfl); rotate_left; (· simp only [Act.put, cksa, cksz, ckss, i64_w, i32_w]; rfl)
                  refine done_ (done_of HT_.out (by kernel_rfl)) ?_
                  try go_wp2
                  (try (rw [drewN_self w18]; generalize hq_ : World.drewN w18 _ = w18; have n0_ : Aside0 (Below w.heap.size w w18) := ⟨by rw [← hq_]; exact (by repeat (first | (with_reducible first | exact HB.out | apply below_alloc | apply pw_below_drewN | apply below_drew1) | exact HB.out))⟩; clear HB hq_; have HB := n0_; clear n0_))
                  have n0_ := Aside0.mk (below_drew1 HB.out)
                  clear HB
                  have HB := n0_
                  clear n0_
                  have p252 : 0 ≤ (x4_1 : Int) := of_decide_eq_true (by first | (with_reducible assumption) | assumption)
                  have q252 : x4_1 < (l0.length : Int) := of_decide_eq_true (by first | (with_reducible assumption) | assumption)
                  obtain ⟨ad252, e252, hx252_0, hx252_1⟩ := at_T62 HR0.out x4_1 p252 q252
                  have hw252_1 := hx252_1
                  have hw252_0 := hx252_0
                  obtain rfl : ad242 = ad252 := (by injection e252)
                  replace hx252_0 := (HB.out.cell (World.block_lt_of_cell? w _ hx252_0)).trans hx252_0
                  replace hx252_1 := (HB.out.cell (World.block_lt_of_cell? w _ hx252_1)).trans hx252_1
                  replace p252 := eq_true p252
                  replace q252 := eq_true q252
                  have p253 : 0 ≤ (x4_1 : Int) := of_decide_eq_true (by first | (with_reducible assumption) | assumption)
                  have q253 : x4_1 < (l0.length : Int) := of_decide_eq_true (by first | (with_reducible assumption) | assumption)
                  obtain ⟨ad253, e253, hx253_0, hx253_1⟩ := at_T62 HR0.out x4_1 p253 q253
                  have hw253_1 := hx253_1
                  have hw253_0 := hx253_0
                  obtain rfl : ad242 = ad253 := (by injection e253)
                  replace hx253_0 := (HB.out.cell (World.block_lt_of_cell? w _ hx253_0)).trans hx253_0
                  replace hx253_1 := (HB.out.cell (World.block_lt_of_cell? w _ hx253_1)).trans hx253_1
                  replace p253 := eq_true p253
                  replace q253 := eq_true q253
                  refine start_ (n := 15) (S := fun w' => w'.cell? (ad242.add ((x4_1).toNat * 2)) = some (.int .i64 ((rd_T62 l0 x4_1).f0)) ∧ w'.cell? ⟨(ad242.add ((x4_1).toNat * 2)).block, (ad242.add ((x4_1).toNat * 2)).off + 1, none⟩ = some (.int .i64 ((rd_T62 l0 x4_1).f1)) ∧ w'.cell? (ad242.add ((x4_1).toNat * 2)) = some (.int .i64 ((rd_T62 l0 x4_1).f0)) ∧ w'.cell? ⟨(ad242.add ((x4_1).toNat * 2)).block, (ad242.add ((x4_1).toNat * 2)).off + 1, none⟩ = some (.int .i64 ((rd_T62 l0 x4_1).f1))) (ds := []) ckq54 (by kernel_rfl) rfl rfl ⟨((HB.out.cell (World.block_lt_of_cell? w _ hw252_0)).trans hw252_0), ((HB.out.cell (World.block_lt_of_cell? w _ hw252_1)).trans hw252_1), ((HB.out.cell (World.block_lt_of_cell? w _ hw253_0)).trans hw253_0), ((HB.out.cell (World.block_lt_of_cell? w _ hw253_1)).trans hw253_1)⟩ (fun hHeld => ?_); refine with_tabW r2Check.tab7 r2Check.bits7 (fun HT_ HW_ => ?_)
                  generalize w18.drew = w19 at HB hx252_0 hx252_1 hx253_0 hx253_1 hHeld ⊢
                  refine pure_ (i := 0) (N := some 59) (v := ?_) (a' := ?_) ckq55 rfl rfl (any_of HT_.out (by kernel_rfl)) (fun _ _ _ h => h) (Or.inl ⟨by rfl, ?_⟩) ?_ ?_
                  rotate_left; (· intro w'; go_simp; with_reducible rfl); rotate_left; (· simp only [Act.put, cksa, cksz, ckss, i64_w, i32_w]; rfl)
                  refine pure_ (i := 1) (N := some 60) (v := ?_) (a' := ?_) ckq56 rfl rfl (any_of HT_.out (by kernel_rfl)) (fun _ _ _ h => h) (Or.inl ⟨by rfl, ?_⟩) ?_ ?_
                  rotate_left; (· intro w'; go_simp; with_reducible rfl); rotate_left; (· simp only [Act.put, cksa, cksz, ckss, i64_w, i32_w]; rfl)
                  refine pure_ (i := 2) (N := some 61) (v := ?_) (a' := ?_) ckq57 rfl rfl (any_of HT_.out (by kernel_rfl)) (fun _ _ _ h => h) (Or.inl ⟨by rfl, ?_⟩) ?_ ?_
                  rotate_left; (· intro w'; go_simp; with_reducible rfl); rotate_left; (· simp only [Act.put, cksa, cksz, ckss, i64_w, i32_w]; rfl)
                  refine pure_ (i := 3) (N := some 62) (v := ?_) (a' := ?_) ckq58 rfl rfl (any_of HT_.out (by kernel_rfl)) (fun _ _ _ h => h) (Or.inl ⟨by rfl, ?_⟩) ?_ ?_
                  rotate_left; (· intro w'; go_simp; with_reducible rfl); rotate_left; (· simp only [Act.put, cksa, cksz, ckss, i64_w, i32_w]; rfl)
                  refine pure_ (i := 4) (N := some 63) (v := ?_) (a' := ?_) ckq59 rfl rfl (any_of HT_.out (by kernel_rfl)) (fun _ _ _ h => h) (Or.inl ⟨by rfl, ?_⟩) ?_ ?_
                  rotate_left; (· intro w'; go_simp; with_reducible rfl); rotate_left; (· simp only [Act.put, cksa, cksz, ckss, i64_w, i32_w]; rfl)
                  refine pure_ (i := 6) (N := some 65) (v := ?_) (a' := ?_) ckq60 rfl rfl (any_of HT_.out (by kernel_rfl)) (fun _ _ _ h => h) (Or.inl ⟨by rfl, ?_⟩) ?_ ?_
                  rotate_left; (· intro w'; go_simp; with_reducible rfl); rotate_left; (· simp only [Act.put, cksa, cksz, ckss, i64_w, i32_w]; rfl)
                  refine pure_ (i := 7) (N := some 66) (v := ?_) (a' := ?_) ckq61 rfl rfl (any_of HT_.out (by kernel_rfl)) (fun _ _ _ h => h) (Or.inl ⟨by rfl, ?_⟩) ?_ ?_
                  rotate_left; (· intro w'; go_simp; with_reducible rfl); rotate_left; (· simp only [Act.put, cksa, cksz, ckss, i64_w, i32_w]; rfl)
                  refine pure_ (i := 8) (N := some 67) (v := ?_) (a' := ?_) ckq62 rfl rfl (any_of HT_.out (by kernel_rfl)) (fun _ _ _ h => h) (Or.inl ⟨by rfl, ?_⟩) ?_ ?_
                  rotate_left; (· intro w'; go_simp; with_reducible rfl); rotate_left; (· simp only [Act.put, cksa, cksz, ckss, i64_w, i32_w]; rfl)
                  refine pure_ (i := 9) (N := some 68) (v := ?_) (a' := ?_) ckq63 rfl rfl (any_of HT_.out (by kernel_rfl)) (fun _ _ _ h => h) (Or.inl ⟨by rfl, ?_⟩) ?_ ?_
                  rotate_left; (· intro w'; go_simp; with_reducible rfl); rotate_left; (· simp only [Act.put, cksa, cksz, ckss, i64_w, i32_w]; rfl)
                  refine take_ (i := 5) (N := some 64) (v := ?_) (a' := ?_) ckq64 rfl rfl (take_ofW HT_.out HW_.out (by kernel_rfl)) (fun _ _ _ h => h) (Or.inl ⟨by rfl, ?_⟩) hHeld ?_ ?_
                  rotate_left; (· rintro w' ⟨s0, s1, s2, s3⟩; go_simp; with_reducible rfl); rotate_left; (· simp only [Act.put, cksa, cksz, ckss, i64_w, i32_w]; rfl)
                  refine take_ (i := 10) (N := some 69) (v := ?_) (a' := ?_) ckq65 rfl rfl (take_ofW HT_.out HW_.out (by kernel_rfl)) (fun _ _ _ h => h) (Or.inl ⟨by rfl, ?_⟩) hHeld ?_ ?_
                  rotate_left; (· rintro w' ⟨s0, s1, s2, s3⟩; go_simp; with_reducible rfl); rotate_left; (· simp only [Act.put, cksa, cksz, ckss, i64_w, i32_w]; rfl)
                  refine pure_ (i := 11) (N := some 70) (v := ?_) (a' := ?_) ckq66 rfl rfl (any_of HT_.out (by kernel_rfl)) (fun _ _ _ h => h) (Or.inl ⟨by rfl, ?_⟩) ?_ ?_
                  rotate_left; (· intro w'; go_simp; with_reducible rfl); rotate_left; (· simp only [Act.put, cksa, cksz, ckss, i64_w, i32_w]; rfl)
                  refine pure_ (i := 12) (N := some 71) (v := ?_) (a' := ?_) ckq67 rfl rfl (any_of HT_.out (by kernel_rfl)) (fun _ _ _ h => h) (Or.inl ⟨by rfl, ?_⟩) ?_ ?_
                  rotate_left; (· intro w'; go_simp; with_reducible rfl); rotate_left; (· simp only [Act.put, cksa, cksz, ckss, i64_w, i32_w]; rfl)
                  refine pure_ (i := 13) (N := some 72) (v := ?_) (a' := ?_) ckq68 rfl rfl (any_of HT_.out (by kernel_rfl)) (fun _ _ _ h => h) (Or.inl ⟨by rfl, ?_⟩) ?_ ?_
                  rotate_left; (· intro w'; go_simp; with_reducible rfl); rotate_left; (· simp only [Act.put, cksa, cksz, ckss, i64_w, i32_w]; rfl)
                  refine pure_ (i := 14) (N := some 3) (v := ?_) (a' := ?_) ckq69 rfl rfl (any_of HT_.out (by kernel_rfl)) (fun _ _ _ h => h) (Or.inl ⟨by rfl, ?_⟩) ?_ ?_
                  rotate_left; (· intro w'; go_simp; with_reducible rfl); rotate_left; (· simp only [Act.put, cksa, cksz, ckss, i64_w, i32_w]; rfl)
                  refine done_ (done_of HT_.out (by kernel_rfl)) ?_
                  try go_wp2
                  go_roundg k1
                  case measure => have := HK1.out; omega
                  case rel => exact ⟨(wrap64 (x3_1 + (wrap64 ((wrap64 (((rd_T62 l0 x4_1).f1) - ((rd_T62 l0 x4_1).f0))) + 1)))), (wrap64 (x4_1 + 1)), (by first | rfl | (simp; done) | (simp [*]; done)), (by first | rfl | (simp; done) | (simp [*]; done)), H', ⟨by have := HK1.out; omega⟩, ⟨by repeat (first | (with_reducible first | exact HB.out | apply below_alloc | apply pw_below_drewN | apply below_drew1) | exact HB.out)⟩⟩
            · replace c7 := Bool.eq_false_iff.mpr c7
              subst c7
              have H1 : (some 20) = some r := by rw [if_neg (show ¬ (false = true) by decide)] at H; exact H
              clear H
              have H := H1
              clear H1
              obtain rfl := Option.some.inj H
              try go_wp2
              have n0_ := Aside0.mk (below_drew1 HB.out)
              clear HB
              have HB := n0_
              clear n0_
              have p242 : 0 ≤ (x4_1 : Int) := of_decide_eq_true (by first | (with_reducible assumption) | assumption)
              have q242 : x4_1 < (l0.length : Int) := of_decide_eq_true (by first | (with_reducible assumption) | assumption)
              obtain ⟨ad242, e242, hx242_0, hx242_1⟩ := at_T62 HR0.out x4_1 p242 q242
              have hw242_1 := hx242_1
              have hw242_0 := hx242_0
              cases e242
              replace hx242_0 := (HB.out.cell (World.block_lt_of_cell? w _ hx242_0)).trans hx242_0
              replace hx242_1 := (HB.out.cell (World.block_lt_of_cell? w _ hx242_1)).trans hx242_1
              replace p242 := eq_true p242
              replace q242 := eq_true q242
              have p244 : 0 ≤ (x4_1 : Int) := of_decide_eq_true (by first | (with_reducible assumption) | assumption)
              have q244 : x4_1 < (l0.length : Int) := of_decide_eq_true (by first | (with_reducible assumption) | assumption)
              obtain ⟨ad244, e244, hx244_0, hx244_1⟩ := at_T62 HR0.out x4_1 p244 q244
              have hw244_1 := hx244_1
              have hw244_0 := hx244_0
              obtain rfl : ad242 = ad244 := (by injection e244)
              replace hx244_0 := (HB.out.cell (World.block_lt_of_cell? w _ hx244_0)).trans hx244_0
              replace hx244_1 := (HB.out.cell (World.block_lt_of_cell? w _ hx244_1)).trans hx244_1
              replace p244 := eq_true p244
              replace q244 := eq_true q244
              refine start_ (n := 48) (S := fun w' => w'.cell? (ad242.add ((x4_1).toNat * 2)) = some (.int .i64 ((rd_T62 l0 x4_1).f0)) ∧ w'.cell? ⟨(ad242.add ((x4_1).toNat * 2)).block, (ad242.add ((x4_1).toNat * 2)).off + 1, none⟩ = some (.int .i64 ((rd_T62 l0 x4_1).f1)) ∧ w'.cell? (ad242.add ((x4_1).toNat * 2)) = some (.int .i64 ((rd_T62 l0 x4_1).f0)) ∧ w'.cell? ⟨(ad242.add ((x4_1).toNat * 2)).block, (ad242.add ((x4_1).toNat * 2)).off + 1, none⟩ = some (.int .i64 ((rd_T62 l0 x4_1).f1))) (ds := []) ckq0 (by kernel_rfl) rfl rfl ⟨((HB.out.cell (World.block_lt_of_cell? w _ hw242_0)).trans hw242_0), ((HB.out.cell (World.block_lt_of_cell? w _ hw242_1)).trans hw242_1), ((HB.out.cell (World.block_lt_of_cell? w _ hw244_0)).trans hw244_0), ((HB.out.cell (World.block_lt_of_cell? w _ hw244_1)).trans hw244_1)⟩ (fun hHeld => ?_); refine with_tabW r2Check.tab5 r2Check.bits5 (fun HT_ HW_ => ?_)
              generalize wr.drew = w20 at HB hx242_0 hx242_1 hx244_0 hx244_1 hHeld ⊢
              refine pure_ (i := 0) (N := some 11) (v := ?_) (a' := ?_) ckq1 rfl rfl (any_of HT_.out (by kernel_rfl)) (fun _ _ _ h => h) (Or.inl ⟨by rfl, ?_⟩) ?_ ?_
              rotate_left; (· intro w'; go_simp; with_reducible rfl); rotate_left; (· simp only [Act.put, cksa, cksz, ckss, i64_w, i32_w]; rfl)
              refine pure_ (i := 1) (N := some 12) (v := ?_) (a' := ?_) ckq2 rfl rfl (any_of HT_.out (by kernel_rfl)) (fun _ _ _ h => h) (Or.inl ⟨by rfl, ?_⟩) ?_ ?_
              rotate_left; (· intro w'; go_simp; with_reducible rfl); rotate_left; (· simp only [Act.put, cksa, cksz, ckss, i64_w, i32_w]; rfl)
              refine pure_ (i := 2) (N := some 13) (v := ?_) (a' := ?_) ckq3 rfl rfl (any_of HT_.out (by kernel_rfl)) (fun _ _ _ h => h) (Or.inl ⟨by rfl, ?_⟩) ?_ ?_
              rotate_left; (· intro w'; go_simp; with_reducible rfl); rotate_left; (· simp only [Act.put, cksa, cksz, ckss, i64_w, i32_w]; rfl)
              refine pure_ (i := 3) (N := some 14) (v := ?_) (a' := ?_) ckq4 rfl rfl (any_of HT_.out (by kernel_rfl)) (fun _ _ _ h => h) (Or.inl ⟨by rfl, ?_⟩) ?_ ?_
              rotate_left; (· intro w'; go_simp; with_reducible rfl); rotate_left; (· simp only [Act.put, cksa, cksz, ckss, i64_w, i32_w]; rfl)
              refine take_ (i := 4) (N := some 15) (v := ?_) (a' := ?_) ckq5 rfl rfl (take_ofW HT_.out HW_.out (by kernel_rfl)) (fun _ _ _ h => h) (Or.inl ⟨by rfl, ?_⟩) hHeld ?_ ?_
              rotate_left; (· rintro w' ⟨s0, s1, s2, s3⟩; go_simp; with_reducible rfl); rotate_left; (· simp only [Act.put, cksa, cksz, ckss, i64_w, i32_w]; rfl)
              refine one_ (i := 5) (N := some 16) ckq6 rfl rfl (one_of HT_.out (by kernel_rfl)) (by decide) (fun K hK => ?_)
              refine goes_ Try.func48 (by kernel_rfl) rfl #[.int .i64 ((rd_T62 l0 x4_1).f0)] (by rfl) rfl rfl (by (try simp only [List.map_toArray, List.map_cons, List.map_nil]); first | done | rfl | (simp only [List.length_drop, List.length_take]; rfl)) ?_
              with_reducible refine (secateurref02_Value.calls ((rd_T62 l0 x4_1).f0) true _ A4.out).mono ?_
              rintro e w' ⟨rfl, ⟨nd, rfl⟩⟩
              refine ⟨_, rfl, ?_⟩
              refine hK.out _ _ ⟨((HB.out.cell (World.block_lt_of_cell? w _ hw242_0)).trans hw242_0), ((HB.out.cell (World.block_lt_of_cell? w _ hw242_1)).trans hw242_1), ((HB.out.cell (World.block_lt_of_cell? w _ hw244_0)).trans hw244_0), ((HB.out.cell (World.block_lt_of_cell? w _ hw244_1)).trans hw244_1)⟩ (fun hHeld => ?_)
              clear hK K
              refine norm_ (a' := ?_) ?_ ?_
              rotate_left
              · show Act.put _ (some 16) _ = _
                simp only [Act.put, cksa, cksz, ckss, i64_w, i32_w]
                rfl
              refine pure_ (i := 6) (N := some 17) (v := ?_) (a' := ?_) ckq7 rfl rfl (any_of HT_.out (by kernel_rfl)) (fun _ _ _ h => h) (Or.inl ⟨by rfl, ?_⟩) ?_ ?_
              rotate_left; (· intro w'; go_simp; with_reducible rfl); rotate_left; (· simp only [Act.put, cksa, cksz, ckss, i64_w, i32_w]; rfl)
              refine pure_ (i := 7) (N := some 18) (v := ?_) (a' := ?_) ckq8 rfl rfl (any_of HT_.out (by kernel_rfl)) (fun _ _ _ h => h) (Or.inl ⟨by rfl, ?_⟩) ?_ ?_
              rotate_left; (· intro w'; go_simp; with_reducible rfl); rotate_left; (· simp only [Act.put, cksa, cksz, ckss, i64_w, i32_w]; rfl)
              refine pure_ (i := 8) (N := some 19) (v := ?_) (a' := ?_) ckq9 rfl rfl (any_of HT_.out (by kernel_rfl)) (fun _ _ _ h => h) (Or.inl ⟨by rfl, ?_⟩) ?_ ?_
              rotate_left; (· intro w'; go_simp; with_reducible rfl); rotate_left; (· simp only [Act.put, cksa, cksz, ckss, i64_w, i32_w]; rfl)
              refine pure_ (i := 9) (N := some 20) (v := ?_) (a' := ?_) ckq10 rfl rfl (any_of HT_.out (by kernel_rfl)) (fun _ _ _ h => h) (Or.inl ⟨by rfl, ?_⟩) ?_ ?_
              rotate_left; (· intro w'; go_simp; with_reducible rfl); rotate_left; (· simp only [Act.put, cksa, cksz, ckss, i64_w, i32_w]; rfl)
              refine pure_ (i := 10) (N := some 21) (v := ?_) (a' := ?_) ckq11 rfl rfl (any_of HT_.out (by kernel_rfl)) (fun _ _ _ h => h) (Or.inl ⟨by rfl, ?_⟩) ?_ ?_
              rotate_left; (· intro w'; go_simp; with_reducible rfl); rotate_left; (· simp only [Act.put, cksa, cksz, ckss, i64_w, i32_w]; rfl)
              refine pure_ (i := 11) (N := some 22) (v := ?_) (a' := ?_) ckq12 rfl rfl (any_of HT_.out (by kernel_rfl)) (fun _ _ _ h => h) (Or.inl ⟨by rfl, ?_⟩) ?_ ?_
              rotate_left; (· intro w'; go_simp; with_reducible rfl); rotate_left; (· simp only [Act.put, cksa, cksz, ckss, i64_w, i32_w]; rfl)
              refine take_ (i := 12) (N := some 23) (v := ?_) (a' := ?_) ckq13 rfl rfl (take_ofW HT_.out HW_.out (by kernel_rfl)) (fun _ _ _ h => h) (Or.inl ⟨by rfl, ?_⟩) hHeld ?_ ?_
              rotate_left; (· rintro w' ⟨s0, s1, s2, s3⟩; go_simp; with_reducible rfl); rotate_left; (· simp only [Act.put, cksa, cksz, ckss, i64_w, i32_w]; rfl)
              refine one_ (i := 13) (N := some 24) ckq14 rfl rfl (one_of HT_.out (by kernel_rfl)) (by decide) (fun K hK => ?_)
              refine goes_ Try.func48 (by kernel_rfl) rfl #[.int .i64 ((rd_T62 l0 x4_1).f1)] (by rfl) rfl rfl (by (try simp only [List.map_toArray, List.map_cons, List.map_nil]); first | done | rfl | (simp only [List.length_drop, List.length_take]; rfl)) ?_
              with_reducible refine (secateurref02_Value.calls ((rd_T62 l0 x4_1).f1) false _ A6.out).mono ?_
              rintro e w' ⟨rfl, ⟨nd, rfl⟩⟩
              refine ⟨_, rfl, ?_⟩
              refine hK.out _ _ ⟨((HB.out.cell (World.block_lt_of_cell? w _ hw242_0)).trans hw242_0), ((HB.out.cell (World.block_lt_of_cell? w _ hw242_1)).trans hw242_1), ((HB.out.cell (World.block_lt_of_cell? w _ hw244_0)).trans hw244_0), ((HB.out.cell (World.block_lt_of_cell? w _ hw244_1)).trans hw244_1)⟩ (fun hHeld => ?_)
              clear hK K
              refine norm_ (a' := ?_) ?_ ?_
              rotate_left
              · show Act.put _ (some 24) _ = _
                simp only [Act.put, cksa, cksz, ckss, i64_w, i32_w]
                rfl
              refine pure_ (i := 14) (N := some 25) (v := ?_) (a' := ?_) ckq15 rfl rfl (any_of HT_.out (by kernel_rfl)) (fun _ _ _ h => h) (Or.inl ⟨by rfl, ?_⟩) ?_ ?_
              rotate_left; (· intro w'; go_simp; with_reducible rfl); rotate_left; (· simp only [Act.put, cksa, cksz, ckss, i64_w, i32_w]; rfl)
              refine pure_ (i := 15) (N := some 26) (v := ?_) (a' := ?_) ckq16 rfl rfl (any_of HT_.out (by kernel_rfl)) (fun _ _ _ h => h) (Or.inl ⟨by rfl, ?_⟩) ?_ ?_
              rotate_left; (· intro w'; go_simp; with_reducible rfl); rotate_left; (· simp only [Act.put, cksa, cksz, ckss, i64_w, i32_w]; rfl)
              refine pure_ (i := 16) (N := some 27) (v := ?_) (a' := ?_) ckq17 rfl rfl (any_of HT_.out (by kernel_rfl)) (fun _ _ _ h => h) (Or.inl ⟨by rfl, ?_⟩) ?_ ?_
              rotate_left; (· intro w'; go_simp; with_reducible rfl); rotate_left; (· simp only [Act.put, cksa, cksz, ckss, i64_w, i32_w]; rfl)
              refine pure_ (i := 17) (N := some 28) (v := undef) (a' := ?_) ckq18 rfl rfl (any_of HT_.out (by kernel_rfl)) (fun _ _ _ h => h) (Or.inr ⟨by rfl, rfl⟩) ?_ ?_
              rotate_left; (· simp only [Act.put, cksa, cksz, ckss, i64_w, i32_w]; rfl)
              refine pure_ (i := 18) (N := some 29) (v := undef) (a' := ?_) ckq19 rfl rfl (any_of HT_.out (by kernel_rfl)) (fun _ _ _ h => h) (Or.inr ⟨by rfl, rfl⟩) ?_ ?_
              rotate_left; (· simp only [Act.put, cksa, cksz, ckss, i64_w, i32_w]; rfl)
              refine pure_ (i := 19) (N := some 30) (v := undef) (a' := ?_) ckq20 rfl rfl (any_of HT_.out (by kernel_rfl)) (fun _ _ _ h => h) (Or.inr ⟨by rfl, rfl⟩) ?_ ?_
              rotate_left; (· simp only [Act.put, cksa, cksz, ckss, i64_w, i32_w]; rfl)
              refine pure_ (i := 20) (N := some 31) (v := undef) (a' := ?_) ckq21 rfl rfl (any_of HT_.out (by kernel_rfl)) (fun _ _ _ h => h) (Or.inr ⟨by rfl, rfl⟩) ?_ ?_
              rotate_left; (· simp only [Act.put, cksa, cksz, ckss, i64_w, i32_w]; rfl)
              refine pure_ (i := 21) (N := some 32) (v := undef) (a' := ?_) ckq70 rfl rfl (any_of HT_.out (by kernel_rfl)) (fun _ _ _ h => h) (Or.inr ⟨by rfl, rfl⟩) ?_ ?_
              rotate_left; (· simp only [Act.put, cksa, cksz, ckss, i64_w, i32_w]; rfl)
              refine pure_ (i := 22) (N := some 33) (v := undef) (a' := ?_) ckq71 rfl rfl (any_of HT_.out (by kernel_rfl)) (fun _ _ _ h => h) (Or.inr ⟨by rfl, rfl⟩) ?_ ?_
              rotate_left; (· simp only [Act.put, cksa, cksz, ckss, i64_w, i32_w]; rfl)
              refine pure_ (i := 23) (N := some 34) (v := undef) (a' := ?_) ckq72 rfl rfl (any_of HT_.out (by kernel_rfl)) (fun _ _ _ h => h) (Or.inr ⟨by rfl, rfl⟩) ?_ ?_
              rotate_left; (· simp only [Act.put, cksa, cksz, ckss, i64_w, i32_w]; rfl)
              refine pure_ (i := 24) (N := some 35) (v := undef) (a' := ?_) ckq73 rfl rfl (any_of HT_.out (by kernel_rfl)) (fun _ _ _ h => h) (Or.inr ⟨by rfl, rfl⟩) ?_ ?_
              rotate_left; (· simp only [Act.put, cksa, cksz, ckss, i64_w, i32_w]; rfl)
              refine pure_ (i := 25) (N := some 36) (v := undef) (a' := ?_) ckq26 rfl rfl (any_of HT_.out (by kernel_rfl)) (fun _ _ _ h => h) (Or.inr ⟨by rfl, rfl⟩) ?_ ?_
              rotate_left; (· simp only [Act.put, cksa, cksz, ckss, i64_w, i32_w]; rfl)
              refine pure_ (i := 26) (N := some 37) (v := undef) (a' := ?_) ckq27 rfl rfl (any_of HT_.out (by kernel_rfl)) (fun _ _ _ h => h) (Or.inr ⟨by rfl, rfl⟩) ?_ ?_
              rotate_left; (· simp only [Act.put, cksa, cksz, ckss, i64_w, i32_w]; rfl)
              refine pure_ (i := 27) (N := some 38) (v := undef) (a' := ?_) ckq28 rfl rfl (any_of HT_.out (by kernel_rfl)) (fun _ _ _ h => h) (Or.inr ⟨by rfl, rfl⟩) ?_ ?_
              rotate_left; (· simp only [Act.put, cksa, cksz, ckss, i64_w, i32_w]; rfl)
              refine pure_ (i := 28) (N := some 39) (v := ?_) (a' := ?_) ckq29 rfl rfl (any_of HT_.out (by kernel_rfl)) (fun _ _ _ h => h) (Or.inl ⟨by rfl, ?_⟩) ?_ ?_
              rotate_left; (· intro w'; go_simp; with_reducible rfl); rotate_left; (· simp only [Act.put, cksa, cksz, ckss, i64_w, i32_w]; rfl)
              refine pure_ (i := 29) (N := some 40) (v := ?_) (a' := ?_) ckq30 rfl rfl (any_of HT_.out (by kernel_rfl)) (fun _ _ _ h => h) (Or.inl ⟨by rfl, ?_⟩) ?_ ?_
              rotate_left; (· intro w'; go_simp; with_reducible rfl); rotate_left; (· simp only [Act.put, cksa, cksz, ckss, i64_w, i32_w]; rfl)
              refine pure_ (i := 30) (N := some 41) (v := undef) (a' := ?_) ckq31 rfl rfl (any_of HT_.out (by kernel_rfl)) (fun _ _ _ h => h) (Or.inr ⟨by rfl, rfl⟩) ?_ ?_
              rotate_left; (· simp only [Act.put, cksa, cksz, ckss, i64_w, i32_w]; rfl)
              refine pure_ (i := 31) (N := some 42) (v := undef) (a' := ?_) ckq32 rfl rfl (any_of HT_.out (by kernel_rfl)) (fun _ _ _ h => h) (Or.inr ⟨by rfl, rfl⟩) ?_ ?_
              rotate_left; (· simp only [Act.put, cksa, cksz, ckss, i64_w, i32_w]; rfl)
              refine pure_ (i := 32) (N := some 43) (v := undef) (a' := ?_) ckq33 rfl rfl (any_of HT_.out (by kernel_rfl)) (fun _ _ _ h => h) (Or.inr ⟨by rfl, rfl⟩) ?_ ?_
              rotate_left; (· simp only [Act.put, cksa, cksz, ckss, i64_w, i32_w]; rfl)
              refine pure_ (i := 33) (N := some 44) (v := undef) (a' := ?_) ckq34 rfl rfl (any_of HT_.out (by kernel_rfl)) (fun _ _ _ h => h) (Or.inr ⟨by rfl, rfl⟩) ?_ ?_
              rotate_left; (· simp only [Act.put, cksa, cksz, ckss, i64_w, i32_w]; rfl)
              refine pure_ (i := 34) (N := some 45) (v := undef) (a' := ?_) ckq35 rfl rfl (any_of HT_.out (by kernel_rfl)) (fun _ _ _ h => h) (Or.inr ⟨by rfl, rfl⟩) ?_ ?_
              rotate_left; (· simp only [Act.put, cksa, cksz, ckss, i64_w, i32_w]; rfl)
              refine pure_ (i := 35) (N := some 46) (v := undef) (a' := ?_) ckq36 rfl rfl (any_of HT_.out (by kernel_rfl)) (fun _ _ _ h => h) (Or.inr ⟨by rfl, rfl⟩) ?_ ?_
              rotate_left; (· simp only [Act.put, cksa, cksz, ckss, i64_w, i32_w]; rfl)
              refine pure_ (i := 36) (N := some 47) (v := undef) (a' := ?_) ckq37 rfl rfl (any_of HT_.out (by kernel_rfl)) (fun _ _ _ h => h) (Or.inr ⟨by rfl, rfl⟩) ?_ ?_
              rotate_left; (· simp only [Act.put, cksa, cksz, ckss, i64_w, i32_w]; rfl)
              refine pure_ (i := 37) (N := some 48) (v := undef) (a' := ?_) ckq38 rfl rfl (any_of HT_.out (by kernel_rfl)) (fun _ _ _ h => h) (Or.inr ⟨by rfl, rfl⟩) ?_ ?_
              rotate_left; (· simp only [Act.put, cksa, cksz, ckss, i64_w, i32_w]; rfl)
              refine pure_ (i := 38) (N := some 49) (v := undef) (a' := ?_) ckq39 rfl rfl (any_of HT_.out (by kernel_rfl)) (fun _ _ _ h => h) (Or.inr ⟨by rfl, rfl⟩) ?_ ?_
              rotate_left; (· simp only [Act.put, cksa, cksz, ckss, i64_w, i32_w]; rfl)
              refine pure_ (i := 39) (N := some 50) (v := undef) (a' := ?_) ckq40 rfl rfl (any_of HT_.out (by kernel_rfl)) (fun _ _ _ h => h) (Or.inr ⟨by rfl, rfl⟩) ?_ ?_
              rotate_left; (· simp only [Act.put, cksa, cksz, ckss, i64_w, i32_w]; rfl)
              refine pure_ (i := 40) (N := some 51) (v := undef) (a' := ?_) ckq41 rfl rfl (any_of HT_.out (by kernel_rfl)) (fun _ _ _ h => h) (Or.inr ⟨by rfl, rfl⟩) ?_ ?_
              rotate_left; (· simp only [Act.put, cksa, cksz, ckss, i64_w, i32_w]; rfl)
              refine pure_ (i := 41) (N := some 52) (v := undef) (a' := ?_) ckq42 rfl rfl (any_of HT_.out (by kernel_rfl)) (fun _ _ _ h => h) (Or.inr ⟨by rfl, rfl⟩) ?_ ?_
              rotate_left; (· simp only [Act.put, cksa, cksz, ckss, i64_w, i32_w]; rfl)
              refine pure_ (i := 42) (N := some 53) (v := undef) (a' := ?_) ckq43 rfl rfl (any_of HT_.out (by kernel_rfl)) (fun _ _ _ h => h) (Or.inr ⟨by rfl, rfl⟩) ?_ ?_
              rotate_left; (· simp only [Act.put, cksa, cksz, ckss, i64_w, i32_w]; rfl)
              refine pure_ (i := 43) (N := some 54) (v := undef) (a' := ?_) ckq44 rfl rfl (any_of HT_.out (by kernel_rfl)) (fun _ _ _ h => h) (Or.inr ⟨by rfl, rfl⟩) ?_ ?_
              rotate_left; (· simp only [Act.put, cksa, cksz, ckss, i64_w, i32_w]; rfl)
              refine pure_ (i := 44) (N := some 55) (v := undef) (a' := ?_) ckq45 rfl rfl (any_of HT_.out (by kernel_rfl)) (fun _ _ _ h => h) (Or.inr ⟨by rfl, rfl⟩) ?_ ?_
              rotate_left; (· simp only [Act.put, cksa, cksz, ckss, i64_w, i32_w]; rfl)
              refine pure_ (i := 45) (N := some 56) (v := undef) (a' := ?_) ckq46 rfl rfl (any_of HT_.out (by kernel_rfl)) (fun _ _ _ h => h) (Or.inr ⟨by rfl, rfl⟩) ?_ ?_
              rotate_left; (· simp only [Act.put, cksa, cksz, ckss, i64_w, i32_w]; rfl)
              refine pure_ (i := 46) (N := some 57) (v := undef) (a' := ?_) ckq47 rfl rfl (any_of HT_.out (by kernel_rfl)) (fun _ _ _ h => h) (Or.inr ⟨by rfl, rfl⟩) ?_ ?_
              rotate_left; (· simp only [Act.put, cksa, cksz, ckss, i64_w, i32_w]; rfl)
              refine pure_ (i := 47) (N := some 58) (v := ?_) (a' := ?_) ckq48 rfl rfl (any_of HT_.out (by kernel_rfl)) (fun _ _ _ h => h) (Or.inl ⟨by rfl, ?_⟩) ?_ ?_
              rotate_left; (· intro w'; go_simp; with_reducible rfl); rotate_left; (· simp only [Act.put, cksa, cksz, ckss, i64_w, i32_w]; rfl)
              refine done_ (done_of HT_.out (by kernel_rfl)) ?_
              try go_wp2
              go_ret
              exact ⟨by first | rfl | (simp [errW_none, errW_some] <;> rfl) | (simp [*, errW_none, errW_some] <;> rfl), by repeat (first | (with_reducible first | exact HB.out | apply below_alloc | apply pw_below_drewN | apply below_drew1) | exact HB.out)⟩
          · replace c5 := Bool.eq_false_iff.mpr c5
            subst c5
            have H1 : (some 20) = some r := by rw [if_neg (show ¬ (false = true) by decide)] at H; exact H
            clear H
            have H := H1
            clear H1
            obtain rfl := Option.some.inj H
            try go_wp2
            have n0_ := Aside0.mk (below_drew1 HB.out)
            clear HB
            have HB := n0_
            clear n0_
            have p242 : 0 ≤ (x4_1 : Int) := of_decide_eq_true (by first | (with_reducible assumption) | assumption)
            have q242 : x4_1 < (l0.length : Int) := of_decide_eq_true (by first | (with_reducible assumption) | assumption)
            obtain ⟨ad242, e242, hx242_0, hx242_1⟩ := at_T62 HR0.out x4_1 p242 q242
            have hw242_1 := hx242_1
            have hw242_0 := hx242_0
            cases e242
            replace hx242_0 := (HB.out.cell (World.block_lt_of_cell? w _ hx242_0)).trans hx242_0
            replace hx242_1 := (HB.out.cell (World.block_lt_of_cell? w _ hx242_1)).trans hx242_1
            replace p242 := eq_true p242
            replace q242 := eq_true q242
            refine start_ (n := 48) (S := fun w' => w'.cell? (ad242.add ((x4_1).toNat * 2)) = some (.int .i64 ((rd_T62 l0 x4_1).f0)) ∧ w'.cell? ⟨(ad242.add ((x4_1).toNat * 2)).block, (ad242.add ((x4_1).toNat * 2)).off + 1, none⟩ = some (.int .i64 ((rd_T62 l0 x4_1).f1))) (ds := []) ckq0 (by kernel_rfl) rfl rfl ⟨((HB.out.cell (World.block_lt_of_cell? w _ hw242_0)).trans hw242_0), ((HB.out.cell (World.block_lt_of_cell? w _ hw242_1)).trans hw242_1)⟩ (fun hHeld => ?_); refine with_tabW r2Check.tab5 r2Check.bits5 (fun HT_ HW_ => ?_)
            generalize wr.drew = w21 at HB hx242_0 hx242_1 hHeld ⊢
            refine pure_ (i := 0) (N := some 11) (v := ?_) (a' := ?_) ckq1 rfl rfl (any_of HT_.out (by kernel_rfl)) (fun _ _ _ h => h) (Or.inl ⟨by rfl, ?_⟩) ?_ ?_
            rotate_left; (· intro w'; go_simp; with_reducible rfl); rotate_left; (· simp only [Act.put, cksa, cksz, ckss, i64_w, i32_w]; rfl)
            refine pure_ (i := 1) (N := some 12) (v := ?_) (a' := ?_) ckq2 rfl rfl (any_of HT_.out (by kernel_rfl)) (fun _ _ _ h => h) (Or.inl ⟨by rfl, ?_⟩) ?_ ?_
            rotate_left; (· intro w'; go_simp; with_reducible rfl); rotate_left; (· simp only [Act.put, cksa, cksz, ckss, i64_w, i32_w]; rfl)
            refine pure_ (i := 2) (N := some 13) (v := ?_) (a' := ?_) ckq3 rfl rfl (any_of HT_.out (by kernel_rfl)) (fun _ _ _ h => h) (Or.inl ⟨by rfl, ?_⟩) ?_ ?_
            rotate_left; (· intro w'; go_simp; with_reducible rfl); rotate_left; (· simp only [Act.put, cksa, cksz, ckss, i64_w, i32_w]; rfl)
            refine pure_ (i := 3) (N := some 14) (v := ?_) (a' := ?_) ckq4 rfl rfl (any_of HT_.out (by kernel_rfl)) (fun _ _ _ h => h) (Or.inl ⟨by rfl, ?_⟩) ?_ ?_
            rotate_left; (· intro w'; go_simp; with_reducible rfl); rotate_left; (· simp only [Act.put, cksa, cksz, ckss, i64_w, i32_w]; rfl)
            refine take_ (i := 4) (N := some 15) (v := ?_) (a' := ?_) ckq5 rfl rfl (take_ofW HT_.out HW_.out (by kernel_rfl)) (fun _ _ _ h => h) (Or.inl ⟨by rfl, ?_⟩) hHeld ?_ ?_
            rotate_left; (· rintro w' ⟨s0, s1⟩; go_simp; with_reducible rfl); rotate_left; (· simp only [Act.put, cksa, cksz, ckss, i64_w, i32_w]; rfl)
            refine one_ (i := 5) (N := some 16) ckq6 rfl rfl (one_of HT_.out (by kernel_rfl)) (by decide) (fun K hK => ?_)
            refine goes_ Try.func48 (by kernel_rfl) rfl #[.int .i64 ((rd_T62 l0 x4_1).f0)] (by rfl) rfl rfl (by (try simp only [List.map_toArray, List.map_cons, List.map_nil]); first | done | rfl | (simp only [List.length_drop, List.length_take]; rfl)) ?_
            with_reducible refine (secateurref02_Value.calls ((rd_T62 l0 x4_1).f0) false _ A4.out).mono ?_
            rintro e w' ⟨rfl, ⟨nd, rfl⟩⟩
            refine ⟨_, rfl, ?_⟩
            refine hK.out _ _ ⟨((HB.out.cell (World.block_lt_of_cell? w _ hw242_0)).trans hw242_0), ((HB.out.cell (World.block_lt_of_cell? w _ hw242_1)).trans hw242_1)⟩ (fun hHeld => ?_)
            clear hK K
            refine norm_ (a' := ?_) ?_ ?_
            rotate_left
            · show Act.put _ (some 16) _ = _
              simp only [Act.put, cksa, cksz, ckss, i64_w, i32_w]
              rfl
            refine pure_ (i := 6) (N := some 17) (v := ?_) (a' := ?_) ckq7 rfl rfl (any_of HT_.out (by kernel_rfl)) (fun _ _ _ h => h) (Or.inl ⟨by rfl, ?_⟩) ?_ ?_
            rotate_left; (· intro w'; go_simp; with_reducible rfl); rotate_left; (· simp only [Act.put, cksa, cksz, ckss, i64_w, i32_w]; rfl)
            refine pure_ (i := 7) (N := some 18) (v := ?_) (a' := ?_) ckq8 rfl rfl (any_of HT_.out (by kernel_rfl)) (fun _ _ _ h => h) (Or.inl ⟨by rfl, ?_⟩) ?_ ?_
            rotate_left; (· intro w'; go_simp; with_reducible rfl); rotate_left; (· simp only [Act.put, cksa, cksz, ckss, i64_w, i32_w]; rfl)
            refine pure_ (i := 8) (N := some 19) (v := undef) (a' := ?_) ckq9 rfl rfl (any_of HT_.out (by kernel_rfl)) (fun _ _ _ h => h) (Or.inr ⟨by rfl, rfl⟩) ?_ ?_
            rotate_left; (· simp only [Act.put, cksa, cksz, ckss, i64_w, i32_w]; rfl)
            refine pure_ (i := 9) (N := some 20) (v := undef) (a' := ?_) ckq10 rfl rfl (any_of HT_.out (by kernel_rfl)) (fun _ _ _ h => h) (Or.inr ⟨by rfl, rfl⟩) ?_ ?_
            rotate_left; (· simp only [Act.put, cksa, cksz, ckss, i64_w, i32_w]; rfl)
            refine pure_ (i := 10) (N := some 21) (v := undef) (a' := ?_) ckq11 rfl rfl (any_of HT_.out (by kernel_rfl)) (fun _ _ _ h => h) (Or.inr ⟨by rfl, rfl⟩) ?_ ?_
            rotate_left; (· simp only [Act.put, cksa, cksz, ckss, i64_w, i32_w]; rfl)
            refine pure_ (i := 11) (N := some 22) (v := undef) (a' := ?_) ckq12 rfl rfl (any_of HT_.out (by kernel_rfl)) (fun _ _ _ h => h) (Or.inr ⟨by rfl, rfl⟩) ?_ ?_
            rotate_left; (· simp only [Act.put, cksa, cksz, ckss, i64_w, i32_w]; rfl)
            refine pure_ (i := 12) (N := some 23) (v := undef) (a' := ?_) ckq13 rfl rfl (any_of HT_.out (by kernel_rfl)) (fun _ _ _ h => h) (Or.inr ⟨by rfl, rfl⟩) ?_ ?_
            rotate_left; (· simp only [Act.put, cksa, cksz, ckss, i64_w, i32_w]; rfl)
            refine pure_ (i := 13) (N := some 24) (v := undef) (a' := ?_) ckq14 rfl rfl (any_of HT_.out (by kernel_rfl)) (fun _ _ _ h => h) (Or.inr ⟨by rfl, rfl⟩) ?_ ?_
            rotate_left; (· simp only [Act.put, cksa, cksz, ckss, i64_w, i32_w]; rfl)
            refine pure_ (i := 14) (N := some 25) (v := undef) (a' := ?_) ckq15 rfl rfl (any_of HT_.out (by kernel_rfl)) (fun _ _ _ h => h) (Or.inr ⟨by rfl, rfl⟩) ?_ ?_
            rotate_left; (· simp only [Act.put, cksa, cksz, ckss, i64_w, i32_w]; rfl)
            refine pure_ (i := 15) (N := some 26) (v := ?_) (a' := ?_) ckq16 rfl rfl (any_of HT_.out (by kernel_rfl)) (fun _ _ _ h => h) (Or.inl ⟨by rfl, ?_⟩) ?_ ?_
            rotate_left; (· intro w'; go_simp; with_reducible rfl); rotate_left; (· simp only [Act.put, cksa, cksz, ckss, i64_w, i32_w]; rfl)
            refine pure_ (i := 16) (N := some 27) (v := ?_) (a' := ?_) ckq17 rfl rfl (any_of HT_.out (by kernel_rfl)) (fun _ _ _ h => h) (Or.inl ⟨by rfl, ?_⟩) ?_ ?_
            rotate_left; (· intro w'; go_simp; with_reducible rfl); rotate_left; (· simp only [Act.put, cksa, cksz, ckss, i64_w, i32_w]; rfl)
            refine pure_ (i := 17) (N := some 28) (v := undef) (a' := ?_) ckq18 rfl rfl (any_of HT_.out (by kernel_rfl)) (fun _ _ _ h => h) (Or.inr ⟨by rfl, rfl⟩) ?_ ?_
            rotate_left; (· simp only [Act.put, cksa, cksz, ckss, i64_w, i32_w]; rfl)
            refine pure_ (i := 18) (N := some 29) (v := undef) (a' := ?_) ckq19 rfl rfl (any_of HT_.out (by kernel_rfl)) (fun _ _ _ h => h) (Or.inr ⟨by rfl, rfl⟩) ?_ ?_
            rotate_left; (· simp only [Act.put, cksa, cksz, ckss, i64_w, i32_w]; rfl)
            refine pure_ (i := 19) (N := some 30) (v := undef) (a' := ?_) ckq20 rfl rfl (any_of HT_.out (by kernel_rfl)) (fun _ _ _ h => h) (Or.inr ⟨by rfl, rfl⟩) ?_ ?_
            rotate_left; (· simp only [Act.put, cksa, cksz, ckss, i64_w, i32_w]; rfl)
            refine pure_ (i := 20) (N := some 31) (v := undef) (a' := ?_) ckq21 rfl rfl (any_of HT_.out (by kernel_rfl)) (fun _ _ _ h => h) (Or.inr ⟨by rfl, rfl⟩) ?_ ?_
            rotate_left; (· simp only [Act.put, cksa, cksz, ckss, i64_w, i32_w]; rfl)
            refine pure_ (i := 21) (N := some 32) (v := undef) (a' := ?_) ckq70 rfl rfl (any_of HT_.out (by kernel_rfl)) (fun _ _ _ h => h) (Or.inr ⟨by rfl, rfl⟩) ?_ ?_
            rotate_left; (· simp only [Act.put, cksa, cksz, ckss, i64_w, i32_w]; rfl)
            refine pure_ (i := 22) (N := some 33) (v := undef) (a' := ?_) ckq71 rfl rfl (any_of HT_.out (by kernel_rfl)) (fun _ _ _ h => h) (Or.inr ⟨by rfl, rfl⟩) ?_ ?_
            rotate_left; (· simp only [Act.put, cksa, cksz, ckss, i64_w, i32_w]; rfl)
            refine pure_ (i := 23) (N := some 34) (v := undef) (a' := ?_) ckq72 rfl rfl (any_of HT_.out (by kernel_rfl)) (fun _ _ _ h => h) (Or.inr ⟨by rfl, rfl⟩) ?_ ?_
            rotate_left; (· simp only [Act.put, cksa, cksz, ckss, i64_w, i32_w]; rfl)
            refine pure_ (i := 24) (N := some 35) (v := undef) (a' := ?_) ckq73 rfl rfl (any_of HT_.out (by kernel_rfl)) (fun _ _ _ h => h) (Or.inr ⟨by rfl, rfl⟩) ?_ ?_
            rotate_left; (· simp only [Act.put, cksa, cksz, ckss, i64_w, i32_w]; rfl)
            refine pure_ (i := 25) (N := some 36) (v := undef) (a' := ?_) ckq26 rfl rfl (any_of HT_.out (by kernel_rfl)) (fun _ _ _ h => h) (Or.inr ⟨by rfl, rfl⟩) ?_ ?_
            rotate_left; (· simp only [Act.put, cksa, cksz, ckss, i64_w, i32_w]; rfl)
            refine pure_ (i := 26) (N := some 37) (v := undef) (a' := ?_) ckq27 rfl rfl (any_of HT_.out (by kernel_rfl)) (fun _ _ _ h => h) (Or.inr ⟨by rfl, rfl⟩) ?_ ?_
            rotate_left; (· simp only [Act.put, cksa, cksz, ckss, i64_w, i32_w]; rfl)
            refine pure_ (i := 27) (N := some 38) (v := undef) (a' := ?_) ckq28 rfl rfl (any_of HT_.out (by kernel_rfl)) (fun _ _ _ h => h) (Or.inr ⟨by rfl, rfl⟩) ?_ ?_
            rotate_left; (· simp only [Act.put, cksa, cksz, ckss, i64_w, i32_w]; rfl)
            refine pure_ (i := 28) (N := some 39) (v := ?_) (a' := ?_) ckq29 rfl rfl (any_of HT_.out (by kernel_rfl)) (fun _ _ _ h => h) (Or.inl ⟨by rfl, ?_⟩) ?_ ?_
            rotate_left; (· intro w'; go_simp; with_reducible rfl); rotate_left; (· simp only [Act.put, cksa, cksz, ckss, i64_w, i32_w]; rfl)
            refine pure_ (i := 29) (N := some 40) (v := ?_) (a' := ?_) ckq30 rfl rfl (any_of HT_.out (by kernel_rfl)) (fun _ _ _ h => h) (Or.inl ⟨by rfl, ?_⟩) ?_ ?_
            rotate_left; (· intro w'; go_simp; with_reducible rfl); rotate_left; (· simp only [Act.put, cksa, cksz, ckss, i64_w, i32_w]; rfl)
            refine pure_ (i := 30) (N := some 41) (v := undef) (a' := ?_) ckq31 rfl rfl (any_of HT_.out (by kernel_rfl)) (fun _ _ _ h => h) (Or.inr ⟨by rfl, rfl⟩) ?_ ?_
            rotate_left; (· simp only [Act.put, cksa, cksz, ckss, i64_w, i32_w]; rfl)
            refine pure_ (i := 31) (N := some 42) (v := undef) (a' := ?_) ckq32 rfl rfl (any_of HT_.out (by kernel_rfl)) (fun _ _ _ h => h) (Or.inr ⟨by rfl, rfl⟩) ?_ ?_
            rotate_left; (· simp only [Act.put, cksa, cksz, ckss, i64_w, i32_w]; rfl)
            refine pure_ (i := 32) (N := some 43) (v := undef) (a' := ?_) ckq33 rfl rfl (any_of HT_.out (by kernel_rfl)) (fun _ _ _ h => h) (Or.inr ⟨by rfl, rfl⟩) ?_ ?_
            rotate_left; (· simp only [Act.put, cksa, cksz, ckss, i64_w, i32_w]; rfl)
            refine pure_ (i := 33) (N := some 44) (v := undef) (a' := ?_) ckq34 rfl rfl (any_of HT_.out (by kernel_rfl)) (fun _ _ _ h => h) (Or.inr ⟨by rfl, rfl⟩) ?_ ?_
            rotate_left; (· simp only [Act.put, cksa, cksz, ckss, i64_w, i32_w]; rfl)
            refine pure_ (i := 34) (N := some 45) (v := undef) (a' := ?_) ckq35 rfl rfl (any_of HT_.out (by kernel_rfl)) (fun _ _ _ h => h) (Or.inr ⟨by rfl, rfl⟩) ?_ ?_
            rotate_left; (· simp only [Act.put, cksa, cksz, ckss, i64_w, i32_w]; rfl)
            refine pure_ (i := 35) (N := some 46) (v := undef) (a' := ?_) ckq36 rfl rfl (any_of HT_.out (by kernel_rfl)) (fun _ _ _ h => h) (Or.inr ⟨by rfl, rfl⟩) ?_ ?_
            rotate_left; (· simp only [Act.put, cksa, cksz, ckss, i64_w, i32_w]; rfl)
            refine pure_ (i := 36) (N := some 47) (v := undef) (a' := ?_) ckq37 rfl rfl (any_of HT_.out (by kernel_rfl)) (fun _ _ _ h => h) (Or.inr ⟨by rfl, rfl⟩) ?_ ?_
            rotate_left; (· simp only [Act.put, cksa, cksz, ckss, i64_w, i32_w]; rfl)
            refine pure_ (i := 37) (N := some 48) (v := undef) (a' := ?_) ckq38 rfl rfl (any_of HT_.out (by kernel_rfl)) (fun _ _ _ h => h) (Or.inr ⟨by rfl, rfl⟩) ?_ ?_
            rotate_left; (· simp only [Act.put, cksa, cksz, ckss, i64_w, i32_w]; rfl)
            refine pure_ (i := 38) (N := some 49) (v := undef) (a' := ?_) ckq39 rfl rfl (any_of HT_.out (by kernel_rfl)) (fun _ _ _ h => h) (Or.inr ⟨by rfl, rfl⟩) ?_ ?_
            rotate_left; (· simp only [Act.put, cksa, cksz, ckss, i64_w, i32_w]; rfl)
            refine pure_ (i := 39) (N := some 50) (v := undef) (a' := ?_) ckq40 rfl rfl (any_of HT_.out (by kernel_rfl)) (fun _ _ _ h => h) (Or.inr ⟨by rfl, rfl⟩) ?_ ?_
            rotate_left; (· simp only [Act.put, cksa, cksz, ckss, i64_w, i32_w]; rfl)
            refine pure_ (i := 40) (N := some 51) (v := undef) (a' := ?_) ckq41 rfl rfl (any_of HT_.out (by kernel_rfl)) (fun _ _ _ h => h) (Or.inr ⟨by rfl, rfl⟩) ?_ ?_
            rotate_left; (· simp only [Act.put, cksa, cksz, ckss, i64_w, i32_w]; rfl)
            refine pure_ (i := 41) (N := some 52) (v := undef) (a' := ?_) ckq42 rfl rfl (any_of HT_.out (by kernel_rfl)) (fun _ _ _ h => h) (Or.inr ⟨by rfl, rfl⟩) ?_ ?_
            rotate_left; (· simp only [Act.put, cksa, cksz, ckss, i64_w, i32_w]; rfl)
            refine pure_ (i := 42) (N := some 53) (v := undef) (a' := ?_) ckq43 rfl rfl (any_of HT_.out (by kernel_rfl)) (fun _ _ _ h => h) (Or.inr ⟨by rfl, rfl⟩) ?_ ?_
            rotate_left; (· simp only [Act.put, cksa, cksz, ckss, i64_w, i32_w]; rfl)
            refine pure_ (i := 43) (N := some 54) (v := undef) (a' := ?_) ckq44 rfl rfl (any_of HT_.out (by kernel_rfl)) (fun _ _ _ h => h) (Or.inr ⟨by rfl, rfl⟩) ?_ ?_
            rotate_left; (· simp only [Act.put, cksa, cksz, ckss, i64_w, i32_w]; rfl)
            refine pure_ (i := 44) (N := some 55) (v := undef) (a' := ?_) ckq45 rfl rfl (any_of HT_.out (by kernel_rfl)) (fun _ _ _ h => h) (Or.inr ⟨by rfl, rfl⟩) ?_ ?_
            rotate_left; (· simp only [Act.put, cksa, cksz, ckss, i64_w, i32_w]; rfl)
            refine pure_ (i := 45) (N := some 56) (v := undef) (a' := ?_) ckq46 rfl rfl (any_of HT_.out (by kernel_rfl)) (fun _ _ _ h => h) (Or.inr ⟨by rfl, rfl⟩) ?_ ?_
            rotate_left; (· simp only [Act.put, cksa, cksz, ckss, i64_w, i32_w]; rfl)
            refine pure_ (i := 46) (N := some 57) (v := undef) (a' := ?_) ckq47 rfl rfl (any_of HT_.out (by kernel_rfl)) (fun _ _ _ h => h) (Or.inr ⟨by rfl, rfl⟩) ?_ ?_
            rotate_left; (· simp only [Act.put, cksa, cksz, ckss, i64_w, i32_w]; rfl)
            refine pure_ (i := 47) (N := some 58) (v := ?_) (a' := ?_) ckq48 rfl rfl (any_of HT_.out (by kernel_rfl)) (fun _ _ _ h => h) (Or.inl ⟨by rfl, ?_⟩) ?_ ?_
            rotate_left; (· intro w'; go_simp; with_reducible rfl); rotate_left; (· simp only [Act.put, cksa, cksz, ckss, i64_w, i32_w]; rfl)
            refine done_ (done_of HT_.out (by kernel_rfl)) ?_
            try go_wp2
            go_ret
            exact ⟨by first | rfl | (simp [errW_none, errW_some] <;> rfl) | (simp [*, errW_none, errW_some] <;> rfl), by repeat (first | (with_reducible first | exact HB.out | apply below_alloc | apply pw_below_drewN | apply below_drew1) | exact HB.out)⟩
        · rw [if_neg c3] at H
          exact absurd H (by simp)
      · rw [if_neg c2] at H
        have c2b0 : decide (x4_1 < (l0.length : Int)) = false := decide_eq_false c2
        clear c2
        by_cases c22 : x3_1 > 4096
        · rw [if_pos c22] at H
          have c22b0 : decide (4096 < x3_1) = true := decide_eq_true c22
          clear c22
          obtain rfl := Option.some.inj H
          go_wp2
          go_ret
          exact ⟨by first | rfl | (simp [errW_none, errW_some] <;> rfl) | (simp [*, errW_none, errW_some] <;> rfl), by repeat (first | (with_reducible first | exact HB.out | apply below_alloc | apply pw_below_drewN | apply below_drew1) | exact HB.out)⟩
        · rw [if_neg c22] at H
          have c22b0 : decide (4096 < x3_1) = false := decide_eq_false c22
          clear c22
          obtain rfl := Option.some.inj H
          go_wp2
          go_ret
          exact ⟨by first | rfl | (simp [errW_none, errW_some] <;> rfl) | (simp [*, errW_none, errW_some] <;> rfl), by repeat (first | (with_reducible first | exact HB.out | apply below_alloc | apply pw_below_drewN | apply below_drew1) | exact HB.out)⟩

end Go.Proofs.Ytcjachhdoogbaaa.PT

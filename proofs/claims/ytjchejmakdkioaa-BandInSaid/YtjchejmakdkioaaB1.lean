import Derived.Test.YtjchejmakdkioaaB0
import Derived.IntWalk
set_option linter.unusedVariables false
set_option maxRecDepth 100000
namespace Go.Proofs.Ytjchejmakdkioaa
open Go.Sh
theorem wrap_eq {n : Int} (h1 : -9223372036854775808 ≤ n) (h2 : n ≤ 9223372036854775807) : IntKind.i64.wrap n = n := by
  rw [IntKind.wrap_i64]; omega
theorem Of_some (a : Int) (h1 : 1 ≤ a) (h8 : a ≤ 8) : band_Of a = (({ Low := 1000 * a, High := 1000 * a + 999 } : Band), true) := by
  unfold band_Of
  rw [decide_eq_false (by omega : ¬ a < 1), decide_eq_false (by omega : ¬ a > 8), wrap_eq (n := a * 1000) (by omega) (by omega), wrap_eq (n := a + 1) (by omega) (by omega), wrap_eq (n := (a + 1) * 1000) (by omega) (by omega), wrap_eq (by omega) (by omega)]
  simp only [Bool.or_self, cond_false, Prod.mk.injEq, Band.mk.injEq, and_true]
  omega
def Owner (p : Int) : Int := if 1000 ≤ p ∧ p < 9000 then p / 1000 else 0
theorem Owner_l0_eq (p : Int) : ∀ (n : Nat) (i : Int), i = 8 - n → 0 ≤ i → band_Owner_l0 p (n + 1) i = some (if 1000 * (i + 1) ≤ p ∧ p < 9000 then .inr (p / 1000) else .inl ())
  | 0, i, e, h0 => by
      rw [band_Owner_l0, decide_eq_false (by omega), if_neg (by omega)]
      rfl
  | n + 1, i, e, h0 => by
      rw [band_Owner_l0, decide_eq_true (by omega), wrap_eq (n := i + 1) (by omega) (by omega), Of_some (i + 1) (by omega) (by omega)]
      simp only [cond_true, Bool.true_and, band_In]
      by_cases c : 1000 * (i + 1) ≤ p ∧ p ≤ 1000 * (i + 1) + 999
      · rw [decide_eq_true c.1, decide_eq_true c.2, if_pos (by omega)]
        simp only [Bool.and_self, cond_true]
        congr 2
        omega
      · have : (decide (p ≥ 1000 * (i + 1)) && decide (p ≤ 1000 * (i + 1) + 999)) = false := by
          rw [Bool.and_eq_false_iff, decide_eq_false_iff_not, decide_eq_false_iff_not]
          omega
        rw [this, Owner_l0_eq p n (i + 1) (by omega) (by omega)]
        simp only [cond_false]
        by_cases d : 1000 * (i + 1 + 1) ≤ p ∧ p < 9000
        · rw [if_pos d, if_pos (by omega)]
        · rw [if_neg d, if_neg (by omega)]
theorem Owner_calls (p : Int) : ACalls Try.prog tab.S 17 [.sc (.int .i64 p)] [] (.sc (.int .i64 (Owner p))) [] := by
  refine band_Owner_walk 9 p (Owner p) ?_
  rw [band_Owner_raw, Owner_l0_eq p 8 0 (by omega) (by omega)]
  unfold Owner
  by_cases h : 1000 ≤ p ∧ p < 9000
  · rw [if_pos h, if_pos (by omega)]; rfl
  · rw [if_neg h, if_neg (by omega)]; rfl
end Go.Proofs.Ytjchejmakdkioaa

import Derived.Test.YtjchejmakdkioaaH0
import Derived.Test.YtjchejmakdkioaaY0
set_option linter.unusedVariables false
set_option maxRecDepth 100000
namespace Go.Proofs.Ytjchejmakdkioaa
open Go.Sh
theorem clampN_nonpos {n : Int} (h : n ≤ 0) : clampN n = 0 := by
  unfold clampN
  by_cases h2 : 0 > n
  · rw [if_pos h2]; rfl
  · rw [if_neg h2, show n = 0 by omega]; rfl
theorem u16_range {n : Int} (h : intW .u16 n) : 0 ≤ n ∧ n ≤ 65535 := by
  unfold intW Go.Lit.wf at h
  rw [Bool.and_eq_true, decide_eq_true_eq, decide_eq_true_eq] at h
  exact h
theorem LapseStill_calls (l : List Rule) (n : Int) (f_l : Bool) (wl : ∀ y ∈ l, Rule.wf y) (wn : intW .u16 n) : ACalls Try.prog tab.S 13 [.sl 66 (List.map Rule.av l) f_l, .sc (.int .u16 n)] [] (.sc (.bool true)) [] := by
  have := podestalaw06_LapseStill_calls l n f_l
  have e : podestalaw06_LapseStill l n = true := by
    have hn := u16_range wn
    unfold podestalaw06_LapseStill
    rw [wrap_eq (n := n) (by omega) (by omega), wrap_eq (n := 0 - n) (by omega) (by omega)]
    have : Tick l (0 - n) = Tick l 0 := by
      unfold Tick
      rw [clampN_nonpos (by omega), clampN_nonpos (by omega)]
    rw [this]
    cases ((decide ((((List.map Rule.av l).length : Nat) : Int) > 40)) || (!(TableOk l)))
    · simp
    · rfl
  rw [e] at this
  exact this
end Go.Proofs.Ytjchejmakdkioaa

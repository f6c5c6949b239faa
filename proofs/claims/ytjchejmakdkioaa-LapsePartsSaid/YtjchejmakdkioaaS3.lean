import Derived.Test.YtjchejmakdkioaaG3
set_option linter.unusedVariables false
set_option maxRecDepth 100000
namespace Go.Proofs.Ytjchejmakdkioaa
open Go.Sh
theorem Same_l0_eq (a b : List Rule) (hab : a.length = b.length) (hl : a.length * 272 ≤ 140737488355328) : ∀ (n i : Nat), i + n = a.length → podestaref04_Same_l0 a b (n + 1) i = some (if a.drop i == b.drop i then .inl () else .inr false)
  | 0, i, h1 => by
      rw [podestaref04_Same_l0, List.length_map, decide_eq_false (by omega), List.drop_eq_nil_of_le (by omega), List.drop_eq_nil_of_le (by omega)]
      rfl
  | n + 1, i, h1 => by
      rw [podestaref04_Same_l0, List.length_map, decide_eq_true (by omega), ixO_lt (by omega), ixO_lt (by omega)]
      simp only [cond_true, Option.bind_some]
      rw [drop_beq (by omega) (by omega), wrap_succ (by omega), Same_l0_eq a b hab hl n (i + 1) (by omega)]
      cases (a[i] == b[i])
      · rfl
      · rfl
theorem Same_calls (a b : List Rule) (f_a f_b : Bool) : ACalls Try.prog tab.S 36 [.sl 66 (List.map Rule.av a) f_a, .sl 66 (List.map Rule.av b) f_b] [] (.sc (.bool (a == b))) [] := by
  refine ACalls.facts (ent_of Try.func36 (by kernel_rfl) (by kernel_rfl)) fun hf => ?_
  have hl : (List.map Rule.av a).length * 272 ≤ 140737488355328 := hf.1.1
  rw [List.length_map] at hl
  refine podestaref04_Same_walk (a.length + 1) a b f_a f_b _ ?_
  rw [podestaref04_Same_raw, List.length_map, List.length_map]
  by_cases h : a.length = b.length
  · rw [show (0 : Int) = ((0 : Nat) : Int) from rfl, Same_l0_eq a b h hl a.length 0 (by omega)]
    have : ((a.length : Int) != (b.length : Int)) = false := by rw [bne_eq_false_iff_eq]; omega
    rw [this]
    simp only [cond_false, List.drop_zero]
    cases h2 : (a == b)
    · rfl
    · rfl
  · have : ((a.length : Int) != (b.length : Int)) = true := by rw [bne_iff_ne]; omega
    rw [this]
    have h3 : (a == b) = false := by
      rw [beq_eq_false_iff_ne]
      intro e
      exact h (by rw [e])
    rw [h3]
    rfl
end Go.Proofs.Ytjchejmakdkioaa

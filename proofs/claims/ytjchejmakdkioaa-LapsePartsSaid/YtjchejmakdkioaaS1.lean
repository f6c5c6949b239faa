import Derived.Test.YtjchejmakdkioaaG1
set_option linter.unusedVariables false
set_option maxRecDepth 100000
namespace Go.Proofs.Ytjchejmakdkioaa
open Go.Sh

theorem Act.beq_eq (x y : Act) : ((x.Kind == y.Kind) && ((x.Port == y.Port) && ((x.Field == y.Field) && (x.Value == y.Value)))) = (x == y) := by
  rw [Bool.eq_iff_iff]
  simp only [Bool.and_eq_true, beq_iff_eq]
  cases x; cases y
  simp

theorem drop_beq {α : Type} [DecidableEq α] {a b : List α} {i : Nat} (h1 : i < a.length) (h2 : i < b.length) : (a.drop i == b.drop i) = ((a[i] == b[i]) && (a.drop (i + 1) == b.drop (i + 1))) := by
  rw [List.drop_eq_getElem_cons h1, List.drop_eq_getElem_cons h2]
  rfl

theorem SameActs_l0_eq (a b : List Act) (hab : a.length = b.length) (hl : a.length * 32 ≤ 140737488355328) : ∀ (n i : Nat), i + n = a.length → podestaref04_SameActs_l0 a b (n + 1) i = some (if a.drop i == b.drop i then .inl () else .inr false)
  | 0, i, h1 => by
      rw [podestaref04_SameActs_l0, List.length_map, decide_eq_false (by omega), List.drop_eq_nil_of_le (by omega), List.drop_eq_nil_of_le (by omega)]
      rfl
  | n + 1, i, h1 => by
      rw [podestaref04_SameActs_l0, List.length_map, decide_eq_true (by omega), ixO_lt (by omega), ixO_lt (by omega)]
      simp only [cond_true, Option.bind_some, Act.beq_eq]
      rw [drop_beq (by omega) (by omega), wrap_succ (by omega), SameActs_l0_eq a b hab hl n (i + 1) (by omega)]
      cases (a[i] == b[i])
      · rfl
      · rfl

theorem SameActs_calls (a b : List Act) (f_a f_b : Bool) : ACalls Try.prog tab.S 60 [.sl 110 (List.map Act.av a) f_a, .sl 110 (List.map Act.av b) f_b] [] (.sc (.bool (a == b))) [] := by
  refine ACalls.facts (ent_of Try.func60 (by kernel_rfl) (by kernel_rfl)) fun hf => ?_
  have hl : (List.map Act.av a).length * 32 ≤ 140737488355328 := hf.1.1
  rw [List.length_map] at hl
  refine podestaref04_SameActs_walk (a.length + 1) a b f_a f_b _ ?_
  rw [podestaref04_SameActs_raw, List.length_map, List.length_map]
  by_cases h : a.length = b.length
  · rw [show (0 : Int) = ((0 : Nat) : Int) from rfl, SameActs_l0_eq a b h hl a.length 0 (by omega)]
    have : ((a.length : Int) != (b.length : Int)) = false := by rw [bne_eq_false_iff_eq]; omega
    rw [this]
    simp only [cond_false, List.drop_zero]
    cases h2 : (a == b)
    · rfl
    · rfl
  · have : ((a.length : Int) != (b.length : Int)) = true := by rw [bne_iff_ne]; omega
    rw [this]
    have h3 : (a == b) = false := by
      rw [beq_eq_false_iff_ne]
      intro e
      exact h (by rw [e])
    rw [h3]
    rfl
end Go.Proofs.Ytjchejmakdkioaa

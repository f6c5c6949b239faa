import Derived.Test.YtjchejmakdkioaaG0
import Derived.IntWalk
set_option linter.unusedVariables false
set_option maxRecDepth 100000
namespace Go.Proofs.Ytjchejmakdkioaa
open Go.Sh

theorem wrap_eq {n : Int} (h1 : -9223372036854775808 ≤ n) (h2 : n ≤ 9223372036854775807) : IntKind.i64.wrap n = n := by
  rw [IntKind.wrap_i64]; omega
theorem wrap_succ {i : Nat} (h : i < 9223372036854775807) : IntKind.i64.wrap ((i : Int) + 1) = ((i + 1 : Nat) : Int) := by
  rw [wrap_eq (by omega) (by omega)]; rfl
theorem ixO_lt {α : Type} {xs : List α} {i : Nat} (h : i < xs.length) : ixO xs (i : Int) = some xs[i] := by
  unfold ixO
  rw [if_pos (by omega), Int.toNat_natCast, List.getElem?_eq_getElem h]
theorem fitO_eq {α : Type} {n b : Nat} {r : Option α} (h : n * b ≤ 140737488355328) : fitO n b r = r := by
  unfold fitO; rw [if_pos h]

theorem rule_Copy_l0_eq (list : List Rule) (hl : list.length * 272 ≤ 140737488355328) : ∀ (n i : Nat) (out : List Rule), i + n = list.length → out.length = i → rule_Copy_l0 list (n + 1) i out = some (out ++ list.drop i)
  | 0, i, out, h1, h2 => by
      rw [rule_Copy_l0, List.length_map, decide_eq_false (by omega), List.drop_eq_nil_of_le (by omega)]
      simp
  | n + 1, i, out, h1, h2 => by
      rw [rule_Copy_l0, List.length_map, decide_eq_true (by omega), ixO_lt (by omega)]
      simp only [cond_true, Option.bind_some]
      rw [fitO_eq (by simp only [List.length_singleton]; omega), wrap_succ (by omega), rule_Copy_l0_eq list hl n (i + 1) _ (by omega) (by simp; omega)]
      rw [List.append_assoc, List.singleton_append, ← List.drop_eq_getElem_cons (by omega)]

theorem rule_Copy_calls (list : List Rule) (f_list : Bool) : ACalls Try.prog tab.S 47 [.sl 66 (List.map Rule.av list) f_list] [] (.sl 66 (List.map Rule.av list) true) [] := by
  refine ACalls.facts (ent_of Try.func47 (by kernel_rfl) (by kernel_rfl)) fun hf => ?_
  have hl : (List.map Rule.av list).length * 272 ≤ 140737488355328 := hf.1.1
  rw [List.length_map] at hl
  refine rule_Copy_walk (list.length + 1) list f_list list ?_
  rw [rule_Copy_raw, show (0 : Int) = ((0 : Nat) : Int) from rfl, rule_Copy_l0_eq list hl list.length 0 [] (by omega) rfl]
  simp
end Go.Proofs.Ytjchejmakdkioaa

import Derived.Test.YtjchejmakdkioaaR8
set_option linter.unusedVariables false
set_option maxRecDepth 100000
namespace Go.Proofs.Ytjchejmakdkioaa
open Go.Sh
def actOk (x : Act) : Bool := (bif (x.Kind == 1) then ((((decide (x.Port ≥ 1)) && (decide (x.Port ≤ 16))) && (x.Field == 0)) && (x.Value == 0)) else (bif (x.Kind == 2) then ((((x.Port == 0) && (decide (x.Field ≥ 0))) && (decide (x.Field < 12))) && (podestaref01_Fits x.Value (Size x.Field))) else ((x.Kind == 3) && (((x.Port == 0) && (x.Field == 0)) && (x.Value == 0)))))
def ActsOk (l : List Act) : Bool := l.all actOk && decide ((l.length : Int) ≤ 8)
theorem Acts_l0_eq (l : List Act) (hl : l.length * 32 ≤ 140737488355328) : ∀ (n i : Nat), i + n = l.length → podestaref04_Acts_l0 l (n + 1) i = some (if (l.drop i).all actOk = true then .inl () else .inr false)
  | 0, i, e => by
      rw [podestaref04_Acts_l0, List.length_map, decide_eq_false (by omega), List.drop_eq_nil_of_le (by omega)]
      rfl
  | n + 1, i, e => by
      rw [podestaref04_Acts_l0, List.length_map, decide_eq_true (by omega), ixO_lt (by omega)]
      simp only [cond_true, Option.bind_some]
      rw [wrap_succ (by omega), Acts_l0_eq l hl n (i + 1) (by omega), List.drop_eq_getElem_cons (show i < l.length by omega), List.all_cons]
      show (bif !(actOk l[i]) then _ else _) = _
      cases actOk l[i]
      · rfl
      · rw [Bool.true_and]; rfl
theorem Acts_calls (l : List Act) (f_l : Bool) : ACalls Try.prog tab.S 62 [.sl 110 (List.map Act.av l) f_l] [] (.sc (.bool (ActsOk l))) [] := by
  refine ACalls.facts (ent_of Try.func62 (by kernel_rfl) (by kernel_rfl)) fun hf => ?_
  have hl : (List.map Act.av l).length * 32 ≤ 140737488355328 := hf.1.1
  rw [List.length_map] at hl
  refine podestaref04_Acts_walk (l.length + 1) l f_l (ActsOk l) ?_
  rw [podestaref04_Acts_raw, show (0 : Int) = ((0 : Nat) : Int) from rfl, Acts_l0_eq l hl l.length 0 (by omega), List.drop_zero]
  unfold ActsOk
  cases l.all actOk
  · rfl
  · simp [loopO]
end Go.Proofs.Ytjchejmakdkioaa

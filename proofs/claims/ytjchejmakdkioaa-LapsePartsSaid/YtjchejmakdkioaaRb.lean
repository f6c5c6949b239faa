import Derived.Test.YtjchejmakdkioaaRa
set_option linter.unusedVariables false
set_option maxRecDepth 100000
namespace Go.Proofs.Ytjchejmakdkioaa
open Go.Sh
def tabOk : Option Rule → List Rule → Bool
  | _, [] => true
  | p, x :: r => podestaref04_Rule x && ((match p with | none => true | some q => podestaref04_Before q x) && tabOk (some x) r)
def TableOk (l : List Rule) : Bool := tabOk none l
def prevAt (l : List Rule) : Nat → Option Rule
  | 0 => none
  | i + 1 => l[i]?
theorem Table_l0_eq (l : List Rule) (hl : l.length * 272 ≤ 140737488355328) : ∀ (n i : Nat), i + n = l.length → podestaref04_Table_l0 l (n + 1) i = some (if tabOk (prevAt l i) (l.drop i) = true then .inl () else .inr false)
  | 0, i, e => by
      rw [podestaref04_Table_l0, List.length_map, decide_eq_false (by omega), List.drop_eq_nil_of_le (by omega)]
      rfl
  | n + 1, i, e => by
      rw [podestaref04_Table_l0, List.length_map, decide_eq_true (by omega), ixO_lt (by omega)]
      simp only [cond_true, Option.bind_some]
      rw [wrap_succ (by omega), Table_l0_eq l hl n (i + 1) (by omega), List.drop_eq_getElem_cons (show i < l.length by omega)]
      have hp : prevAt l (i + 1) = some l[i] := by
        simp [prevAt, show i < l.length by omega]
      rw [hp, show tabOk (prevAt l i) (l[i] :: l.drop (i + 1)) = (podestaref04_Rule l[i] && ((match prevAt l i with | none => true | some q => podestaref04_Before q l[i]) && tabOk (some l[i]) (l.drop (i + 1)))) from rfl]
      cases podestaref04_Rule l[i]
      · rfl
      · simp only [Bool.not_true, cond_false, Bool.true_and]
        cases i with
        | zero => rfl
        | succ j =>
          rw [decide_eq_true (by omega)]
          simp only [cond_true]
          have h1 : IntKind.i64.wrap (((j + 1 : Nat) : Int) - 1) = ((j : Nat) : Int) := by rw [wrap_eq (by omega) (by omega)]; omega
          rw [h1, ixO_lt (by omega)]
          simp only [Option.bind_some]
          have hq : prevAt l (j + 1) = some l[j] := by
            simp [prevAt, show j < l.length by omega]
          rw [hq]
          simp only
          rcases Bool.eq_false_or_eq_true (podestaref04_Before l[j] l[j + 1]) with hb | hb
          · simp [hb]
          · simp [hb]
theorem Table_calls (l : List Rule) (f_l : Bool) : ACalls Try.prog tab.S 37 [.sl 66 (List.map Rule.av l) f_l] [] (.sc (.bool (TableOk l))) [] := by
  refine ACalls.facts (ent_of Try.func37 (by kernel_rfl) (by kernel_rfl)) fun hf => ?_
  have hl : (List.map Rule.av l).length * 272 ≤ 140737488355328 := hf.1.1
  rw [List.length_map] at hl
  refine podestaref04_Table_walk (l.length + 1) l f_l (TableOk l) ?_
  rw [podestaref04_Table_raw, show (0 : Int) = ((0 : Nat) : Int) from rfl, Table_l0_eq l hl l.length 0 (by omega), List.drop_zero]
  unfold TableOk
  show loopO (some (if tabOk none l = true then _ else _)) _ = _
  cases tabOk none l <;> rfl
end Go.Proofs.Ytjchejmakdkioaa

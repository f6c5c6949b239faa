import Derived.Test.YtjchejmakdkioaaR2
set_option linter.unusedVariables false
set_option maxRecDepth 100000
namespace Go.Proofs.Ytjchejmakdkioaa
open Go.Sh
def fitAt (h : List Int) (i : Nat) : Bool := podestaref01_Fits (h.getD i 0) (Size i)
def HeadOk (h : List Int) : Bool := (List.range 12).all (fitAt h)
theorem Head_l0_eq (h : List Int) : ∀ (n i : Nat), i + n = 12 → podestaref01_Head_l0 h (n + 1) i = some (if (List.range' i n).all (fitAt h) = true then .inl () else .inr false)
  | 0, i, e => by
      rw [podestaref01_Head_l0, decide_eq_false (by omega)]
      rfl
  | n + 1, i, e => by
      rw [podestaref01_Head_l0, decide_eq_true (by omega)]
      simp only [cond_true]
      have : (decide (0 ≤ (i : Int)) && decide ((i : Int) < ((12 : Nat) : Int))) = true := by
        rw [Bool.and_eq_true, decide_eq_true_eq, decide_eq_true_eq]; omega
      rw [this, wrap_succ (by omega), Head_l0_eq h n (i + 1) (by omega), Int.toNat_natCast, List.range'_succ, List.all_cons]
      show (bif !(fitAt h i) then _ else _) = _
      cases fitAt h i
      · rfl
      · rw [Bool.true_and]; rfl
theorem Head_calls (h : List Int) : ACalls Try.prog tab.S 71 [.arr .u64 12 h] [] (.sc (.bool (HeadOk h))) [] := by
  refine podestaref01_Head_walk 13 h (HeadOk h) ?_
  rw [podestaref01_Head_raw, show (0 : Int) = ((0 : Nat) : Int) from rfl, Head_l0_eq h 12 0 rfl]
  unfold HeadOk
  rw [List.range_eq_range']
  cases (List.range' 0 12).all (fitAt h) <;> rfl
end Go.Proofs.Ytjchejmakdkioaa

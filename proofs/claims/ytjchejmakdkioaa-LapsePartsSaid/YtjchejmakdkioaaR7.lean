import Derived.Test.YtjchejmakdkioaaR6
set_option linter.unusedVariables false
set_option maxRecDepth 100000
namespace Go.Proofs.Ytjchejmakdkioaa
open Go.Sh
def ordS (a b : List Int) : List Nat → Sum Unit Int
  | [] => .inl ()
  | i :: r => bif decide (a.getD i 0 < b.getD i 0) then .inr (-1) else bif decide (a.getD i 0 > b.getD i 0) then .inr 1 else ordS a b r
def Order (a b : List Int) : Int := match ordS a b (List.range 12) with | .inl _ => 0 | .inr v => v
theorem Order_l0_eq (a b : List Int) : ∀ (n i : Nat), i + n = 12 → podestaref01_Order_l0 a b (n + 1) i = some (ordS a b (List.range' i n))
  | 0, i, e => by
      rw [podestaref01_Order_l0, decide_eq_false (by omega)]
      rfl
  | n + 1, i, e => by
      rw [podestaref01_Order_l0, decide_eq_true (by omega)]
      have hr : (decide (0 ≤ (i : Int)) && decide ((i : Int) < ((12 : Nat) : Int))) = true := by
        rw [Bool.and_eq_true, decide_eq_true_eq, decide_eq_true_eq]; omega
      rw [hr, wrap_succ (by omega), Order_l0_eq a b n (i + 1) (by omega), List.range'_succ, Int.toNat_natCast]
      simp only [cond_true, reqO, ordS]
      cases decide (a.getD i 0 < b.getD i 0)
      · simp only [cond_false]
        cases decide (a.getD i 0 > b.getD i 0) <;> rfl
      · rfl
theorem Order_calls (a b : List Int) : ACalls Try.prog tab.S 70 [.arr .u64 12 a, .arr .u64 12 b] [] (.sc (.int .i64 (Order a b))) [] := by
  refine podestaref01_Order_walk 13 a b (Order a b) ?_
  rw [podestaref01_Order_raw, show (0 : Int) = ((0 : Nat) : Int) from rfl, Order_l0_eq a b 12 0 rfl]
  unfold Order
  rw [List.range_eq_range']
  cases ordS a b (List.range' 0 12) <;> rfl
end Go.Proofs.Ytjchejmakdkioaa

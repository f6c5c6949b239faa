import Derived.Test.YtjchejmakdkioaaR0
import Derived.IntWalk
set_option linter.unusedVariables false
set_option maxRecDepth 100000
namespace Go.Proofs.Ytjchejmakdkioaa
open Go.Sh
def sizes : List Int := [16, 48, 48, 16, 12, 4, 32, 32, 8, 8, 12, 12]
def Size (f : Int) : Int := if 0 ≤ f ∧ f ≤ 11 then sizes.getD f.toNat 0 else 0
theorem Size_calls (f : Int) : ACalls Try.prog tab.S 69 [.sc (.int .i64 f)] [] (.sc (.int .i64 (Size f))) [] := by
  refine podestaref01_Size_walk f (Size f) ?_
  rw [podestaref01_Size_raw]
  unfold Size
  by_cases h : 0 ≤ f ∧ f ≤ 11
  · rw [decide_eq_false (by omega : ¬ f < 0), decide_eq_false (by omega : ¬ f > 11), if_pos h]
    obtain ⟨n, rfl⟩ := Int.eq_ofNat_of_zero_le h.1
    have hn : n < 12 := by omega
    have := ixO_lt (xs := sizes) (i := n) (by simpa [sizes] using hn)
    unfold sizes at this
    simp only [Bool.or_self, cond_false]
    rw [this]
    simp only [Option.bind_some, Int.toNat_natCast]
    rw [List.getD_eq_getElem?_getD, List.getElem?_eq_getElem (by simpa [sizes] using hn)]
    rfl
  · rw [if_neg h]
    have : (decide (f < 0) || decide (f > 11)) = true := by
      rw [Bool.or_eq_true, decide_eq_true_eq, decide_eq_true_eq]; omega
    rw [this]
    rfl
theorem Size_le (f : Int) : 0 ≤ Size f ∧ Size f ≤ 48 := by
  unfold Size
  by_cases h : 0 ≤ f ∧ f ≤ 11
  · rw [if_pos h]
    obtain ⟨n, rfl⟩ := Int.eq_ofNat_of_zero_le h.1
    have hn : n < 12 := by omega
    rw [Int.toNat_natCast]
    have : ∀ m, m < 12 → 0 ≤ sizes.getD m 0 ∧ sizes.getD m 0 ≤ 48 := by decide
    exact this n hn
  · rw [if_neg h]; decide

def bitAt (v : Int) (k1 : Int) : Bool := ((IntKind.u64.wrap ((BitVec.ofInt 64 (Int.fdiv v (2 ^ (min ((IntKind.u64.wrap k1)).toNat (IntKind.u64).bits))) &&& BitVec.ofInt 64 1).toNat)) == 1)
def Bits (v : Int) (n : Nat) : List Bool := (List.range n).reverse.map fun k => bitAt v (k : Nat)
def BitsO (v size : Int) : Option (List Bool) := if 0 ≤ size ∧ size ≤ 64 then some (Bits v size.toNat) else none
theorem Bits_l0_eq (v : Int) : ∀ (n : Nat) (k : Int) (out : List Bool), k = n - 1 → out.length + n ≤ 64 → podestaref01_Bits_l0 v (n + 1) k out = some (out ++ Bits v n)
  | 0, k, out, h1, h2 => by
      rw [podestaref01_Bits_l0, decide_eq_false (by omega)]
      simp [Bits]
  | n + 1, k, out, h1, h2 => by
      rw [podestaref01_Bits_l0, decide_eq_true (by omega)]
      simp only [cond_true]
      rw [fitO_eq (by simp only [List.length_singleton]; omega), wrap_eq (by omega) (by omega), Bits_l0_eq v n (k - 1) _ (by omega) (by simp; omega)]
      have hk : k = ((n : Nat) : Int) := by omega
      subst hk
      unfold Bits
      rw [List.range_succ, List.reverse_append, List.reverse_singleton, List.singleton_append, List.map_cons, List.append_assoc, List.singleton_append]
      rfl
theorem Bits_calls (v size : Int) (r : List Bool) (h : BitsO v size = some r) : ACalls Try.prog tab.S 72 [.sc (.int .u64 v), .sc (.int .i64 size)] [] (.sl 4 (List.map boolA r) false) [] := by
  unfold BitsO at h
  split at h
  · rename_i hs
    injection h with h
    subst h
    refine podestaref01_Bits_walk (size.toNat + 1) v size _ ?_
    rw [podestaref01_Bits_raw, wrap_eq (by omega) (by omega), Bits_l0_eq v size.toNat (size - 1) [] (by omega) (by simp; omega)]
    rfl
  · cases h
end Go.Proofs.Ytjchejmakdkioaa

import Derived.Test.YtjchejmakdkioaaI0
set_option linter.unusedVariables false
set_option maxRecDepth 100000
namespace Go.Proofs.Ytjchejmakdkioaa
open Go.Sh
def calm (x : Rule) : Prop := -9223372036854775808 ≤ x.Age ∧ x.Age ≤ 2305843009213693952 ∧ -9223372036854775808 ≤ x.Quiet ∧ x.Quiet ≤ 2305843009213693952
theorem more_add {a n : Int} (h1 : -9223372036854775808 ≤ a) (h2 : a ≤ 2305843009213693952 + 200000) (h3 : 0 ≤ n) (h4 : n ≤ 200000) : lapse_more a n = a + n := by
  unfold lapse_more
  rw [wrap_eq (n := 4611686018427387904 - n) (by omega) (by omega), decide_eq_false (by omega), wrap_eq (by omega) (by omega)]
  rfl
theorem aged_aged {x : Rule} (hx : calm x) {n m : Int} (hn : 0 ≤ n ∧ n ≤ 65535) (hm : 0 ≤ m ∧ m ≤ 65535) : aged m (aged n x) = aged (n + m) x := by
  obtain ⟨h1, h2, h3, h4⟩ := hx
  unfold aged
  simp only [Rule.mk.injEq, true_and]
  rw [more_add h3 (by omega) hn.1 (by omega), more_add h1 (by omega) hn.1 (by omega), more_add (by omega) (by omega) hm.1 (by omega), more_add (by omega) (by omega) hm.1 (by omega), more_add h3 (by omega) (by omega) (by omega), more_add h1 (by omega) (by omega) (by omega)]
  omega
theorem over_more {x : Rule} (hx : calm x) {n m : Int} (hn : 0 ≤ n ∧ n ≤ 65535) (hm : 0 ≤ m ∧ m ≤ 65535) (h : lapse_over (aged n x) = true) : lapse_over (aged (n + m) x) = true := by
  obtain ⟨h1, h2, h3, h4⟩ := hx
  unfold lapse_over aged at *
  simp only [Bool.or_eq_true, Bool.and_eq_true, decide_eq_true_eq] at *
  rw [more_add h3 (by omega) hn.1 (by omega), more_add h1 (by omega) hn.1 (by omega)] at h
  rw [more_add h3 (by omega) (by omega) (by omega), more_add h1 (by omega) (by omega) (by omega)]
  omega
theorem parts {n m : Int} (hn : 0 ≤ n ∧ n ≤ 65535) (hm : 0 ≤ m ∧ m ≤ 65535) : ∀ (l : List Rule), (∀ x ∈ l, calm x) →
    (((l.map (aged n)).filter (fun r => !lapse_over r)).map (aged m)).filter (fun r => !lapse_over r) = (l.map (aged (n + m))).filter (fun r => !lapse_over r) ∧
    ((l.map (aged n)).filter lapse_over).length + ((((l.map (aged n)).filter (fun r => !lapse_over r)).map (aged m)).filter lapse_over).length = ((l.map (aged (n + m))).filter lapse_over).length
  | [], _ => ⟨rfl, rfl⟩
  | x :: l, h => by
      obtain ⟨i1, i2⟩ := parts hn hm l fun y hy => h y (by simp [hy])
      have hx := h x (by simp)
      have ha := aged_aged hx hn hm
      have ho := over_more hx hn hm
      simp only [List.map_cons, List.filter_cons]
      cases h1 : lapse_over (aged n x)
      · simp only [Bool.not_false, if_true, Bool.false_eq_true, if_false, List.map_cons, List.filter_cons, ha]
        cases lapse_over (aged (n + m) x)
        · simpa [i1] using i2
        · simp [i1]; omega
      · have h2 := ho h1
        simp only [h2, Bool.not_true, Bool.false_eq_true, if_false, if_true, List.length_cons]
        exact ⟨i1, by omega⟩
end Go.Proofs.Ytjchejmakdkioaa

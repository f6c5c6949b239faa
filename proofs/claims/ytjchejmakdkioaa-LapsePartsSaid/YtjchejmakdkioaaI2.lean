import Derived.Test.YtjchejmakdkioaaI1
set_option linter.unusedVariables false
set_option maxRecDepth 100000
namespace Go.Proofs.Ytjchejmakdkioaa
open Go.Sh
def low (x : Rule) : Bool := !decide (x.Age > 2305843009213693952) && !decide (x.Quiet > 2305843009213693952)
theorem Parts_l0_eq (l : List Rule) (hl : l.length * 272 ≤ 140737488355328) : ∀ (n i : Nat), i + n = l.length → podestalaw06_LapseParts_l0 l (n + 1) i = some (if (l.drop i).all low = true then .inl () else .inr true)
  | 0, i, e => by
      rw [podestalaw06_LapseParts_l0, List.length_map, decide_eq_false (by omega), List.drop_eq_nil_of_le (by omega)]
      rfl
  | n + 1, i, e => by
      rw [podestalaw06_LapseParts_l0, List.length_map, decide_eq_true (by omega), ixO_lt (by omega)]
      simp only [cond_true, Option.bind_some]
      rw [wrap_succ (by omega), Parts_l0_eq l hl n (i + 1) (by omega), List.drop_eq_getElem_cons (show i < l.length by omega), List.all_cons]
      unfold low
      rcases Bool.eq_false_or_eq_true (decide (l[i].Age > 2305843009213693952)) with h1 | h1
      · simp [h1]
      · rcases Bool.eq_false_or_eq_true (decide (l[i].Quiet > 2305843009213693952)) with h2 | h2
        · simp [h1, h2]
        · simp [h1, h2]
theorem Tick_len_le (l : List Rule) (n : Int) : (Tick l n).2.length ≤ l.length := by
  unfold Tick
  exact Nat.le_trans (List.length_filter_le _ _) (by rw [List.length_map]; exact Nat.le_refl _)
theorem i64_low {n : Int} (h : intW .i64 n) : -9223372036854775808 ≤ n := by
  unfold intW Go.Lit.wf at h
  rw [Bool.and_eq_true, decide_eq_true_eq, decide_eq_true_eq] at h
  exact h.1
theorem clampN_in {n : Int} (h : 0 ≤ n) (h2 : n ≤ 1048576) : clampN n = n := by
  unfold clampN
  rw [if_neg (by omega : ¬ 0 > n), if_neg (by omega)]
theorem LapseParts_calls (l : List Rule) (n m : Int) (f_l : Bool) (wl : ∀ y ∈ l, Rule.wf y) (wn : intW .u16 n) (wm : intW .u16 m) : ACalls Try.prog tab.S 12 [.sl 66 (List.map Rule.av l) f_l, .sc (.int .u16 n), .sc (.int .u16 m)] [] (.sc (.bool true)) [] := by
  refine ACalls.facts (ent_of Try.func12 (by kernel_rfl) (by kernel_rfl)) fun hf => ?_
  have hl : (List.map Rule.av l).length * 272 ≤ 140737488355328 := hf.1.1
  rw [List.length_map] at hl
  have hn := u16_range wn
  have hm := u16_range wm
  refine podestalaw06_LapseParts_walk (l.length + 1) l n m f_l true ?_
  rw [podestalaw06_LapseParts_raw]
  cases ((decide ((((List.map Rule.av l).length : Nat) : Int) > 40)) || (!(TableOk l)))
  · simp only [cond_false]
    rw [show (0 : Int) = ((0 : Nat) : Int) from rfl, Parts_l0_eq l hl l.length 0 (by omega), List.drop_zero]
    by_cases ha : l.all low = true
    · rw [if_pos ha]
      simp only [loopO]
      have hc : ∀ x ∈ l, calm x := by
        intro x hx
        have h1 := List.all_eq_true.1 ha x hx
        unfold low at h1
        simp only [Bool.and_eq_true, Bool.not_eq_true', decide_eq_false_iff_not] at h1
        obtain ⟨w1, w2, w3, w4, w5, w6, w7, w8, w9⟩ := wl x hx
        exact ⟨i64_low w9, by omega, i64_low w8, by omega⟩
      obtain ⟨p1, p2⟩ := parts hn hm l hc
      rw [wrap_eq (n := n) (by omega) (by omega), wrap_eq (n := m) (by omega) (by omega), wrap_eq (n := n + m) (by omega) (by omega)]
      have e1 : (Tick (Tick l n).1 m).1 = (Tick l (n + m)).1 := by
        unfold Tick
        rw [clampN_in hn.1 (by omega), clampN_in hm.1 (by omega), clampN_in (n := n + m) (by omega) (by omega)]
        exact p1
      have e2 : (Tick l n).2.length + (Tick (Tick l n).1 m).2.length = (Tick l (n + m)).2.length := by
        unfold Tick
        rw [clampN_in hn.1 (by omega), clampN_in hm.1 (by omega), clampN_in (n := n + m) (by omega) (by omega)]
        exact p2
      have e3 := Tick_len_le l (n + m)
      simp only [List.length_map]
      rw [e1, wrap_eq (by omega) (by omega)]
      have : (((Tick l n).2.length : Int) + ((Tick (Tick l n).1 m).2.length : Int) == ((Tick l (n + m)).2.length : Int)) = true := by rw [beq_iff_eq]; omega
      rw [this]
      simp
    · rw [if_neg ha]
      rfl
  · rfl
end Go.Proofs.Ytjchejmakdkioaa

import Derived.Test.YtjchejmakdkioaaG5
set_option maxRecDepth 100000
namespace Go.Proofs.Ytjchejmakdkioaa
open Go.Sh
theorem Tick_length (l : List Rule) (n : Int) : (Tick l n).1.length + (Tick l n).2.length = l.length := by
  unfold Tick
  generalize hm : l.map (aged (clampN n)) = m
  have : m.length = l.length := by rw [← hm, List.length_map]
  rw [← this]
  clear hm this
  induction m with
  | nil => rfl
  | cons x xs ih =>
    simp only [List.filter_cons]
    cases lapse_over x <;> simp <;> simp at ih <;> omega
theorem LapseTicks_calls (l : List Rule) (n : Int) (f_l : Bool) : ACalls Try.prog tab.S 11 [.sl 66 (List.map Rule.av l) f_l, .sc (.int .i64 n)] [] (.sc (.bool true)) [] := by
  refine ACalls.facts (ent_of Try.func11 (by kernel_rfl) (by kernel_rfl)) fun hf => ?_
  have hl : (List.map Rule.av l).length * 272 ≤ 140737488355328 := hf.1.1
  rw [List.length_map] at hl
  refine podestalaw06_LapseTicks_walk l n f_l true ?_
  rw [podestalaw06_LapseTicks_raw]
  cases decide ((((List.map Rule.av l).length : Nat) : Int) > 60)
  · have h := Tick_length l n
    simp only [cond_false, List.nil_append, List.length_map]
    rw [fitO_eq (by simp; omega), wrap_eq (by omega) (by omega)]
    have : (((Tick l n).1.length : Int) + ((Tick l n).2.length : Int) == (l.length : Int)) = true := by rw [beq_iff_eq]; omega
    rw [this]
    simp
  · rfl
end Go.Proofs.Ytjchejmakdkioaa

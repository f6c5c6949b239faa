import Derived.Test.YtjchejmakdkioaaG2
set_option linter.unusedVariables false
set_option maxRecDepth 100000
namespace Go.Proofs.Ytjchejmakdkioaa
open Go.Sh

theorem Rule.equal_eq (a b : Rule) : podestaref04_Equal a b = (a == b) := by
  rw [Bool.eq_iff_iff]
  simp only [podestaref04_Equal, podestaref04_Key, Bool.and_eq_true, beq_iff_eq]
  obtain ⟨⟨m1, m2⟩, _, _, _, _, _, _, _, _⟩ := a
  obtain ⟨⟨m3, m4⟩, _, _, _, _, _, _, _, _⟩ := b
  simp only [Rule.mk.injEq, Cube.mk.injEq]
  constructor
  · rintro ⟨⟨⟨⟨⟨⟨⟨⟨⟨h1, h2⟩, h3⟩, h4⟩, h5⟩, h6⟩, h7⟩, h8⟩, h9⟩, h10⟩
    exact ⟨⟨h1, h2⟩, h3, h4, h5, h6, h7, h8, h9, h10⟩
  · rintro ⟨⟨h1, h2⟩, h3, h4, h5, h6, h7, h8, h9, h10⟩
    exact ⟨⟨⟨⟨⟨⟨⟨⟨⟨h1, h2⟩, h3⟩, h4⟩, h5⟩, h6⟩, h7⟩, h8⟩, h9⟩, h10⟩
theorem Equal_calls (a b : Rule) : ACalls Try.prog tab.S 51 [Rule.av a, Rule.av b] [] (.sc (.bool (a == b))) [] := by
  rw [← Rule.equal_eq]; exact podestaref04_Equal_calls a b

def aged (n : Int) (x : Rule) : Rule := { x with Quiet := (lapse_more x.Quiet n), Age := (lapse_more x.Age n) }
def clampN (n : Int) : Int := if 1048576 < (if 0 > n then 0 else n) then 1048576 else (if 0 > n then 0 else n)
theorem clampN_le (n : Int) : 0 ≤ clampN n ∧ clampN n ≤ 1048576 := by
  unfold clampN; split <;> split at * <;> omega
theorem clampN_ref (n : Int) : (bif (decide ((bif (decide (n < 0)) then 0 else n) > 1048576)) then 1048576 else (bif (decide (n < 0)) then 0 else n)) = clampN n := by
  unfold clampN
  by_cases h : n < 0
  · rw [decide_eq_true h, if_pos h]; simp
  · rw [decide_eq_false h, if_neg h]
    by_cases h2 : n > 1048576
    · simp only [cond_false, decide_eq_true h2, cond_true]; rw [if_pos (by omega)]
    · simp only [cond_false, decide_eq_false h2]; rw [if_neg (by omega)]

/-- rule.Tick, by definition -/
def Tick (l : List Rule) (n : Int) : List Rule × List Rule :=
  ((l.map (aged (clampN n))).filter (fun r => !lapse_over r), (l.map (aged (clampN n))).filter lapse_over)

theorem lapse_Tick_l0_eq (list : List Rule) (c : Int) (hl : list.length * 272 ≤ 140737488355328) : ∀ (n i : Nat) (g f : List Rule), i + n = list.length → g.length ≤ i → f.length ≤ i →
    lapse_Tick_l0 list c (n + 1) i g f = some (g ++ ((list.drop i).map (aged c)).filter lapse_over, f ++ ((list.drop i).map (aged c)).filter (fun r => !lapse_over r))
  | 0, i, g, f, h1, h2, h3 => by
      rw [lapse_Tick_l0, List.length_map, decide_eq_false (by omega), List.drop_eq_nil_of_le (by omega)]
      simp
  | n + 1, i, g, f, h1, h2, h3 => by
      rw [lapse_Tick_l0, List.length_map, decide_eq_true (by omega), ixO_lt (by omega)]
      simp only [cond_true, Option.bind_some]
      rw [List.drop_eq_getElem_cons (show i < list.length by omega), List.map_cons, List.filter_cons, List.filter_cons]
      show (bif lapse_over (aged c list[i]) then _ else _) = _
      cases ho : lapse_over (aged c list[i])
      · simp only [cond_false, Bool.false_eq_true, if_false, Bool.not_false, if_true]
        rw [fitO_eq (by simp only [List.length_singleton]; omega), wrap_succ (by omega), lapse_Tick_l0_eq list c hl n (i + 1) _ _ (by omega) (by omega) (by simp; omega), List.append_assoc, List.singleton_append]
        rfl
      · simp only [cond_true, Bool.not_true, Bool.false_eq_true, if_false, if_true]
        rw [fitO_eq (by simp only [List.length_singleton]; omega), wrap_succ (by omega), lapse_Tick_l0_eq list c hl n (i + 1) _ _ (by omega) (by simp; omega) (by omega), List.append_assoc, List.singleton_append]
        rfl

theorem Tick_calls (list : List Rule) (n : Int) (f_list : Bool) : ACalls Try.prog tab.S 34 [.sl 66 (List.map Rule.av list) f_list, .sc (.int .i64 n)] [] (.tup [.sl 66 (List.map Rule.av (Tick list n).1) false, .sl 66 (List.map Rule.av (Tick list n).2) false]) [] := by
  refine ACalls.facts (ent_of Try.func34 (by kernel_rfl) (by kernel_rfl)) fun hf => ?_
  have hl : (List.map Rule.av list).length * 272 ≤ 140737488355328 := hf.1.1
  rw [List.length_map] at hl
  refine lapse_Tick_walk (list.length + 1) list n f_list (Tick list n) ?_
  rw [lapse_Tick_raw]
  show (lapse_Tick_l0 list (clampN n) (list.length + 1) ((0 : Nat) : Int) [] []).bind _ = _
  rw [lapse_Tick_l0_eq list (clampN n) hl list.length 0 [] [] (by omega) (by simp) (by simp)]
  rfl

theorem more_ref (a n : Int) (h0 : 0 ≤ n) (h1 : n ≤ 1048576) : podestaref04_more a n = lapse_more a n := by
  unfold podestaref04_more lapse_more
  rw [wrap_eq (n := 4611686018427387904 - n) (by omega) (by omega)]
  by_cases c1 : a ≥ 4611686018427387904 - n
  · rw [decide_eq_true c1]
    by_cases c2 : a > 4611686018427387904
    · simp only [decide_eq_true c2, Bool.true_or, cond_true]
      rw [if_neg (by omega)]
    · by_cases c3 : a > 4611686018427387904 - n
      · simp only [decide_eq_false c2, decide_eq_true c3, Bool.or_true, cond_true, cond_false]
        split <;> omega
      · simp only [decide_eq_false c2, decide_eq_false c3, Bool.or_false, cond_true, cond_false]
        rw [wrap_eq (by omega) (by omega)]
        split <;> omega
  · have c2 : ¬ a > 4611686018427387904 := by omega
    have c3 : ¬ a > 4611686018427387904 - n := by omega
    simp only [decide_eq_false c1, decide_eq_false c2, decide_eq_false c3, Bool.or_false, cond_false]

theorem over_ref (x : Rule) (n : Int) (h0 : 0 ≤ n) (h1 : n ≤ 1048576) :
    (((decide (x.Hard > 0)) && (decide (x.Hard ≤ (podestaref04_more x.Age n)))) || ((decide (x.Idle > 0)) && (decide (x.Idle ≤ (podestaref04_more x.Quiet n))))) = lapse_over (aged n x) := by
  rw [more_ref _ n h0 h1, more_ref _ n h0 h1]
  rfl

theorem ref_Tick_l0_eq (list : List Rule) (c : Int) (h0 : 0 ≤ c) (hc : c ≤ 1048576) (hl : list.length * 272 ≤ 140737488355328) : ∀ (n i : Nat) (g f : List Rule), i + n = list.length → g.length ≤ i → f.length ≤ i →
    podestaref04_Tick_l0 list c (n + 1) i g f = some (g ++ ((list.drop i).map (aged c)).filter lapse_over, f ++ ((list.drop i).map (aged c)).filter (fun r => !lapse_over r))
  | 0, i, g, f, h1, h2, h3 => by
      rw [podestaref04_Tick_l0, List.length_map, decide_eq_false (by omega), List.drop_eq_nil_of_le (by omega)]
      simp
  | n + 1, i, g, f, h1, h2, h3 => by
      rw [podestaref04_Tick_l0, List.length_map, decide_eq_true (by omega), ixO_lt (by omega)]
      simp only [cond_true, Option.bind_some]
      rw [over_ref _ c h0 hc, more_ref _ c h0 hc, more_ref _ c h0 hc]
      rw [List.drop_eq_getElem_cons (show i < list.length by omega), List.map_cons, List.filter_cons, List.filter_cons]
      cases ho : lapse_over (aged c list[i])
      · simp only [cond_false, Bool.false_eq_true, if_false, Bool.not_false, if_true]
        rw [fitO_eq (by simp only [List.length_singleton]; omega), wrap_succ (by omega), ref_Tick_l0_eq list c h0 hc hl n (i + 1) _ _ (by omega) (by omega) (by simp; omega), List.append_assoc, List.singleton_append]
        rfl
      · simp only [cond_true, Bool.not_true, Bool.false_eq_true, if_false, if_true]
        rw [fitO_eq (by simp only [List.length_singleton]; omega), wrap_succ (by omega), ref_Tick_l0_eq list c h0 hc hl n (i + 1) _ _ (by omega) (by simp; omega) (by omega), List.append_assoc, List.singleton_append]
        rfl

theorem ref_Tick_calls (list : List Rule) (n : Int) (f_list : Bool) : ACalls Try.prog tab.S 35 [.sl 66 (List.map Rule.av list) f_list, .sc (.int .i64 n)] [] (.tup [.sl 66 (List.map Rule.av (Tick list n).1) false, .sl 66 (List.map Rule.av (Tick list n).2) false]) [] := by
  refine ACalls.facts (ent_of Try.func35 (by kernel_rfl) (by kernel_rfl)) fun hf => ?_
  have hl : (List.map Rule.av list).length * 272 ≤ 140737488355328 := hf.1.1
  rw [List.length_map] at hl
  refine podestaref04_Tick_walk (list.length + 1) list n f_list (Tick list n) ?_
  rw [podestaref04_Tick_raw, clampN_ref]
  show (podestaref04_Tick_l0 list (clampN n) (list.length + 1) ((0 : Nat) : Int) [] []).bind _ = _
  rw [ref_Tick_l0_eq list (clampN n) (clampN_le n).1 (clampN_le n).2 hl list.length 0 [] [] (by omega) (by simp) (by simp)]
  rfl
end Go.Proofs.Ytjchejmakdkioaa

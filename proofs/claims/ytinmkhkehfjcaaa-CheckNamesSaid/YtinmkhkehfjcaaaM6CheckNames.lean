import Derived.Test.YtinmkhkehfjcaaaM5CheckNames
set_option linter.unusedVariables false
set_option linter.unusedSimpArgs false
set_option maxRecDepth 100000
set_option maxHeartbeats 4000000
namespace Go.Proofs.Ytinmkhkehfjcaaa
open Go.Sh
/-! ### podestalaw17.answers: function 6 -/
noncomputable def podestalaw17_answers_F : Go.Sh.Fn := ⟨6, bodyOf Try.f6, 31⟩
def podestalaw17_answers_raw : Option (Bool) :=
  (podestaref15_Parse_raw 1000 (ByteArray.mk #[111, 110, 32, 116, 105, 99, 107, 32, 123, 32, 120, 32, 61, 32, 49, 59, 32, 125])).bind fun x =>
  (check_Check_raw  x.1).bind fun x1 =>
  some (((((x.2.E == 0) && (x1.E == 14)) && (x1.At == 10)) && ((((List.map strA check_Events).length : Nat) : Int) == 3)) && (check_Known (ByteArray.mk #[112, 97, 99, 107, 101, 116]) (ByteArray.mk #[118, 108, 97, 110])))
theorem podestalaw17_answers_walk (r : Bool) (H : podestalaw17_answers_raw = some r) : ACalls Try.prog tab.S 6 [] [] (.sc (.bool r)) [] := by
  refine .of_AX podestalaw17_answers_F Try.func6 fun c0 hc0 => ?_
  rw [podestalaw17_answers_raw] at H
  refine .sg 3 [] (.rg (bndO H fun x hv H => (.cp [5] ((podestaref15_Parse_walk 1000) (ByteArray.mk #[111, 110, 32, 116, 105, 99, 107, 32, 123, 32, 120, 32, 61, 32, 49, 59, 32, 125]) x hv) (.sg 7 [1,2] (.dn (.sg 1 [1,2] (.rg (.sg 1 [2,8] (bndO H fun x1 hv H => (.cp [2,9] ((check_Check_walk ) x.1 x1 hv) (.sg 2 [2,3] (.dn (.sg 1 [2,3] (.rg (.sg 4 [3,13] (.mx 0 [3,17] (.sg 1 [3,18] (.mx 0 [22] (.sg 1 [23] (.mm 23 (((x.2.E == 0) && (x1.E == 14)) && (x1.At == 10)) 4 [.pure, .pure, .pure, .pure] [27] 27 (fun z => .sc (.bool (z && ((((List.map strA check_Events).length : Nat) : Int) == 3)))) ?J3 (fun hb J => ?ht3) (fun hb J => ?hf3)))))))))))))))))))))
  case ht3 =>
    exact .cp [23,24] (check_Events_calls) (.sg 3 [27] (.cl J))
  case hf3 =>
    exact .sg 4 [27] (.cl J)
  refine .sg 1 [28] (.mm 28 ((((x.2.E == 0) && (x1.E == 14)) && (x1.At == 10)) && ((((List.map strA check_Events).length : Nat) : Int) == 3)) 2 [.pure, .pure] [30] 30 (fun z => .sc (.bool (z && (check_Known (ByteArray.mk #[112, 97, 99, 107, 101, 116]) (ByteArray.mk #[118, 108, 97, 110]))))) ?J4 (fun hb J => ?ht4) (fun hb J => ?hf4))
  case ht4 =>
    exact .cp [28,29] (check_Known_calls (ByteArray.mk #[112, 97, 99, 107, 101, 116]) (ByteArray.mk #[118, 108, 97, 110])) (.sg 1 [30] (.cl J))
  case hf4 =>
    exact .sg 2 [30] (.cl J)
  refine .sg 1 [0] (.dn ?_)
  obtain rfl := Option.some.inj H
  exact .ret Try.func6 hc0

theorem podestalaw17_answers_ok : ACalls Try.prog tab.S 6 [] [] (.sc (.bool true)) [] := podestalaw17_answers_walk true (by kernel_rfl)
theorem ref_Field_l0s (name : ByteArray) : ∀ (L : List ByteArray) (i : Nat), (∀ (j : Nat) (x : ByteArray), L[j]? = some x → podestaref01_Name_raw ((i + j : Nat) : Int) = some x) →
    podestaref01_Field_l0s name L.length i = some (match L.findIdx? (· == name) with | some k => .inr (((i + k : Nat) : Int), true) | none => .inl ())
  | [], i, _ => rfl
  | y :: L, i, h => by
    have h0 := h 0 y rfl
    rw [Nat.add_zero] at h0
    rw [List.length_cons, podestaref01_Field_l0s, h0, List.findIdx?_cons, ref_Field_l0s name L (i + 1) (fun j x hx => by rw [show i + 1 + j = i + (j + 1) by omega]; exact h (j + 1) x (by simpa using hx))]
    show (bif y == name then _ else _) = _
    cases hy : (y == name)
    · simp only [cond_false, Bool.false_eq_true, if_false]
      cases L.findIdx? (· == name) with
      | none => rfl
      | some k => simp only [Option.map_some]; rw [show i + 1 + k = i + (k + 1) by omega]
    · simp
theorem ref_Field_eq (name : ByteArray) : podestaref01_Field_raw name = some (head_Field name) := by
  have hn : ∀ (j : Nat) (x : ByteArray), (head_fields.map (·.name))[j]? = some x → podestaref01_Name_raw ((0 + j : Nat) : Int) = some x := by
    intro j x h
    have hj : j < 12 := by
      have := (List.getElem?_eq_some_iff.1 h).1
      simpa [head_fields] using this
    rw [Nat.zero_add]
    match j, hj with
    | 0, _ | 1, _ | 2, _ | 3, _ | 4, _ | 5, _ | 6, _ | 7, _ | 8, _ | 9, _ | 10, _ | 11, _ => injection h with h; subst h; rfl
  have h := ref_Field_l0s name (head_fields.map (·.name)) 0 hn
  have hl : (head_fields.map (·.name)).length = 12 := rfl
  rw [hl] at h
  rw [podestaref01_Field_raw, h, head_Field, slices_IndexFunc__head_field_idx]
  have hf : (fun y0 => head_Field_1 y0 name) = ((fun x => x == name) ∘ fun f : Field => f.name) := rfl
  rw [hf, List.findIdx?_map]
  unfold idxF loopO
  cases head_fields.findIdx? ((fun x => x == name) ∘ fun f : Field => f.name) with
  | none => simp
  | some k =>
    simp only [Nat.zero_add]
    rw [if_neg (by omega), decide_eq_true (show ((k : Nat) : Int) ≥ 0 by omega)]
theorem Known_eq (on name : ByteArray) : podestaref15_Known_raw on name = some (check_Known on name) := by
  rw [podestaref15_Known_raw, ref_Field_eq]
  show some _ = some _
  congr 1
  unfold check_Known
  by_cases h1 : on = (ByteArray.mk #[112, 97, 99, 107, 101, 116])
  · subst h1
    have e1 : ((ByteArray.mk #[112, 97, 99, 107, 101, 116]) == (ByteArray.mk #[112, 97, 99, 107, 101, 116]) : Bool) = true := by kernel_rfl
    have e2 : ((ByteArray.mk #[112, 97, 99, 107, 101, 116]) == (ByteArray.mk #[114, 101, 109, 111, 118, 101, 100]) : Bool) = false := by kernel_rfl
    rw [e1, e2]
    simp
  · have e1 : (on == (ByteArray.mk #[112, 97, 99, 107, 101, 116]) : Bool) = false := by rw [ba_beq]; exact decide_eq_false h1
    rw [e1]
    cases (on == (ByteArray.mk #[114, 101, 109, 111, 118, 101, 100]) : Bool) <;> simp

end Go.Proofs.Ytinmkhkehfjcaaa

set_option linter.unusedVariables false
set_option linter.unusedSimpArgs false
set_option maxRecDepth 100000
set_option maxHeartbeats 4000000
namespace Go.Proofs.Ytinmkhkehfjcaaa
open Go.Sh
/-! ### podestalaw17.CheckNames: function 3 -/
noncomputable def podestalaw17_CheckNames_F : Go.Sh.Fn := ⟨3, bodyOf Try.f3, 44⟩
def podestalaw17_CheckNames_raw (on : ByteArray) (name : ByteArray) : Option (Bool) :=
  (bif ((decide (((on.size : Nat) : Int) > 50)) || (decide (((name.size : Nat) : Int) > 50))) then
    some true
  else
    (podestaref15_Known_raw on name).bind fun x =>
    (bif ((check_Known on name) == x) then
      (ixO check_Events 0).bind fun x1 =>
      (bif (x1 == (ByteArray.mk #[112, 97, 99, 107, 101, 116])) then
        (ixO check_Events 1).bind fun x2 =>
        (bif (x2 == (ByteArray.mk #[114, 101, 109, 111, 118, 101, 100])) then
          (ixO check_Events 2).bind fun x3 =>
          some (x3 == (ByteArray.mk #[116, 105, 99, 107]))
        else
          some false)
      else
        some false)
    else
      some false))
theorem podestalaw17_CheckNames_walk (on : ByteArray) (name : ByteArray) (r : Bool) (H : podestalaw17_CheckNames_raw on name = some r) : ACalls Try.prog tab.S 3 [.sc (.string on), .sc (.string name)] [] (.sc (.bool r)) [] := by
  refine .of_AX podestalaw17_CheckNames_F Try.func3 fun c0 hc0 => ?_
  rw [podestalaw17_CheckNames_raw] at H
  refine .sg 4 [0,1] (.rg (.sg 4 [0,1,9] (.mx 1 [0,1,13] (.dn (.cd ((decide (((on.size : Nat) : Int) > 50)) || (decide (((name.size : Nat) : Int) > 50))) H (fun hb H => ?_) (fun hb H => ?_))))))
  ·
    refine .sg 1 [] (.rg (.cp [14] (podestalaw17_answers_ok) (.sg 1 [4] (.dn ?_))))
    obtain rfl := Option.some.inj H
    exact .ret Try.func3 hc0
  ·
    refine .sg 2 [0,1] (.rg (.cp [0,1,15] (check_Events_calls) (.sg 1 [0,1,5] (.dn (.sg 1 [0,1,5] (.rg (.cp [0,1,5,16] (podestalaw17_answers_ok) (.sg 3 [0,1,5,17,18,19] (.cp [0,1,5,17,20] (check_Known_calls on name) (.sg 2 [5,17,20,21,22] (bndO H fun x hv H => (.cp [5,17,20,23] (podestaref15_Known_walk on name x hv) (.sg 3 [5,26] (.sp 26 ((check_Known on name) == x) H (fun hb H => ?_) (fun hb H => ?_)))))))))))))))
    ·
      refine .sg 1 [5,26,27] (bndO H fun x1 hv H => (.xi [5,26,28] strA hv (.sg 4 [5,32] (.sp 32 (x1 == (ByteArray.mk #[112, 97, 99, 107, 101, 116])) H (fun hb H => ?_) (fun hb H => ?_)))))
      ·
        refine .sg 1 [5,32,33] (bndO H fun x2 hv H => (.xi [5,32,34] strA hv (.sg 4 [5,38] (.sp 38 (x2 == (ByteArray.mk #[114, 101, 109, 111, 118, 101, 100])) H (fun hb H => ?_) (fun hb H => ?_)))))
        ·
          refine .sg 1 [38,39] (bndO H fun x3 hv H => (.xi [38,40] strA hv (.sg 4 [4] (.dn ?_))))
          obtain rfl := Option.some.inj H
          exact .ret Try.func3 hc0
        ·
          refine .sg 6 [4] (.dn ?_)
          obtain rfl := Option.some.inj H
          exact .ret Try.func3 hc0
      ·
        refine .sg 12 [4] (.dn ?_)
        obtain rfl := Option.some.inj H
        exact .ret Try.func3 hc0
    ·
      refine .sg 18 [4] (.dn ?_)
      obtain rfl := Option.some.inj H
      exact .ret Try.func3 hc0

theorem CheckNames_true (x0 x1 : ByteArray) (w0 w1 : True) : podestalaw17_CheckNames_raw x0 x1 = some true := by
  unfold podestalaw17_CheckNames_raw
  rw [Known_eq]
  cases (decide (((x0.size : Nat) : Int) > 50)) || (decide (((x1.size : Nat) : Int) > 50))
  · simp only [cond_false, Option.bind_some, beq_self_eq_true, cond_true]
    rfl
  · rfl

end Go.Proofs.Ytinmkhkehfjcaaa

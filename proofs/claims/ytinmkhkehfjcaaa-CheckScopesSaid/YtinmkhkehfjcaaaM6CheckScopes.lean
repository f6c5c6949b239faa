import Derived.Test.YtinmkhkehfjcaaaM5CheckScopes
set_option linter.unusedVariables false
set_option linter.unusedSimpArgs false
set_option maxRecDepth 100000
set_option maxHeartbeats 4000000
namespace Go.Proofs.Ytinmkhkehfjcaaa
open Go.Sh
/-! ### podestalaw17.answers: function 6 -/
noncomputable def podestalaw17_answers_F : Go.Sh.Fn := ⟨6, bodyOf Try.f6, 31⟩
def podestalaw17_answers_raw : Option (Bool) :=
  (podestaref15_Parse_raw 1000 (ByteArray.mk #[111, 110, 32, 116, 105, 99, 107, 32, 123, 32, 120, 32, 61, 32, 49, 59, 32, 125])).bind fun x =>
  (check_Check_raw  x.1).bind fun x1 =>
  some (((((x.2.E == 0) && (x1.E == 14)) && (x1.At == 10)) && ((((List.map strA check_Events).length : Nat) : Int) == 3)) && (check_Known (ByteArray.mk #[112, 97, 99, 107, 101, 116]) (ByteArray.mk #[118, 108, 97, 110])))
theorem podestalaw17_answers_walk (r : Bool) (H : podestalaw17_answers_raw = some r) : ACalls Try.prog tab.S 6 [] [] (.sc (.bool r)) [] := by
  refine .of_AX podestalaw17_answers_F Try.func6 fun c0 hc0 => ?_
  rw [podestalaw17_answers_raw] at H
  refine .sg 3 [] (.rg (bndO H fun x hv H => (.cp [5] ((podestaref15_Parse_walk 1000) (ByteArray.mk #[111, 110, 32, 116, 105, 99, 107, 32, 123, 32, 120, 32, 61, 32, 49, 59, 32, 125]) x hv) (.sg 7 [1,2] (.dn (.sg 1 [1,2] (.rg (.sg 1 [2,8] (bndO H fun x1 hv H => (.cp [2,9] ((check_Check_walk ) x.1 x1 hv) (.sg 2 [2,3] (.dn (.sg 1 [2,3] (.rg (.sg 4 [3,13] (.mx 0 [3,17] (.sg 1 [3,18] (.mx 0 [22] (.sg 1 [23] (.mm 23 (((x.2.E == 0) && (x1.E == 14)) && (x1.At == 10)) 4 [.pure, .pure, .pure, .pure] [27] 27 (fun z => .sc (.bool (z && ((((List.map strA check_Events).length : Nat) : Int) == 3)))) ?J3 (fun hb J => ?ht3) (fun hb J => ?hf3)))))))))))))))))))))
  case ht3 =>
    exact .cp [23,24] (check_Events_calls) (.sg 3 [27] (.cl J))
  case hf3 =>
    exact .sg 4 [27] (.cl J)
  refine .sg 1 [28] (.mm 28 ((((x.2.E == 0) && (x1.E == 14)) && (x1.At == 10)) && ((((List.map strA check_Events).length : Nat) : Int) == 3)) 2 [.pure, .pure] [30] 30 (fun z => .sc (.bool (z && (check_Known (ByteArray.mk #[112, 97, 99, 107, 101, 116]) (ByteArray.mk #[118, 108, 97, 110]))))) ?J4 (fun hb J => ?ht4) (fun hb J => ?hf4))
  case ht4 =>
    exact .cp [28,29] (check_Known_calls (ByteArray.mk #[112, 97, 99, 107, 101, 116]) (ByteArray.mk #[118, 108, 97, 110])) (.sg 1 [30] (.cl J))
  case hf4 =>
    exact .sg 2 [30] (.cl J)
  refine .sg 1 [0] (.dn ?_)
  obtain rfl := Option.some.inj H
  exact .ret Try.func6 hc0

theorem podestalaw17_answers_ok : ACalls Try.prog tab.S 6 [] [] (.sc (.bool true)) [] := podestalaw17_answers_walk true (by kernel_rfl)
theorem ref_Field_l0s (name : ByteArray) : ∀ (L : List ByteArray) (i : Nat), (∀ (j : Nat) (x : ByteArray), L[j]? = some x → podestaref01_Name_raw ((i + j : Nat) : Int) = some x) →
    podestaref01_Field_l0s name L.length i = some (match L.findIdx? (· == name) with | some k => .inr (((i + k : Nat) : Int), true) | none => .inl ())
  | [], i, _ => rfl
  | y :: L, i, h => by
    have h0 := h 0 y rfl
    rw [Nat.add_zero] at h0
    rw [List.length_cons, podestaref01_Field_l0s, h0, List.findIdx?_cons, ref_Field_l0s name L (i + 1) (fun j x hx => by rw [show i + 1 + j = i + (j + 1) by omega]; exact h (j + 1) x (by simpa using hx))]
    show (bif y == name then _ else _) = _
    cases hy : (y == name)
    · simp only [cond_false, Bool.false_eq_true, if_false]
      cases L.findIdx? (· == name) with
      | none => rfl
      | some k => simp only [Option.map_some]; rw [show i + 1 + k = i + (k + 1) by omega]
    · simp
theorem ref_Field_eq (name : ByteArray) : podestaref01_Field_raw name = some (head_Field name) := by
  have hn : ∀ (j : Nat) (x : ByteArray), (head_fields.map (·.name))[j]? = some x → podestaref01_Name_raw ((0 + j : Nat) : Int) = some x := by
    intro j x h
    have hj : j < 12 := by
      have := (List.getElem?_eq_some_iff.1 h).1
      simpa [head_fields] using this
    rw [Nat.zero_add]
    match j, hj with
    | 0, _ | 1, _ | 2, _ | 3, _ | 4, _ | 5, _ | 6, _ | 7, _ | 8, _ | 9, _ | 10, _ | 11, _ => injection h with h; subst h; rfl
  have h := ref_Field_l0s name (head_fields.map (·.name)) 0 hn
  have hl : (head_fields.map (·.name)).length = 12 := rfl
  rw [hl] at h
  rw [podestaref01_Field_raw, h, head_Field, slices_IndexFunc__head_field_idx]
  have hf : (fun y0 => head_Field_1 y0 name) = ((fun x => x == name) ∘ fun f : Field => f.name) := rfl
  rw [hf, List.findIdx?_map]
  unfold idxF loopO
  cases head_fields.findIdx? ((fun x => x == name) ∘ fun f : Field => f.name) with
  | none => simp
  | some k =>
    simp only [Nat.zero_add]
    rw [if_neg (by omega), decide_eq_true (show ((k : Nat) : Int) ≥ 0 by omega)]
theorem Known_eq (on name : ByteArray) : podestaref15_Known_raw on name = some (check_Known on name) := by
  rw [podestaref15_Known_raw, ref_Field_eq]
  show some _ = some _
  congr 1
  unfold check_Known
  by_cases h1 : on = (ByteArray.mk #[112, 97, 99, 107, 101, 116])
  · subst h1
    have e1 : ((ByteArray.mk #[112, 97, 99, 107, 101, 116]) == (ByteArray.mk #[112, 97, 99, 107, 101, 116]) : Bool) = true := by kernel_rfl
    have e2 : ((ByteArray.mk #[112, 97, 99, 107, 101, 116]) == (ByteArray.mk #[114, 101, 109, 111, 118, 101, 100]) : Bool) = false := by kernel_rfl
    rw [e1, e2]
    simp
  · have e1 : (on == (ByteArray.mk #[112, 97, 99, 107, 101, 116]) : Bool) = false := by rw [ba_beq]; exact decide_eq_false h1
    rw [e1]
    cases (on == (ByteArray.mk #[114, 101, 109, 111, 118, 101, 100]) : Bool) <;> simp

end Go.Proofs.Ytinmkhkehfjcaaa

set_option linter.unusedVariables false
set_option linter.unusedSimpArgs false
set_option maxRecDepth 100000
set_option maxHeartbeats 4000000
namespace Go.Proofs.Ytinmkhkehfjcaaa
open Go.Sh
/-! ### podestalaw17.CheckScopes: function 5 -/
noncomputable def podestalaw17_CheckScopes_F : Go.Sh.Fn := ⟨5, bodyOf Try.f5, 68⟩
def podestalaw17_CheckScopes_raw (on : Int) (name : Int) : Option (Bool) :=
  (ixO [(ByteArray.mk #[112, 97, 99, 107, 101, 116]), (ByteArray.mk #[114, 101, 109, 111, 118, 101, 100]), (ByteArray.mk #[116, 105, 99, 107])] (Int.tmod on 3)).bind fun x =>
  (ixO [(ByteArray.mk #[117, 110, 105, 116]), (ByteArray.mk #[112, 111, 114, 116]), (ByteArray.mk #[118, 108, 97, 110]), (ByteArray.mk #[105, 110]), (ByteArray.mk #[120]), (ByteArray.mk #[122])] (Int.tmod name 6)).bind fun x1 =>
  fitO ((ByteArray.mk #[111, 110, 32]).size + x.size) 1 (
  fitO (((ByteArray.mk #[111, 110, 32]) ++ x).size + (ByteArray.mk #[32, 123, 32, 120, 32, 61, 32]).size) 1 (
  fitO ((((ByteArray.mk #[111, 110, 32]) ++ x) ++ (ByteArray.mk #[32, 123, 32, 120, 32, 61, 32])).size + x1.size) 1 (
  fitO (((((ByteArray.mk #[111, 110, 32]) ++ x) ++ (ByteArray.mk #[32, 123, 32, 120, 32, 61, 32])) ++ x1).size + (ByteArray.mk #[59, 32, 125, 32, 118, 97, 114, 32, 120, 32, 61, 32, 49, 59]).size) 1 (
  (podestaref15_Parse_raw 1000 (((((ByteArray.mk #[111, 110, 32]) ++ x) ++ (ByteArray.mk #[32, 123, 32, 120, 32, 61, 32])) ++ x1) ++ (ByteArray.mk #[59, 32, 125, 32, 118, 97, 114, 32, 120, 32, 61, 32, 49, 59]))).bind fun x2 =>
  (check_Check_raw  x2.1).bind fun x3 =>
  (podestaref15_Known_raw x x1).bind fun x4 =>
  some (((x2.2.E == 0) && ((x3.E == 0) == (x4 || (x1 == (ByteArray.mk #[120]))))) && ((x4 || (x1 == (ByteArray.mk #[120]))) || ((x3.E == 14) && (x3.At == (IntKind.i64.wrap (10 + ((x.size : Nat) : Int)))))))))))
theorem podestalaw17_CheckScopes_walk (on : Int) (name : Int) (r : Bool) (H : podestalaw17_CheckScopes_raw on name = some r) : ACalls Try.prog tab.S 5 [.sc (.int .u8 on), .sc (.int .u8 name)] [] (.sc (.bool r)) [] := by
  refine .of_AX podestalaw17_CheckScopes_F Try.func5 fun c0 hc0 => ?_
  rw [podestalaw17_CheckScopes_raw] at H
  refine .sg 7 [0,1,5,6] (.rg (.sg 2 [1,6,15,16] (.re [1,6,15,17] (b := 3) (by decide) (bndO H fun x hv H => (.xi [1,6,18] strA hv (.sg 3 [19,20,21] (.re [19,20,22] (b := 6) (by decide) (bndO H fun x1 hv H => (.xi [19,23] strA hv (.sg 3 [7,8] (.dn (.sg 1 [7,8] (.rg (.sg 1 [7,8,26] (fitH H fun hfit H => (.sa [7,8,27] hfit (fitH H fun hfit H => (.sa [7,8,28] hfit (.sg 1 [7,8,28,29] (fitH H fun hfit H => (.sa [7,8,30] hfit (fitH H fun hfit H => (.sa [7,8,31] hfit (bndO H fun x2 hv H => (.cp [7,8,32] ((podestaref15_Parse_walk 1000) (((((ByteArray.mk #[111, 110, 32]) ++ x) ++ (ByteArray.mk #[32, 123, 32, 120, 32, 61, 32])) ++ x1) ++ (ByteArray.mk #[59, 32, 125, 32, 118, 97, 114, 32, 120, 32, 61, 32, 49, 59])) x2 hv) (.sg 7 [7,8,9,10] (.dn (.sg 1 [7,8,9,10] (.rg (.sg 1 [7,8,10,35] (bndO H fun x3 hv H => (.cp [7,8,10,36] ((check_Check_walk ) x2.1 x3 hv) (.sg 2 [7,8,10,11] (.dn (.sg 1 [7,8,10,11] (.rg (.sg 2 [7,8,10,11,37,38] (bndO H fun x4 hv H => (.cp [7,8,10,11,39] (podestaref15_Known_walk x x1 x4 hv) (.sg 1 [7,8,10,11,40] (.mx 1 [7,10,11,43] (.sg 1 [7,10,11,12] (.dn (.sg 1 [7,10,11,12] (.rg (.cp [7,10,11,12,44] (podestalaw17_answers_ok) (.sg 6 [7,11,12,50] (.mx 0 [7,11,12,56] (.sg 1 [7,11,12,57] (.mm 57 ((x2.2.E == 0) && ((x3.E == 0) == (x4 || (x1 == (ByteArray.mk #[120]))))) 10 [.pure, .pure, .pure, .pure, .pure, .pure, .pure, .read, .pure, .pure] [67] 67 (fun z => .sc (.bool (z && ((x4 || (x1 == (ByteArray.mk #[120]))) || ((x3.E == 14) && (x3.At == (IntKind.i64.wrap (10 + ((x.size : Nat) : Int))))))))) ?J4 (fun hb J => ?ht4) (fun hb J => ?hf4)))))))))))))))))))))))))))))))))))))))))))))))))))
  case ht4 =>
    refine .sg 2 [7,11,57,59] (.mm 59 (x4 || (x1 == (ByteArray.mk #[120]))) 7 [.pure, .pure, .pure, .pure, .pure, .pure, .read] [57, 66] 66 (fun z => .sc (.bool (z || ((x3.E == 14) && (x3.At == (IntKind.i64.wrap (10 + ((x.size : Nat) : Int)))))))) ?J5 (fun hb J => ?ht5) (fun hb J => ?hf5))
    case ht5 =>
      exact .sg 7 [57,66] (.cl J)
    case hf5 =>
      exact .sg 5 [57,59,60,64] (.eq_ [57,59,65] 9 (.sg 1 [57,66] (.cl J)))
    exact .sg 1 [67] (.cl J)
  case hf4 =>
    exact .sg 10 [67] (.cl J)
  refine .sg 1 [4] (.dn ?_)
  obtain rfl := Option.some.inj H
  exact .ret Try.func5 hc0

theorem scopes_at (a b : Int) (ha : a = 0 ∨ a = 1 ∨ a = 2) (hb : b = 0 ∨ b = 1 ∨ b = 2 ∨ b = 3 ∨ b = 4 ∨ b = 5) : ∀ x y : Int, Int.tmod x 3 = a → Int.tmod y 6 = b → podestalaw17_CheckScopes_raw x y = some true := by
  intro x y hx hy
  unfold podestalaw17_CheckScopes_raw
  rw [hx, hy]
  rcases ha with rfl | rfl | rfl <;> rcases hb with rfl | rfl | rfl | rfl | rfl | rfl <;> kernel_rfl
theorem u8_range {x : Int} (w : intW .u8 x) : 0 ≤ x ∧ x ≤ 255 := by
  have w : (decide (IntKind.u8.min ≤ x) && decide (x ≤ IntKind.u8.max)) = true := w
  rw [Bool.and_eq_true, decide_eq_true_eq, decide_eq_true_eq] at w
  exact w
theorem CheckScopes_true (x0 x1 : Int) (w0 : intW .u8 x0) (w1 : intW .u8 x1) : podestalaw17_CheckScopes_raw x0 x1 = some true := by
  have e0 := (u8_range w0).1
  have e1 := (u8_range w1).1
  refine scopes_at (Int.tmod x0 3) (Int.tmod x1 6) ?_ ?_ x0 x1 rfl rfl
  · rw [Int.tmod_eq_emod_of_nonneg e0]; omega
  · rw [Int.tmod_eq_emod_of_nonneg e1]; omega

end Go.Proofs.Ytinmkhkehfjcaaa

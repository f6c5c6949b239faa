import Derived.Test.YtinmkhkehfjcaaaM5CheckMany
set_option linter.unusedVariables false
set_option linter.unusedSimpArgs false
set_option maxRecDepth 100000
set_option maxHeartbeats 4000000
namespace Go.Proofs.Ytinmkhkehfjcaaa
open Go.Sh
/-! ### podestalaw17.answers: function 6 -/
noncomputable def podestalaw17_answers_F : Go.Sh.Fn := ⟨6, bodyOf Try.f6, 31⟩
def podestalaw17_answers_raw : Option (Bool) :=
  (podestaref15_Parse_raw 1000 (ByteArray.mk #[111, 110, 32, 116, 105, 99, 107, 32, 123, 32, 120, 32, 61, 32, 49, 59, 32, 125])).bind fun x =>
  (check_Check_raw  x.1).bind fun x1 =>
  some (((((x.2.E == 0) && (x1.E == 14)) && (x1.At == 10)) && ((((List.map strA check_Events).length : Nat) : Int) == 3)) && (check_Known (ByteArray.mk #[112, 97, 99, 107, 101, 116]) (ByteArray.mk #[118, 108, 97, 110])))
theorem podestalaw17_answers_walk (r : Bool) (H : podestalaw17_answers_raw = some r) : ACalls Try.prog tab.S 6 [] [] (.sc (.bool r)) [] := by
  refine .of_AX podestalaw17_answers_F Try.func6 fun c0 hc0 => ?_
  rw [podestalaw17_answers_raw] at H
  refine .sg 3 [] (.rg (bndO H fun x hv H => (.cp [5] ((podestaref15_Parse_walk 1000) (ByteArray.mk #[111, 110, 32, 116, 105, 99, 107, 32, 123, 32, 120, 32, 61, 32, 49, 59, 32, 125]) x hv) (.sg 7 [1,2] (.dn (.sg 1 [1,2] (.rg (.sg 1 [2,8] (bndO H fun x1 hv H => (.cp [2,9] ((check_Check_walk ) x.1 x1 hv) (.sg 2 [2,3] (.dn (.sg 1 [2,3] (.rg (.sg 4 [3,13] (.mx 0 [3,17] (.sg 1 [3,18] (.mx 0 [22] (.sg 1 [23] (.mm 23 (((x.2.E == 0) && (x1.E == 14)) && (x1.At == 10)) 4 [.pure, .pure, .pure, .pure] [27] 27 (fun z => .sc (.bool (z && ((((List.map strA check_Events).length : Nat) : Int) == 3)))) ?J3 (fun hb J => ?ht3) (fun hb J => ?hf3)))))))))))))))))))))
  case ht3 =>
    exact .cp [23,24] (check_Events_calls) (.sg 3 [27] (.cl J))
  case hf3 =>
    exact .sg 4 [27] (.cl J)
  refine .sg 1 [28] (.mm 28 ((((x.2.E == 0) && (x1.E == 14)) && (x1.At == 10)) && ((((List.map strA check_Events).length : Nat) : Int) == 3)) 2 [.pure, .pure] [30] 30 (fun z => .sc (.bool (z && (check_Known (ByteArray.mk #[112, 97, 99, 107, 101, 116]) (ByteArray.mk #[118, 108, 97, 110]))))) ?J4 (fun hb J => ?ht4) (fun hb J => ?hf4))
  case ht4 =>
    exact .cp [28,29] (check_Known_calls (ByteArray.mk #[112, 97, 99, 107, 101, 116]) (ByteArray.mk #[118, 108, 97, 110])) (.sg 1 [30] (.cl J))
  case hf4 =>
    exact .sg 2 [30] (.cl J)
  refine .sg 1 [0] (.dn ?_)
  obtain rfl := Option.some.inj H
  exact .ret Try.func6 hc0

theorem podestalaw17_answers_ok : ACalls Try.prog tab.S 6 [] [] (.sc (.bool true)) [] := podestalaw17_answers_walk true (by kernel_rfl)
theorem ref_Field_l0s (name : ByteArray) : ∀ (L : List ByteArray) (i : Nat), (∀ (j : Nat) (x : ByteArray), L[j]? = some x → podestaref01_Name_raw ((i + j : Nat) : Int) = some x) →
    podestaref01_Field_l0s name L.length i = some (match L.findIdx? (· == name) with | some k => .inr (((i + k : Nat) : Int), true) | none => .inl ())
  | [], i, _ => rfl
  | y :: L, i, h => by
    have h0 := h 0 y rfl
    rw [Nat.add_zero] at h0
    rw [List.length_cons, podestaref01_Field_l0s, h0, List.findIdx?_cons, ref_Field_l0s name L (i + 1) (fun j x hx => by rw [show i + 1 + j = i + (j + 1) by omega]; exact h (j + 1) x (by simpa using hx))]
    show (bif y == name then _ else _) = _
    cases hy : (y == name)
    · simp only [cond_false, Bool.false_eq_true, if_false]
      cases L.findIdx? (· == name) with
      | none => rfl
      | some k => simp only [Option.map_some]; rw [show i + 1 + k = i + (k + 1) by omega]
    · simp
theorem ref_Field_eq (name : ByteArray) : podestaref01_Field_raw name = some (head_Field name) := by
  have hn : ∀ (j : Nat) (x : ByteArray), (head_fields.map (·.name))[j]? = some x → podestaref01_Name_raw ((0 + j : Nat) : Int) = some x := by
    intro j x h
    have hj : j < 12 := by
      have := (List.getElem?_eq_some_iff.1 h).1
      simpa [head_fields] using this
    rw [Nat.zero_add]
    match j, hj with
    | 0, _ | 1, _ | 2, _ | 3, _ | 4, _ | 5, _ | 6, _ | 7, _ | 8, _ | 9, _ | 10, _ | 11, _ => injection h with h; subst h; rfl
  have h := ref_Field_l0s name (head_fields.map (·.name)) 0 hn
  have hl : (head_fields.map (·.name)).length = 12 := rfl
  rw [hl] at h
  rw [podestaref01_Field_raw, h, head_Field, slices_IndexFunc__head_field_idx]
  have hf : (fun y0 => head_Field_1 y0 name) = ((fun x => x == name) ∘ fun f : Field => f.name) := rfl
  rw [hf, List.findIdx?_map]
  unfold idxF loopO
  cases head_fields.findIdx? ((fun x => x == name) ∘ fun f : Field => f.name) with
  | none => simp
  | some k =>
    simp only [Nat.zero_add]
    rw [if_neg (by omega), decide_eq_true (show ((k : Nat) : Int) ≥ 0 by omega)]
theorem Known_eq (on name : ByteArray) : podestaref15_Known_raw on name = some (check_Known on name) := by
  rw [podestaref15_Known_raw, ref_Field_eq]
  show some _ = some _
  congr 1
  unfold check_Known
  by_cases h1 : on = (ByteArray.mk #[112, 97, 99, 107, 101, 116])
  · subst h1
    have e1 : ((ByteArray.mk #[112, 97, 99, 107, 101, 116]) == (ByteArray.mk #[112, 97, 99, 107, 101, 116]) : Bool) = true := by kernel_rfl
    have e2 : ((ByteArray.mk #[112, 97, 99, 107, 101, 116]) == (ByteArray.mk #[114, 101, 109, 111, 118, 101, 100]) : Bool) = false := by kernel_rfl
    rw [e1, e2]
    simp
  · have e1 : (on == (ByteArray.mk #[112, 97, 99, 107, 101, 116]) : Bool) = false := by rw [ba_beq]; exact decide_eq_false h1
    rw [e1]
    cases (on == (ByteArray.mk #[114, 101, 109, 111, 118, 101, 100]) : Bool) <;> simp

end Go.Proofs.Ytinmkhkehfjcaaa

set_option linter.unusedVariables false
set_option linter.unusedSimpArgs false
set_option maxRecDepth 100000
set_option maxHeartbeats 4000000
namespace Go.Proofs.Ytinmkhkehfjcaaa
open Go.Sh
/-! ### podestalaw17.CheckMany: function 4 -/
noncomputable def podestalaw17_CheckMany_F : Go.Sh.Fn := ⟨4, bodyOf Try.f4, 86⟩
def podestalaw17_CheckMany_l0 (v : Int) (a : Int) : Nat → ByteArray → Int → Option (Int × Int × ByteArray)
  | 0, _, _ => none
  | m + 1, s, i =>
    (bif (decide (i < v)) then
    fitO (s.size + (ByteArray.mk #[118, 97, 114, 32, 118]).size) 1 (
    fitO ((s ++ (ByteArray.mk #[118, 97, 114, 32, 118])).size + (strOfNums [(IntKind.u8.wrap (97 + (IntKind.u8.wrap (IntKind.i64.wrap (Int.tdiv i 10))))), (IntKind.u8.wrap (48 + (IntKind.u8.wrap (Int.tmod i 10))))]).size) 1 (
    fitO (((s ++ (ByteArray.mk #[118, 97, 114, 32, 118])) ++ (strOfNums [(IntKind.u8.wrap (97 + (IntKind.u8.wrap (IntKind.i64.wrap (Int.tdiv i 10))))), (IntKind.u8.wrap (48 + (IntKind.u8.wrap (Int.tmod i 10))))])).size + (ByteArray.mk #[32, 61, 32, 48, 59]).size) 1 (
    podestalaw17_CheckMany_l0 v a m (((s ++ (ByteArray.mk #[118, 97, 114, 32, 118])) ++ (strOfNums [(IntKind.u8.wrap (97 + (IntKind.u8.wrap (IntKind.i64.wrap (Int.tdiv i 10))))), (IntKind.u8.wrap (48 + (IntKind.u8.wrap (Int.tmod i 10))))])) ++ (ByteArray.mk #[32, 61, 32, 48, 59])) (IntKind.i64.wrap (i + 1)))))
  else
    some (v, a, s))
theorem podestalaw17_CheckMany_l0_walk (q0 : Nat) (q1 : Nat) (vars : Int) (acts : Int) (v : Int) (a : Int)  (r : Bool) (c0 : Ctx) (hc0 : c0.m.length = 0) (res : Int × Int × ByteArray) (J : AX Try.prog tab podestalaw17_CheckMany_F c0 (Rp tab.S c0 (.sc (.bool r)) []) (some ⟨[.code [1, 1, 1, 1]], [(5, .sc (.int .i64 res.1)), (6, .sc (.int .i64 res.2.1)), (7, .sc (.string res.2.2))], []⟩)) :
    ∀ (m : Nat) (s : ByteArray) (i : Int) (H : podestalaw17_CheckMany_l0 v a m s i = some res), AX Try.prog tab podestalaw17_CheckMany_F c0 (Rp tab.S c0 (.sc (.bool r)) []) (some ⟨[.code [1, 1, 1, 0, 1, 0, 0], .loop [1, 1, 1, 0, 1, 0], .blk 0, .code [1, 1, 1, 1]], [(5, .sc (.int .i64 v)), (6, .sc (.int .i64 a)), (7, .sc (.string s)), (8, .sc (.int .i64 i))], []⟩) := by
  intro m
  induction m with
  | zero => intro s i H; cases H
  | succ m ih =>
    intro s i H
    rw [podestalaw17_CheckMany_l0] at H
    refine .sg 3 [5,6,7,8,25] (.cd (decide (i < v)) H (fun hb H => ?_) (fun hb H => ?_))
    ·
      exact .sg 3 [5,6,7,8] (.rg (.sg 1 [5,6,8,28] (fitH H fun hfit H => (.sa [5,6,8,29] hfit (.sg 1 [5,6,8,29,30] (.qu [5,6,8,29,31] (b := 10) (by decide) (.sg 3 [5,6,8,29,33,34] (.re [5,6,8,29,33,35] (b := 10) (by decide) (.sg 3 [5,6,8,29,38] (.by_ [5,6,8,29,39] [(IntKind.u8.wrap (97 + (IntKind.u8.wrap (IntKind.i64.wrap (Int.tdiv i 10))))), (IntKind.u8.wrap (48 + (IntKind.u8.wrap (Int.tmod i 10))))] (fitH H fun hfit H => (.sa [5,6,8,40] hfit (fitH H fun hfit H => (.sa [5,6,8,41] hfit (.sg 1 [5,6,7,8] (.dn (.sg 2 [5,6,7,8] (.kp [5,6,7,8] (.into (.to (ih (((s ++ (ByteArray.mk #[118, 97, 114, 32, 118])) ++ (strOfNums [(IntKind.u8.wrap (97 + (IntKind.u8.wrap (IntKind.i64.wrap (Int.tdiv i 10))))), (IntKind.u8.wrap (48 + (IntKind.u8.wrap (Int.tmod i 10))))])) ++ (ByteArray.mk #[32, 61, 32, 48, 59])) (IntKind.i64.wrap (i + 1)) H)))))))))))))))))))))
    ·
      refine .sg 1 [5,6,7] (.kp [5,6,7] ?_)
      obtain rfl := Option.some.inj H
      exact .to J
def podestalaw17_CheckMany_l1 (v1 : Int × Int × ByteArray) (at_ : Int) (where_ : Int) : Nat → ByteArray → Int → Option (ByteArray × Int × Int)
  | 0, _, _ => none
  | m + 1, s1, i1 =>
    (bif (decide (i1 < v1.2.1)) then
    (bif (decide (i1 > 0)) then
      fitO (s1.size + (ByteArray.mk #[44, 32]).size) 1 (
      fitO ((s1 ++ (ByteArray.mk #[44, 32])).size + (ByteArray.mk #[116, 101, 108, 108]).size) 1 (
      podestalaw17_CheckMany_l1 v1 at_ where_ m ((s1 ++ (ByteArray.mk #[44, 32])) ++ (ByteArray.mk #[116, 101, 108, 108])) (IntKind.i64.wrap (i1 + 1))))
    else
      fitO (s1.size + (ByteArray.mk #[116, 101, 108, 108]).size) 1 (
      podestalaw17_CheckMany_l1 v1 at_ where_ m (s1 ++ (ByteArray.mk #[116, 101, 108, 108])) (IntKind.i64.wrap (i1 + 1))))
  else
    some (s1, at_, where_))
theorem podestalaw17_CheckMany_l1_walk (q0 : Nat) (q1 : Nat) (vars : Int) (acts : Int) (v1 : Int × Int × ByteArray) (at_ : Int) (where_ : Int)  (r : Bool) (c0 : Ctx) (hc0 : c0.m.length = 0) (res : ByteArray × Int × Int) (J : AX Try.prog tab podestalaw17_CheckMany_F c0 (Rp tab.S c0 (.sc (.bool r)) []) (some ⟨[.code [1, 1, 1, 1, 1, 1, 1, 1, 1]], [(5, .sc (.int .i64 v1.1)), (6, .sc (.int .i64 v1.2.1)), (7, .sc (.string res.1)), (9, .sc (.int .i64 res.2.1)), (10, .sc (.int .i64 res.2.2))], []⟩)) :
    ∀ (m : Nat) (s1 : ByteArray) (i1 : Int) (H : podestalaw17_CheckMany_l1 v1 at_ where_ m s1 i1 = some res), AX Try.prog tab podestalaw17_CheckMany_F c0 (Rp tab.S c0 (.sc (.bool r)) []) (some ⟨[.code [1, 1, 1, 1, 1, 1, 1, 1, 0, 1, 0, 0], .loop [1, 1, 1, 1, 1, 1, 1, 1, 0, 1, 0], .blk 2, .code [1, 1, 1, 1, 1, 1, 1, 1, 1]], [(5, .sc (.int .i64 v1.1)), (6, .sc (.int .i64 v1.2.1)), (7, .sc (.string s1)), (9, .sc (.int .i64 at_)), (10, .sc (.int .i64 where_)), (11, .sc (.int .i64 i1))], []⟩) := by
  intro m
  induction m with
  | zero => intro s1 i1 H; cases H
  | succ m ih =>
    intro s1 i1 H
    rw [podestalaw17_CheckMany_l1] at H
    refine .sg 3 [5,6,7,9,10,11,50] (.cd (decide (i1 < v1.2.1)) H (fun hb H => ?_) (fun hb H => ?_))
    ·
      refine .sg 6 [5,6,7,9,10,11,54] (.cd (decide (i1 > 0)) H (fun hb H => ?_) (fun hb H => ?_))
      ·
        exact .rg (.sg 1 [5,6,9,10,11,55] (fitH H fun hfit H => (.sa [5,6,9,10,11,56] hfit (.sg 1 [5,6,7,9,10,11] (.dn (.rg (.sg 1 [5,6,9,10,11,57] (fitH H fun hfit H => (.sa [5,6,9,10,11,58] hfit (.sg 1 [5,6,7,9,10,11] (.dn (.sg 2 [5,6,7,9,10,11] (.kp [5,6,7,9,10,11] (.into (.to (ih ((s1 ++ (ByteArray.mk #[44, 32])) ++ (ByteArray.mk #[116, 101, 108, 108])) (IntKind.i64.wrap (i1 + 1)) H))))))))))))))))
      ·
        exact .sg 1 [5,6,7,9,10,11] (.rg (.sg 1 [5,6,9,10,11,57] (fitH H fun hfit H => (.sa [5,6,9,10,11,58] hfit (.sg 1 [5,6,7,9,10,11] (.dn (.sg 2 [5,6,7,9,10,11] (.kp [5,6,7,9,10,11] (.into (.to (ih (s1 ++ (ByteArray.mk #[116, 101, 108, 108])) (IntKind.i64.wrap (i1 + 1)) H)))))))))))
    ·
      refine .sg 1 [5,6,7,9,10] (.kp [5,6,7,9,10] ?_)
      obtain rfl := Option.some.inj H
      exact .to J
def podestalaw17_CheckMany_raw (q0 : Nat) (q1 : Nat) (vars : Int) (acts : Int) : Option (Bool) :=
  (podestalaw17_CheckMany_l0 (IntKind.i64.wrap (60 + (IntKind.i64.wrap (Int.tmod vars 8)))) (IntKind.i64.wrap (1 + (IntKind.i64.wrap (Int.tmod acts 10)))) q0 (ByteArray.mk #[]) 0).bind fun v1 =>
  fitO (v1.2.2.size + (ByteArray.mk #[111, 110, 32, 116, 105, 99, 107, 32, 123, 32, 109, 111, 100, 32, 48, 32, 91, 93, 32, 100, 111, 32]).size) 1 (
  (podestalaw17_CheckMany_l1 v1 (bif (decide (v1.1 > 64)) then 768 else 0) (((v1.2.2 ++ (ByteArray.mk #[111, 110, 32, 116, 105, 99, 107, 32, 123, 32, 109, 111, 100, 32, 48, 32, 91, 93, 32, 100, 111, 32])).size : Nat) : Int) q1 (v1.2.2 ++ (ByteArray.mk #[111, 110, 32, 116, 105, 99, 107, 32, 123, 32, 109, 111, 100, 32, 48, 32, 91, 93, 32, 100, 111, 32])) 0).bind fun v2 =>
  fitO (v2.1.size + (ByteArray.mk #[59, 32, 125]).size) 1 (
  (podestaref15_Parse_raw 1000 (v2.1 ++ (ByteArray.mk #[59, 32, 125]))).bind fun x =>
  (bif (decide (v1.2.1 > 8)) then
    (bif (decide (v1.1 > 64)) then
      (bif (x.2.E == 0) then
        (check_Check_raw  x.1).bind fun x1 =>
        some ((x1.E == 13) && (x1.At == v2.2.1))
      else
        some false)
    else
      (bif (x.2.E == 0) then
        (check_Check_raw  x.1).bind fun x2 =>
        some ((x2.E == 3) && (x2.At == v2.2.2))
      else
        some false))
  else
    (bif (decide (v1.1 > 64)) then
      (bif (x.2.E == 0) then
        (check_Check_raw  x.1).bind fun x3 =>
        some ((x3.E == 13) && (x3.At == v2.2.1))
      else
        some false)
    else
      (bif (x.2.E == 0) then
        (check_Check_raw  x.1).bind fun x4 =>
        some ((x4.E == 0) && (x4.At == 0))
      else
        some false)))))
theorem podestalaw17_CheckMany_walk (q0 : Nat) (q1 : Nat) (vars : Int) (acts : Int) (r : Bool) (H : podestalaw17_CheckMany_raw q0 q1 vars acts = some r) : ACalls Try.prog tab.S 4 [.sc (.int .u8 vars), .sc (.int .u8 acts)] [] (.sc (.bool r)) [] := by
  refine .of_AX podestalaw17_CheckMany_F Try.func4 fun c0 hc0 => ?_
  rw [podestalaw17_CheckMany_raw] at H
  refine .sg 3 [0,1] (.rg (.sg 1 [1,15] (.re [1,16] (b := 8) (by decide) (.sg 3 [18,19] (.re [18,20] (b := 10) (by decide) (.sg 4 [5,6] (.dn (.sg 6 [5,6,7,8] ?_))))))))
  refine bndO H fun v1 hv H => (.into (.to (podestalaw17_CheckMany_l0_walk q0 q1 vars acts (IntKind.i64.wrap (60 + (IntKind.i64.wrap (Int.tmod vars 8)))) (IntKind.i64.wrap (1 + (IntKind.i64.wrap (Int.tmod acts 10)))) r c0 hc0 v1 ?_ q0 (ByteArray.mk #[]) 0 hv)))
  refine .sg 5 [5,6,7,9,43] (.jn (decide (v1.1 > 64)) [5, 6, 7, 9] (fun z => [(9, .sc (.int .i64 (bif z then 768 else 0)))]) ?J1 (fun hb J => ?ht1) (fun hb J => ?hf1))
  case ht1 =>
    exact .sg 1 [5,6,7,9] (.cl J)
  case hf1 =>
    exact .sg 1 [5,6,7,9] (.cl J)
  refine .sg 1 [5,6,7,9] (.rg (.sg 1 [5,6,9,44] (fitH H fun hfit H => (.sa [5,6,9,45] hfit (.sg 1 [5,6,7,9] (.dn (.sg 6 [5,6,7,9,10,11] ?_)))))))
  refine bndO H fun v2 hv H => (.into (.to (podestalaw17_CheckMany_l1_walk q0 q1 vars acts v1 (bif (decide (v1.1 > 64)) then 768 else 0) (((v1.2.2 ++ (ByteArray.mk #[111, 110, 32, 116, 105, 99, 107, 32, 123, 32, 109, 111, 100, 32, 48, 32, 91, 93, 32, 100, 111, 32])).size : Nat) : Int) r c0 hc0 v2 ?_ q1 (v1.2.2 ++ (ByteArray.mk #[111, 110, 32, 116, 105, 99, 107, 32, 123, 32, 109, 111, 100, 32, 48, 32, 91, 93, 32, 100, 111, 32])) 0 hv)))
  refine .sg 1 [5,6,7,9,10] (.rg (.sg 1 [5,6,9,10,60] (fitH H fun hfit H => (.sa [5,6,9,10,61] hfit (bndO H fun x hv H => (.cp [5,6,9,10,62] ((podestaref15_Parse_walk 1000) (v2.1 ++ (ByteArray.mk #[59, 32, 125])) x hv) (.sg 7 [5,6,9,10,12,13] (.dn (.sg 5 [5,9,10,12,13,14,67] (.cd (decide (v1.2.1 > 8)) H (fun hb H => ?_) (fun hb H => ?_)))))))))))
  ·
    refine .sg 4 [9,12,13,14,71] (.cd (decide (v1.1 > 64)) H (fun hb H => ?_) (fun hb H => ?_))
    ·
      refine .sg 2 [12,13,14] (.rg (.cp [12,13,14,74] (podestalaw17_answers_ok) (.sg 6 [12,14,80] (.sp 80 (x.2.E == 0) H (fun hb H => ?_) (fun hb H => ?_)))))
      ·
        refine .sg 1 [14,80,81] (bndO H fun x1 hv H => (.cp [14,80,82] ((check_Check_walk ) x.1 x1 hv) (.sg 1 [80,82,83] (.eq_ [80,84] 9 (.sg 2 [4] (.dn ?_))))))
        obtain rfl := Option.some.inj H
        exact .ret Try.func4 hc0
      ·
        refine .sg 6 [4] (.dn ?_)
        obtain rfl := Option.some.inj H
        exact .ret Try.func4 hc0
    ·
      refine .sg 2 [12,13,14] (.rg (.cp [12,13,14,74] (podestalaw17_answers_ok) (.sg 6 [12,14,80] (.sp 80 (x.2.E == 0) H (fun hb H => ?_) (fun hb H => ?_)))))
      ·
        refine .sg 1 [14,80,81] (bndO H fun x2 hv H => (.cp [14,80,82] ((check_Check_walk ) x.1 x2 hv) (.sg 1 [80,82,83] (.eq_ [80,84] 9 (.sg 2 [4] (.dn ?_))))))
        obtain rfl := Option.some.inj H
        exact .ret Try.func4 hc0
      ·
        refine .sg 6 [4] (.dn ?_)
        obtain rfl := Option.some.inj H
        exact .ret Try.func4 hc0
  ·
    refine .sg 4 [9,12,13,14,71] (.cd (decide (v1.1 > 64)) H (fun hb H => ?_) (fun hb H => ?_))
    ·
      refine .sg 2 [12,13,14] (.rg (.cp [12,13,14,74] (podestalaw17_answers_ok) (.sg 6 [12,14,80] (.sp 80 (x.2.E == 0) H (fun hb H => ?_) (fun hb H => ?_)))))
      ·
        refine .sg 1 [14,80,81] (bndO H fun x3 hv H => (.cp [14,80,82] ((check_Check_walk ) x.1 x3 hv) (.sg 1 [80,82,83] (.eq_ [80,84] 9 (.sg 2 [4] (.dn ?_))))))
        obtain rfl := Option.some.inj H
        exact .ret Try.func4 hc0
      ·
        refine .sg 6 [4] (.dn ?_)
        obtain rfl := Option.some.inj H
        exact .ret Try.func4 hc0
    ·
      refine .sg 2 [12,13,14] (.rg (.cp [12,13,14,74] (podestalaw17_answers_ok) (.sg 6 [12,14,80] (.sp 80 (x.2.E == 0) H (fun hb H => ?_) (fun hb H => ?_)))))
      ·
        refine .sg 1 [14,80,81] (bndO H fun x4 hv H => (.cp [14,80,82] ((check_Check_walk ) x.1 x4 hv) (.sg 1 [80,82,83] (.eq_ [80,84] 9 (.sg 2 [4] (.dn ?_))))))
        obtain rfl := Option.some.inj H
        exact .ret Try.func4 hc0
      ·
        refine .sg 6 [4] (.dn ?_)
        obtain rfl := Option.some.inj H
        exact .ret Try.func4 hc0

/-! ### The scanner, over lists of bytes -/
abbrev bl (s : ByteArray) : List UInt8 := s.data.toList
def lLet (c : UInt8) : Bool := podestaref15_letter ((c.toNat : Nat) : Int)
def lDig (c : UInt8) : Bool := podestaref15_digit ((c.toNat : Nat) : Int)
def lWs (c : UInt8) : Bool := (((((c.toNat : Nat) : Int) == 32) || (((c.toNat : Nat) : Int) == 9)) || (((c.toNat : Nat) : Int) == 10)) || (((c.toNat : Nat) : Int) == 13)
def lIn (c d : UInt8) : Bool := lDig d || (lLet c && lLet d)
def lSign (l : List UInt8) : Option (List UInt8) := (podestaref15_signs.map bl).find? fun g => g.isPrefixOf l
def lexT : Nat → List UInt8 → Nat → List Token → Option (Sum (List Token) (List Token × Fault))
  | 0, _, _, _ => none
  | m + 1, l, i, out =>
    match l with
    | [] => some (.inl out)
    | c :: l' =>
      bif lWs c then lexT m l' (i + 1) out
      else bif ((c.toNat : Nat) : Int) == 35 then lexT m ((c :: l').dropWhile fun d => ((d.toNat : Nat) : Int) != 10) (i + ((c :: l').takeWhile fun d => ((d.toNat : Nat) : Int) != 10).length) out
      else bif lLet c || lDig c then
        (podestaref15_Word_raw 10000 ⟨((c :: l').takeWhile (lIn c)).toArray⟩).bind fun x1 =>
        (bif !x1 then
          (podestaref15_Digits_raw 10000 ⟨((c :: l').takeWhile (lIn c)).toArray⟩).bind fun x2 =>
          (bif !x2 then some (.inr ([], ({ E := 15, At := i } : Fault)))
          else lexT m ((c :: l').dropWhile (lIn c)) (i + ((c :: l').takeWhile (lIn c)).length) (out ++ [({ Text := ⟨((c :: l').takeWhile (lIn c)).toArray⟩, At := i } : Token)]))
        else lexT m ((c :: l').dropWhile (lIn c)) (i + ((c :: l').takeWhile (lIn c)).length) (out ++ [({ Text := ⟨((c :: l').takeWhile (lIn c)).toArray⟩, At := i } : Token)]))
      else
        match lSign (c :: l') with
        | none => some (.inr ([], ({ E := 15, At := i } : Fault)))
        | some g => lexT m ((c :: l').drop g.length) (i + g.length) (out ++ [({ Text := ⟨g.toArray⟩, At := i } : Token)])
theorem bl_size (s : ByteArray) : s.size = (bl s).length := by
  show s.data.size = s.data.toList.length
  rw [Array.length_toList]
theorem drop_cons' {α : Type} {l l' : List α} {i : Nat} {c : α} (h : l.drop i = c :: l') : i < l.length ∧ l[i]? = some c ∧ l.drop (i + 1) = l' := by
  have h1 : i < l.length := by
    rcases Nat.lt_or_ge i l.length with h1 | h1
    · exact h1
    · rw [List.drop_eq_nil_of_le h1] at h; cases h
  refine ⟨h1, ?_, ?_⟩
  · have := congrArg List.head? h
    rw [List.head?_drop] at this
    exact this
  · have := congrArg List.tail h
    rw [List.tail_drop] at this
    exact this
theorem byteAt_drop {s : ByteArray} {l' : List UInt8} {i : Nat} {c : UInt8} (h : (bl s).drop i = c :: l') : byteAt s ((i : Nat) : Int) = ((c.toNat : Nat) : Int) := by
  unfold byteAt
  rw [Int.toNat_natCast, List.getD_eq_getElem?_getD, (drop_cons' h).2.1]
  rfl
theorem lt_drop {s : ByteArray} {l' : List UInt8} {i : Nat} {c : UInt8} (h : (bl s).drop i = c :: l') : (decide (((i : Nat) : Int) < ((s.size : Nat) : Int))) = true := by
  have := (drop_cons' h).1
  rw [bl_size]
  exact decide_eq_true (by omega)
theorem req_drop {α : Type} {s : ByteArray} {l' : List UInt8} {i : Nat} {c : UInt8} (h : (bl s).drop i = c :: l') (r : Option α) : reqO (decide (0 ≤ ((i : Nat) : Int)) && decide (((i : Nat) : Int) < ((s.size : Nat) : Int))) r = r := by
  rw [lt_drop h, decide_eq_true (show (0 : Int) ≤ ((i : Nat) : Int) by omega)]
  rfl
theorem ge_drop {s : ByteArray} {i : Nat} (h : (bl s).drop i = []) : (decide (((i : Nat) : Int) < ((s.size : Nat) : Int))) = false := by
  have := List.drop_eq_nil_iff.1 h
  rw [bl_size]
  exact decide_eq_false (by omega)
theorem wrapN {n : Nat} (h : n ≤ 9223372036854775807) : IntKind.i64.wrap ((n : Nat) : Int) = ((n : Nat) : Int) := wrapI_eq (by omega) (by omega)
theorem l1_eq (s : ByteArray) (hs : s.size ≤ 16384) : ∀ (m i : Nat) (l : List UInt8), (bl s).drop i = l → l.length < m → podestaref15_Scan_l1 s m ((i : Nat) : Int) = some (((i + (l.takeWhile fun d => ((d.toNat : Nat) : Int) != 10).length : Nat) : Nat) : Int)
  | 0, _, _, _, h => by omega
  | m + 1, i, [], h, hl => by rw [podestaref15_Scan_l1, ge_drop h]; rfl
  | m + 1, i, c :: l', h, hl => by
    have hi := (drop_cons' h).1
    rw [← bl_size] at hi
    rw [podestaref15_Scan_l1, req_drop h, lt_drop h, byteAt_drop h, wrapI_succ (by omega), l1_eq s hs m (i + 1) l' (drop_cons' h).2.2 (by simpa using hl), List.takeWhile_cons]
    cases hc : (((c.toNat : Nat) : Int) != 10)
    · rfl
    · simp only [if_true, List.length_cons, cond_true]
      rw [show i + 1 + (l'.takeWhile fun d => ((d.toNat : Nat) : Int) != 10).length = i + ((l'.takeWhile fun d => ((d.toNat : Nat) : Int) != 10).length + 1) by omega]
theorem l2_eq (s : ByteArray) (hs : s.size ≤ 16384) (i : Nat) (c : UInt8) (hc : byteAt s ((i : Nat) : Int) = ((c.toNat : Nat) : Int)) : ∀ (m n : Nat) (l : List UInt8), (bl s).drop (i + n) = l → l.length < m → i + n ≤ s.size → podestaref15_Scan_l2 s ((i : Nat) : Int) m ((n : Nat) : Int) = some (((n + (l.takeWhile (lIn c)).length : Nat) : Nat) : Int)
  | 0, _, _, _, h, _ => by omega
  | m + 1, n, [], h, hl, hn => by
    rw [podestaref15_Scan_l2, show ((i : Nat) : Int) + ((n : Nat) : Int) = ((i + n : Nat) : Int) by omega, wrapN (by omega), ge_drop h]; rfl
  | m + 1, n, d :: l', h, hl, hn => by
    have hi := (drop_cons' h).1
    rw [← bl_size] at hi
    have ih := l2_eq s hs i c hc m (n + 1) l' (by rw [show i + (n + 1) = i + n + 1 by omega]; exact (drop_cons' h).2.2) (by simpa using hl) (by omega)
    rw [podestaref15_Scan_l2, show ((i : Nat) : Int) + ((n : Nat) : Int) = ((i + n : Nat) : Int) by omega, wrapN (by omega), req_drop h, req_drop h, lt_drop h, byteAt_drop h, hc, wrapI_succ (by omega), ih, List.takeWhile_cons]
    simp only [cond_true, lIn]
    show (bif lDig d then _ else bif lLet c then (bif lLet d then _ else _) else _) = _
    rcases Bool.eq_false_or_eq_true (lDig d) with h1 | h1 <;> rcases Bool.eq_false_or_eq_true (lLet c) with h2 | h2 <;> rcases Bool.eq_false_or_eq_true (lLet d) with h3 | h3 <;> simp only [h1, h2, h3, cond_true, cond_false, Bool.or_true, Bool.true_or, Bool.and_true, Bool.and_false, Bool.false_and, Bool.or_false, Bool.true_and, Bool.false_or, if_true, if_false, Bool.false_eq_true, List.length_cons, List.length_nil, Nat.add_zero] <;> rw [show n + 1 + (List.takeWhile (lIn c) l').length = n + ((List.takeWhile (lIn c) l').length + 1) by omega]
theorem l3_stop (s : ByteArray) (i : Int) (m : Nat) (n k : Int) (h : (n == 0) = false) : podestaref15_Scan_l3 s i (m + 1) n k = some n := by
  rw [podestaref15_Scan_l3, h, Bool.and_false]; rfl
theorem l4_stop (s : ByteArray) (i : Int) (m : Nat) (n k : Int) (h : (n == 0) = false) : podestaref15_Scan_l4 s i (m + 1) n k = some n := by
  rw [podestaref15_Scan_l4, h, Bool.and_false]; rfl
theorem l5_stop (s : ByteArray) (i : Int) (m : Nat) (n k : Int) (h : (n == 0) = false) : podestaref15_Scan_l5 s i (m + 1) n k = some n := by
  rw [podestaref15_Scan_l5, h, Bool.and_false]; rfl
theorem copySlice_data (s : ByteArray) (i j : Nat) : (s.extract i j).data.toList = (s.data.toList.take j).drop i := by
  rw [ByteArray.data_extract, Array.toList_extract, List.extract_eq_take_drop, List.drop_take]
theorem subS_eq {s : ByteArray} {i n : Nat} (h : i + n ≤ s.size) : subS s (some ((i : Nat) : Int)) (some ((i + n : Nat) : Int)) = some ⟨(((bl s).drop i).take n).toArray⟩ := by
  unfold subS
  simp only [Option.getD_some]
  rw [if_pos ⟨by omega, by omega, by omega⟩]
  congr 1
  apply ByteArray.ext
  apply Array.ext'
  rw [Int.toNat_natCast, Int.toNat_natCast, copySlice_data, List.drop_take]
  simp
theorem prefix_beq (g : ByteArray) (l : List UInt8) : ((⟨(l.take (bl g).length).toArray⟩ : ByteArray) == g) = (bl g).isPrefixOf l := by
  rw [ba_beq]
  by_cases h : bl g <+: l
  · rw [List.isPrefixOf_iff_prefix.2 h]
    refine decide_eq_true ?_
    rw [← List.prefix_iff_eq_take.1 h]
  · have : (bl g).isPrefixOf l = false := by
      rw [Bool.eq_false_iff]
      exact fun e => h (List.isPrefixOf_iff_prefix.1 e)
    rw [this]
    refine decide_eq_false fun e => h ?_
    have e2 : bl g = l.take (bl g).length := by
      have := congrArg bl e
      simp only [bl, List.toList_toArray] at this
      exact this.symm
    exact List.prefix_iff_eq_take.2 e2
theorem sign_pos : ∀ g ∈ podestaref15_signs, 1 ≤ (bl g).length ∧ (bl g).length ≤ 2 := by
  intro g hg
  simp only [podestaref15_signs, List.mem_cons, List.not_mem_nil, or_false] at hg
  rcases hg with rfl | rfl | rfl | rfl | rfl | rfl | rfl | rfl | rfl | rfl | rfl | rfl | rfl | rfl | rfl | rfl | rfl | rfl | rfl | rfl | rfl | rfl | rfl <;> exact ⟨by decide, by decide⟩
theorem l5_eq (s : ByteArray) (hs : s.size ≤ 16384) (i : Nat) (hi : i ≤ s.size) : ∀ (m k : Nat) (L : List ByteArray), podestaref15_signs.drop k = L → L.length + 1 < m → podestaref15_Scan_l5 s ((i : Nat) : Int) m 0 ((k : Nat) : Int) = some ((((match (L.map bl).find? fun g => g.isPrefixOf ((bl s).drop i) with | some g => g.length | none => 0) : Nat) : Nat) : Int)
  | 0, _, _, _, h => by omega
  | m + 1, k, [], h, hm => by
    have hk := List.drop_eq_nil_iff.1 h
    rw [podestaref15_Scan_l5, List.length_map, decide_eq_false (show ¬ (((k : Nat) : Int) < ((podestaref15_signs.length : Nat) : Int)) by omega)]
    rfl
  | m + 1, k, g :: L, h, hm => by
    obtain ⟨h1, h2, h3⟩ := drop_cons' h
    have hg : g ∈ podestaref15_signs := List.mem_of_getElem? h2
    obtain ⟨p1, p2⟩ := sign_pos g hg
    have hl : podestaref15_signs.length = 23 := rfl
    have hx : ixO podestaref15_signs ((k : Nat) : Int) = some g := by
      unfold ixO
      rw [if_pos (by omega), Int.toNat_natCast]
      exact h2
    have ih := l5_eq s hs i hi m (k + 1) L h3 (by simpa using hm)
    have hgs : g.size = (bl g).length := bl_size g
    rw [podestaref15_Scan_l5, List.length_map, decide_eq_true (show ((k : Nat) : Int) < ((podestaref15_signs.length : Nat) : Int) by omega), hx]
    simp only [beq_self_eq_true, Bool.and_self, cond_true, Option.bind_some]
    rw [show ((i : Nat) : Int) + ((g.size : Nat) : Int) = ((i + g.size : Nat) : Int) by omega, wrapN (by omega), wrapI_succ (by omega), List.map_cons, List.find?_cons]
    by_cases hc : i + g.size ≤ s.size
    · rw [decide_eq_true (show ((i + g.size : Nat) : Int) ≤ ((s.size : Nat) : Int) by omega), subS_eq hc]
      simp only [cond_true, Option.bind_some]
      rw [hgs, prefix_beq]
      cases (bl g).isPrefixOf ((bl s).drop i)
      · exact ih
      · obtain ⟨m, rfl⟩ : ∃ m', m = m' + 1 := ⟨m - 1, by rw [List.length_cons] at hm; omega⟩
        rw [cond_true, l5_stop _ _ _ _ _ (beq_false_of_ne (by omega))]
    · rw [decide_eq_false (show ¬ (((i + g.size : Nat) : Int) ≤ ((s.size : Nat) : Int)) by omega)]
      have : (bl g).isPrefixOf ((bl s).drop i) = false := by
        rw [Bool.eq_false_iff]
        intro e
        have := (List.isPrefixOf_iff_prefix.1 e).length_le
        rw [List.length_drop, ← bl_size, ← bl_size] at this
        omega
      rw [this]
      exact ih
theorem lSign_len {l g : List UInt8} (h : lSign l = some g) : 1 ≤ g.length ∧ g.length ≤ 2 ∧ g <+: l := by
  have h1 := List.find?_some h
  obtain ⟨x, hx, rfl⟩ := List.mem_map.1 (List.mem_of_find?_eq_some h)
  exact ⟨(sign_pos x hx).1, (sign_pos x hx).2, List.isPrefixOf_iff_prefix.1 h1⟩
theorem take_takeWhile {α : Type} (p : α → Bool) (l : List α) : l.take (l.takeWhile p).length = l.takeWhile p := by
  have := List.takeWhile_prefix p (l := l)
  exact (List.prefix_iff_eq_take.1 this).symm
theorem drop_takeWhile {α : Type} (p : α → Bool) : ∀ (l : List α), l.drop (l.takeWhile p).length = l.dropWhile p
  | [] => rfl
  | x :: l => by
    rw [List.takeWhile_cons, List.dropWhile_cons]
    split
    · rw [List.length_cons, List.drop_succ_cons, drop_takeWhile p l]
    · rfl
theorem scan_eq (s : ByteArray) (hs : s.size ≤ 16384) : ∀ (m i : Nat) (l : List UInt8) (out : List Token), (bl s).drop i = l → i ≤ s.size → out.length ≤ i → podestaref15_Scan_l0 20000 20000 20000 20000 20000 s m ((i : Nat) : Int) out = lexT m l i out
  | 0, _, _, _, _, _, _ => rfl
  | m + 1, i, [], out, h, _, _ => by rw [podestaref15_Scan_l0, ge_drop h]; rfl
  | m + 1, i, c :: l', out, h, hi0, ho => by
    have hi := (drop_cons' h).1
    rw [← bl_size] at hi
    have hlen : (c :: l').length = s.size - i := by rw [← h, List.length_drop, ← bl_size]
    have hfit : ∀ (t : Token) (r : Option (Sum (List Token) (List Token × Fault))), fitO (out.length + [t].length) 24 r = r := by
      intro t r
      unfold fitO
      rw [if_pos]
      show (out.length + 1) * 24 ≤ 140737488355328
      omega
    rw [podestaref15_Scan_l0, req_drop h, lt_drop h, byteAt_drop h, lexT, cond_true]
    show (bif lWs c then _ else _) = _
    rcases Bool.eq_false_or_eq_true (lWs c) with hw | hw <;> rw [hw]
    · rw [cond_true, cond_true, wrapI_succ (by omega)]
      exact scan_eq s hs m (i + 1) l' out (drop_cons' h).2.2 (by omega) (by omega)
    rw [cond_false, cond_false]
    rcases Bool.eq_false_or_eq_true (((c.toNat : Nat) : Int) == 35) with h3 | h3 <;> rw [h3]
    · rw [cond_true, cond_true, l1_eq s hs 20000 i (c :: l') h (by omega), Option.bind_some]
      refine scan_eq s hs m _ _ out ?_ ?_ (by omega)
      · rw [← List.drop_drop, h, drop_takeWhile]
      · have := (List.takeWhile_prefix (fun d : UInt8 => ((d.toNat : Nat) : Int) != 10) (l := c :: l')).length_le
        omega
    rw [cond_false, cond_false]
    show (bif lLet c || lDig c then _ else _) = _
    rcases Bool.eq_false_or_eq_true (lLet c || lDig c) with h4 | h4 <;> rw [h4]
    · have hpos : 1 ≤ ((c :: l').takeWhile (lIn c)).length := by
        have : lIn c c = true := by
          unfold lIn
          rcases Bool.eq_false_or_eq_true (lLet c) with h5 | h5 <;> rw [h5] at h4 ⊢ <;> simp_all
        rw [List.takeWhile_cons, if_pos this, List.length_cons]
        omega
      have hle := (List.takeWhile_prefix (lIn c) (l := c :: l')).length_le
      have hne : ((((c :: l').takeWhile (lIn c)).length : Nat) : Int) ≠ 0 := by omega
      have hl2 := l2_eq s hs i c (byteAt_drop h) 20000 0 (c :: l') h (by omega) (by omega)
      rw [Nat.zero_add, show ((0 : Nat) : Int) = 0 from rfl] at hl2
      have hl3 : podestaref15_Scan_l3 s ((i : Nat) : Int) 20000 ((((c :: l').takeWhile (lIn c)).length : Nat) : Int) 0 = some ((((c :: l').takeWhile (lIn c)).length : Nat) : Int) := l3_stop s _ 19999 _ _ (beq_false_of_ne hne)
      have hl4 : podestaref15_Scan_l4 s ((i : Nat) : Int) 20000 ((((c :: l').takeWhile (lIn c)).length : Nat) : Int) 0 = some ((((c :: l').takeWhile (lIn c)).length : Nat) : Int) := l4_stop s _ 19999 _ _ (beq_false_of_ne hne)
      have hsub := subS_eq (s := s) (i := i) (n := ((c :: l').takeWhile (lIn c)).length) (by omega)
      rw [h, take_takeWhile] at hsub
      have hnext := scan_eq s hs m (i + ((c :: l').takeWhile (lIn c)).length) ((c :: l').dropWhile (lIn c)) (out ++ [({ Text := ⟨((c :: l').takeWhile (lIn c)).toArray⟩, At := i } : Token)]) (by rw [← List.drop_drop, h, drop_takeWhile]) (by omega) (by rw [List.length_append, List.length_singleton]; omega)
      rw [cond_true, cond_true, hl2, Option.bind_some, show ((i : Nat) : Int) + ((((c :: l').takeWhile (lIn c)).length : Nat) : Int) = ((i + ((c :: l').takeWhile (lIn c)).length : Nat) : Int) by omega, wrapN (by omega), hsub, Option.bind_some]
      congr 1
      funext x1
      cases x1
      · simp only [Bool.not_false, cond_true]
        congr 1
        funext x2
        cases x2
        · rfl
        · simp only [Bool.not_true, cond_false]
          rw [hl3, Option.bind_some, beq_false_of_ne hne, cond_false, show ((i : Nat) : Int) + ((((c :: l').takeWhile (lIn c)).length : Nat) : Int) = ((i + ((c :: l').takeWhile (lIn c)).length : Nat) : Int) by omega, wrapN (by omega), hsub, Option.bind_some, hfit]
          exact hnext
      · simp only [Bool.not_true, cond_false]
        rw [hl4, Option.bind_some, beq_false_of_ne hne, cond_false, show ((i : Nat) : Int) + ((((c :: l').takeWhile (lIn c)).length : Nat) : Int) = ((i + ((c :: l').takeWhile (lIn c)).length : Nat) : Int) by omega, wrapN (by omega), hsub, Option.bind_some, hfit]
        exact hnext
    · have hsg : (podestaref15_signs.map bl).find? (fun g => g.isPrefixOf ((bl s).drop i)) = lSign (c :: l') := by rw [h]; rfl
      have hl5 := l5_eq s hs i hi0 20000 0 podestaref15_signs rfl (by decide)
      rw [hsg, show ((0 : Nat) : Int) = 0 from rfl] at hl5
      rw [cond_false, cond_false, hl5, Option.bind_some]
      cases hq : lSign (c :: l') with
      | none => rfl
      | some g =>
        obtain ⟨g1, g2, g3⟩ := lSign_len hq
        have hgl := g3.length_le
        have hsub := subS_eq (s := s) (i := i) (n := g.length) (by omega)
        rw [h, ← List.prefix_iff_eq_take.1 g3] at hsub
        simp only
        rw [beq_false_of_ne (show ((g.length : Nat) : Int) ≠ 0 by omega), cond_false, show ((i : Nat) : Int) + ((g.length : Nat) : Int) = ((i + g.length : Nat) : Int) by omega, wrapN (by omega), hsub, Option.bind_some, hfit]
        exact scan_eq s hs m (i + g.length) ((c :: l').drop g.length) _ (by rw [← List.drop_drop, h]) (by omega) (by rw [List.length_append, List.length_singleton]; omega)
theorem Scan_eq (s : ByteArray) (hs : s.size ≤ 16384) : podestaref15_Scan_raw 20000 20000 20000 20000 20000 20000 s = loopO (lexT 20000 (bl s) 0 []) fun v => some (v, ({ E := 0, At := 0 } : Fault)) := by
  rw [podestaref15_Scan_raw, decide_eq_false (show ¬ (((s.size : Nat) : Int) > 16384) by omega), cond_false]
  have := scan_eq s hs 20000 0 (bl s) [] rfl (by omega) (by simp)
  rw [show ((0 : Nat) : Int) = 0 from rfl] at this
  rw [this]

/-! ### The parser on tokens that are told -/
theorem ixO_drop {α : Type} {L r : List α} {I : Nat} {t : α} (h : L.drop I = t :: r) : ixO L ((I : Nat) : Int) = some t := by
  unfold ixO
  rw [if_pos (by omega), Int.toNat_natCast]
  exact (drop_cons' h).2.1
theorem in_drop {L r : List Token} {I : Nat} {t : Token} (h : L.drop I = t :: r) : (decide (((I : Nat) : Int) < (((List.map Token.av L).length : Nat) : Int))) = true := by
  rw [List.length_map]
  exact decide_eq_true (by have := (drop_cons' h).1; omega)
section
variable {L r : List Token} {I : Nat} {t : Token} {E D A : Int}
theorem At_at {F : Fault} (h : L.drop I = t :: r) : podestaref15_Eye_At_raw { L := L, I := ((I : Nat) : Int), End := E, Deep := D, F := F } = some (t.At, { L := L, I := ((I : Nat) : Int), End := E, Deep := D, F := F }) := by
  rw [podestaref15_Eye_At_raw]
  dsimp only
  rw [in_drop h, cond_true, ixO_drop h, Option.bind_some]
theorem See_at (h : L.drop I = t :: r) : podestaref15_Eye_See_raw { L := L, I := ((I : Nat) : Int), End := E, Deep := D, F := ⟨0, A⟩ } = some (t.Text, { L := L, I := ((I : Nat) : Int), End := E, Deep := D, F := ⟨0, A⟩ }) := by
  rw [podestaref15_Eye_See_raw]
  dsimp only
  rw [in_drop h, ixO_drop h, Option.bind_some]
  rfl
theorem Eat_hit {s : ByteArray} (h : L.drop I = t :: r) (hs : t.Text = s) (h0 : (s != (ByteArray.mk #[])) = true) (hI : I < 1000000) : podestaref15_Eye_Eat_raw { L := L, I := ((I : Nat) : Int), End := E, Deep := D, F := ⟨0, A⟩ } s = some (true, { L := L, I := ((I + 1 : Nat) : Int), End := E, Deep := D, F := ⟨0, A⟩ }) := by
  rw [podestaref15_Eye_Eat_raw, See_at h, Option.bind_some]
  dsimp only
  rw [hs, ba_beq, decide_eq_true rfl, h0, wrap_succ (by omega)]
  rfl
theorem Eat_miss {s : ByteArray} (h : L.drop I = t :: r) (hs : (t.Text == s) = false) : podestaref15_Eye_Eat_raw { L := L, I := ((I : Nat) : Int), End := E, Deep := D, F := ⟨0, A⟩ } s = some (false, { L := L, I := ((I : Nat) : Int), End := E, Deep := D, F := ⟨0, A⟩ }) := by
  rw [podestaref15_Eye_Eat_raw, See_at h, Option.bind_some]
  dsimp only
  rw [hs]
  rfl
theorem Must_hit {s : ByteArray} (h : L.drop I = t :: r) (hs : t.Text = s) (h0 : (s != (ByteArray.mk #[])) = true) (hI : I < 1000000) : podestaref15_Eye_Must_raw { L := L, I := ((I : Nat) : Int), End := E, Deep := D, F := ⟨0, A⟩ } s = some { L := L, I := ((I + 1 : Nat) : Int), End := E, Deep := D, F := ⟨0, A⟩ } := by
  rw [podestaref15_Eye_Must_raw, Eat_hit h hs h0 hI]
  rfl
theorem Name_hit (h : L.drop I = t :: r) (hw : podestaref15_Word_raw 10000 t.Text = some true) (ht : podestaref15_Taken t.Text = false) (hI : I < 1000000) : podestaref15_Eye_Name_raw { L := L, I := ((I : Nat) : Int), End := E, Deep := D, F := ⟨0, A⟩ } = some (t.Text, { L := L, I := ((I + 1 : Nat) : Int), End := E, Deep := D, F := ⟨0, A⟩ }) := by
  rw [podestaref15_Eye_Name_raw, See_at h, Option.bind_some]
  dsimp only
  rw [hw, Option.bind_some, ht, wrap_succ (by omega)]
  rfl
theorem Int_hit {n : Int} (h : L.drop I = t :: r) (hd : podestaref15_Digits_raw 10000 t.Text = some true) (hn : podestaref15_Num_raw 10000 t.Text = some n) (hI : I < 1000000) : podestaref15_Eye_Int_raw { L := L, I := ((I : Nat) : Int), End := E, Deep := D, F := ⟨0, A⟩ } = some (n, { L := L, I := ((I + 1 : Nat) : Int), End := E, Deep := D, F := ⟨0, A⟩ }) := by
  rw [podestaref15_Eye_Int_raw, See_at h, Option.bind_some]
  dsimp only
  rw [hd, Option.bind_some]
  rw [Bool.not_true, cond_false, hn, Option.bind_some, wrap_succ (by omega)]
end
/-! ### the text -/
def vname (j : Nat) : List UInt8 := [118, UInt8.ofNat (97 + j / 10), UInt8.ofNat (48 + j % 10)]
def vb (j : Nat) : List UInt8 := [118, 97, 114, 32] ++ vname j ++ [32, 61, 32, 48, 59]
def SB : Nat → List UInt8
  | 0 => []
  | j + 1 => SB j ++ vb j
def vtok (j : Nat) : List Token := [⟨⟨#[118, 97, 114]⟩, ((12 * j : Nat) : Int)⟩, ⟨⟨(vname j).toArray⟩, ((12 * j + 4 : Nat) : Int)⟩, ⟨⟨#[61]⟩, ((12 * j + 8 : Nat) : Int)⟩, ⟨⟨#[48]⟩, ((12 * j + 10 : Nat) : Int)⟩, ⟨⟨#[59]⟩, ((12 * j + 11 : Nat) : Int)⟩]
def VT : Nat → List Token
  | 0 => []
  | j + 1 => VT j ++ vtok j
def vnode (j : Nat) : Node := ⟨2, ⟨(vname j).toArray⟩, 0, [], ((12 * j : Nat) : Int)⟩
def VN : Nat → List Node
  | 0 => []
  | j + 1 => VN j ++ [vnode j]
theorem SB_len : ∀ j, (SB j).length = 12 * j
  | 0 => rfl
  | j + 1 => by rw [SB, List.length_append, SB_len j]; show 12 * j + 12 = _; omega
theorem VT_len : ∀ j, (VT j).length = 5 * j
  | 0 => rfl
  | j + 1 => by rw [VT, List.length_append, VT_len j]; show 5 * j + 5 = _; omega
theorem VN_len : ∀ j, (VN j).length = j
  | 0 => rfl
  | j + 1 => by rw [VN, List.length_append, VN_len j]; rfl
theorem vstr (j : Nat) (hj : j < 67) : strOfNums [(IntKind.u8.wrap (97 + (IntKind.u8.wrap (IntKind.i64.wrap (Int.tdiv ((j : Nat) : Int) 10))))), (IntKind.u8.wrap (48 + (IntKind.u8.wrap (Int.tmod ((j : Nat) : Int) 10))))] = ⟨#[UInt8.ofNat (97 + j / 10), UInt8.ofNat (48 + j % 10)]⟩ := by
  have h : (List.range 67).all (fun j => decide (strOfNums [(IntKind.u8.wrap (97 + (IntKind.u8.wrap (IntKind.i64.wrap (Int.tdiv ((j : Nat) : Int) 10))))), (IntKind.u8.wrap (48 + (IntKind.u8.wrap (Int.tmod ((j : Nat) : Int) 10))))] = ⟨#[UInt8.ofNat (97 + j / 10), UInt8.ofNat (48 + j % 10)]⟩)) = true := by kernel_rfl
  exact of_decide_eq_true (List.all_eq_true.1 h j (List.mem_range.2 hj))
theorem upto67 (P : Nat → Prop) (h0 : P 0) (h1 : P 1) (h2 : P 2) (h3 : P 3) (h4 : P 4) (h5 : P 5) (h6 : P 6) (h7 : P 7) (h8 : P 8) (h9 : P 9) (h10 : P 10) (h11 : P 11) (h12 : P 12) (h13 : P 13) (h14 : P 14) (h15 : P 15) (h16 : P 16) (h17 : P 17) (h18 : P 18) (h19 : P 19) (h20 : P 20) (h21 : P 21) (h22 : P 22) (h23 : P 23) (h24 : P 24) (h25 : P 25) (h26 : P 26) (h27 : P 27) (h28 : P 28) (h29 : P 29) (h30 : P 30) (h31 : P 31) (h32 : P 32) (h33 : P 33) (h34 : P 34) (h35 : P 35) (h36 : P 36) (h37 : P 37) (h38 : P 38) (h39 : P 39) (h40 : P 40) (h41 : P 41) (h42 : P 42) (h43 : P 43) (h44 : P 44) (h45 : P 45) (h46 : P 46) (h47 : P 47) (h48 : P 48) (h49 : P 49) (h50 : P 50) (h51 : P 51) (h52 : P 52) (h53 : P 53) (h54 : P 54) (h55 : P 55) (h56 : P 56) (h57 : P 57) (h58 : P 58) (h59 : P 59) (h60 : P 60) (h61 : P 61) (h62 : P 62) (h63 : P 63) (h64 : P 64) (h65 : P 65) (h66 : P 66) : ∀ j, j < 67 → P j
  | 0, _ => h0
  | 1, _ => h1
  | 2, _ => h2
  | 3, _ => h3
  | 4, _ => h4
  | 5, _ => h5
  | 6, _ => h6
  | 7, _ => h7
  | 8, _ => h8
  | 9, _ => h9
  | 10, _ => h10
  | 11, _ => h11
  | 12, _ => h12
  | 13, _ => h13
  | 14, _ => h14
  | 15, _ => h15
  | 16, _ => h16
  | 17, _ => h17
  | 18, _ => h18
  | 19, _ => h19
  | 20, _ => h20
  | 21, _ => h21
  | 22, _ => h22
  | 23, _ => h23
  | 24, _ => h24
  | 25, _ => h25
  | 26, _ => h26
  | 27, _ => h27
  | 28, _ => h28
  | 29, _ => h29
  | 30, _ => h30
  | 31, _ => h31
  | 32, _ => h32
  | 33, _ => h33
  | 34, _ => h34
  | 35, _ => h35
  | 36, _ => h36
  | 37, _ => h37
  | 38, _ => h38
  | 39, _ => h39
  | 40, _ => h40
  | 41, _ => h41
  | 42, _ => h42
  | 43, _ => h43
  | 44, _ => h44
  | 45, _ => h45
  | 46, _ => h46
  | 47, _ => h47
  | 48, _ => h48
  | 49, _ => h49
  | 50, _ => h50
  | 51, _ => h51
  | 52, _ => h52
  | 53, _ => h53
  | 54, _ => h54
  | 55, _ => h55
  | 56, _ => h56
  | 57, _ => h57
  | 58, _ => h58
  | 59, _ => h59
  | 60, _ => h60
  | 61, _ => h61
  | 62, _ => h62
  | 63, _ => h63
  | 64, _ => h64
  | 65, _ => h65
  | 66, _ => h66
  | n + 67, h => absurd h (by omega)
theorem vlex0 (m : Nat) (rest : List UInt8) (out : List Token) : ∀ (j : Nat), j < 67 → lexT (m + 8) (vb j ++ rest) (12 * j) out = lexT m rest (12 * (j + 1)) (((((out ++ [⟨⟨#[118, 97, 114]⟩, ((12 * j : Nat) : Int)⟩]) ++ [⟨⟨(vname j).toArray⟩, ((12 * j + 4 : Nat) : Int)⟩]) ++ [⟨⟨#[61]⟩, ((12 * j + 8 : Nat) : Int)⟩]) ++ [⟨⟨#[48]⟩, ((12 * j + 10 : Nat) : Int)⟩]) ++ [⟨⟨#[59]⟩, ((12 * j + 11 : Nat) : Int)⟩]) :=
  upto67 _ (by kernel_rfl) (by kernel_rfl) (by kernel_rfl) (by kernel_rfl) (by kernel_rfl) (by kernel_rfl) (by kernel_rfl) (by kernel_rfl) (by kernel_rfl) (by kernel_rfl) (by kernel_rfl) (by kernel_rfl) (by kernel_rfl) (by kernel_rfl) (by kernel_rfl) (by kernel_rfl) (by kernel_rfl) (by kernel_rfl) (by kernel_rfl) (by kernel_rfl) (by kernel_rfl) (by kernel_rfl) (by kernel_rfl) (by kernel_rfl) (by kernel_rfl) (by kernel_rfl) (by kernel_rfl) (by kernel_rfl) (by kernel_rfl) (by kernel_rfl) (by kernel_rfl) (by kernel_rfl) (by kernel_rfl) (by kernel_rfl) (by kernel_rfl) (by kernel_rfl) (by kernel_rfl) (by kernel_rfl) (by kernel_rfl) (by kernel_rfl) (by kernel_rfl) (by kernel_rfl) (by kernel_rfl) (by kernel_rfl) (by kernel_rfl) (by kernel_rfl) (by kernel_rfl) (by kernel_rfl) (by kernel_rfl) (by kernel_rfl) (by kernel_rfl) (by kernel_rfl) (by kernel_rfl) (by kernel_rfl) (by kernel_rfl) (by kernel_rfl) (by kernel_rfl) (by kernel_rfl) (by kernel_rfl) (by kernel_rfl) (by kernel_rfl) (by kernel_rfl) (by kernel_rfl) (by kernel_rfl) (by kernel_rfl) (by kernel_rfl) (by kernel_rfl)
theorem vlex (m : Nat) (rest : List UInt8) (out : List Token) (j : Nat) (hj : j < 67) : lexT (m + 8) (vb j ++ rest) (12 * j) out = lexT m rest (12 * (j + 1)) (out ++ vtok j) := by
  rw [vlex0 m rest out j hj]
  simp [vtok]
theorem ba_app (l r : List UInt8) : (⟨l.toArray⟩ : ByteArray) ++ (⟨r.toArray⟩ : ByteArray) = ⟨(l ++ r).toArray⟩ := by
  apply ByteArray.ext
  rw [ByteArray.data_append]
  simp
theorem ba_sz (l : List UInt8) : (⟨l.toArray⟩ : ByteArray).size = l.length := by
  rw [bl_size]
theorem fit_ok {α : Type} {n b : Nat} (h : n * b ≤ 140737488355328) (r : Option α) : fitO n b r = r := by
  unfold fitO
  rw [if_pos h]
theorem build (v : Nat) (hv : v ≤ 67) (a : Int) : ∀ (k j m : Nat), j + k = v → k < m → podestalaw17_CheckMany_l0 ((v : Nat) : Int) a m ⟨(SB j).toArray⟩ ((j : Nat) : Int) = some (((v : Nat) : Int), a, ⟨(SB v).toArray⟩)
  | _, _, 0, _, h => by omega
  | 0, j, m + 1, hj, _ => by
    have : j = v := by omega
    subst this
    rw [podestalaw17_CheckMany_l0, decide_eq_false (by omega), cond_false]
  | k + 1, j, m + 1, hj, hm => by
    rw [podestalaw17_CheckMany_l0, decide_eq_true (by omega), cond_true, vstr j (by omega)]
    rw [show (ByteArray.mk #[118, 97, 114, 32, 118]) = ⟨[118, 97, 114, 32, 118].toArray⟩ from rfl, show (⟨#[UInt8.ofNat (97 + j / 10), UInt8.ofNat (48 + j % 10)]⟩ : ByteArray) = ⟨[UInt8.ofNat (97 + j / 10), UInt8.ofNat (48 + j % 10)].toArray⟩ from rfl, show (ByteArray.mk #[32, 61, 32, 48, 59]) = ⟨[32, 61, 32, 48, 59].toArray⟩ from rfl]
    rw [ba_app, ba_app, ba_app, ba_sz, ba_sz, ba_sz, ba_sz, ba_sz, ba_sz]
    rw [fit_ok (by simp only [List.length_cons, List.length_nil, SB_len]; omega), fit_ok (by simp only [List.length_append, List.length_cons, List.length_nil, SB_len]; omega), fit_ok (by simp only [List.length_append, List.length_cons, List.length_nil, SB_len]; omega), wrap_succ (by omega)]
    have hs : SB j ++ [118, 97, 114, 32, 118] ++ [UInt8.ofNat (97 + j / 10), UInt8.ofNat (48 + j % 10)] ++ [32, 61, 32, 48, 59] = SB (j + 1) := by simp [SB, vb, vname]
    rw [hs]
    exact build v hv a k (j + 1) m (by omega) (by omega)
def TA : Nat → List UInt8
  | 0 => []
  | k + 1 => TA k ++ (bif k == 0 then [116, 101, 108, 108] else [44, 32, 116, 101, 108, 108])
theorem TA_len : ∀ k, (TA k).length ≤ 6 * k
  | 0 => Nat.le_refl _
  | k + 1 => by
    have := TA_len k
    rw [TA, List.length_append]
    cases k == 0 <;> simp <;> omega
theorem build1 (v1 : Int × Int × ByteArray) (at_ wh : Int) (a : Nat) (ha : a ≤ 10) (hv : v1.2.1 = ((a : Nat) : Int)) (X : List UInt8) (hX : X.length ≤ 1000) : ∀ (k i m : Nat), i + k = a → k < m → podestalaw17_CheckMany_l1 v1 at_ wh m ⟨(X ++ TA i).toArray⟩ ((i : Nat) : Int) = some (⟨(X ++ TA a).toArray⟩, at_, wh)
  | _, _, 0, _, h => by omega
  | 0, i, m + 1, hi, _ => by
    have : i = a := by omega
    subst this
    rw [podestalaw17_CheckMany_l1, hv, decide_eq_false (by omega), cond_false]
  | k + 1, i, m + 1, hi, hm => by
    have ih := build1 v1 at_ wh a ha hv X hX k (i + 1) m (by omega) (by omega)
    have hT := TA_len i
    rw [podestalaw17_CheckMany_l1, hv, decide_eq_true (by omega), cond_true]
    rw [show (ByteArray.mk #[44, 32]) = ⟨[44, 32].toArray⟩ from rfl, show (ByteArray.mk #[116, 101, 108, 108]) = ⟨[116, 101, 108, 108].toArray⟩ from rfl]
    rw [ba_app, ba_app, ba_app, ba_sz, ba_sz, ba_sz, ba_sz, wrap_succ (by omega)]
    rw [fit_ok (by simp only [List.length_append, List.length_cons, List.length_nil]; omega), fit_ok (by simp only [List.length_append, List.length_cons, List.length_nil]; omega), fit_ok (by simp only [List.length_append, List.length_cons, List.length_nil]; omega)]
    cases i with
    | zero =>
      rw [decide_eq_false (by omega), cond_false]
      have : X ++ TA 0 ++ [116, 101, 108, 108] = X ++ TA (0 + 1) := by simp [TA]
      rw [this]
      exact ih
    | succ i =>
      rw [decide_eq_true (by omega), cond_true]
      have : X ++ TA (i + 1) ++ [44, 32] ++ [116, 101, 108, 108] = X ++ TA (i + 1 + 1) := by
        rw [show TA (i + 1 + 1) = TA (i + 1) ++ [44, 32, 116, 101, 108, 108] from rfl]
        simp
      rw [this]
      exact ih
theorem lexvar : ∀ (v m : Nat) (rest : List UInt8), v ≤ 67 → lexT (m + 8 * v) (SB v ++ rest) 0 [] = lexT m rest (12 * v) (VT v)
  | 0, m, rest, _ => rfl
  | v + 1, m, rest, hv => by
    rw [SB, List.append_assoc, show m + 8 * (v + 1) = (m + 8) + 8 * v by omega, lexvar v (m + 8) (vb v ++ rest) (by omega), vlex m rest (VT v) v (by omega), VT]
theorem VT_drop : ∀ (v j : Nat) (R : List Token), j < v → ∃ R', (VT v ++ R).drop (5 * j) = vtok j ++ R'
  | 0, j, R, h => by omega
  | v + 1, j, R, h => by
    rw [VT, List.append_assoc]
    rcases Nat.lt_or_ge j v with hj | hj
    · exact VT_drop v j (vtok v ++ R) hj
    · have : j = v := by omega
      subst this
      refine ⟨R, ?_⟩
      rw [← VT_len j, List.drop_left]
theorem vname_ok (j : Nat) (hj : j < 67) : podestaref15_Word_raw 10000 ⟨(vname j).toArray⟩ = some true ∧ podestaref15_Taken ⟨(vname j).toArray⟩ = false := by
  have h : (List.range 67).all (fun j => decide (podestaref15_Word_raw 10000 ⟨(vname j).toArray⟩ = some true) && decide (podestaref15_Taken ⟨(vname j).toArray⟩ = false)) = true := by kernel_rfl
  have := List.all_eq_true.1 h j (List.mem_range.2 hj)
  rw [Bool.and_eq_true, decide_eq_true_eq, decide_eq_true_eq] at this
  exact this
theorem pvar (x : (List Token) × Fault) (L : List Token) (hx : x.1 = L) (hL : L.length ≤ 1000) (j : Nat) (hj : j < 67) (R' : List Token) (hd : L.drop (5 * j) = vtok j ++ R') (m : Nat) (E A : Int) (o5 : List Node) (ho : o5.length ≤ 1000) :
    podestaref15_Parse_l0 x (m + 1) L ((5 * j : Nat) : Int) E 0 0 A o5 = podestaref15_Parse_l0 x m L ((5 * (j + 1) : Nat) : Int) E 0 0 A (o5 ++ [vnode j]) := by
  obtain ⟨w1, w2⟩ := vname_ok j hj
  have d0 : L.drop (5 * j) = _ :: _ := hd
  have d1 := (drop_cons' d0).2.2
  have d1 : L.drop (5 * j + 1) = _ :: _ := d1
  have d2 := (drop_cons' d1).2.2
  have d2 : L.drop (5 * j + 1 + 1) = _ :: _ := d2
  have d3 := (drop_cons' d2).2.2
  have d3 : L.drop (5 * j + 1 + 1 + 1) = _ :: _ := d3
  have d4 := (drop_cons' d3).2.2
  have d4 : L.drop (5 * j + 1 + 1 + 1 + 1) = _ :: _ := d4
  rw [podestaref15_Parse_l0]
  rw [hx, in_drop d0, At_at d0]
  simp only [beq_self_eq_true, Bool.and_self, cond_true, Option.bind_some]
  rw [Eat_hit d0 rfl (by kernel_rfl) (by omega)]
  simp only [Option.bind_some, cond_true]
  rw [Name_hit d1 w1 w2 (by omega), Option.bind_some]
  dsimp only
  rw [Must_hit d2 rfl (by kernel_rfl) (by omega), Option.bind_some, Eat_miss d3 (by kernel_rfl), Option.bind_some]
  dsimp only
  rw [Int_hit (n := 0) d3 (by kernel_rfl) (by kernel_rfl) (by omega), Option.bind_some]
  dsimp only
  rw [cond_false, Must_hit d4 rfl (by kernel_rfl) (by omega), Option.bind_some]
  dsimp only
  rw [fit_ok (by rw [List.length_singleton]; omega)]
  rfl
theorem pvars (x : (List Token) × Fault) (v : Nat) (hv : v ≤ 67) (R : List Token) (hx : x.1 = VT v ++ R) (hR : R.length ≤ 100) (E A : Int) : ∀ (k j m : Nat), j + k = v → podestaref15_Parse_l0 x (m + k) (VT v ++ R) ((5 * j : Nat) : Int) E 0 0 A (VN j) = podestaref15_Parse_l0 x m (VT v ++ R) ((5 * v : Nat) : Int) E 0 0 A (VN v)
  | 0, j, m, h => by
    have : j = v := by omega
    subst this
    rfl
  | k + 1, j, m, h => by
    obtain ⟨R', hd⟩ := VT_drop v j R (by omega)
    rw [show m + (k + 1) = (m + k) + 1 by omega, pvar x (VT v ++ R) hx (by rw [List.length_append, VT_len]; omega) j (by omega) R' hd (m + k) E A (VN j) (by rw [VN_len]; omega)]
    exact pvars x v hv R hx hR E A k (j + 1) m (by omega)
/-! ### the tail -/
def HB : List UInt8 := [111, 110, 32, 116, 105, 99, 107, 32, 123, 32, 109, 111, 100, 32, 48, 32, 91, 93, 32, 100, 111, 32]
def TT (p : Nat) : Nat → List Token
  | 0 => []
  | k + 1 => TT p k ++ (bif k == 0 then [] else [⟨⟨#[44]⟩, ((p + 20 + 6 * k : Nat) : Int)⟩]) ++ [⟨⟨#[116, 101, 108, 108]⟩, ((p + 22 + 6 * k : Nat) : Int)⟩]
def TL (p a : Nat) : List Token := [⟨⟨#[111, 110]⟩, ((p : Nat) : Int)⟩, ⟨⟨#[116, 105, 99, 107]⟩, ((p + 3 : Nat) : Int)⟩, ⟨⟨#[123]⟩, ((p + 8 : Nat) : Int)⟩, ⟨⟨#[109, 111, 100]⟩, ((p + 10 : Nat) : Int)⟩, ⟨⟨#[48]⟩, ((p + 14 : Nat) : Int)⟩, ⟨⟨#[91]⟩, ((p + 16 : Nat) : Int)⟩, ⟨⟨#[93]⟩, ((p + 17 : Nat) : Int)⟩, ⟨⟨#[100, 111]⟩, ((p + 19 : Nat) : Int)⟩] ++ TT p a ++ [⟨⟨#[59]⟩, ((p + 20 + 6 * a : Nat) : Int)⟩, ⟨⟨#[125]⟩, ((p + 22 + 6 * a : Nat) : Int)⟩]
def AN (p : Nat) : Nat → List Node
  | 0 => []
  | k + 1 => AN p k ++ [⟨17, ⟨#[]⟩, 0, [], ((p + 22 + 6 * k : Nat) : Int)⟩]
def ON (p a : Nat) : Node := ⟨3, ⟨#[116, 105, 99, 107]⟩, 0, [⟨10, ⟨#[]⟩, 0, [⟨18, ⟨#[]⟩, 0, [], ((p + 14 : Nat) : Int)⟩, ⟨12, ⟨#[]⟩, 0, [], ((p + 16 : Nat) : Int)⟩, ⟨14, ⟨#[]⟩, 0, AN p a, ((p + 22 : Nat) : Int)⟩], ((p + 10 : Nat) : Int)⟩], ((p : Nat) : Int)⟩
theorem foldl_app {α : Type} : ∀ (l o : List α), l.foldl (fun o t => o ++ [t]) o = o ++ l
  | [], o => by simp
  | t :: l, o => by rw [List.foldl_cons, foldl_app l]; simp
theorem upto8 (P : Nat → Prop) (h0 : P 0) (h1 : P 1) (h2 : P 2) (h3 : P 3) (h4 : P 4) (h5 : P 5) (h6 : P 6) (h7 : P 7) : ∀ j, j < 8 → P j
  | 0, _ => h0
  | 1, _ => h1
  | 2, _ => h2
  | 3, _ => h3
  | 4, _ => h4
  | 5, _ => h5
  | 6, _ => h6
  | 7, _ => h7
  | n + 8, h => absurd h (by omega)
theorem upto10 (P : Nat → Prop) (h0 : P 0) (h1 : P 1) (h2 : P 2) (h3 : P 3) (h4 : P 4) (h5 : P 5) (h6 : P 6) (h7 : P 7) (h8 : P 8) (h9 : P 9) : ∀ j, j < 10 → P j
  | 0, _ => h0
  | 1, _ => h1
  | 2, _ => h2
  | 3, _ => h3
  | 4, _ => h4
  | 5, _ => h5
  | 6, _ => h6
  | 7, _ => h7
  | 8, _ => h8
  | 9, _ => h9
  | n + 10, h => absurd h (by omega)
theorem lextail (m : Nat) (out : List Token) : ∀ (i : Nat), i < 8 → ∀ (k : Nat), k < 10 → lexT (m + 64) (HB ++ (TA (k + 1) ++ [59, 32, 125])) (12 * (60 + i)) out = some (.inl ((TL (12 * (60 + i)) (k + 1)).foldl (fun o t => o ++ [t]) out)) :=
  upto8 _ (upto10 _ (by kernel_rfl) (by kernel_rfl) (by kernel_rfl) (by kernel_rfl) (by kernel_rfl) (by kernel_rfl) (by kernel_rfl) (by kernel_rfl) (by kernel_rfl) (by kernel_rfl)) (upto10 _ (by kernel_rfl) (by kernel_rfl) (by kernel_rfl) (by kernel_rfl) (by kernel_rfl) (by kernel_rfl) (by kernel_rfl) (by kernel_rfl) (by kernel_rfl) (by kernel_rfl)) (upto10 _ (by kernel_rfl) (by kernel_rfl) (by kernel_rfl) (by kernel_rfl) (by kernel_rfl) (by kernel_rfl) (by kernel_rfl) (by kernel_rfl) (by kernel_rfl) (by kernel_rfl)) (upto10 _ (by kernel_rfl) (by kernel_rfl) (by kernel_rfl) (by kernel_rfl) (by kernel_rfl) (by kernel_rfl) (by kernel_rfl) (by kernel_rfl) (by kernel_rfl) (by kernel_rfl)) (upto10 _ (by kernel_rfl) (by kernel_rfl) (by kernel_rfl) (by kernel_rfl) (by kernel_rfl) (by kernel_rfl) (by kernel_rfl) (by kernel_rfl) (by kernel_rfl) (by kernel_rfl)) (upto10 _ (by kernel_rfl) (by kernel_rfl) (by kernel_rfl) (by kernel_rfl) (by kernel_rfl) (by kernel_rfl) (by kernel_rfl) (by kernel_rfl) (by kernel_rfl) (by kernel_rfl)) (upto10 _ (by kernel_rfl) (by kernel_rfl) (by kernel_rfl) (by kernel_rfl) (by kernel_rfl) (by kernel_rfl) (by kernel_rfl) (by kernel_rfl) (by kernel_rfl) (by kernel_rfl)) (upto10 _ (by kernel_rfl) (by kernel_rfl) (by kernel_rfl) (by kernel_rfl) (by kernel_rfl) (by kernel_rfl) (by kernel_rfl) (by kernel_rfl) (by kernel_rfl) (by kernel_rfl))
def want (v k : Nat) : Fault := bif decide (v > 64) then ⟨13, 768⟩ else bif decide (k + 1 > 8) then ⟨3, ((12 * v + 22 : Nat) : Int)⟩ else ⟨0, 0⟩
def PTs (v : Nat) : Prop := ∀ (m k : Nat), k < 10 → podestaref15_Parse_l0 (VT v ++ TL (12 * v) (k + 1), ⟨0, 0⟩) (m + 2) (VT v ++ TL (12 * v) (k + 1)) ((5 * v : Nat) : Int) (((12 * v + 23 + 6 * (k + 1) : Nat) : Nat) : Int) 0 0 0 (VN v) = some (VT v ++ TL (12 * v) (k + 1), (((VT v ++ TL (12 * v) (k + 1)).length : Nat) : Int), (((12 * v + 23 + 6 * (k + 1) : Nat) : Nat) : Int), 0, 0, 0, VN v ++ [ON (12 * v) (k + 1)])
def CTs (v : Nat) : Prop := ∀ (k : Nat), k < 10 → check_Check_raw ⟨1, ⟨#[]⟩, 0, VN v ++ [ON (12 * v) (k + 1)], 0⟩ = some (want v k)

end Go.Proofs.Ytinmkhkehfjcaaa

set_option linter.unusedVariables false
set_option linter.unusedSimpArgs false
set_option maxRecDepth 100000
set_option maxHeartbeats 4000000
namespace Go.Proofs.Ytinmkhkehfjcaaa
open Go.Sh
theorem pt0 : PTs 60 := fun m => upto10 _ (by kernel_rfl) (by kernel_rfl) (by kernel_rfl) (by kernel_rfl) (by kernel_rfl) (by kernel_rfl) (by kernel_rfl) (by kernel_rfl) (by kernel_rfl) (by kernel_rfl)
theorem ct0 : CTs 60 := upto10 _ (by kernel_rfl) (by kernel_rfl) (by kernel_rfl) (by kernel_rfl) (by kernel_rfl) (by kernel_rfl) (by kernel_rfl) (by kernel_rfl) (by kernel_rfl) (by kernel_rfl)

end Go.Proofs.Ytinmkhkehfjcaaa

set_option linter.unusedVariables false
set_option linter.unusedSimpArgs false
set_option maxRecDepth 100000
set_option maxHeartbeats 4000000
namespace Go.Proofs.Ytinmkhkehfjcaaa
open Go.Sh
theorem pt1 : PTs 61 := fun m => upto10 _ (by kernel_rfl) (by kernel_rfl) (by kernel_rfl) (by kernel_rfl) (by kernel_rfl) (by kernel_rfl) (by kernel_rfl) (by kernel_rfl) (by kernel_rfl) (by kernel_rfl)
theorem ct1 : CTs 61 := upto10 _ (by kernel_rfl) (by kernel_rfl) (by kernel_rfl) (by kernel_rfl) (by kernel_rfl) (by kernel_rfl) (by kernel_rfl) (by kernel_rfl) (by kernel_rfl) (by kernel_rfl)

end Go.Proofs.Ytinmkhkehfjcaaa

set_option linter.unusedVariables false
set_option linter.unusedSimpArgs false
set_option maxRecDepth 100000
set_option maxHeartbeats 4000000
namespace Go.Proofs.Ytinmkhkehfjcaaa
open Go.Sh
theorem pt2 : PTs 62 := fun m => upto10 _ (by kernel_rfl) (by kernel_rfl) (by kernel_rfl) (by kernel_rfl) (by kernel_rfl) (by kernel_rfl) (by kernel_rfl) (by kernel_rfl) (by kernel_rfl) (by kernel_rfl)
theorem ct2 : CTs 62 := upto10 _ (by kernel_rfl) (by kernel_rfl) (by kernel_rfl) (by kernel_rfl) (by kernel_rfl) (by kernel_rfl) (by kernel_rfl) (by kernel_rfl) (by kernel_rfl) (by kernel_rfl)

end Go.Proofs.Ytinmkhkehfjcaaa

set_option linter.unusedVariables false
set_option linter.unusedSimpArgs false
set_option maxRecDepth 100000
set_option maxHeartbeats 4000000
namespace Go.Proofs.Ytinmkhkehfjcaaa
open Go.Sh
theorem pt3 : PTs 63 := fun m => upto10 _ (by kernel_rfl) (by kernel_rfl) (by kernel_rfl) (by kernel_rfl) (by kernel_rfl) (by kernel_rfl) (by kernel_rfl) (by kernel_rfl) (by kernel_rfl) (by kernel_rfl)
theorem ct3 : CTs 63 := upto10 _ (by kernel_rfl) (by kernel_rfl) (by kernel_rfl) (by kernel_rfl) (by kernel_rfl) (by kernel_rfl) (by kernel_rfl) (by kernel_rfl) (by kernel_rfl) (by kernel_rfl)

end Go.Proofs.Ytinmkhkehfjcaaa

set_option linter.unusedVariables false
set_option linter.unusedSimpArgs false
set_option maxRecDepth 100000
set_option maxHeartbeats 4000000
namespace Go.Proofs.Ytinmkhkehfjcaaa
open Go.Sh
theorem pt4 : PTs 64 := fun m => upto10 _ (by kernel_rfl) (by kernel_rfl) (by kernel_rfl) (by kernel_rfl) (by kernel_rfl) (by kernel_rfl) (by kernel_rfl) (by kernel_rfl) (by kernel_rfl) (by kernel_rfl)
theorem ct4 : CTs 64 := upto10 _ (by kernel_rfl) (by kernel_rfl) (by kernel_rfl) (by kernel_rfl) (by kernel_rfl) (by kernel_rfl) (by kernel_rfl) (by kernel_rfl) (by kernel_rfl) (by kernel_rfl)

end Go.Proofs.Ytinmkhkehfjcaaa

set_option linter.unusedVariables false
set_option linter.unusedSimpArgs false
set_option maxRecDepth 100000
set_option maxHeartbeats 4000000
namespace Go.Proofs.Ytinmkhkehfjcaaa
open Go.Sh
theorem pt5 : PTs 65 := fun m => upto10 _ (by kernel_rfl) (by kernel_rfl) (by kernel_rfl) (by kernel_rfl) (by kernel_rfl) (by kernel_rfl) (by kernel_rfl) (by kernel_rfl) (by kernel_rfl) (by kernel_rfl)
theorem ct5 : CTs 65 := upto10 _ (by kernel_rfl) (by kernel_rfl) (by kernel_rfl) (by kernel_rfl) (by kernel_rfl) (by kernel_rfl) (by kernel_rfl) (by kernel_rfl) (by kernel_rfl) (by kernel_rfl)

end Go.Proofs.Ytinmkhkehfjcaaa

set_option linter.unusedVariables false
set_option linter.unusedSimpArgs false
set_option maxRecDepth 100000
set_option maxHeartbeats 4000000
namespace Go.Proofs.Ytinmkhkehfjcaaa
open Go.Sh
theorem pt6 : PTs 66 := fun m => upto10 _ (by kernel_rfl) (by kernel_rfl) (by kernel_rfl) (by kernel_rfl) (by kernel_rfl) (by kernel_rfl) (by kernel_rfl) (by kernel_rfl) (by kernel_rfl) (by kernel_rfl)
theorem ct6 : CTs 66 := upto10 _ (by kernel_rfl) (by kernel_rfl) (by kernel_rfl) (by kernel_rfl) (by kernel_rfl) (by kernel_rfl) (by kernel_rfl) (by kernel_rfl) (by kernel_rfl) (by kernel_rfl)

end Go.Proofs.Ytinmkhkehfjcaaa

set_option linter.unusedVariables false
set_option linter.unusedSimpArgs false
set_option maxRecDepth 100000
set_option maxHeartbeats 4000000
namespace Go.Proofs.Ytinmkhkehfjcaaa
open Go.Sh
theorem pt7 : PTs 67 := fun m => upto10 _ (by kernel_rfl) (by kernel_rfl) (by kernel_rfl) (by kernel_rfl) (by kernel_rfl) (by kernel_rfl) (by kernel_rfl) (by kernel_rfl) (by kernel_rfl) (by kernel_rfl)
theorem ct7 : CTs 67 := upto10 _ (by kernel_rfl) (by kernel_rfl) (by kernel_rfl) (by kernel_rfl) (by kernel_rfl) (by kernel_rfl) (by kernel_rfl) (by kernel_rfl) (by kernel_rfl) (by kernel_rfl)

end Go.Proofs.Ytinmkhkehfjcaaa

set_option linter.unusedVariables false
set_option linter.unusedSimpArgs false
set_option maxRecDepth 100000
set_option maxHeartbeats 4000000
namespace Go.Proofs.Ytinmkhkehfjcaaa
open Go.Sh
theorem pts : ∀ (i : Nat), i < 8 → PTs (60 + i) := upto8 _ pt0 pt1 pt2 pt3 pt4 pt5 pt6 pt7
theorem cts : ∀ (i : Nat), i < 8 → CTs (60 + i) := upto8 _ ct0 ct1 ct2 ct3 ct4 ct5 ct6 ct7
theorem TA_len' : ∀ (k : Nat), k < 10 → (TA (k + 1)).length + 2 = 6 * (k + 1) := upto10 _ rfl rfl rfl rfl rfl rfl rfl rfl rfl rfl
theorem TL_len' (p : Nat) : ∀ (k : Nat), k < 10 → (TL p (k + 1)).length ≤ 100 := upto10 _ (by simp [TL, TT]) (by simp [TL, TT]) (by simp [TL, TT]) (by simp [TL, TT]) (by simp [TL, TT]) (by simp [TL, TT]) (by simp [TL, TT]) (by simp [TL, TT]) (by simp [TL, TT]) (by simp [TL, TT])
theorem parse_va (i k : Nat) (hi : i < 8) (hk : k < 10) : podestaref15_Parse_raw 1000 ⟨(SB (60 + i) ++ HB ++ TA (k + 1) ++ [59, 32, 125]).toArray⟩ = some (⟨1, ⟨#[]⟩, 0, VN (60 + i) ++ [ON (12 * (60 + i)) (k + 1)], 0⟩, ⟨0, 0⟩) := by
  have hlen : (SB (60 + i) ++ HB ++ TA (k + 1) ++ [59, 32, 125]).length = 12 * (60 + i) + 23 + 6 * (k + 1) := by
    have := TA_len' k hk
    simp only [List.length_append, SB_len, List.length_cons, List.length_nil]
    have hH : HB.length = 22 := rfl
    omega
  have hscan : podestaref15_Scan_raw 20000 20000 20000 20000 20000 20000 ⟨(SB (60 + i) ++ HB ++ TA (k + 1) ++ [59, 32, 125]).toArray⟩ = some (VT (60 + i) ++ TL (12 * (60 + i)) (k + 1), ⟨0, 0⟩) := by
    rw [Scan_eq _ (by rw [ba_sz, hlen]; omega)]
    have hb : bl ⟨(SB (60 + i) ++ HB ++ TA (k + 1) ++ [59, 32, 125]).toArray⟩ = SB (60 + i) ++ (HB ++ (TA (k + 1) ++ [59, 32, 125])) := by
      show (SB (60 + i) ++ HB ++ TA (k + 1) ++ [59, 32, 125]).toArray.toList = _
      simp only [List.toList_toArray, List.append_assoc]
    rw [hb, show (20000 : Nat) = (20000 - 8 * (60 + i)) + 8 * (60 + i) by omega, lexvar (60 + i) _ _ (by omega), show 20000 - 8 * (60 + i) = (20000 - 8 * (60 + i) - 64) + 64 by omega, lextail _ _ i hi k hk, foldl_app]
    rfl
  rw [podestaref15_Parse_raw, hscan, Option.bind_some]
  have h0 : ((⟨0, 0⟩ : Fault).E != 0) = false := rfl
  dsimp only at h0 ⊢
  rw [h0, cond_false, ba_sz, hlen]
  have h1 := pvars (VT (60 + i) ++ TL (12 * (60 + i)) (k + 1), ⟨0, 0⟩) (60 + i) (by omega) (TL (12 * (60 + i)) (k + 1)) rfl (TL_len' _ k hk) (((12 * (60 + i) + 23 + 6 * (k + 1) : Nat) : Nat) : Int) 0 (60 + i) 0 (1000 - (60 + i)) (by omega)
  rw [show 1000 - (60 + i) + (60 + i) = 1000 by omega] at h1
  have h2 := pts i hi (1000 - (60 + i) - 2) k hk
  rw [show 1000 - (60 + i) - 2 + 2 = 1000 - (60 + i) by omega] at h2
  have h3 := h1.trans h2
  have h3 : podestaref15_Parse_l0 (VT (60 + i) ++ TL (12 * (60 + i)) (k + 1), ⟨0, 0⟩) 1000 (VT (60 + i) ++ TL (12 * (60 + i)) (k + 1)) 0 (((12 * (60 + i) + 23 + 6 * (k + 1) : Nat) : Nat) : Int) 0 0 0 [] = _ := h3
  rw [h3, Option.bind_some]
  rfl
theorem many_at (i k : Nat) (hi : i < 8) (hk : k < 10) (x y : Int) (hx : IntKind.i64.wrap (60 + (IntKind.i64.wrap (Int.tmod x 8))) = ((60 + i : Nat) : Int)) (hy : IntKind.i64.wrap (1 + (IntKind.i64.wrap (Int.tmod y 10))) = ((k + 1 : Nat) : Int)) : podestalaw17_CheckMany_raw 100 100 x y = some true := by
  have hTl := TA_len' k hk
  rw [podestalaw17_CheckMany_raw, hx, hy]
  have hb := build (60 + i) (by omega) ((k + 1 : Nat) : Int) (60 + i) 0 100 (by omega) (by omega)
  have hb : podestalaw17_CheckMany_l0 ((60 + i : Nat) : Int) ((k + 1 : Nat) : Int) 100 (ByteArray.mk #[]) 0 = _ := hb
  rw [hb, Option.bind_some]
  dsimp only
  have e1 : (ByteArray.mk #[111, 110, 32, 116, 105, 99, 107, 32, 123, 32, 109, 111, 100, 32, 48, 32, 91, 93, 32, 100, 111, 32]) = ⟨HB.toArray⟩ := rfl
  have e2 : (ByteArray.mk #[59, 32, 125]) = ⟨[59, 32, 125].toArray⟩ := rfl
  rw [e1, e2, ba_app, ba_sz, ba_sz]
  have hH : HB.length = 22 := rfl
  rw [fit_ok (by rw [SB_len, hH]; omega)]
  have hX : (SB (60 + i) ++ HB).length ≤ 1000 := by rw [List.length_append, SB_len, hH]; omega
  have hXl : (SB (60 + i) ++ HB).length = 12 * (60 + i) + 22 := by rw [List.length_append, SB_len, hH]
  have h1 := build1 (((60 + i : Nat) : Int), ((k + 1 : Nat) : Int), ⟨(SB (60 + i)).toArray⟩) (bif (decide (((60 + i : Nat) : Int) > 64)) then 768 else 0) (((SB (60 + i) ++ HB).length : Nat) : Int) (k + 1) (by omega) rfl (SB (60 + i) ++ HB) hX (k + 1) 0 100 (by omega) (by omega)
  rw [show SB (60 + i) ++ HB ++ TA 0 = SB (60 + i) ++ HB from List.append_nil _, show ((0 : Nat) : Int) = 0 from rfl] at h1
  rw [ba_sz, h1, Option.bind_some]
  dsimp only
  rw [ba_app, ba_sz, ba_sz, fit_ok (by rw [List.length_append, hXl]; simp only [List.length_cons, List.length_nil]; omega), parse_va i k hi hk, Option.bind_some]
  dsimp only
  rw [cts i hi k hk]
  simp only [Option.bind_some, want, hXl]
  have d1 : decide (((60 + i : Nat) : Int) > 64) = decide (60 + i > 64) := decide_eq_decide.2 (by omega)
  have d2 : decide (((k + 1 : Nat) : Int) > 8) = decide (k + 1 > 8) := decide_eq_decide.2 (by omega)
  rw [d1, d2]
  cases decide (60 + i > 64) <;> cases decide (k + 1 > 8) <;> simp
theorem CheckMany_true (x0 x1 : Int) (w0 : intW .u8 x0) (w1 : intW .u8 x1) : ∃ q0 q1, podestalaw17_CheckMany_raw q0 q1 x0 x1 = some true := by
  have w0 : (decide (IntKind.u8.min ≤ x0) && decide (x0 ≤ IntKind.u8.max)) = true := w0
  have w1 : (decide (IntKind.u8.min ≤ x1) && decide (x1 ≤ IntKind.u8.max)) = true := w1
  rw [Bool.and_eq_true, decide_eq_true_eq, decide_eq_true_eq] at w0 w1
  have e0 : (0 : Int) ≤ x0 := w0.1
  have e1 : (0 : Int) ≤ x1 := w1.1
  refine ⟨100, 100, many_at (x0 % 8).toNat (x1 % 10).toNat (by omega) (by omega) x0 x1 ?_ ?_⟩
  · rw [Int.tmod_eq_emod_of_nonneg e0, wrap_eq (n := x0 % 8) (by omega) (by omega), wrap_eq (by omega) (by omega)]; omega
  · rw [Int.tmod_eq_emod_of_nonneg e1, wrap_eq (n := x1 % 10) (by omega) (by omega), wrap_eq (by omega) (by omega)]; omega

end Go.Proofs.Ytinmkhkehfjcaaa

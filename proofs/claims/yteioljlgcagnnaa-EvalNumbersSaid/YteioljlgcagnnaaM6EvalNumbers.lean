import Derived.Test.YteioljlgcagnnaaM5EvalNumbers
set_option linter.unusedVariables false
set_option linter.unusedSimpArgs false
set_option maxRecDepth 100000
set_option maxHeartbeats 4000000
namespace Go.Proofs.Yteioljlgcagnnaa
open Go.Sh
/-! ### podestaref15.Parse: function 20 -/
noncomputable def z20_F : Go.Sh.Fn := ⟨20, bodyOf Try.f20, 93⟩
def z20_l0 (x : (List Token) × Fault) : Nat → List Token → Int → Int → Int → Int → Int → List Node → Option ((List Token) × Int × Int × Int × Int × Int × (List Node))
 | 0, _, _, _, _, _, _, _ => none
 | m + 1, x_0, x_1, x_2, x_3, x_4_0, x_4_1, o5 =>
  (bif ((x_4_0 == 0) && (decide (x_1 < (((List.map Token.av x.1).length : Nat) : Int)))) then
  (z30_raw ({ L := x_0, I := x_1, End := x_2, Deep := x_3, F := ({ E := x_4_0, At := x_4_1 } : Fault) } : Eye)).bind fun v =>
  (z31_raw v.2 (ByteArray.mk #[118, 97, 114])).bind fun v1 =>
  (bif v1.1 then
   (z32_raw v1.2).bind fun v2 =>
   (z33_raw v2.2 (ByteArray.mk #[61])).bind fun v3 =>
   (z31_raw v3 (ByteArray.mk #[45])).bind fun v4 =>
   (z34_raw v4.2).bind fun v5 =>
   (bif v4.1 then
    (z33_raw v5.2 (ByteArray.mk #[59])).bind fun v6 =>
    fitO (o5.length + [({ Kind := 2, Text := v2.1, Num := (IntKind.i64.wrap (0 - v5.1)), Kids := [], At := v.1 } : Node)].length) 64 (
    z20_l0 x m v6.L v6.I v6.End v6.Deep v6.F.E v6.F.At (o5 ++ [({ Kind := 2, Text := v2.1, Num := (IntKind.i64.wrap (0 - v5.1)), Kids := [], At := v.1 } : Node)]))
   else
    (z33_raw v5.2 (ByteArray.mk #[59])).bind fun v7 =>
    fitO (o5.length + [({ Kind := 2, Text := v2.1, Num := v5.1, Kids := [], At := v.1 } : Node)].length) 64 (
    z20_l0 x m v7.L v7.I v7.End v7.Deep v7.F.E v7.F.At (o5 ++ [({ Kind := 2, Text := v2.1, Num := v5.1, Kids := [], At := v.1 } : Node)])))
  else
   (z33_raw v1.2 (ByteArray.mk #[111, 110])).bind fun v8 =>
   (z32_raw v8).bind fun v9 =>
   ((eyeG 400).2.2.2.2.2.2.2.2 v9.2).bind fun v10 =>
   fitO (o5.length + [({ Kind := 3, Text := v9.1, Num := 0, Kids := v10.1.Kids, At := v.1 } : Node)].length) 64 (
   z20_l0 x m v10.2.L v10.2.I v10.2.End v10.2.Deep v10.2.F.E v10.2.F.At (o5 ++ [({ Kind := 3, Text := v9.1, Num := 0, Kids := v10.1.Kids, At := v.1 } : Node)])))
 else
  some (x_0, x_1, x_2, x_3, x_4_0, x_4_1, o5))
theorem z20_l0_walk (q0 : Nat) (s : ByteArray) (x : (List Token) × Fault)  (r : Node × Fault) (c0 : Ctx) (hc0 : c0.m.length = 0) (res : (List Token) × Int × Int × Int × Int × Int × (List Node)) (J : AX Try.prog tab z20_F c0 (Rp tab.S c0 (.tup [Node.ag r.1, Fault.av r.2]) []) (some ⟨[.code [1, 1, 1, 1, 1, 1]], [(2, .ptr 0 0 none), (3, .ptr 1 0 none), (6, .ptr 3 0 none), (7, .ptr 4 0 none)], [.box 30 [.sc (.int .i64 0), .sc (.string ⟨#[]⟩), .sc (.int .i64 0), .sl 0 [] true, .sc (.int .i64 0)], .box 56 [.sc (.int .i64 0), .sc (.int .i64 0)], .box 56 (Fault.ch x.2), .box 85 [.sl 105 (List.map Token.av res.1) false, .sc (.int .i64 res.2.1), .sc (.int .i64 res.2.2.1), .sc (.int .i64 res.2.2.2.1), .sc (.int .i64 res.2.2.2.2.1), .sc (.int .i64 res.2.2.2.2.2.1)], .box 30 [.sc (.int .i64 1), .sc (.string ⟨#[]⟩), .sc (.int .i64 0), .own 5 1000000, .sc (.int .i64 0)], .row 30 (List.map Node.av res.2.2.2.2.2.2) 1000000 true]⟩)) :
  ∀ (m : Nat) (x_0 : List Token) (x_1 : Int) (x_2 : Int) (x_3 : Int) (x_4_0 : Int) (x_4_1 : Int) (o5 : List Node) (H : z20_l0 x m x_0 x_1 x_2 x_3 x_4_0 x_4_1 o5 = some res), AX Try.prog tab z20_F c0 (Rp tab.S c0 (.tup [Node.ag r.1, Fault.av r.2]) []) (some ⟨[.code [1, 1, 1, 1, 1, 0, 0, 0], .loop [1, 1, 1, 1, 1, 0, 0], .blk 0, .code [1, 1, 1, 1, 1, 1]], [(2, .ptr 0 0 none), (3, .ptr 1 0 none), (4, .sl 105 (List.map Token.av x.1) false), (6, .ptr 3 0 none), (7, .ptr 4 0 none)], [.box 30 [.sc (.int .i64 0), .sc (.string ⟨#[]⟩), .sc (.int .i64 0), .sl 0 [] true, .sc (.int .i64 0)], .box 56 [.sc (.int .i64 0), .sc (.int .i64 0)], .box 56 (Fault.ch x.2), .box 85 [.sl 105 (List.map Token.av x_0) false, .sc (.int .i64 x_1), .sc (.int .i64 x_2), .sc (.int .i64 x_3), .sc (.int .i64 x_4_0), .sc (.int .i64 x_4_1)], .box 30 [.sc (.int .i64 1), .sc (.string ⟨#[]⟩), .sc (.int .i64 0), .own 5 1000000, .sc (.int .i64 0)], .row 30 (List.map Node.av o5) 1000000 true]⟩) := by
 intro m
 induction m with
 | zero => intro x_0 x_1 x_2 x_3 x_4_0 x_4_1 o5 H; cases H
 | succ m ih =>
  intro x_0 x_1 x_2 x_3 x_4_0 x_4_1 o5 H
  rw [z20_l0] at H
  refine .sg 2 [2,3,4,6,7] (.rg (.sg 7 [2,3,4,6,7,32] (.mx 0 [2,3,4,6,7,40] (.dn (.cd ((x_4_0 == 0) && (decide (x_1 < (((List.map Token.av x.1).length : Nat) : Int)))) H (fun hb H => ?_) (fun hb H => ?_))))))
  ·
   refine .sg 3 [2,3,4,6,7] (.rg (.sg 1 [2,3,4,6,7,41] (bndO H fun v hv H => (.ch [2,3,4,6,7,42] [3] (z30_walk _ v hv) (.sg 3 [2,3,4,6,7,8] (.dn (.sg 2 [2,3,4,6,7,8] (.rg (.sg 1 [2,3,4,6,7,8,44] (bndO H fun v1 hv H => (.ch [2,3,4,6,7,8,45] [3] (z31_walk _ _ v1 hv) (.dn (.cd v1.1 H (fun hb H => ?_) (fun hb H => ?_))))))))))))))
   ·
    refine .sg 3 [2,3,4,6,7,8] (.rg (.sg 1 [2,3,4,6,7,8,47] (bndO H fun v2 hv H => (.ch [2,3,4,6,7,8,48] [3] (z32_walk _ v2 hv) (.sg 2 [2,3,4,6,7,8] (.dn (.sg 1 [2,3,4,6,7,8] (.rg (.sg 1 [2,3,4,6,7,8,50] (bndO H fun v3 hv H => (.ch [2,3,4,6,7,8] [3] (z33_walk _ _ v3 hv) (.dn (.sg 1 [2,3,4,6,7,8] (.rg (.sg 1 [2,3,4,6,7,8,52] (bndO H fun v4 hv H => (.ch [2,3,4,6,7,8,53] [3] (z31_walk _ _ v4 hv) (.sg 1 [2,3,4,6,7,8,9] (.dn (.sg 1 [2,3,4,6,7,8,9] (.rg (.sg 1 [2,3,4,6,7,8,9,54] (bndO H fun v5 hv H => (.ch [2,3,4,6,7,8,9,55] [3] (z34_walk _ v5 hv) (.sg 2 [2,3,4,6,7,8,9] (.dn (.sg 3 [2,3,4,6,7,8,57] (.cd v4.1 H (fun hb H => ?_) (fun hb H => ?_)))))))))))))))))))))))))))))
    ·
     exact .sg 1 [2,3,4,6,7,8] (.rg (.sg 1 [2,3,4,6,7,8,62] (bndO H fun v6 hv H => (.ch [2,3,4,6,7,8] [3] (z33_walk _ _ v6 hv) (.dn (.rg (.sg 3 [2,3,4,6,7,75,76] (.wk 76 [(30, false)] (.bg [2,3,4,6,7,75,77] Node.av Node.ag Node.av_eq ([({ Kind := 2, Text := v2.1, Num := (IntKind.i64.wrap (0 - v5.1)), Kids := [], At := v.1 } : Node)] : List Node) 30 true (fitH H fun hfit H => (.ap [2,3,4,6,7,78] Node.av hfit (.sg 2 [2,3,4,6,7] (.dn (.sg 1 [2,3,4,6,7] (.tl hc0 [0,1,2,3,4,5] [2,3,4,6,7] (.into (.to (ih v6.L v6.I v6.End v6.Deep v6.F.E v6.F.At (o5 ++ [({ Kind := 2, Text := v2.1, Num := (IntKind.i64.wrap (0 - v5.1)), Kids := [], At := v.1 } : Node)]) H))))))))))))))))))
    ·
     exact .sg 1 [2,3,4,6,7,8] (.rg (.sg 1 [2,3,4,6,7,8,62] (bndO H fun v7 hv H => (.ch [2,3,4,6,7,8] [3] (z33_walk _ _ v7 hv) (.dn (.rg (.sg 3 [2,3,4,6,7,75,76] (.wk 76 [(30, false)] (.bg [2,3,4,6,7,75,77] Node.av Node.ag Node.av_eq ([({ Kind := 2, Text := v2.1, Num := v5.1, Kids := [], At := v.1 } : Node)] : List Node) 30 true (fitH H fun hfit H => (.ap [2,3,4,6,7,78] Node.av hfit (.sg 2 [2,3,4,6,7] (.dn (.sg 1 [2,3,4,6,7] (.tl hc0 [0,1,2,3,4,5] [2,3,4,6,7] (.into (.to (ih v7.L v7.I v7.End v7.Deep v7.F.E v7.F.At (o5 ++ [({ Kind := 2, Text := v2.1, Num := v5.1, Kids := [], At := v.1 } : Node)]) H))))))))))))))))))
   ·
    exact .sg 1 [2,3,4,6,7,8] (.rg (.sg 1 [2,3,4,6,7,8,64] (bndO H fun v8 hv H => (.ch [2,3,4,6,7,8] [3] (z33_walk _ _ v8 hv) (.dn (.sg 3 [2,3,4,6,7,8] (.rg (.sg 1 [2,3,4,6,7,8,67] (bndO H fun v9 hv H => (.ch [2,3,4,6,7,8,68] [3] (z32_walk _ v9 hv) (.sg 2 [2,3,4,6,7,8] (.dn (.rg (.sg 1 [2,3,4,6,7,8,70] (bndO H fun v10 hv H => (.ch [2,3,4,6,7,8,71] [3] ((eyeG_walk 400).2.2.2.2.2.2.2.2 _ v10 hv) (.fd [2,3,4,6,7,8,72] (.sg 2 [2,3,4,6,7,8] (.dn (.rg (.sg 3 [2,3,4,6,7,75,76] (.bg [2,3,4,6,7,75,77] Node.av Node.ag Node.av_eq ([({ Kind := 3, Text := v9.1, Num := 0, Kids := v10.1.Kids, At := v.1 } : Node)] : List Node) 30 true (fitH H fun hfit H => (.ap [2,3,4,6,7,78] Node.av hfit (.sg 2 [2,3,4,6,7] (.dn (.sg 1 [2,3,4,6,7] (.tl hc0 [0,1,2,3,4,5] [2,3,4,6,7] (.into (.to (ih v10.2.L v10.2.I v10.2.End v10.2.Deep v10.2.F.E v10.2.F.At (o5 ++ [({ Kind := 3, Text := v9.1, Num := 0, Kids := v10.1.Kids, At := v.1 } : Node)]) H)))))))))))))))))))))))))))))))
  ·
   refine .sg 1 [2,3,6,7] (.kp [2,3,6,7] ?_)
   obtain rfl := Option.some.inj H
   exact .to J
def z20_raw (q0 : Nat) (s : ByteArray) : Option (Node × Fault) :=
 (z29_raw 20000 20000 20000 20000 20000 20000 s).bind fun x =>
 (bif (x.2.E != 0) then
  some (({ Kind := 0, Text := ⟨#[]⟩, Num := 0, Kids := [], At := 0 } : Node), x.2)
 else
  (z20_l0 x q0 x.1 0 ((s.size : Nat) : Int) 0 0 0 ([] : List Node)).bind fun v =>
  (bif (v.2.2.2.2.1 != 0) then
   some (({ Kind := 0, Text := ⟨#[]⟩, Num := 0, Kids := [], At := 0 } : Node), ({ E := v.2.2.2.2.1, At := v.2.2.2.2.2.1 } : Fault))
  else
   some (({ Kind := 1, Text := ⟨#[]⟩, Num := 0, Kids := v.2.2.2.2.2.2, At := 0 } : Node), ({ E := 0, At := 0 } : Fault))))
theorem z20_walk (q0 : Nat) (s : ByteArray) (r : Node × Fault) (H : z20_raw q0 s = some r) : ACalls Try.prog tab.S 20 [.sc (.string s)] [] (.tup [Node.ag r.1, Fault.av r.2]) [] := by
 refine .of_AX z20_F Try.func20 fun c0 hc0 => ?_
 rw [z20_raw] at H
 refine .sg 3 [0,2,3] (.rg (.sg 1 [0,2,3,11] (bndO H fun x hv H => (.cp [0,2,3,12] ((z29_walk 20000 20000 20000 20000 20000 20000) _ x hv) (.sg 6 [0,2,3,4,5] (.dn (.sg 3 [0,2,3,4,5,17] (.cd (x.2.E != 0) H (fun hb H => ?_) (fun hb H => ?_)))))))))
 ·
  refine .sg 1 [2,3,5] (.rp hc0 [2, 3] [] [[0, 1, 2], [0, 1, 2]] .nil (by kernel_rfl) ?_)
  obtain rfl := Option.some.inj H
  exact .ret Try.func20 hc0 [] [(30, false)]
 ·
  refine .sg 7 [2,3,4,6,7] (.adb 4 3 30 ?_)
  refine bndO H fun v hv H => (.into (.to (z20_l0_walk q0 s x r c0 hc0 v ?_ q0 x.1 0 ((s.size : Nat) : Int) 0 0 0 ([] : List Node) hv)))
  refine .sg 3 [2,3,6,7,85] (.cd (v.2.2.2.2.1 != 0) H (fun hb H => ?_) (fun hb H => ?_))
  ·
   refine .sg 1 [2,3,6] (.rp hc0 [2, 3] [] [[0, 1, 2, 3, 4, 5], [0, 1, 2, 3, 4, 5]] .nil (by kernel_rfl) ?_)
   obtain rfl := Option.some.inj H
   exact .ret Try.func20 hc0 [] [(30, false)]
  ·
   refine .sg 3 [2,3] ?_
   obtain rfl := Option.some.inj H
   exact .ret Try.func20 hc0

end Go.Proofs.Yteioljlgcagnnaa

set_option linter.unusedVariables false
set_option linter.unusedSimpArgs false
set_option maxRecDepth 100000
set_option maxHeartbeats 4000000
namespace Go.Proofs.Yteioljlgcagnnaa
open Go.Sh
/-! ### head.there: function 103 -/
noncomputable def z103_F : Go.Sh.Fn := ⟨103, bodyOf Try.f103, 9⟩
def z103 (n : Int) : Bool :=
 ((decide (n ≥ 0)) && (decide (n < 12)))
theorem z103_calls (n : Int) : ACalls Try.prog tab.S 103 [.sc (.int .i64 n)] [] (.sc (.bool (z103 n))) [] := by
 generalize H : z103 n = r
 refine .of_AX z103_F Try.func103 fun c0 hc0 => ?_
 rw [z103] at H
 refine .sg 3 [0] (.rg (.sg 3 [0,5] (.mx 0 [8] (.sg 1 [2] (.dn ?_)))))
 subst H
 exact .ret Try.func103 hc0

/-! ### head.fields: function 99 -/
noncomputable def z99_F : Go.Sh.Fn := ⟨99, bodyOf Try.f99, 14⟩
def z99 : (List Field) :=
 [({ name := (ByteArray.mk #[105, 110]), size := 16 } : Field), ({ name := (ByteArray.mk #[101, 115, 114, 99]), size := 48 } : Field), ({ name := (ByteArray.mk #[101, 100, 115, 116]), size := 48 } : Field), ({ name := (ByteArray.mk #[101, 116, 121, 112, 101]), size := 16 } : Field), ({ name := (ByteArray.mk #[118, 108, 97, 110]), size := 12 } : Field), ({ name := (ByteArray.mk #[112, 99, 112]), size := 4 } : Field), ({ name := (ByteArray.mk #[115, 114, 99]), size := 32 } : Field), ({ name := (ByteArray.mk #[100, 115, 116]), size := 32 } : Field), ({ name := (ByteArray.mk #[112, 114, 111, 116, 111]), size := 8 } : Field), ({ name := (ByteArray.mk #[116, 111, 115]), size := 8 } : Field), ({ name := (ByteArray.mk #[115, 112, 111, 114, 116]), size := 12 } : Field), ({ name := (ByteArray.mk #[100, 112, 111, 114, 116]), size := 12 } : Field)]
theorem z99_calls : ACalls Try.prog tab.S 99 [] [] (.agg (List.flatMap Field.ch (z99))) [] := by
 generalize H : z99 = r
 refine .of_AX z99_F Try.func99 fun c0 hc0 => ?_
 rw [z99] at H
 refine .sg 4 [0] ?_
 subst H
 exact .ret Try.func99 hc0

/-! ### head.Size: function 94 -/
noncomputable def z94_F : Go.Sh.Fn := ⟨94, bodyOf Try.f94, 10⟩
def z94_raw (n : Int) : Option (Int) :=
 (bif (!(z103 n)) then
  some 0
 else
  (ixO z99 n).bind fun x =>
  some x.size)
theorem z94_walk (n : Int) (r : Int) (H : z94_raw n = some r) : ACalls Try.prog tab.S 94 [.sc (.int .i64 n)] [] (.sc (.int .i64 r)) [] := by
 refine .of_AX z94_F Try.func94 fun c0 hc0 => ?_
 rw [z94_raw] at H
 refine .sg 4 [0] (.rg (.sg 1 [0,3] (.cp [0,4] (z103_calls n) (.sg 1 [0,5] (.dn (.cd (!(z103 n)) H (fun hb H => ?_) (fun hb H => ?_)))))))
 ·
  refine .sg 2 [2] ?_
  obtain rfl := Option.some.inj H
  exact .ret Try.func94 hc0
 ·
  refine .sg 2 [0] (.rg (.cp [0,6] (z99_calls) (.sg 1 [6,7] (bndO H fun x hv H => (.xr [8] z99 Field.ch 2 hv (.fd [9] (.sg 1 [2] (.dn ?_))))))))
  obtain rfl := Option.some.inj H
  exact .ret Try.func94 hc0

theorem z94_ok (n : Int) : ACalls Try.prog tab.S 94 [.sc (.int .i64 n)] [] (.sc (.int .i64 (sizeT n))) [] := by
 refine z94_walk n (sizeT n) ?_
 rw [z94_raw, z103]
 rcases sizeT_cases n with ⟨h, e⟩ | ⟨h1, h2, k, rfl, hk, e⟩
 ·rw [e]
  have : (decide (n ≥ 0) && decide (n < 12)) = false := by
   rw [Bool.and_eq_false_iff, decide_eq_false_iff_not, decide_eq_false_iff_not]; omega
  rw [this]
  rfl
 ·rw [e, decide_eq_true h1, decide_eq_true h2]
  match k, hk with
  | 0, _ | 1, _ | 2, _ | 3, _ | 4, _ | 5, _ | 6, _ | 7, _ | 8, _ | 9, _ | 10, _ | 11, _ => rfl

/-! ### head.fits: function 106 -/
noncomputable def z106_F : Go.Sh.Fn := ⟨106, bodyOf Try.f106, 10⟩
def z106_raw (n : Int) (v : Int) : Option (Bool) :=
 reqO (decide (0 ≤ (sizeT n))) (
 some ((Int.fdiv v (2 ^ (min ((sizeT n) : Int).toNat (IntKind.u64).bits))) == 0))
theorem z106_walk (n : Int) (v : Int) (r : Bool) (H : z106_raw n v = some r) : ACalls Try.prog tab.S 106 [.sc (.int .i64 n), .sc (.int .u64 v)] [] (.sc (.bool r)) [] := by
 refine .of_AX z106_F Try.func106 fun c0 hc0 => ?_
 rw [z106_raw] at H
 refine .sg 3 [0,1] (.rg (.sg 2 [5,6] (.cp [5,7] (z94_ok n) (reqH H fun hreq H => (.sr_ [8] (b := (sizeT n)) hreq (.sg 2 [4] (.dn ?_)))))))
 obtain rfl := Option.some.inj H
 exact .ret Try.func106 hc0

theorem fits_fdiv {n v : Int} : (Int.fdiv v (2 ^ (min (sizeT n).toNat (IntKind.u64).bits)) == 0) = (decide (0 ≤ v) && fitsT n v) := by
 have hs := sizeT_in n
 have hm : min (sizeT n).toNat (IntKind.u64).bits = (sizeT n).toNat := Nat.min_eq_left (by show _ ≤ 64; omega)
 rw [hm]
 have hp := pow_pos2 (sizeT n).toNat
 unfold fitsT
 rw [Bool.eq_iff_iff, Bool.and_eq_true, decide_eq_true_eq, decide_eq_true_eq, beq_iff_eq]
 rw [Int.fdiv_eq_ediv_of_nonneg _ (Int.le_of_lt hp)]
 constructor
 ·intro h
  have h1 := Int.mul_ediv_add_emod v ((2 : Int) ^ (sizeT n).toNat)
  have h2 := Int.emod_nonneg v (Int.ne_of_gt hp)
  have h3 := Int.emod_lt_of_pos v hp
  rw [h, Int.mul_zero, Int.zero_add] at h1
  rw [h1] at h2 h3
  exact ⟨h2, h3⟩
 ·intro h
  exact Int.ediv_eq_zero_of_lt h.1 h.2
def fitsH (n v : Int) : Bool := decide (0 ≤ v) && fitsT n v
theorem z106_ok (n v : Int) : ACalls Try.prog tab.S 106 [.sc (.int .i64 n), .sc (.int .u64 v)] [] (.sc (.bool (fitsH n v))) [] := by
 refine z106_walk n v _ ?_
 rw [z106_raw, reqO_eq (decide_eq_true (sizeT_in n).1), fits_fdiv]
 rfl

/-! ### head.Set: function 96 -/
noncomputable def head_Set_F : Go.Sh.Fn := ⟨96, bodyOf Try.f96, 23⟩
def head_Set_raw (h1 : List Int) (n : Int) (v : Int) : Option ((List Int) × Int) :=
 (bif (!(z103 n)) then
  some ([0, 0, 0, 0, 0, 0, 0, 0, 0, 0, 0, 0], 1)
 else
  (bif (!(fitsH n v)) then
   some ([0, 0, 0, 0, 0, 0, 0, 0, 0, 0, 0, 0], 13)
  else
   reqO (decide (0 ≤ n) && decide (n < ((12 : Nat) : Int))) (
   some ((h1.set (n.toNat) v), 0))))
theorem head_Set_walk (h1 : List Int) (n : Int) (v : Int) (r : (List Int) × Int) (H : head_Set_raw h1 n v = some r) : ACalls Try.prog tab.S 96 [.arr .u64 12 h1, .sc (.int .i64 n), .sc (.int .u64 v)] [] (.tup [.arr .u64 12 r.1, .sc (.int .i64 r.2)]) [] := by
 refine .of_AX head_Set_F Try.func96 fun c0 hc0 => ?_
 rw [head_Set_raw] at H
 refine .sg 5 [1,2,3,6] (.rg (.sg 1 [1,2,3,6,9] (.cp [1,2,3,6,10] (z103_calls n) (.sg 2 [1,2,3,6,8] (.dn (.cd (!(z103 n)) H (fun hb H => ?_) (fun hb H => ?_)))))))
 ·
  refine .sg 2 [6,7] ?_
  obtain rfl := Option.some.inj H
  exact .ret Try.func96 hc0
 ·
  refine .sg 1 [1,2,3,6] (.rg (.sg 2 [1,2,3,6,14,15] (.cp [1,2,3,6,16] (z106_ok n v) (.sg 2 [1,2,3,6,13] (.dn (.cd (!(fitsH n v)) H (fun hb H => ?_) (fun hb H => ?_)))))))
  ·
   refine .sg 2 [6,7] ?_
   obtain rfl := Option.some.inj H
   exact .ret Try.func96 hc0
  ·
   refine .sg 3 [1,2,3,6] (.rg (.sg 2 [3,6,19,20] (reqH H fun hreq H => (.xa [3,6,20,21] hreq (.sg 1 [3,6] (.dn (.sg 2 [6,7] ?_)))))))
   obtain rfl := Option.some.inj H
   exact .ret Try.func96 hc0

def setT_ (h : List Int) (n v : Int) : List Int × Int :=
 if z103 n then (if fitsH n v then (h.set n.toNat v, 0) else ([0, 0, 0, 0, 0, 0, 0, 0, 0, 0, 0, 0], 13)) else ([0, 0, 0, 0, 0, 0, 0, 0, 0, 0, 0, 0], 1)
theorem head_Set_ok (h : List Int) (n v : Int) : ACalls Try.prog tab.S 96 [.arr .u64 12 h, .sc (.int .i64 n), .sc (.int .u64 v)] [] (.tup [.arr .u64 12 (setT_ h n v).1, .sc (.int .i64 (setT_ h n v).2)]) [] := by
 refine head_Set_walk h n v (setT_ h n v) ?_
 rw [head_Set_raw]
 unfold setT_
 cases ht : z103 n
 ·rfl
 ·cases hf : fitsH n v
  ·rfl
  ·have hn : (decide (0 ≤ n) && decide (n < ((12 : Nat) : Int))) = true := ht
   simp only [Bool.not_true, cond_false, if_true]
   rw [reqO_eq hn]

/-! ### slices.IndexFunc: function 100 -/
noncomputable def z100_F : Go.Sh.Fn := ⟨100, bodyOf Try.f100, 19⟩
def z100_l0s (f : Field → Bool) : List Field → Nat → Sum (Unit) (Int)
 | [], t8 =>
  (.inl ())
 | x :: rest, t8 =>
  (bif (f x) then
   (.inr ((t8 : Nat) : Int))
  else
   z100_l0s f rest (t8 + 1) )
theorem z100_l0_walk (s : List Field) (F_f : FuncId) (C_f : List AV) (f : Field → Bool) (P_f : plainL C_f = true) (O_f : C_f.all oneA = true) (H_f : ∀ (y0 : Field), ACalls Try.prog tab.S F_f ([Field.av y0] ++ C_f) [] (.sc (.bool (f y0))) []) (f_s : Bool) (r : Int) (c0 : Ctx) (hc0 : c0.m.length = 0) (res : Sum (Unit) (Int)) (J : ∀ w : Unit, res = .inl w → AX Try.prog tab z100_F c0 (Rp tab.S c0 (.sc (.int .i64 r)) []) (some ⟨[.code [1, 1]], [], []⟩)) (Jr : ∀ w, res = .inr w → w = r) :
  ∀ (rest : List Field) (t8 : Nat) (z : Int) (hI : z = ((t8 : Nat) : Int)) (hd : s.drop t8 = rest) (H : z100_l0s f rest t8 = res), AX Try.prog tab z100_F c0 (Rp tab.S c0 (.sc (.int .i64 r)) []) (some ⟨[.code [1, 0, 1, 0, 0], .loop [1, 0, 1, 0], .blk 0, .code [1, 1]], [(0, .sl 140 (List.map Field.av s) f_s), (1, .fn F_f C_f), (7, .sc (.int .i64 (((List.map Field.av s).length : Nat) : Int))), (8, .sc (.int .i64 z))], []⟩) := by
 intro rest
 induction rest with
 | nil =>
  intro t8 z hI hd  H
  subst hI
  rw [z100_l0s] at H
  refine .facts 0 fun hf => ?_
  have hlen : s.length ≤ 9223372036854775807 := by have hq := len_ok hf.2.1; rw [List.length_map] at hq; exact hq
  have hge : s.length ≤ t8 := List.drop_eq_nil_iff.1 hd
  have hc : (decide (((t8 : Nat) : Int) < (((List.map Field.av s).length : Nat) : Int))) = false := by rw [List.length_map]; exact decide_eq_false (by omega)
  exact .sg 3 [0,1,7,8,9] (.cdF hc (.sg 1 [] (.kp [] (.to (J () H.symm)))))
 | cons x rest ih =>
  intro t8 z hI hd  H
  subst hI
  rw [z100_l0s] at H
  refine .facts 0 fun hf => ?_
  have hlen : s.length ≤ 9223372036854775807 := by have hq := len_ok hf.2.1; rw [List.length_map] at hq; exact hq
  obtain ⟨hlt, hv_t8, hd2⟩ := drop_cons hd
  have hc : (decide (((t8 : Nat) : Int) < (((List.map Field.av s).length : Nat) : Int))) = true := by rw [List.length_map]; exact decide_eq_true (by omega)
  have hw : IntKind.i64.wrap (((t8 : Nat) : Int) + 1) = ((t8 + 1 : Nat) : Int) := wrapI_succ (by omega)
  refine .sg 3 [0,1,7,8,9] (.cdT hc (.sg 6 [0,1,5,7,8] (.rg (.sg 3 [0,1,5,7,8,11,12,13] (.xi [0,1,5,7,8,11,14] Field.av hv_t8 (.sg 1 [0,1,5,7,8,11,15] (.cf [0,1,5,7,8,16] (H_f x) P_f O_f (.dn (.cd (f x) H (fun hb H => ?_) (fun hb H => ?_))))))))))
  ·
   refine .sg 2 [4] ?_
   subst H
   obtain rfl := Jr _ rfl
   exact .ret Try.func100 hc0
  ·
   exact .sg 3 [0,1,7,8] (.kp [0,1,7,8] (.into (.cl (ih (t8 + 1) _ hw hd2 H))))

def z100 (s : List Field) (f : Field → Bool) : Int :=
 sumG (fun q => q) (z100_l0s f s 0) fun v =>
 (-1)
theorem z100_calls (s : List Field) (F_f : FuncId) (C_f : List AV) (f : Field → Bool) (P_f : plainL C_f = true) (O_f : C_f.all oneA = true) (H_f : ∀ (y0 : Field), ACalls Try.prog tab.S F_f ([Field.av y0] ++ C_f) [] (.sc (.bool (f y0))) []) (f_s : Bool) : ACalls Try.prog tab.S 100 [.sl 140 (List.map Field.av s) f_s, .fn F_f C_f] [] (.sc (.int .i64 (z100 s f))) [] := by
 generalize H : z100 s f = r
 refine .of_AX z100_F Try.func100 fun c0 hc0 => ?_
 rw [z100] at H
 refine .sg 6 [0,1,7,8] ?_
 rcases sumG_eq H with ⟨v, hv, H⟩ | ⟨r1, hv, hr1⟩
 case inr =>
  refine .into ?_
  replace hr1 : r1 = r := hr1
  subst hr1
  exact .to (z100_l0_walk s F_f C_f f P_f O_f H_f f_s _ c0 hc0 (.inr _) (fun _ e => by cases e) (fun _ e => (Sum.inr.inj e).symm) s 0 _ rfl rfl hv)
 refine .into (.to (z100_l0_walk s F_f C_f f P_f O_f H_f f_s r c0 hc0 (.inl v) (fun w e => ?_) (fun _ e => by cases e) s 0 _ rfl rfl hv))
 have e := Sum.inl.inj e
 subst e
 refine .sg 2 [4] ?_
 subst H
 exact .ret Try.func100 hc0

theorem z100_l0s_eq (f : Field → Bool) : ∀ (l : List Field) (i : Nat), z100_l0s f l i = match l.findIdx? f with | some k => .inr ((i + k : Nat) : Int) | none => .inl ()
 | [], i => rfl
 | x :: l, i => by
   rw [z100_l0s, List.findIdx?_cons, z100_l0s_eq f l (i + 1)]
   cases f x
   ·simp only [cond_false, Bool.false_eq_true, if_false]
    cases l.findIdx? f with
    | none => rfl
    | some k => simp only [Option.map_some]; rw [show i + 1 + k = i + (k + 1) by omega]
   ·rfl
theorem z100_idx (s : List Field) (f : Field → Bool) : z100 s f = idxF f s := by
 rw [z100, z100_l0s_eq]
 unfold idxF sumG
 cases s.findIdx? f with
 | none => rfl
 | some k => simp only [Nat.zero_add]

/-! ### head.Field$1: function 101 -/
noncomputable def z101_F : Go.Sh.Fn := ⟨101, bodyOf Try.f101, 8⟩
def z101 (f : Field) (c : ByteArray) : Bool :=
 (f.name == c)
theorem z101_calls (f : Field) (c : ByteArray) : ACalls Try.prog tab.S 101 [Field.av f, .ep [.sc (.string c)] 0 none] [] (.sc (.bool (z101 f c))) [] := by
 generalize H : z101 f c = r
 refine .of_AX z101_F Try.func101 fun c0 hc0 => ?_
 rw [z101] at H
 refine .sg 4 [3] ?_
 subst H
 exact .ret Try.func101 hc0

/-! ### head.Field: function 91 -/
noncomputable def z91_F : Go.Sh.Fn := ⟨91, bodyOf Try.f91, 14⟩
def z91 (name : ByteArray) : Int × Bool :=
 ((if 0 > (z100 z99 (fun y0 => z101 y0 name)) then 0 else (z100 z99 (fun y0 => z101 y0 name))), (decide ((z100 z99 (fun y0 => z101 y0 name)) ≥ 0)))
theorem z91_calls (name : ByteArray) : ACalls Try.prog tab.S 91 [.sc (.string name)] [] (.tup [.sc (.int .i64 ((z91 name).1)), .sc (.bool ((z91 name).2))]) [] := by
 generalize H : z91 name = r
 refine .of_AX z91_F Try.func91 fun c0 hc0 => ?_
 rw [z91] at H
 refine .sg 1 [0] (.rg (.bx [1] (.sg 2 [1] (.dn (.sg 1 [1] (.rg (.cp [1,6] (z99_calls) (.sg 2 [1,4] (.dn (.sg 1 [1,4] (.gb hc0 0 [] [1,4] (.rg (.ser [1,7] Field.av Field.ch (fun _ => rfl) z99 140 12 (.sg 1 [7,8] (.cl_ [9] (caps := []) (z100_calls z99 101 [.ep [.sc (.string name)] 0 none] (fun y0 => z101 y0 name) rfl rfl (fun y0 => z101_calls y0 name) true) (.same rfl (.fn (caps := [.ep [.sc (.string name)] 0 none]) (by kernel_rfl) .nil)) (by kernel_rfl) rfl rfl (.sg 1 [5] (.dn (.sg 2 [2,3] ?_))))))))))))))))))
 subst H
 exact .ret Try.func91 hc0

/-! ### podestaref01.Name: function 77 -/
noncomputable def z77_F : Go.Sh.Fn := ⟨77, bodyOf Try.f77, 13⟩
def z77_raw (field : Int) : Option (ByteArray) :=
 (bif ((decide (field < 0)) || (decide (field > 11))) then
  some (ByteArray.mk #[])
 else
  (ixO [(ByteArray.mk #[105, 110]), (ByteArray.mk #[101, 115, 114, 99]), (ByteArray.mk #[101, 100, 115, 116]), (ByteArray.mk #[101, 116, 121, 112, 101]), (ByteArray.mk #[118, 108, 97, 110]), (ByteArray.mk #[112, 99, 112]), (ByteArray.mk #[115, 114, 99]), (ByteArray.mk #[100, 115, 116]), (ByteArray.mk #[112, 114, 111, 116, 111]), (ByteArray.mk #[116, 111, 115]), (ByteArray.mk #[115, 112, 111, 114, 116]), (ByteArray.mk #[100, 112, 111, 114, 116])] field).bind fun x =>
  some x)
theorem z77_walk (field : Int) (r : ByteArray) (H : z77_raw field = some r) : ACalls Try.prog tab.S 77 [.sc (.int .i64 field)] [] (.sc (.string r)) [] := by
 refine .of_AX z77_F Try.func77 fun c0 hc0 => ?_
 rw [z77_raw] at H
 refine .sg 4 [0] (.rg (.sg 3 [0,5] (.mx 1 [0,8] (.dn (.cd ((decide (field < 0)) || (decide (field > 11))) H (fun hb H => ?_) (fun hb H => ?_))))))
 ·
  refine .sg 2 [2] ?_
  obtain rfl := Option.some.inj H
  exact .ret Try.func77 hc0
 ·
  refine .sg 2 [0] (.rg (.sg 2 [9,10] (bndO H fun x hv H => (.xi [11] strA hv (.sg 2 [2] (.dn ?_))))))
  obtain rfl := Option.some.inj H
  exact .ret Try.func77 hc0

/-! ### podestaref01.Field: function 57 -/
noncomputable def z57_F : Go.Sh.Fn := ⟨57, bodyOf Try.f57, 14⟩
def z57_l0s (name : ByteArray) : Nat → Nat → Option (Sum (Unit) (Int × Bool))
 | 0, i =>
  some (.inl ())
 | rest + 1, i =>
  (z77_raw ((i : Nat) : Int)).bind fun x1 =>
  (bif (x1 == name) then
   some (.inr (((i : Nat) : Int), true))
  else
   z57_l0s name rest (i + 1) )
theorem z57_l0_walk (name : ByteArray) (r : Int × Bool) (c0 : Ctx) (hc0 : c0.m.length = 0) (res : Sum (Unit) (Int × Bool)) (J : ∀ w : Unit, res = .inl w → AX Try.prog tab z57_F c0 (Rp tab.S c0 (.tup [.sc (.int .i64 r.1), .sc (.bool r.2)]) []) (some ⟨[.code [1, 1]], [], []⟩)) (Jr : ∀ w, res = .inr w → w = r) :
  ∀ (rest : Nat) (i : Nat) (z : Int) (hI : z = ((i : Nat) : Int)) (hd : i + rest = 12) (H : z57_l0s name rest i = some res), AX Try.prog tab z57_F c0 (Rp tab.S c0 (.tup [.sc (.int .i64 r.1), .sc (.bool r.2)]) []) (some ⟨[.code [1, 0, 1, 0, 0], .loop [1, 0, 1, 0], .blk 0, .code [1, 1]], [(0, .sc (.string name)), (4, .sc (.int .i64 z))], []⟩) := by
 intro rest
 induction rest with
 | zero =>
  intro i z hI hd  H
  subst hI
  rw [z57_l0s] at H
  have hc : (decide (((i : Nat) : Int) < 12)) = false := decide_eq_false (by omega)
  exact .sg 3 [0,4,6] (.cdF hc (.sg 1 [] (.kp [] (.to (J () (Option.some.inj H).symm)))))
 | succ rest ih =>
  intro i z hI hd  H
  subst hI
  rw [z57_l0s] at H
  have hlt_i : i < 12 := by omega
  have hc : (decide (((i : Nat) : Int) < 12)) = true := decide_eq_true (by omega)
  have hw : IntKind.i64.wrap (((i : Nat) : Int) + 1) = ((i + 1 : Nat) : Int) := wrapI_succ (by omega)
  refine .sg 3 [0,4,6] (.cdT hc (.sg 4 [0,4] (.rg (.sg 1 [0,4,9] (bndO H fun x1 hv H => (.cp [0,4,10] (z77_walk _ x1 hv) (.sg 2 [0,4,12] (.dn (.cd (x1 == name) H (fun hb H => ?_) (fun hb H => ?_))))))))))
  ·
   refine .sg 2 [2,3] ?_
   obtain rfl := Option.some.inj H
   obtain rfl := Jr _ rfl
   exact .ret Try.func57 hc0
  ·
   exact .sg 3 [0,4] (.kp [0,4] (.into (.cl (ih (i + 1) _ hw (by omega) H))))

def z57_raw (name : ByteArray) : Option (Int × Bool) :=
 loopO (z57_l0s name 12 0) fun v =>
 some (0, false)
theorem z57_walk (name : ByteArray) (r : Int × Bool) (H : z57_raw name = some r) : ACalls Try.prog tab.S 57 [.sc (.string name)] [] (.tup [.sc (.int .i64 r.1), .sc (.bool r.2)]) [] := by
 refine .of_AX z57_F Try.func57 fun c0 hc0 => ?_
 rw [z57_raw] at H
 refine .sg 6 [0,4] ?_
 rcases loopO_some H with ⟨v, hv, H⟩ | hv
 case inr =>
  exact .into (.to (z57_l0_walk name _ c0 hc0 (.inr _) (fun _ e => by cases e) (fun _ e => (Sum.inr.inj e).symm) 12 0 _ rfl rfl hv))
 refine .into (.to (z57_l0_walk name r c0 hc0 (.inl v) (fun w e => ?_) (fun _ e => by cases e) 12 0 _ rfl rfl hv))
 have e := Sum.inl.inj e
 subst e
 refine .sg 2 [2,3] ?_
 obtain rfl := Option.some.inj H
 exact .ret Try.func57 hc0

/-! ### podestaref15.Known: function 37 -/
noncomputable def z37_F : Go.Sh.Fn := ⟨37, bodyOf Try.f37, 33⟩
def z37_raw (on : ByteArray) (name : ByteArray) : Option (Bool) :=
 (z57_raw name).bind fun x =>
 some (((on == (ByteArray.mk #[112, 97, 99, 107, 101, 116])) && ((x.2 || (name == (ByteArray.mk #[117, 110, 105, 116]))) || (name == (ByteArray.mk #[112, 111, 114, 116])))) || ((on == (ByteArray.mk #[114, 101, 109, 111, 118, 101, 100])) && (name == (ByteArray.mk #[117, 110, 105, 116]))))
theorem z37_walk (on : ByteArray) (name : ByteArray) (r : Bool) (H : z37_raw on name = some r) : ACalls Try.prog tab.S 37 [.sc (.string on), .sc (.string name)] [] (.sc (.bool r)) [] := by
 refine .of_AX z37_F Try.func37 fun c0 hc0 => ?_
 rw [z37_raw] at H
 refine .sg 3 [0,1] (.rg (.sg 1 [0,1,8] (bndO H fun x hv H => (.cp [0,1,9] (z57_walk _ x hv) (.sg 5 [0,1,6] (.dn (.sg 1 [0,1,6] (.rg (.sg 3 [0,1,6,14] (.mm 14 (on == (ByteArray.mk #[112, 97, 99, 107, 101, 116])) 10 [.pure, .pure, .pure, .pure, .pure, .pure, .pure, .pure, .pure, .pure] [0, 1, 24] 24 (fun z => .sc (.bool (z && ((x.2 || (name == (ByteArray.mk #[117, 110, 105, 116]))) || (name == (ByteArray.mk #[112, 111, 114, 116])))))) ?J3 (fun hb J => ?ht3) (fun hb J => ?hf3)))))))))))
 case ht3 =>
  exact .sg 2 [0,1,14,16] (.mx 1 [0,1,14,19] (.sg 1 [0,1,14,20] (.mx 1 [0,1,14,23] (.sg 1 [0,1,24] (.cl J)))))
 case hf3 =>
  exact .sg 10 [0,1,24] (.cl J)
 refine .sg 1 [0,1,25] (.mm 25 ((on == (ByteArray.mk #[112, 97, 99, 107, 101, 116])) && ((x.2 || (name == (ByteArray.mk #[117, 110, 105, 116]))) || (name == (ByteArray.mk #[112, 111, 114, 116])))) 7 [.pure, .pure, .pure, .pure, .pure, .pure, .pure] [32] 32 (fun z => .sc (.bool (z || ((on == (ByteArray.mk #[114, 101, 109, 111, 118, 101, 100])) && (name == (ByteArray.mk #[117, 110, 105, 116])))))) ?J7 (fun hb J => ?ht7) (fun hb J => ?hf7))
 case ht7 =>
  exact .sg 7 [32] (.cl J)
 case hf7 =>
  exact .sg 3 [1,25,28] (.mx 0 [25,31] (.sg 1 [32] (.cl J)))
 refine .sg 1 [4] (.dn ?_)
 obtain rfl := Option.some.inj H
 exact .ret Try.func37 hc0

end Go.Proofs.Yteioljlgcagnnaa

set_option linter.unusedVariables false
set_option linter.unusedSimpArgs false
set_option maxRecDepth 100000
set_option maxHeartbeats 4000000
namespace Go.Proofs.Yteioljlgcagnnaa
open Go.Sh
noncomputable def z22_F : Go.Sh.Fn := ⟨22, bodyOf Try.f22, 8⟩
/-- a clone is a row of its own -/
theorem z22_own (s : List Var) (f_s : Bool) (r : List Var) (H : id s = r) : ACalls Try.prog tab.S 22 [.sl 60 (List.map Var.av s) f_s] [] (.own 0 1000000) [.row 60 (List.map Var.av r) 1000000 true] := by
 subst H
 have hG := tab_ok
 have hm := mixed
 have hE : Ent Try.prog 22 := ent_of Try.func22 (by kernel_rfl) (by kernel_rfl)
 cases s with
 | nil =>
  refine ACalls.empty hE fun p c => ?_
  refine ACalls.of_AR (G := tab) z22_F (fn := Try.f22) Try.func22 (by kernel_rfl) (by kernel_rfl) (by kernel_rfl) (Nat.le_of_ble_eq_true (by kernel_rfl)) ?_
  intro c0 hc0
  replace hc0 : c0.m.length = 0 := hc0
  refine AR.seg hG hm 4 [0] (k' := [.code [1, 0, 0], .code [1, 0, 1], .code [1, 1]]) (t' := [(0, .sc (.slice p 0 c))]) (h' := []) (by kernel_rfl) ?_
  refine AR.reg hm [.pure, .pure] (by kernel_rfl) ?_
  refine DK.seg hG 1 [0, 3] (t' := [(0, .sc (.slice p 0 c)), (3, .sc (.slice p 0 c))]) (h' := []) (by kernel_rfl) rfl ?_
  refine DK.op' [0, 4] (t' := [(0, .sc (.slice p 0 c)), (4, .sc (.bool p.isNone))]) (h' := []) (LSpec.nilEq hG (p := p) (l := 0) (c := c) (by kernel_rfl)) (by kernel_rfl) rfl (by kernel_rfl) rfl ?_
  refine DK.done (by kernel_rfl) (by kernel_rfl) ?_
  refine AR.cond (.tmp 4) p.isNone (by kernel_rfl) (by kernel_rfl) (fun hb => ?ht) (fun hb => ?hf)
  case ht =>
   refine AR.seg hG hm 2 [2] (k' := [.code [1, 0, 1, 0, 1], .code [1, 1]]) (t' := [(2, .sl 0 [] true)]) (h' := []) (by kernel_rfl) ?_
   exact ((AX.ad 2 60 true (.ret Try.func22 hc0 [0]) : AX _ _ _ _ _ (some ⟨[.code [1, 0, 1, 0, 1], .code [1, 1]], [(2, .sl 0 [] true)], []⟩))).ar
  case hf =>
   refine AR.seg hG hm 2 [0] (k' := [.code [1, 1, 0], .code [1, 1, 1]]) (t' := [(0, .sc (.slice p 0 c))]) (h' := []) (by kernel_rfl) ?_
   refine AR.reg hm [.pure, .pure, .pure, .pure] (by kernel_rfl) ?_
   refine DK.seg hG 2 [5, 6] (t' := [(5, .sl 60 [] true), (6, .sc (.slice p 0 c))]) (h' := []) (by kernel_rfl) rfl ?_
   refine DK.op' [7] (t' := [(7, .sl 60 [] true)]) (h' := []) (LSpec.app0 hG (e0 := 60) (rows := []) (f := true) (by kernel_rfl)) (by kernel_rfl) rfl (by kernel_rfl) rfl ?_
   refine DK.seg hG 1 [2] (t' := [(2, .sl 60 [] true)]) (h' := []) (by kernel_rfl) rfl ?_
   refine DK.done (by kernel_rfl) (by kernel_rfl) ?_
   exact ((AX.ad 2 60 true (.ret Try.func22 hc0 [0]) : AX _ _ _ _ _ (some ⟨[.code [1, 1, 1]], [(2, .sl 60 [] true)], []⟩))).ar
 | cons x xs =>
  refine ACalls.facts hE fun hf => ?_
  have hfit : (([] : List Var).length + (x :: xs).length) * 24 ≤ reach := by
   have h1 : (List.map Var.av (x :: xs)).length * 24 ≤ reach := hf.1.1
   simpa using h1
  refine ACalls.of_AR (G := tab) z22_F (fn := Try.f22) Try.func22 (by kernel_rfl) (by kernel_rfl) (by kernel_rfl) (Nat.le_of_ble_eq_true (by kernel_rfl)) ?_
  intro c0 hc0
  replace hc0 : c0.m.length = 0 := hc0
  refine AR.seg hG hm 4 [0] (k' := [.code [1, 0, 0], .code [1, 0, 1], .code [1, 1]]) (t' := [(0, .sl 60 (List.map Var.av (x :: xs)) f_s)]) (h' := []) (by kernel_rfl) ?_
  refine AR.reg hm [.pure, .pure] (by kernel_rfl) ?_
  refine DK.seg hG 1 [0, 3] (t' := [(0, .sl 60 (List.map Var.av (x :: xs)) f_s), (3, .sl 60 (List.map Var.av (x :: xs)) f_s)]) (h' := []) (by kernel_rfl) rfl ?_
  refine DK.op' [0, 4] (t' := [(0, .sl 60 (List.map Var.av (x :: xs)) f_s), (4, .sc (.bool false))]) (h' := []) (LSpec.neNil hG (by kernel_rfl)) (by kernel_rfl) rfl (by kernel_rfl) rfl ?_
  refine DK.done (by kernel_rfl) (by kernel_rfl) ?_
  refine AR.seg hG hm 3 [0] (k' := [.code [1, 1, 0], .code [1, 1, 1]]) (t' := [(0, .sl 60 (List.map Var.av (x :: xs)) f_s)]) (h' := []) (by kernel_rfl) ?_
  refine AR.reg hm [.pure, .pure, .loud, .pure] (by kernel_rfl) ?_
  refine DK.seg hG 2 [5, 6] (t' := [(5, .sl 60 [] true), (6, .sl 60 (List.map Var.av (x :: xs)) f_s)]) (h' := []) (by kernel_rfl) rfl ?_
  refine DK.op' [7] (t' := [(7, .own 0 1000000)]) (h' := [.row 60 (List.map Var.av ([] ++ (x :: xs))) 1000000 true]) (LSpec.appendB hG Var.av [] (x :: xs) 60 24 rfl hfit (by kernel_rfl)) (by kernel_rfl) (by kernel_rfl) (by kernel_rfl) rfl ?_
  refine DK.seg hG 1 [2] (t' := [(2, .own 0 1000000)]) (h' := [.row 60 (List.map Var.av ([] ++ (x :: xs))) 1000000 true]) (by kernel_rfl) rfl ?_
  refine DK.done (by kernel_rfl) (by kernel_rfl) ?_
  exact (AX.ret Try.func22 hc0 [0] : AX _ _ _ _ _ (some ⟨[.code [1, 1, 1]], [(2, .own 0 1000000)], [.row 60 (List.map Var.av ([] ++ (x :: xs))) 1000000 true]⟩)).ar

structure Machine where
 vars : List Var
 ev : Event
 owner : Int
 fuel : Int
 out : List Change
 e : Int
 deriving DecidableEq, Inhabited
end Go.Proofs.Yteioljlgcagnnaa

set_option linter.unusedVariables false
set_option linter.unusedSimpArgs false
set_option maxRecDepth 100000
set_option maxHeartbeats 4000000
namespace Go.Proofs.Yteioljlgcagnnaa
open Go.Sh
/-! ### slices.IndexFunc: function 89 -/
noncomputable def z89_F : Go.Sh.Fn := ⟨89, bodyOf Try.f89, 19⟩
def z89_l0s (f : Var → Bool) : List Var → Nat → Sum (Unit) (Int)
 | [], t8 =>
  (.inl ())
 | x :: rest, t8 =>
  (bif (f x) then
   (.inr ((t8 : Nat) : Int))
  else
   z89_l0s f rest (t8 + 1) )
theorem z89_l0_walk (s : List Var) (F_f : FuncId) (C_f : List AV) (f : Var → Bool) (P_f : plainL C_f = true) (O_f : C_f.all oneA = true) (H_f : ∀ (y0 : Var), ACalls Try.prog tab.S F_f ([Var.av y0] ++ C_f) [] (.sc (.bool (f y0))) []) (f_s : Bool) (r : Int) (c0 : Ctx) (hc0 : c0.m.length = 0) (res : Sum (Unit) (Int)) (J : ∀ w : Unit, res = .inl w → AX Try.prog tab z89_F c0 (Rp tab.S c0 (.sc (.int .i64 r)) []) (some ⟨[.code [1, 1]], [], []⟩)) (Jr : ∀ w, res = .inr w → w = r) :
  ∀ (rest : List Var) (t8 : Nat) (z : Int) (hI : z = ((t8 : Nat) : Int)) (hd : s.drop t8 = rest) (H : z89_l0s f rest t8 = res), AX Try.prog tab z89_F c0 (Rp tab.S c0 (.sc (.int .i64 r)) []) (some ⟨[.code [1, 0, 1, 0, 0], .loop [1, 0, 1, 0], .blk 0, .code [1, 1]], [(0, .sl 60 (List.map Var.av s) f_s), (1, .fn F_f C_f), (7, .sc (.int .i64 (((List.map Var.av s).length : Nat) : Int))), (8, .sc (.int .i64 z))], []⟩) := by
 intro rest
 induction rest with
 | nil =>
  intro t8 z hI hd  H
  subst hI
  rw [z89_l0s] at H
  refine .facts 0 fun hf => ?_
  have hlen : s.length ≤ 9223372036854775807 := by have hq := len_ok hf.2.1; rw [List.length_map] at hq; exact hq
  have hge : s.length ≤ t8 := List.drop_eq_nil_iff.1 hd
  have hc : (decide (((t8 : Nat) : Int) < (((List.map Var.av s).length : Nat) : Int))) = false := by rw [List.length_map]; exact decide_eq_false (by omega)
  exact .sg 3 [0,1,7,8,9] (.cdF hc (.sg 1 [] (.kp [] (.to (J () H.symm)))))
 | cons x rest ih =>
  intro t8 z hI hd  H
  subst hI
  rw [z89_l0s] at H
  refine .facts 0 fun hf => ?_
  have hlen : s.length ≤ 9223372036854775807 := by have hq := len_ok hf.2.1; rw [List.length_map] at hq; exact hq
  obtain ⟨hlt, hv_t8, hd2⟩ := drop_cons hd
  have hc : (decide (((t8 : Nat) : Int) < (((List.map Var.av s).length : Nat) : Int))) = true := by rw [List.length_map]; exact decide_eq_true (by omega)
  have hw : IntKind.i64.wrap (((t8 : Nat) : Int) + 1) = ((t8 + 1 : Nat) : Int) := wrapI_succ (by omega)
  refine .sg 3 [0,1,7,8,9] (.cdT hc (.sg 6 [0,1,5,7,8] (.rg (.sg 3 [0,1,5,7,8,11,12,13] (.xi [0,1,5,7,8,11,14] Var.av hv_t8 (.sg 1 [0,1,5,7,8,11,15] (.cf [0,1,5,7,8,16] (H_f x) P_f O_f (.dn (.cd (f x) H (fun hb H => ?_) (fun hb H => ?_))))))))))
  ·
   refine .sg 2 [4] ?_
   subst H
   obtain rfl := Jr _ rfl
   exact .ret Try.func89 hc0
  ·
   exact .sg 3 [0,1,7,8] (.kp [0,1,7,8] (.into (.cl (ih (t8 + 1) _ hw hd2 H))))

def z89 (s : List Var) (f : Var → Bool) : Int :=
 sumG (fun q => q) (z89_l0s f s 0) fun v =>
 (-1)
theorem z89_calls (s : List Var) (F_f : FuncId) (C_f : List AV) (f : Var → Bool) (P_f : plainL C_f = true) (O_f : C_f.all oneA = true) (H_f : ∀ (y0 : Var), ACalls Try.prog tab.S F_f ([Var.av y0] ++ C_f) [] (.sc (.bool (f y0))) []) (f_s : Bool) : ACalls Try.prog tab.S 89 [.sl 60 (List.map Var.av s) f_s, .fn F_f C_f] [] (.sc (.int .i64 (z89 s f))) [] := by
 generalize H : z89 s f = r
 refine .of_AX z89_F Try.func89 fun c0 hc0 => ?_
 rw [z89] at H
 refine .sg 6 [0,1,7,8] ?_
 rcases sumG_eq H with ⟨v, hv, H⟩ | ⟨r1, hv, hr1⟩
 case inr =>
  refine .into ?_
  replace hr1 : r1 = r := hr1
  subst hr1
  exact .to (z89_l0_walk s F_f C_f f P_f O_f H_f f_s _ c0 hc0 (.inr _) (fun _ e => by cases e) (fun _ e => (Sum.inr.inj e).symm) s 0 _ rfl rfl hv)
 refine .into (.to (z89_l0_walk s F_f C_f f P_f O_f H_f f_s r c0 hc0 (.inl v) (fun w e => ?_) (fun _ e => by cases e) s 0 _ rfl rfl hv))
 have e := Sum.inl.inj e
 subst e
 refine .sg 2 [4] ?_
 subst H
 exact .ret Try.func89 hc0

theorem z89_l0s_eq (f : Var → Bool) : ∀ (l : List Var) (i : Nat), z89_l0s f l i = match l.findIdx? f with | some k => .inr ((i + k : Nat) : Int) | none => .inl ()
 | [], i => rfl
 | x :: l, i => by
   rw [z89_l0s, List.findIdx?_cons, z89_l0s_eq f l (i + 1)]
   cases f x
   ·simp only [cond_false, Bool.false_eq_true, if_false]
    cases l.findIdx? f with
    | none => rfl
    | some k => simp only [Option.map_some]; rw [show i + 1 + k = i + (k + 1) by omega]
   ·rfl
theorem z89_idx (s : List Var) (f : Var → Bool) : z89 s f = idxF f s := by
 rw [z89, z89_l0s_eq]
 unfold idxF sumG
 cases s.findIdx? f with
 | none => rfl
 | some k => simp only [Nat.zero_add]

/-! ### (*podesta/eval.machine).fail: function 63 -/
noncomputable def z63_F : Go.Sh.Fn := ⟨63, bodyOf Try.f63, 13⟩
def z63 (m1 : Machine) (e1 : Int) : Machine :=
 (bif (m1.e == 0) then
  ({ m1 with e := e1 } : Machine)
 else
  m1)
theorem z63_walk (m1 : Machine) (e1 : Int) (r : Machine) (H : z63 m1 e1 = r) : ACalls Try.prog tab.S 63 [.ptr 0 0 none, .sc (.int .i64 e1)] [.box 71 [.own 1 1000000, .sc (.string m1.ev.On), .sc (.int .i64 m1.ev.Unit), .sc (.int .i64 m1.ev.Port), .arr .u64 12 m1.ev.Head, .sc (.int .i64 m1.owner), .sc (.int .i64 m1.fuel), .own 2 1000000, .sc (.int .i64 m1.e)], .row 60 (List.map Var.av m1.vars) 1000000 true, .row 51 (List.map Change.av m1.out) 1000000 true] (.tup []) [.box 71 [.own 1 1000000, .sc (.string r.ev.On), .sc (.int .i64 r.ev.Unit), .sc (.int .i64 r.ev.Port), .arr .u64 12 r.ev.Head, .sc (.int .i64 r.owner), .sc (.int .i64 r.fuel), .own 2 1000000, .sc (.int .i64 r.e)], .row 60 (List.map Var.av r.vars) 1000000 true, .row 51 (List.map Change.av r.out) 1000000 true] := by
 refine .of_AX z63_F Try.func63 fun c0 hc0 => ?_
 rw [z63] at H
 refine .sg 2 [0,1,8] (.cd (m1.e == 0) H (fun hb H => ?_) (fun hb H => ?_))
 ·
  refine .sg 1 [] ?_
  subst H
  exact .ret Try.func63 hc0 [0,1,2]
 ·
  refine .sg 1 [] ?_
  subst H
  exact .ret Try.func63 hc0 [0,1,2]

/-! ### (*podesta/eval.machine).burn: function 39 -/
noncomputable def z39_F : Go.Sh.Fn := ⟨39, bodyOf Try.f39, 30⟩
def z39 (m1 : Machine) : Bool × Machine :=
 (bif ((m1.e == 0) && (decide (m1.fuel ≤ 0))) then
  ((11 == 0), ({ m1 with fuel := (IntKind.i64.wrap (m1.fuel - 1)), e := 11 } : Machine))
 else
  ((m1.e == 0), ({ m1 with fuel := (IntKind.i64.wrap (m1.fuel - 1)) } : Machine)))
theorem z39_walk (m1 : Machine) (r : Bool × Machine) (H : z39 m1 = r) : ACalls Try.prog tab.S 39 [.ptr 0 0 none] [.box 71 [.own 1 1000000, .sc (.string m1.ev.On), .sc (.int .i64 m1.ev.Unit), .sc (.int .i64 m1.ev.Port), .arr .u64 12 m1.ev.Head, .sc (.int .i64 m1.owner), .sc (.int .i64 m1.fuel), .own 2 1000000, .sc (.int .i64 m1.e)], .row 60 (List.map Var.av m1.vars) 1000000 true, .row 51 (List.map Change.av m1.out) 1000000 true] (.sc (.bool r.1)) [.box 71 [.own 1 1000000, .sc (.string r.2.ev.On), .sc (.int .i64 r.2.ev.Unit), .sc (.int .i64 r.2.ev.Port), .arr .u64 12 r.2.ev.Head, .sc (.int .i64 r.2.owner), .sc (.int .i64 r.2.fuel), .own 2 1000000, .sc (.int .i64 r.2.e)], .row 60 (List.map Var.av r.2.vars) 1000000 true, .row 51 (List.map Change.av r.2.out) 1000000 true] := by
 refine .of_AX z39_F Try.func39 fun c0 hc0 => ?_
 rw [z39] at H
 refine .sg 4 [0] (.rg (.sg 6 [0,8] (.mx 0 [0,14] (.dn (.cd ((m1.e == 0) && (decide (m1.fuel ≤ 0))) H (fun hb H => ?_) (fun hb H => ?_))))))
 ·
  refine .sg 5 [2] ?_
  subst H
  exact .ret Try.func39 hc0 [0,1,2]
 ·
  refine .sg 5 [2] ?_
  subst H
  exact .ret Try.func39 hc0 [0,1,2]

/-! ### (*podesta/eval.machine).at$1: function 90 -/
noncomputable def z90_F : Go.Sh.Fn := ⟨90, bodyOf Try.f90, 8⟩
def z90 (v : Var) (c : ByteArray) : Bool :=
 (v.Name == c)
theorem z90_calls (v : Var) (c : ByteArray) : ACalls Try.prog tab.S 90 [Var.av v, .ep [.sc (.string c)] 0 none] [] (.sc (.bool (z90 v c))) [] := by
 generalize H : z90 v c = r
 refine .of_AX z90_F Try.func90 fun c0 hc0 => ?_
 rw [z90] at H
 refine .sg 4 [3] ?_
 subst H
 exact .ret Try.func90 hc0

/-! ### (*podesta/eval.machine).at: function 78 -/
noncomputable def z78_F : Go.Sh.Fn := ⟨78, bodyOf Try.f78, 11⟩
def z78 (m1 : Machine) (name : ByteArray) : Int × Machine :=
 ((z89 m1.vars (fun y0 => z90 y0 name)), m1)
theorem z78_walk (m1 : Machine) (name : ByteArray) (r : Int × Machine) (H : z78 m1 name = r) : ACalls Try.prog tab.S 78 [.ptr 0 0 none, .sc (.string name)] [.box 71 [.own 1 1000000, .sc (.string m1.ev.On), .sc (.int .i64 m1.ev.Unit), .sc (.int .i64 m1.ev.Port), .arr .u64 12 m1.ev.Head, .sc (.int .i64 m1.owner), .sc (.int .i64 m1.fuel), .own 2 1000000, .sc (.int .i64 m1.e)], .row 60 (List.map Var.av m1.vars) 1000000 true, .row 51 (List.map Change.av m1.out) 1000000 true] (.sc (.int .i64 r.1)) [.box 71 [.own 1 1000000, .sc (.string r.2.ev.On), .sc (.int .i64 r.2.ev.Unit), .sc (.int .i64 r.2.ev.Port), .arr .u64 12 r.2.ev.Head, .sc (.int .i64 r.2.owner), .sc (.int .i64 r.2.fuel), .own 2 1000000, .sc (.int .i64 r.2.e)], .row 60 (List.map Var.av r.2.vars) 1000000 true, .row 51 (List.map Change.av r.2.out) 1000000 true] := by
 refine .of_AX z78_F Try.func78 fun c0 hc0 => ?_
 rw [z78] at H
 refine .sg 3 [0,3] (.rg (.sg 5 [8,9] (.cl_ [10] (caps := []) (z89_calls m1.vars 90 [.ep [.sc (.string name)] 0 none] (fun y0 => z90 y0 name) rfl rfl (fun y0 => z90_calls y0 name) false) (.same rfl (.fn (caps := [.ptr 3 0 none]) (by kernel_rfl) .nil)) (by kernel_rfl) rfl rfl (.sg 1 [4] (.dn ?_)))))
 subst H
 exact .ret Try.func78 hc0 [0,1,2]

/-! ### (*podesta/eval.machine).name: function 79 -/
noncomputable def z79_F : Go.Sh.Fn := ⟨79, bodyOf Try.f79, 49⟩
def z79_raw (m1 : Machine) (s : ByteArray) : Option (Int × Machine) :=
 letT (z78 m1 s) fun v =>
 (bif (decide (v.1 ≥ 0)) then
  (ixO v.2.vars v.1).bind fun x =>
  some (x.N, v.2)
 else
  (bif (s == (ByteArray.mk #[117, 110, 105, 116])) then
   some (v.2.ev.Unit, v.2)
  else
   (bif (s == (ByteArray.mk #[112, 111, 114, 116])) then
    some (v.2.ev.Port, v.2)
   else
    reqO (decide (0 ≤ (z91 s).1) && decide ((z91 s).1 < ((12 : Nat) : Int))) (
    some ((IntKind.i64.wrap (v.2.ev.Head.getD (((z91 s).1).toNat) 0)), v.2)))))
theorem z79_walk (m1 : Machine) (s : ByteArray) (r : Int × Machine) (H : z79_raw m1 s = some r) : ACalls Try.prog tab.S 79 [.ptr 0 0 none, .sc (.string s)] [.box 71 [.own 1 1000000, .sc (.string m1.ev.On), .sc (.int .i64 m1.ev.Unit), .sc (.int .i64 m1.ev.Port), .arr .u64 12 m1.ev.Head, .sc (.int .i64 m1.owner), .sc (.int .i64 m1.fuel), .own 2 1000000, .sc (.int .i64 m1.e)], .row 60 (List.map Var.av m1.vars) 1000000 true, .row 51 (List.map Change.av m1.out) 1000000 true] (.sc (.int .i64 r.1)) [.box 71 [.own 1 1000000, .sc (.string r.2.ev.On), .sc (.int .i64 r.2.ev.Unit), .sc (.int .i64 r.2.ev.Port), .arr .u64 12 r.2.ev.Head, .sc (.int .i64 r.2.owner), .sc (.int .i64 r.2.fuel), .own 2 1000000, .sc (.int .i64 r.2.e)], .row 60 (List.map Var.av r.2.vars) 1000000 true, .row 51 (List.map Change.av r.2.out) 1000000 true] := by
 refine .of_AX z79_F Try.func79 fun c0 hc0 => ?_
 rw [z79_raw] at H
 refine .sg 4 [0,1] (.rg (.sg 2 [0,1,8,9] (letH H fun v hv H => (.ch [0,1,10] [0,1,2] (z78_walk _ _ v hv) (.sg 1 [0,1,5] (.dn (.sg 2 [0,1,5,12] (.cd (decide (v.1 ≥ 0)) H (fun hb H => ?_) (fun hb H => ?_)))))))))
 ·
  refine .sg 1 [0,5] (.rg (.sg 5 [16,17] (bndO H fun x hv_x H => (.xo [18] (ixO_req hv_x Var.av) (.sg 1 [19] (.lo [20] (ixO_map hv_x Var.av).2 (.sg 1 [4] (.dn ?_))))))))
  obtain rfl := Option.some.inj H
  exact .ret Try.func79 hc0 [0,1,2]
 ·
  refine .sg 7 [0,1,21,22] (.cd (s == (ByteArray.mk #[117, 110, 105, 116])) H (fun hb H => ?_) (fun hb H => ?_))
  ·
   refine .sg 2 [4] ?_
   obtain rfl := Option.some.inj H
   exact .ret Try.func79 hc0 [0,1,2]
  ·
   refine .sg 2 [0,1,29] (.cd (s == (ByteArray.mk #[112, 111, 114, 116])) H (fun hb H => ?_) (fun hb H => ?_))
   ·
    refine .sg 2 [4] ?_
    obtain rfl := Option.some.inj H
    exact .ret Try.func79 hc0 [0,1,2]
   ·
    refine .sg 3 [0,1] (.rg (.sg 1 [0,37] (.cp [0,38] (z91_calls s) (.sg 5 [0,6] (.dn (.sg 1 [0,6] (.rg (.sg 5 [42,45] (reqH H fun hreq H => (.xa [46] hreq (.sg 3 [4] (.dn ?_))))))))))))
    obtain rfl := Option.some.inj H
    exact .ret Try.func79 hc0 [0,1,2]

/-! ### eval.truth: function 81 -/
noncomputable def z81_F : Go.Sh.Fn := ⟨81, bodyOf Try.f81, 4⟩
def z81 (b : Bool) : Int :=
 (bif b then
  1
 else
  0)
theorem z81_calls (b : Bool) : ACalls Try.prog tab.S 81 [.sc (.bool b)] [] (.sc (.int .i64 (z81 b))) [] := by
 generalize H : z81 b = r
 refine .of_AX z81_F Try.func81 fun c0 hc0 => ?_
 rw [z81] at H
 refine .sg 5 [3] (.cd b H (fun hb H => ?_) (fun hb H => ?_))
 ·
  refine .sg 2 [2] ?_
  subst H
  exact .ret Try.func81 hc0
 ·
  refine .sg 3 [2] ?_
  subst H
  exact .ret Try.func81 hc0

/-! ### eval.asked: function 102 -/
noncomputable def z102_F : Go.Sh.Fn := ⟨102, bodyOf Try.f102, 45⟩
def z102 (s : ByteArray) (a : Int) (b : Int) : Int × Bool :=
 (bif (s == (ByteArray.mk #[61, 61])) then
  ((z81 (a == b)), true)
 else
  (bif (s == (ByteArray.mk #[33, 61])) then
   ((z81 (a != b)), true)
  else
   (bif (s == (ByteArray.mk #[60])) then
    ((z81 (decide (a < b))), true)
   else
    (bif (s == (ByteArray.mk #[60, 61])) then
     ((z81 (decide (a ≤ b))), true)
    else
     (bif (s == (ByteArray.mk #[62])) then
      ((z81 (decide (a > b))), true)
     else
      (bif (s == (ByteArray.mk #[62, 61])) then
       ((z81 (decide (a ≥ b))), true)
      else
       (0, false)))))))
theorem z102_calls (s : ByteArray) (a : Int) (b : Int) : ACalls Try.prog tab.S 102 [.sc (.string s), .sc (.int .i64 a), .sc (.int .i64 b)] [] (.tup [.sc (.int .i64 ((z102 s a b).1)), .sc (.bool ((z102 s a b).2))]) [] := by
 generalize H : z102 s a b = r
 refine .of_AX z102_F Try.func102 fun c0 hc0 => ?_
 rw [z102] at H
 refine .sg 8 [1,2,8,9] (.cd (s == (ByteArray.mk #[61, 61])) H (fun hb H => ?_) (fun hb H => ?_))
 ·
  refine .sg 1 [1,2] (.rg (.sg 3 [13] (.cp [14] (z81_calls (a == b)) (.sg 2 [6,7] (.dn ?_)))))
  subst H
  exact .ret Try.func102 hc0
 ·
  refine .sg 2 [1,2,8,15] (.cd (s == (ByteArray.mk #[33, 61])) H (fun hb H => ?_) (fun hb H => ?_))
  ·
   refine .sg 1 [1,2] (.rg (.sg 3 [19] (.cp [20] (z81_calls (a != b)) (.sg 2 [6,7] (.dn ?_)))))
   subst H
   exact .ret Try.func102 hc0
  ·
   refine .sg 2 [1,2,8,21] (.cd (s == (ByteArray.mk #[60])) H (fun hb H => ?_) (fun hb H => ?_))
   ·
    refine .sg 1 [1,2] (.rg (.sg 3 [25] (.cp [26] (z81_calls (decide (a < b))) (.sg 2 [6,7] (.dn ?_)))))
    subst H
    exact .ret Try.func102 hc0
   ·
    refine .sg 2 [1,2,8,27] (.cd (s == (ByteArray.mk #[60, 61])) H (fun hb H => ?_) (fun hb H => ?_))
    ·
     refine .sg 1 [1,2] (.rg (.sg 3 [31] (.cp [32] (z81_calls (decide (a ≤ b))) (.sg 2 [6,7] (.dn ?_)))))
     subst H
     exact .ret Try.func102 hc0
    ·
     refine .sg 2 [1,2,8,33] (.cd (s == (ByteArray.mk #[62])) H (fun hb H => ?_) (fun hb H => ?_))
     ·
      refine .sg 1 [1,2] (.rg (.sg 3 [37] (.cp [38] (z81_calls (decide (a > b))) (.sg 2 [6,7] (.dn ?_)))))
      subst H
      exact .ret Try.func102 hc0
     ·
      refine .sg 2 [1,2,39] (.cd (s == (ByteArray.mk #[62, 61])) H (fun hb H => ?_) (fun hb H => ?_))
      ·
       refine .sg 1 [1,2] (.rg (.sg 3 [43] (.cp [44] (z81_calls (decide (a ≥ b))) (.sg 2 [6,7] (.dn ?_)))))
       subst H
       exact .ret Try.func102 hc0
      ·
       refine .sg 4 [6,7] ?_
       subst H
       exact .ret Try.func102 hc0

/-! ### (*podesta/eval.machine).sum: function 92 -/
noncomputable def z92_F : Go.Sh.Fn := ⟨92, bodyOf Try.f92, 48⟩
def z92_raw (m1 : Machine) (s : ByteArray) (a : Int) (b : Int) : Option (Int × Machine) :=
 (bif (z102 s a b).2 then
  some ((z102 s a b).1, m1)
 else
  (bif (s == (ByteArray.mk #[43])) then
   some ((IntKind.i64.wrap (a + b)), m1)
  else
   (bif (s == (ByteArray.mk #[45])) then
    some ((IntKind.i64.wrap (a - b)), m1)
   else
    (bif (s == (ByteArray.mk #[42])) then
     some ((IntKind.i64.wrap (a * b)), m1)
    else
     (bif (b == 0) then
      letT (z63 m1 12) fun v =>
      some (0, v)
     else
      (bif (s == (ByteArray.mk #[47])) then
       reqO (b != 0) (
       some ((IntKind.i64.wrap (Int.tdiv a b)), m1))
      else
       reqO (b != 0) (
       some ((Int.tmod a b), m1))))))))
theorem z92_walk (m1 : Machine) (s : ByteArray) (a : Int) (b : Int) (r : Int × Machine) (H : z92_raw m1 s a b = some r) : ACalls Try.prog tab.S 92 [.ptr 0 0 none, .sc (.string s), .sc (.int .i64 a), .sc (.int .i64 b)] [.box 71 [.own 1 1000000, .sc (.string m1.ev.On), .sc (.int .i64 m1.ev.Unit), .sc (.int .i64 m1.ev.Port), .arr .u64 12 m1.ev.Head, .sc (.int .i64 m1.owner), .sc (.int .i64 m1.fuel), .own 2 1000000, .sc (.int .i64 m1.e)], .row 60 (List.map Var.av m1.vars) 1000000 true, .row 51 (List.map Change.av m1.out) 1000000 true] (.sc (.int .i64 r.1)) [.box 71 [.own 1 1000000, .sc (.string r.2.ev.On), .sc (.int .i64 r.2.ev.Unit), .sc (.int .i64 r.2.ev.Port), .arr .u64 12 r.2.ev.Head, .sc (.int .i64 r.2.owner), .sc (.int .i64 r.2.fuel), .own 2 1000000, .sc (.int .i64 r.2.e)], .row 60 (List.map Var.av r.2.vars) 1000000 true, .row 51 (List.map Change.av r.2.out) 1000000 true] := by
 refine .of_AX z92_F Try.func92 fun c0 hc0 => ?_
 rw [z92_raw] at H
 refine .sg 4 [0,1,2,3] (.rg (.sg 3 [0,1,2,3,12,13,14] (.cp [0,1,2,3,15] (z102_calls s a b) (.sg 5 [0,1,2,3,9,10] (.dn (.sg 2 [0,1,2,3,9,18] (.cd ((z102 s a b).2) H (fun hb H => ?_) (fun hb H => ?_))))))))
 ·
  refine .sg 2 [8] ?_
  obtain rfl := Option.some.inj H
  exact .ret Try.func92 hc0 [0,1,2]
 ·
  refine .sg 7 [0,1,2,3,20,21] (.cd (s == (ByteArray.mk #[43])) H (fun hb H => ?_) (fun hb H => ?_))
  ·
   refine .sg 2 [8] ?_
   obtain rfl := Option.some.inj H
   exact .ret Try.func92 hc0 [0,1,2]
  ·
   refine .sg 2 [0,1,2,3,20,26] (.cd (s == (ByteArray.mk #[45])) H (fun hb H => ?_) (fun hb H => ?_))
   ·
    refine .sg 2 [8] ?_
    obtain rfl := Option.some.inj H
    exact .ret Try.func92 hc0 [0,1,2]
   ·
    refine .sg 2 [0,1,2,3,31] (.cd (s == (ByteArray.mk #[42])) H (fun hb H => ?_) (fun hb H => ?_))
    ·
     refine .sg 2 [8] ?_
     obtain rfl := Option.some.inj H
     exact .ret Try.func92 hc0 [0,1,2]
    ·
     refine .sg 5 [0,1,2,3,37] (.cd (b == 0) H (fun hb H => ?_) (fun hb H => ?_))
     ·
      refine .sg 1 [0] (.rg (.sg 1 [38] (letH H fun v hv H => (.ch [] [0,1,2] (z63_walk _ _ v hv) (.dn (.sg 2 [8] ?_))))))
      obtain rfl := Option.some.inj H
      exact .ret Try.func92 hc0 [0,1,2]
     ·
      refine .sg 4 [2,3,41] (.cd (s == (ByteArray.mk #[47])) H (fun hb H => ?_) (fun hb H => ?_))
      ·
       refine .sg 1 [2,3] (.rg (.sg 2 [42,43] (reqH H fun hreq H => (.qu [44] (b := b) hreq (.sg 1 [8] (.dn ?_))))))
       obtain rfl := Option.some.inj H
       exact .ret Try.func92 hc0 [0,1,2]
      ·
       refine .sg 2 [2,3] (.rg (.sg 2 [45,46] (reqH H fun hreq H => (.re [47] (b := b) hreq (.sg 1 [8] (.dn ?_))))))
       obtain rfl := Option.some.inj H
       exact .ret Try.func92 hc0 [0,1,2]

end Go.Proofs.Yteioljlgcagnnaa

set_option linter.unusedVariables false
set_option linter.unusedSimpArgs false
set_option maxRecDepth 100000
set_option maxHeartbeats 4000000
namespace Go.Proofs.Yteioljlgcagnnaa
open Go.Sh
/-! ### head.Sound: function 107 -/
noncomputable def z107_F : Go.Sh.Fn := ⟨107, bodyOf Try.f107, 15⟩
def z107_l0s (h1 : List Int) : Nat → Nat → Sum (Unit) (Bool)
 | 0, t6 =>
  (.inl ())
 | rest + 1, t6 =>
  (bif (!(fitsH ((t6 : Nat) : Int) (h1.getD t6 0))) then
   (.inr false)
  else
   z107_l0s h1 rest (t6 + 1) )
theorem z107_l0_walk (h1 : List Int) (r : Bool) (c0 : Ctx) (hc0 : c0.m.length = 0) (res : Sum (Unit) (Bool)) (J : ∀ w : Unit, res = .inl w → AX Try.prog tab z107_F c0 (Rp tab.S c0 (.sc (.bool r)) []) (some ⟨[.code [1, 1]], [], [.box 25 [.arr .u64 12 h1]]⟩)) (Jr : ∀ w, res = .inr w → w = r) :
  ∀ (rest : Nat) (t6 : Nat) (z : Int) (hI : z = ((t6 : Nat) : Int)) (hd : t6 + rest = 12) (H : z107_l0s h1 rest t6 = res), AX Try.prog tab z107_F c0 (Rp tab.S c0 (.sc (.bool r)) []) (some ⟨[.code [1, 0, 1, 0, 0], .loop [1, 0, 1, 0], .blk 0, .code [1, 1]], [(5, .arr .u64 12 h1), (6, .sc (.int .i64 z))], [.box 25 [.arr .u64 12 h1]]⟩) := by
 intro rest
 induction rest with
 | zero =>
  intro t6 z hI hd  H
  subst hI
  rw [z107_l0s] at H
  have hc : (decide (((t6 : Nat) : Int) < 12)) = false := decide_eq_false (by omega)
  exact .sg 3 [5,6,7] (.cdF hc (.sg 1 [] (.kp [] (.to (J () H.symm)))))
 | succ rest ih =>
  intro t6 z hI hd  H
  subst hI
  rw [z107_l0s] at H
  have hlt_t6 : t6 < 12 := by omega
  have hc : (decide (((t6 : Nat) : Int) < 12)) = true := decide_eq_true (by omega)
  have hw : IntKind.i64.wrap (((t6 : Nat) : Int) + 1) = ((t6 + 1 : Nat) : Int) := wrapI_succ (by omega)
  refine .sg 3 [5,6,7] (.cdT hc (.sg 4 [5,6] (.rg (.sg 1 [5,6,8] ?_))))
  have hreq := idx_in 12 hlt_t6 (by decide)
  refine .xv [5,6,8,9] hreq (.sg 2 [3,4,5,6] (.dn (.sg 1 [3,4,5,6] (.rg (.sg 2 [5,6,10,11] (.cp [5,6,12] (z106_ok ((t6 : Nat) : Int) (h1.getD t6 0)) (.sg 1 [5,6,13] (.dn (.cd (!(fitsH ((t6 : Nat) : Int) (h1.getD t6 0))) H (fun hb H => ?_) (fun hb H => ?_))))))))))
  ·
   refine .sg 2 [2] ?_
   subst H
   obtain rfl := Jr _ rfl
   exact .ret Try.func107 hc0
  ·
   exact .sg 3 [5,6] (.kp [5,6] (.into (.cl (ih (t6 + 1) _ hw (by omega) H))))

def z107 (h1 : List Int) : Bool :=
 sumG (fun q => q) (z107_l0s h1 12 0) fun v =>
 true
theorem z107_calls (h1 : List Int) : ACalls Try.prog tab.S 107 [.arr .u64 12 h1] [] (.sc (.bool (z107 h1))) [] := by
 generalize H : z107 h1 = r
 refine .of_AX z107_F Try.func107 fun c0 hc0 => ?_
 rw [z107] at H
 refine .sg 6 [5,6] ?_
 rcases sumG_eq H with ⟨v, hv, H⟩ | ⟨r1, hv, hr1⟩
 case inr =>
  refine .into ?_
  replace hr1 : r1 = r := hr1
  subst hr1
  exact .to (z107_l0_walk h1 _ c0 hc0 (.inr _) (fun _ e => by cases e) (fun _ e => (Sum.inr.inj e).symm) 12 0 _ rfl rfl hv)
 refine .into (.to (z107_l0_walk h1 r c0 hc0 (.inl v) (fun w e => ?_) (fun _ e => by cases e) 12 0 _ rfl rfl hv))
 have e := Sum.inl.inj e
 subst e
 refine .sg 2 [2] ?_
 subst H
 exact .ret Try.func107 hc0

/-! ### cube.Sound: function 104 -/
noncomputable def z104_F : Go.Sh.Fn := ⟨104, bodyOf Try.f104, 23⟩
def z104_l0s (c : Cube) : Nat → Nat → Sum (Unit) (Bool)
 | 0, t11 =>
  (.inl ())
 | rest + 1, t11 =>
  (bif ((IntKind.u64.wrap ((BitVec.ofInt 64 (c.Value.getD t11 0) &&& ~~~ (BitVec.ofInt 64 (c.Care.getD (t11) 0))).toNat)) != 0) then
   (.inr false)
  else
   z104_l0s c rest (t11 + 1) )
theorem z104_l0_walk (c : Cube) (r : Bool) (c0 : Ctx) (hc0 : c0.m.length = 0) (res : Sum (Unit) (Bool)) (J : ∀ w : Unit, res = .inl w → AX Try.prog tab z104_F c0 (Rp tab.S c0 (.sc (.bool r)) []) (some ⟨[.code [1, 1, 1]], [], [.box 46 (Cube.ch c)]⟩)) (Jr : ∀ w, res = .inr w → w = r) :
  ∀ (rest : Nat) (t11 : Nat) (z : Int) (hI : z = ((t11 : Nat) : Int)) (hd : t11 + rest = 12) (H : z104_l0s c rest t11 = res), AX Try.prog tab z104_F c0 (Rp tab.S c0 (.sc (.bool r)) []) (some ⟨[.code [1, 1, 0, 1, 0, 0], .loop [1, 1, 0, 1, 0], .blk 0, .code [1, 1, 1]], [(1, .ptr 0 0 none), (10, .arr .u64 12 c.Value), (11, .sc (.int .i64 z))], [.box 46 (Cube.ch c)]⟩) := by
 intro rest
 induction rest with
 | zero =>
  intro t11 z hI hd  H
  subst hI
  rw [z104_l0s] at H
  have hc : (decide (((t11 : Nat) : Int) < 12)) = false := decide_eq_false (by omega)
  exact .sg 3 [1,10,11,12] (.cdF hc (.sg 1 [] (.kp [] (.to (J () H.symm)))))
 | succ rest ih =>
  intro t11 z hI hd  H
  subst hI
  rw [z104_l0s] at H
  have hlt_t11 : t11 < 12 := by omega
  have hc : (decide (((t11 : Nat) : Int) < 12)) = true := decide_eq_true (by omega)
  have hw : IntKind.i64.wrap (((t11 : Nat) : Int) + 1) = ((t11 + 1 : Nat) : Int) := wrapI_succ (by omega)
  refine .sg 3 [1,10,11,12] (.cdT hc (.sg 4 [1,10,11] (.rg (.sg 1 [1,10,11,13] ?_))))
  have hreq := idx_in 12 hlt_t11 (by decide)
  refine .xv [1,10,11,13,14] hreq (.sg 2 [1,3,4,10,11] (.dn (.sg 1 [1,3,4,10,11] (.rg (.sg 3 [1,10,11,15,16,17] ?_)))))
  have hreq := idx_in 12 hlt_t11 (by decide)
  refine .xa [1,10,11,15,18] hreq (.sg 3 [1,10,11,21] (.dn (.cd ((IntKind.u64.wrap ((BitVec.ofInt 64 (c.Value.getD t11 0) &&& ~~~ (BitVec.ofInt 64 (c.Care.getD (t11) 0))).toNat)) != 0) H (fun hb H => ?_) (fun hb H => ?_))))
  ·
   refine .sg 2 [2] ?_
   subst H
   obtain rfl := Jr _ rfl
   exact .ret Try.func104 hc0
  ·
   exact .sg 3 [1,10,11] (.kp [1,10,11] (.into (.cl (ih (t11 + 1) _ hw (by omega) H))))

def z104 (c : Cube) : Bool :=
 (bif (!(z107 c.Care)) then
  false
 else
  sumG (fun q => q) (z104_l0s c 12 0) fun v =>
  true)
theorem z104_calls (c : Cube) : ACalls Try.prog tab.S 104 [Cube.av c] [] (.sc (.bool (z104 c))) [] := by
 generalize H : z104 c = r
 refine .of_AX z104_F Try.func104 fun c0 hc0 => ?_
 rw [z104] at H
 refine .sg 4 [1] (.rg (.sg 2 [1,6] (.cp [1,7] (z107_calls c.Care) (.sg 1 [1,8] (.dn (.cd (!(z107 c.Care)) H (fun hb H => ?_) (fun hb H => ?_)))))))
 ·
  refine .sg 2 [2] ?_
  subst H
  exact .ret Try.func104 hc0
 ·
  refine .sg 5 [1,10,11] ?_
  rcases sumG_eq H with ⟨v, hv, H⟩ | ⟨r1, hv, hr1⟩
  case inr =>
   refine .into ?_
   replace hr1 : r1 = r := hr1
   subst hr1
   exact .to (z104_l0_walk c _ c0 hc0 (.inr _) (fun _ e => by cases e) (fun _ e => (Sum.inr.inj e).symm) 12 0 _ rfl rfl hv)
  refine .into (.to (z104_l0_walk c r c0 hc0 (.inl v) (fun w e => ?_) (fun _ e => by cases e) 12 0 _ rfl rfl hv))
  have e := Sum.inl.inj e
  subst e
  refine .sg 2 [2] ?_
  subst H
  exact .ret Try.func104 hc0

/-! ### cube.All: function 93 -/
noncomputable def cube_All_F : Go.Sh.Fn := ⟨93, bodyOf Try.f93, 2⟩
def cube_All : Cube :=
 ({ Value := [0, 0, 0, 0, 0, 0, 0, 0, 0, 0, 0, 0], Care := [0, 0, 0, 0, 0, 0, 0, 0, 0, 0, 0, 0] } : Cube)
theorem cube_All_calls : ACalls Try.prog tab.S 93 [] [] (Cube.av (cube_All)) [] := by
 generalize H : cube_All = r
 refine .of_AX cube_All_F Try.func93 fun c0 hc0 => ?_
 rw [cube_All] at H
 refine .sg 4 [0] ?_
 subst H
 exact .ret Try.func93 hc0

/-! ### head.Mask: function 105 -/
noncomputable def z105_F : Go.Sh.Fn := ⟨105, bodyOf Try.f105, 27⟩
def z105_raw (n : Int) (bits : Int) : Option (Int × Bool) :=
 (bif (((!(z103 n)) || (decide (bits < 0))) || (decide (bits > (sizeT n)))) then
  some (0, false)
 else
  reqO (decide (0 ≤ bits)) (
  reqO (decide (0 ≤ (IntKind.i64.wrap ((sizeT n) - bits)))) (
  some ((IntKind.u64.wrap ((IntKind.u64.wrap ((IntKind.u64.wrap (1 * 2 ^ (min (bits : Int).toNat (IntKind.u64).bits))) - 1)) * 2 ^ (min ((IntKind.i64.wrap ((sizeT n) - bits)) : Int).toNat (IntKind.u64).bits))), true))))
theorem z105_walk (n : Int) (bits : Int) (r : Int × Bool) (H : z105_raw n bits = some r) : ACalls Try.prog tab.S 105 [.sc (.int .i64 n), .sc (.int .i64 bits)] [] (.tup [.sc (.int .u64 r.1), .sc (.bool r.2)]) [] := by
 refine .of_AX z105_F Try.func105 fun c0 hc0 => ?_
 rw [z105_raw] at H
 refine .sg 4 [0,1] (.rg (.sg 1 [0,1,6] (.cp [0,1,7] (z103_calls n) (.sg 2 [0,1,9] (.mx 1 [0,1,12] (.sg 1 [0,1,13] (.mm 13 ((!(z103 n)) || (decide (bits < 0))) 5 [.pure, .pure, .pure, .pure, .pure] [0, 1, 18] 18 (fun z => .sc (.bool (z || (decide (bits > (sizeT n)))))) ?J2 (fun hb J => ?ht2) (fun hb J => ?hf2))))))))
 case ht2 =>
  exact .sg 5 [0,1,18] (.cl J)
 case hf2 =>
  exact .sg 2 [0,1,13,14,15] (.cp [0,1,13,14,16] (z94_ok n) (.sg 2 [0,1,18] (.cl J)))
 refine .dn (.cd (((!(z103 n)) || (decide (bits < 0))) || (decide (bits > (sizeT n)))) H (fun hb H => ?_) (fun hb H => ?_))
 ·
  refine .sg 2 [4,5] ?_
  obtain rfl := Option.some.inj H
  exact .ret Try.func105 hc0
 ·
  refine .sg 2 [0,1] (.rg (.sg 1 [0,1,19] (reqH H fun hreq H => (.sl_ [0,1,20] (b := bits) hreq (.sg 2 [1,21,22] (.cp [1,21,23] (z94_ok n) (.sg 2 [21,25] (reqH H fun hreq H => (.sl_ [26] (b := (IntKind.i64.wrap ((sizeT n) - bits))) hreq (.sg 2 [4,5] (.dn ?_)))))))))))
  obtain rfl := Option.some.inj H
  exact .ret Try.func105 hc0

/-! ### cube.With: function 95 -/
noncomputable def z95_F : Go.Sh.Fn := ⟨95, bodyOf Try.f95, 50⟩
def z95_raw (c : Cube) (n : Int) (v : Int) (bits : Int) : Option (Cube × Int) :=
 (bif (!(z104 c)) then
  some (({ Value := [0, 0, 0, 0, 0, 0, 0, 0, 0, 0, 0, 0], Care := [0, 0, 0, 0, 0, 0, 0, 0, 0, 0, 0, 0] } : Cube), 2)
 else
  (bif ((setT_ c.Value n v).2 != 0) then
   some (({ Value := [0, 0, 0, 0, 0, 0, 0, 0, 0, 0, 0, 0], Care := [0, 0, 0, 0, 0, 0, 0, 0, 0, 0, 0, 0] } : Cube), (setT_ c.Value n v).2)
  else
   (z105_raw n bits).bind fun x =>
   (bif (!x.2) then
    some (({ Value := [0, 0, 0, 0, 0, 0, 0, 0, 0, 0, 0, 0], Care := [0, 0, 0, 0, 0, 0, 0, 0, 0, 0, 0, 0] } : Cube), 13)
   else
    reqO (decide (0 ≤ n) && decide (n < ((12 : Nat) : Int))) (
    reqO (decide (0 ≤ n) && decide (n < ((12 : Nat) : Int))) (
    some (({ Value := (c.Value.set (n.toNat) (IntKind.u64.wrap ((BitVec.ofInt 64 v &&& BitVec.ofInt 64 x.1).toNat))), Care := (c.Care.set (n.toNat) x.1) } : Cube), 0))))))
theorem z95_walk (c : Cube) (n : Int) (v : Int) (bits : Int) (r : Cube × Int) (H : z95_raw c n v bits = some r) : ACalls Try.prog tab.S 95 [Cube.av c, .sc (.int .i64 n), .sc (.int .u64 v), .sc (.int .i64 bits)] [] (.tup [Cube.av r.1, .sc (.int .i64 r.2)]) [] := by
 refine .of_AX z95_F Try.func95 fun c0 hc0 => ?_
 rw [z95_raw] at H
 refine .sg 4 [1,2,3,4,8] (.rg (.sg 1 [1,2,3,4,8,14] (.cp [1,2,3,4,8,15] (z104_calls c) (.sg 1 [1,2,3,4,8,16] (.dn (.cd (!(z104 c)) H (fun hb H => ?_) (fun hb H => ?_)))))))
 ·
  refine .sg 2 [8,9] ?_
  obtain rfl := Option.some.inj H
  exact .ret Try.func95 hc0
 ·
  refine .sg 3 [1,2,3,4,8] (.rg (.sg 4 [1,2,3,4,8,20,21,22] (.cp [1,2,3,4,8,23] (head_Set_ok c.Value n v) (.sg 6 [1,2,3,4,8,11] (.dn (.sg 2 [1,2,3,4,8,11,27] (.cd ((setT_ c.Value n v).2 != 0) H (fun hb H => ?_) (fun hb H => ?_))))))))
  ·
   refine .sg 2 [8,9] ?_
   obtain rfl := Option.some.inj H
   exact .ret Try.func95 hc0
  ·
   refine .sg 2 [1,2,3,4,8] (.rg (.sg 2 [1,2,4,8,31,32] (bndO H fun x hv H => (.cp [1,2,4,8,33] (z105_walk _ _ x hv) (.sg 5 [1,2,4,8,12,13] (.dn (.sg 3 [1,2,4,8,12,37] (.cd (!x.2) H (fun hb H => ?_) (fun hb H => ?_)))))))))
   ·
    refine .sg 2 [8,9] ?_
    obtain rfl := Option.some.inj H
    exact .ret Try.func95 hc0
   ·
    refine .sg 2 [1,2,4,8,12] (.rg (.sg 7 [4,8,39,40,41,44,45] (reqH H fun hreq H => (.xa [4,8,40,41,44,46] hreq (.sg 2 [4,8,40,44,47] (reqH H fun hreq H => (.xa [4,8,44,48] hreq (.sg 1 [4,8] (.dn (.sg 2 [8,9] ?_))))))))))
    obtain rfl := Option.some.inj H
    exact .ret Try.func95 hc0

abbrev K_z80 (g : Machine → Node → Option (Int × Machine)) : Prop := ∀ (m1 : Machine) (n : Node) (r : Int × Machine) (H : g m1 n = some r), ACalls Try.prog tab.S 80 [.ptr 0 0 none, Node.ag n] [.box 71 [.own 1 1000000, .sc (.string m1.ev.On), .sc (.int .i64 m1.ev.Unit), .sc (.int .i64 m1.ev.Port), .arr .u64 12 m1.ev.Head, .sc (.int .i64 m1.owner), .sc (.int .i64 m1.fuel), .own 2 1000000, .sc (.int .i64 m1.e)], .row 60 (List.map Var.av m1.vars) 1000000 true, .row 51 (List.map Change.av m1.out) 1000000 true] (.sc (.int .i64 r.1)) [.box 71 [.own 1 1000000, .sc (.string r.2.ev.On), .sc (.int .i64 r.2.ev.Unit), .sc (.int .i64 r.2.ev.Port), .arr .u64 12 r.2.ev.Head, .sc (.int .i64 r.2.owner), .sc (.int .i64 r.2.fuel), .own 2 1000000, .sc (.int .i64 r.2.e)], .row 60 (List.map Var.av r.2.vars) 1000000 true, .row 51 (List.map Change.av r.2.out) 1000000 true]
abbrev K_z60 (g : Machine → Node → Option (Int × Machine)) : Prop := ∀ (m1 : Machine) (n : Node) (r : Int × Machine) (H : g m1 n = some r), ACalls Try.prog tab.S 60 [.ptr 0 0 none, Node.ag n] [.box 71 [.own 1 1000000, .sc (.string m1.ev.On), .sc (.int .i64 m1.ev.Unit), .sc (.int .i64 m1.ev.Port), .arr .u64 12 m1.ev.Head, .sc (.int .i64 m1.owner), .sc (.int .i64 m1.fuel), .own 2 1000000, .sc (.int .i64 m1.e)], .row 60 (List.map Var.av m1.vars) 1000000 true, .row 51 (List.map Change.av m1.out) 1000000 true] (.sc (.int .i64 r.1)) [.box 71 [.own 1 1000000, .sc (.string r.2.ev.On), .sc (.int .i64 r.2.ev.Unit), .sc (.int .i64 r.2.ev.Port), .arr .u64 12 r.2.ev.Head, .sc (.int .i64 r.2.owner), .sc (.int .i64 r.2.fuel), .own 2 1000000, .sc (.int .i64 r.2.e)], .row 60 (List.map Var.av r.2.vars) 1000000 true, .row 51 (List.map Change.av r.2.out) 1000000 true]
/-! ### (*podesta/eval.machine).two: function 80 -/
noncomputable def z80_F : Go.Sh.Fn := ⟨80, bodyOf Try.f80, 57⟩
def z80_raw (g_z80 : Machine → Node → Option (Int × Machine)) (g_z60 : Machine → Node → Option (Int × Machine)) (m1 : Machine) (n : Node) : Option (Int × Machine) :=
 (ixO n.Kids 0).bind fun x =>
 (g_z60 m1 x).bind fun v =>
 (bif ((n.Text == (ByteArray.mk #[38, 38])) && (v.1 == 0)) then
  some (0, v.2)
 else
  (bif ((n.Text == (ByteArray.mk #[124, 124])) && (v.1 != 0)) then
   some (1, v.2)
  else
   (ixO n.Kids 1).bind fun x1 =>
   (g_z60 v.2 x1).bind fun v1 =>
   (bif ((n.Text == (ByteArray.mk #[38, 38])) || (n.Text == (ByteArray.mk #[124, 124]))) then
    some ((z81 (v1.1 != 0)), v1.2)
   else
    (bif (v1.2.e != 0) then
     some (0, v1.2)
    else
     (z92_raw v1.2 n.Text v.1 v1.1).bind fun v2 =>
     some (v2.1, v2.2)))))
theorem z80_walk (g_z80 : Machine → Node → Option (Int × Machine)) (H_g_z80 : K_z80 g_z80) (g_z60 : Machine → Node → Option (Int × Machine)) (H_g_z60 : K_z60 g_z60) (m1 : Machine) (n : Node) (r : Int × Machine) (H : z80_raw g_z80 g_z60 m1 n = some r) : ACalls Try.prog tab.S 80 [.ptr 0 0 none, Node.ag n] [.box 71 [.own 1 1000000, .sc (.string m1.ev.On), .sc (.int .i64 m1.ev.Unit), .sc (.int .i64 m1.ev.Port), .arr .u64 12 m1.ev.Head, .sc (.int .i64 m1.owner), .sc (.int .i64 m1.fuel), .own 2 1000000, .sc (.int .i64 m1.e)], .row 60 (List.map Var.av m1.vars) 1000000 true, .row 51 (List.map Change.av m1.out) 1000000 true] (.sc (.int .i64 r.1)) [.box 71 [.own 1 1000000, .sc (.string r.2.ev.On), .sc (.int .i64 r.2.ev.Unit), .sc (.int .i64 r.2.ev.Port), .arr .u64 12 r.2.ev.Head, .sc (.int .i64 r.2.owner), .sc (.int .i64 r.2.fuel), .own 2 1000000, .sc (.int .i64 r.2.e)], .row 60 (List.map Var.av r.2.vars) 1000000 true, .row 51 (List.map Change.av r.2.out) 1000000 true] := by
 refine .of_AX z80_F Try.func80 fun c0 hc0 => ?_
 rw [z80_raw] at H
 refine .sg 3 [0,3] (.rg (.sg 3 [0,3,7,9] (bndO H fun x hv H => (.xg [0,3,7,10] Node.av Node.ag Node.av_eq hv (.sg 1 [0,3,7,11] (bndO H fun v hv H => (.ch [0,3,12] [0,1,2] (H_g_z60 _ _ v hv) (.sg 1 [0,3,5] (.dn (.sg 3 [0,3,5] (.rg (.sg 4 [0,3,5,17] (.mx 0 [0,3,5,20] (.sg 1 [0,3,5,13] (.dn (.cd ((n.Text == (ByteArray.mk #[38, 38])) && (v.1 == 0)) H (fun hb H => ?_) (fun hb H => ?_)))))))))))))))))
 ·
  refine .sg 2 [4] ?_
  obtain rfl := Option.some.inj H
  exact .ret Try.func80 hc0 [0,1,2]
 ·
  refine .sg 1 [0,3,5] (.rg (.sg 4 [0,3,5,25] (.mx 0 [0,3,5,28] (.sg 1 [0,3,5,21] (.dn (.cd ((n.Text == (ByteArray.mk #[124, 124])) && (v.1 != 0)) H (fun hb H => ?_) (fun hb H => ?_)))))))
  ·
   refine .sg 2 [4] ?_
   obtain rfl := Option.some.inj H
   exact .ret Try.func80 hc0 [0,1,2]
  ·
   refine .sg 3 [0,3,5] (.rg (.sg 3 [0,3,5,29,31] (bndO H fun x1 hv H => (.xg [0,3,5,29,32] Node.av Node.ag Node.av_eq hv (.sg 1 [0,3,5,29,33] (bndO H fun v1 hv H => (.ch [0,3,5,34] [0,1,2] (H_g_z60 _ _ v1 hv) (.sg 1 [0,3,5,6] (.dn (.sg 2 [0,3,5,6] (.rg (.sg 4 [0,3,5,6,38] (.mx 1 [0,3,5,6,42] (.dn (.cd ((n.Text == (ByteArray.mk #[38, 38])) || (n.Text == (ByteArray.mk #[124, 124]))) H (fun hb H => ?_) (fun hb H => ?_))))))))))))))))
   ·
    refine .sg 1 [6] (.rg (.sg 2 [44] (.cp [45] (z81_calls (v1.1 != 0)) (.sg 1 [4] (.dn ?_)))))
    obtain rfl := Option.some.inj H
    exact .ret Try.func80 hc0 [0,1,2]
   ·
    refine .sg 4 [0,3,5,6,50] (.cd (v1.2.e != 0) H (fun hb H => ?_) (fun hb H => ?_))
    ·
     refine .sg 2 [4] ?_
     obtain rfl := Option.some.inj H
     exact .ret Try.func80 hc0 [0,1,2]
    ·
     refine .sg 2 [0,3,5,6] (.rg (.sg 5 [51,53,54,55] (bndO H fun v2 hv H => (.ch [56] [0,1,2] (z92_walk _ _ _ _ v2 hv) (.sg 1 [4] (.dn ?_))))))
     obtain rfl := Option.some.inj H
     exact .ret Try.func80 hc0 [0,1,2]

/-! ### (*podesta/eval.machine).expr: function 60 -/
noncomputable def z60_F : Go.Sh.Fn := ⟨60, bodyOf Try.f60, 40⟩
def z60_raw (g_z80 : Machine → Node → Option (Int × Machine)) (g_z60 : Machine → Node → Option (Int × Machine)) (m1 : Machine) (n : Node) : Option (Int × Machine) :=
 letT (z39 m1) fun v =>
 (bif (!v.1) then
  some (0, v.2)
 else
  (bif (n.Kind == 18) then
   some (n.Num, v.2)
  else
   (bif (n.Kind == 19) then
    (z79_raw v.2 n.Text).bind fun v1 =>
    some (v1.1, v1.2)
   else
    (bif (n.Kind == 20) then
     (g_z80 v.2 n).bind fun v2 =>
     some (v2.1, v2.2)
    else
     (ixO n.Kids 0).bind fun x =>
     (g_z60 v.2 x).bind fun v3 =>
     (bif (n.Text == (ByteArray.mk #[33])) then
      some ((z81 (v3.1 == 0)), v3.2)
     else
      some ((IntKind.i64.wrap (0 - v3.1)), v3.2))))))
theorem z60_walk (g_z80 : Machine → Node → Option (Int × Machine)) (H_g_z80 : K_z80 g_z80) (g_z60 : Machine → Node → Option (Int × Machine)) (H_g_z60 : K_z60 g_z60) (m1 : Machine) (n : Node) (r : Int × Machine) (H : z60_raw g_z80 g_z60 m1 n = some r) : ACalls Try.prog tab.S 60 [.ptr 0 0 none, Node.ag n] [.box 71 [.own 1 1000000, .sc (.string m1.ev.On), .sc (.int .i64 m1.ev.Unit), .sc (.int .i64 m1.ev.Port), .arr .u64 12 m1.ev.Head, .sc (.int .i64 m1.owner), .sc (.int .i64 m1.fuel), .own 2 1000000, .sc (.int .i64 m1.e)], .row 60 (List.map Var.av m1.vars) 1000000 true, .row 51 (List.map Change.av m1.out) 1000000 true] (.sc (.int .i64 r.1)) [.box 71 [.own 1 1000000, .sc (.string r.2.ev.On), .sc (.int .i64 r.2.ev.Unit), .sc (.int .i64 r.2.ev.Port), .arr .u64 12 r.2.ev.Head, .sc (.int .i64 r.2.owner), .sc (.int .i64 r.2.fuel), .own 2 1000000, .sc (.int .i64 r.2.e)], .row 60 (List.map Var.av r.2.vars) 1000000 true, .row 51 (List.map Change.av r.2.out) 1000000 true] := by
 refine .of_AX z60_F Try.func60 fun c0 hc0 => ?_
 rw [z60_raw] at H
 refine .sg 4 [0,3] (.rg (.sg 1 [0,3,6] (letH H fun v hv H => (.ch [0,3,7] [0,1,2] (z39_walk _ v hv) (.sg 1 [0,3,8] (.dn (.cd (!v.1) H (fun hb H => ?_) (fun hb H => ?_))))))))
 ·
  refine .sg 2 [4] ?_
  obtain rfl := Option.some.inj H
  exact .ret Try.func60 hc0 [0,1,2]
 ·
  refine .sg 7 [0,3,10,11] (.cd (n.Kind == 18) H (fun hb H => ?_) (fun hb H => ?_))
  ·
   refine .sg 2 [4] ?_
   obtain rfl := Option.some.inj H
   exact .ret Try.func60 hc0 [0,1,2]
  ·
   refine .sg 2 [0,3,10,15] (.cd (n.Kind == 19) H (fun hb H => ?_) (fun hb H => ?_))
   ·
    refine .sg 1 [0,3] (.rg (.sg 3 [17,19] (bndO H fun v1 hv H => (.ch [20] [0,1,2] (z79_walk _ _ v1 hv) (.sg 1 [4] (.dn ?_))))))
    obtain rfl := Option.some.inj H
    exact .ret Try.func60 hc0 [0,1,2]
   ·
    refine .sg 2 [0,3,21] (.cd (n.Kind == 20) H (fun hb H => ?_) (fun hb H => ?_))
    ·
     refine .sg 1 [0,3] (.rg (.sg 2 [23,24] (bndO H fun v2 hv H => (.ch [25] [0,1,2] (H_g_z80 _ _ v2 hv) (.sg 1 [4] (.dn ?_))))))
     obtain rfl := Option.some.inj H
     exact .ret Try.func60 hc0 [0,1,2]
    ·
     refine .sg 3 [0,3] (.rg (.sg 3 [3,26,28] (bndO H fun x hv H => (.xg [3,26,29] Node.av Node.ag Node.av_eq hv (.sg 1 [3,26,30] (bndO H fun v3 hv H => (.ch [3,31] [0,1,2] (H_g_z60 _ _ v3 hv) (.sg 1 [3,5] (.dn (.sg 3 [5,34] (.cd (n.Text == (ByteArray.mk #[33])) H (fun hb H => ?_) (fun hb H => ?_))))))))))))
     ·
      refine .sg 1 [5] (.rg (.sg 2 [36] (.cp [37] (z81_calls (v3.1 == 0)) (.sg 1 [4] (.dn ?_)))))
      obtain rfl := Option.some.inj H
      exact .ret Try.func60 hc0 [0,1,2]
     ·
      refine .sg 3 [4] ?_
      obtain rfl := Option.some.inj H
      exact .ret Try.func60 hc0 [0,1,2]

def exG : Nat → (Machine → Node → Option (Int × Machine)) × (Machine → Node → Option (Int × Machine))
 | 0 => (fun _ _ => none, fun _ _ => none)
 | q + 1 => (z80_raw (exG q).1 (exG q).2, z60_raw (exG q).1 (exG q).2)
theorem exG_walk : ∀ q : Nat, K_z80 ((exG q).1) ∧ K_z60 ((exG q).2)
 | 0 => ⟨(fun _ _ _ H => nomatch H), (fun _ _ _ H => nomatch H)⟩
 | q + 1 => ⟨z80_walk (exG q).1 (exG_walk q).1 (exG q).2 (exG_walk q).2, z60_walk (exG q).1 (exG_walk q).1 (exG q).2 (exG_walk q).2⟩
end Go.Proofs.Yteioljlgcagnnaa

set_option linter.unusedVariables false
set_option linter.unusedSimpArgs false
set_option maxRecDepth 100000
set_option maxHeartbeats 4000000
namespace Go.Proofs.Yteioljlgcagnnaa
open Go.Sh
/-! ### (*podesta/eval.machine).within: function 82 -/
noncomputable def z82_F : Go.Sh.Fn := ⟨82, bodyOf Try.f82, 24⟩
def z82_raw (m1 : Machine) (n : Node) (low : Int) (high : Int) : Option (Int × Machine) :=
 ((exG 40000).2 m1 n).bind fun v =>
 (bif ((decide (v.1 < low)) || (decide (v.1 > high))) then
  letT (z63 v.2 13) fun v1 =>
  some (v.1, v1)
 else
  some (v.1, v.2))
theorem z82_walk (m1 : Machine) (n : Node) (low : Int) (high : Int) (r : Int × Machine) (H : z82_raw m1 n low high = some r) : ACalls Try.prog tab.S 82 [.ptr 0 0 none, Node.ag n, .sc (.int .i64 low), .sc (.int .i64 high)] [.box 71 [.own 1 1000000, .sc (.string m1.ev.On), .sc (.int .i64 m1.ev.Unit), .sc (.int .i64 m1.ev.Port), .arr .u64 12 m1.ev.Head, .sc (.int .i64 m1.owner), .sc (.int .i64 m1.fuel), .own 2 1000000, .sc (.int .i64 m1.e)], .row 60 (List.map Var.av m1.vars) 1000000 true, .row 51 (List.map Change.av m1.out) 1000000 true] (.sc (.int .i64 r.1)) [.box 71 [.own 1 1000000, .sc (.string r.2.ev.On), .sc (.int .i64 r.2.ev.Unit), .sc (.int .i64 r.2.ev.Port), .arr .u64 12 r.2.ev.Head, .sc (.int .i64 r.2.owner), .sc (.int .i64 r.2.fuel), .own 2 1000000, .sc (.int .i64 r.2.e)], .row 60 (List.map Var.av r.2.vars) 1000000 true, .row 51 (List.map Change.av r.2.out) 1000000 true] := by
 refine .of_AX z82_F Try.func82 fun c0 hc0 => ?_
 rw [z82_raw] at H
 refine .sg 3 [0,2,3,5] (.rg (.sg 2 [0,2,3,10,11] (bndO H fun v hv H => (.ch [0,2,3,12] [0,1,2] ((exG_walk 40000).2 _ _ v hv) (.sg 1 [0,2,3,9] (.dn (.sg 2 [0,2,3,9] (.rg (.sg 4 [0,3,9,16] (.mx 1 [0,9,20] (.dn (.cd ((decide (v.1 < low)) || (decide (v.1 > high))) H (fun hb H => ?_) (fun hb H => ?_)))))))))))))
 ·
  refine .rg (.sg 1 [9,21] (letH H fun v1 hv H => (.ch [9] [0,1,2] (z63_walk _ _ v1 hv) (.dn (.sg 2 [8] ?_)))))
  obtain rfl := Option.some.inj H
  exact .ret Try.func82 hc0 [0,1,2]
 ·
  refine .sg 3 [8] ?_
  obtain rfl := Option.some.inj H
  exact .ret Try.func82 hc0 [0,1,2]

/-! ### (*podesta/eval.machine).match: function 83 -/
noncomputable def z83_F : Go.Sh.Fn := ⟨83, bodyOf Try.f83, 61⟩
def z83_l0s : List Node → ByteArray → Int → Int → List Int → Int → Int → Int → List Var → List Change → List Int → List Int → Option (Sum (ByteArray × Int × Int × (List Int) × Int × Int × Int × (List Var) × (List Change) × (List Int) × (List Int)) (Cube × Machine))
 | [], m_1_0, m_1_1, m_1_2, m_1_3, m_2, m_3, m_5, o1, o2, c_0, c_1 =>
  some (.inl (m_1_0, m_1_1, m_1_2, m_1_3, m_2, m_3, m_5, o1, o2, c_0, c_1))
 | x :: rest, m_1_0, m_1_1, m_1_2, m_1_3, m_2, m_3, m_5, o1, o2, c_0, c_1 =>
  (ixO x.Kids 0).bind fun x1 =>
  ((exG 40000).2 ({ vars := o1, ev := ({ On := m_1_0, Unit := m_1_1, Port := m_1_2, Head := m_1_3 } : Event), owner := m_2, fuel := m_3, out := o2, e := m_5 } : Machine) x1).bind fun v =>
  (z95_raw ({ Value := c_0, Care := c_1 } : Cube) ((z91 x.Text).1) (IntKind.u64.wrap v.1) (bif (decide (x.Num < 0)) then (sizeT ((z91 x.Text).1)) else x.Num)).bind fun x2 =>
  (bif ((x2.2 != 0) || (decide (v.1 < 0))) then
   letT (z63 v.2 13) fun v1 =>
   some (.inr (({ Value := c_0, Care := c_1 } : Cube), v1))
  else
   z83_l0s rest v.2.ev.On v.2.ev.Unit v.2.ev.Port v.2.ev.Head v.2.owner v.2.fuel v.2.e v.2.vars v.2.out x2.1.Value x2.1.Care)
theorem z83_l0_walk (m1 : Machine) (n : Node) (r : Cube × Machine) (c0 : Ctx) (hc0 : c0.m.length = 3) (res : Sum (ByteArray × Int × Int × (List Int) × Int × Int × Int × (List Var) × (List Change) × (List Int) × (List Int)) (Cube × Machine)) (J : ∀ w : ByteArray × Int × Int × (List Int) × Int × Int × Int × (List Var) × (List Change) × (List Int) × (List Int), res = .inl w → AX Try.prog tab z83_F c0 (Rp tab.S c0 (Cube.av r.1) [.box 71 [.own 1 1000000, .sc (.string r.2.ev.On), .sc (.int .i64 r.2.ev.Unit), .sc (.int .i64 r.2.ev.Port), .arr .u64 12 r.2.ev.Head, .sc (.int .i64 r.2.owner), .sc (.int .i64 r.2.fuel), .own 2 1000000, .sc (.int .i64 r.2.e)], .row 60 (List.map Var.av r.2.vars) 1000000 true, .row 51 (List.map Change.av r.2.out) 1000000 true]) (some ⟨[.code [1, 1, 1]], [(4, .ptr 4 0 none), (5, .ptr 5 0 none)], [.box 71 [.own 1 1000000, .sc (.string w.1), .sc (.int .i64 w.2.1), .sc (.int .i64 w.2.2.1), .arr .u64 12 w.2.2.2.1, .sc (.int .i64 w.2.2.2.2.1), .sc (.int .i64 w.2.2.2.2.2.1), .own 2 1000000, .sc (.int .i64 w.2.2.2.2.2.2.1)], .row 60 (List.map Var.av w.2.2.2.2.2.2.2.1) 1000000 true, .row 51 (List.map Change.av w.2.2.2.2.2.2.2.2.1) 1000000 true, .box 30 (Node.ch n), .box 46 [.arr .u64 12 [0, 0, 0, 0, 0, 0, 0, 0, 0, 0, 0, 0], .arr .u64 12 [0, 0, 0, 0, 0, 0, 0, 0, 0, 0, 0, 0]], .box 46 [.arr .u64 12 w.2.2.2.2.2.2.2.2.2.1, .arr .u64 12 w.2.2.2.2.2.2.2.2.2.2]]⟩)) (Jr : ∀ w, res = .inr w → w = r) :
  ∀ (rest : List Node) (t18 : Nat) (z : Int) (hI : z = ((t18 : Nat) : Int)) (hd : n.Kids.drop t18 = rest) (m_1_0 : ByteArray) (m_1_1 : Int) (m_1_2 : Int) (m_1_3 : List Int) (m_2 : Int) (m_3 : Int) (m_5 : Int) (o1 : List Var) (o2 : List Change) (c_0 : List Int) (c_1 : List Int) (H : z83_l0s rest m_1_0 m_1_1 m_1_2 m_1_3 m_2 m_3 m_5 o1 o2 c_0 c_1 = some res), AX Try.prog tab z83_F c0 (Rp tab.S c0 (Cube.av r.1) [.box 71 [.own 1 1000000, .sc (.string r.2.ev.On), .sc (.int .i64 r.2.ev.Unit), .sc (.int .i64 r.2.ev.Port), .arr .u64 12 r.2.ev.Head, .sc (.int .i64 r.2.owner), .sc (.int .i64 r.2.fuel), .own 2 1000000, .sc (.int .i64 r.2.e)], .row 60 (List.map Var.av r.2.vars) 1000000 true, .row 51 (List.map Change.av r.2.out) 1000000 true]) (some ⟨[.code [1, 1, 0, 1, 0, 0], .loop [1, 1, 0, 1, 0], .blk 0, .code [1, 1, 1]], [(0, .ptr 0 0 none), (4, .ptr 4 0 none), (5, .ptr 5 0 none), (16, .sl 30 (List.map Node.av n.Kids) false), (17, .sc (.int .i64 (((List.map Node.av n.Kids).length : Nat) : Int))), (18, .sc (.int .i64 z))], [.box 71 [.own 1 1000000, .sc (.string m_1_0), .sc (.int .i64 m_1_1), .sc (.int .i64 m_1_2), .arr .u64 12 m_1_3, .sc (.int .i64 m_2), .sc (.int .i64 m_3), .own 2 1000000, .sc (.int .i64 m_5)], .row 60 (List.map Var.av o1) 1000000 true, .row 51 (List.map Change.av o2) 1000000 true, .box 30 (Node.ch n), .box 46 [.arr .u64 12 [0, 0, 0, 0, 0, 0, 0, 0, 0, 0, 0, 0], .arr .u64 12 [0, 0, 0, 0, 0, 0, 0, 0, 0, 0, 0, 0]], .box 46 [.arr .u64 12 c_0, .arr .u64 12 c_1]]⟩) := by
 intro rest
 induction rest with
 | nil =>
  intro t18 z hI hd m_1_0 m_1_1 m_1_2 m_1_3 m_2 m_3 m_5 o1 o2 c_0 c_1 H
  subst hI
  rw [z83_l0s] at H
  refine .facts 16 fun hf => ?_
  have hlen : n.Kids.length ≤ 9223372036854775807 := by have hq := len_ok hf.2.1; rw [List.length_map] at hq; exact hq
  have hge : n.Kids.length ≤ t18 := List.drop_eq_nil_iff.1 hd
  have hc : (decide (((t18 : Nat) : Int) < (((List.map Node.av n.Kids).length : Nat) : Int))) = false := by rw [List.length_map]; exact decide_eq_false (by omega)
  exact .sg 3 [0,4,5,16,17,18,19] (.cdF hc (.sg 1 [4,5] (.kp [4,5] (.to (J (m_1_0, m_1_1, m_1_2, m_1_3, m_2, m_3, m_5, o1, o2, c_0, c_1) (Option.some.inj H).symm)))))
 | cons x rest ih =>
  intro t18 z hI hd m_1_0 m_1_1 m_1_2 m_1_3 m_2 m_3 m_5 o1 o2 c_0 c_1 H
  subst hI
  rw [z83_l0s] at H
  refine .facts 16 fun hf => ?_
  have hlen : n.Kids.length ≤ 9223372036854775807 := by have hq := len_ok hf.2.1; rw [List.length_map] at hq; exact hq
  obtain ⟨hlt, hv_t18, hd2⟩ := drop_cons hd
  have hc : (decide (((t18 : Nat) : Int) < (((List.map Node.av n.Kids).length : Nat) : Int))) = true := by rw [List.length_map]; exact decide_eq_true (by omega)
  have hw : IntKind.i64.wrap (((t18 : Nat) : Int) + 1) = ((t18 + 1 : Nat) : Int) := wrapI_succ (by omega)
  refine .sg 3 [0,4,5,16,17,18,19] (.cdT hc (.sg 4 [0,4,5,16,17,18] (.rg (.xg [0,4,5,16,17,18,20] Node.av Node.ag Node.av_eq hv_t18 (.sg 3 [0,4,5,7,16,17,18] (.dn (.sg 1 [0,4,5,7,16,17,18] (.rg (.sg 3 [0,4,5,7,16,17,18,22,24] (bndO H fun x1 hv H => (.xg [0,4,5,7,16,17,18,22,25] Node.av Node.ag Node.av_eq hv (.sg 1 [0,4,5,7,16,17,18,22,26] (bndO H fun v hv H => (.ch [0,4,5,7,16,17,18,27] [0,1,2] ((exG_walk 40000).2 _ _ v hv) (.sg 1 [0,4,5,7,8,16,17,18] (.dn (.sg 1 [0,4,5,7,8,16,17,18] (.rg (.sg 2 [0,4,5,7,8,16,17,18,30] (.cp [0,4,5,7,8,16,17,18,31] (z91_calls x.Text) (.sg 5 [0,4,5,7,8,9,16,17,18] (.dn (.sg 5 [0,4,5,8,9,11,16,17,18,37] (.jn (decide (x.Num < 0)) [0, 4, 5, 8, 9, 11, 16, 17, 18] (fun z => [(11, .sc (.int .i64 (bif z then (sizeT ((z91 x.Text).1)) else x.Num)))]) ?J7 (fun hb J => ?ht7) (fun hb J => ?hf7)))))))))))))))))))))))))
  case ht7 =>
   exact .rg (.sg 1 [0,4,5,8,9,16,17,18,38] (.cp [0,4,5,8,9,16,17,18,39] (z94_ok ((z91 x.Text).1)) (.sg 1 [0,4,5,8,9,11,16,17,18] (.dn (.sg 0 [0,4,5,8,9,11,16,17,18] (.cl J))))))
  case hf7 =>
   exact .sg 1 [0,4,5,8,9,11,16,17,18] (.cl J)
  refine .sg 1 [0,4,5,8,9,11,16,17,18] (.rg (.sg 5 [0,4,5,8,16,17,18,41,42,44,45] (bndO H fun x2 hv H => (.cp [0,4,5,8,16,17,18,46] (z95_walk _ _ _ _ x2 hv) (.sg 6 [0,4,5,8,12,13,16,17,18] (.dn (.sg 2 [0,4,5,8,12,13,16,17,18] (.rg (.sg 3 [0,4,5,8,12,16,17,18,51] (.mx 1 [0,4,5,12,16,17,18,54] (.dn (.cd ((x2.2 != 0) || (decide (v.1 < 0))) H (fun hb H => ?_) (fun hb H => ?_)))))))))))))
  ·
   refine .sg 1 [0,4,5] (.rg (.sg 1 [4,5,55] (letH H fun v1 hv H => (.ch [4,5] [0,1,2] (z63_walk _ _ v1 hv) (.dn (.sg 2 [4] ?_))))))
   obtain rfl := Option.some.inj H
   obtain rfl := Jr _ rfl
   exact .ret Try.func83 hc0 [0,1,2]
  ·
   exact .sg 4 [0,4,5,16,17,18] (.tl hc0 [0,1,2,3,4,5] [0,4,5,16,17,18] (.into (.cl (ih (t18 + 1) _ hw hd2 v.2.ev.On v.2.ev.Unit v.2.ev.Port v.2.ev.Head v.2.owner v.2.fuel v.2.e v.2.vars v.2.out x2.1.Value x2.1.Care H))))

def z83_raw (m1 : Machine) (n : Node) : Option (Cube × Machine) :=
 loopO (z83_l0s n.Kids m1.ev.On m1.ev.Unit m1.ev.Port m1.ev.Head m1.owner m1.fuel m1.e m1.vars m1.out cube_All.Value cube_All.Care) fun v =>
 some (({ Value := v.2.2.2.2.2.2.2.2.2.1, Care := v.2.2.2.2.2.2.2.2.2.2 } : Cube), ({ vars := v.2.2.2.2.2.2.2.1, ev := ({ On := v.1, Unit := v.2.1, Port := v.2.2.1, Head := v.2.2.2.1 } : Event), owner := v.2.2.2.2.1, fuel := v.2.2.2.2.2.1, out := v.2.2.2.2.2.2.2.2.1, e := v.2.2.2.2.2.2.1 } : Machine))
theorem z83_walk (m1 : Machine) (n : Node) (r : Cube × Machine) (H : z83_raw m1 n = some r) : ACalls Try.prog tab.S 83 [.ptr 0 0 none, Node.ag n] [.box 71 [.own 1 1000000, .sc (.string m1.ev.On), .sc (.int .i64 m1.ev.Unit), .sc (.int .i64 m1.ev.Port), .arr .u64 12 m1.ev.Head, .sc (.int .i64 m1.owner), .sc (.int .i64 m1.fuel), .own 2 1000000, .sc (.int .i64 m1.e)], .row 60 (List.map Var.av m1.vars) 1000000 true, .row 51 (List.map Change.av m1.out) 1000000 true] (Cube.av r.1) [.box 71 [.own 1 1000000, .sc (.string r.2.ev.On), .sc (.int .i64 r.2.ev.Unit), .sc (.int .i64 r.2.ev.Port), .arr .u64 12 r.2.ev.Head, .sc (.int .i64 r.2.owner), .sc (.int .i64 r.2.fuel), .own 2 1000000, .sc (.int .i64 r.2.e)], .row 60 (List.map Var.av r.2.vars) 1000000 true, .row 51 (List.map Change.av r.2.out) 1000000 true] := by
 refine .of_AX z83_F Try.func83 fun c0 hc0 => ?_
 rw [z83_raw] at H
 refine .sg 3 [0,3,4] (.rg (.cp [0,3,4,14] (cube_All_calls) (.sg 2 [0,3,4,5] (.dn (.sg 4 [0,4,5,16,17,18] ?_)))))
 rcases loopO_some H with ⟨v, hv, H⟩ | hv
 case inr =>
  exact .into (.to (z83_l0_walk m1 n _ c0 hc0 (.inr _) (fun _ e => by cases e) (fun _ e => (Sum.inr.inj e).symm) n.Kids 0 _ rfl rfl m1.ev.On m1.ev.Unit m1.ev.Port m1.ev.Head m1.owner m1.fuel m1.e m1.vars m1.out cube_All.Value cube_All.Care hv))
 refine .into (.to (z83_l0_walk m1 n r c0 hc0 (.inl v) (fun w e => ?_) (fun _ e => by cases e) n.Kids 0 _ rfl rfl m1.ev.On m1.ev.Unit m1.ev.Port m1.ev.Head m1.owner m1.fuel m1.e m1.vars m1.out cube_All.Value cube_All.Care hv))
 have e := Sum.inl.inj e
 subst e
 refine .sg 2 [4] ?_
 obtain rfl := Option.some.inj H
 exact .ret Try.func83 hc0 [0,1,2]

/-! ### (*podesta/eval.machine).acts: function 84 -/
noncomputable def z84_F : Go.Sh.Fn := ⟨84, bodyOf Try.f84, 77⟩
def z84_l0s : List Node → ByteArray → Int → Int → List Int → Int → Int → Int → List Var → List Change → List Act → Option (ByteArray × Int × Int × (List Int) × Int × Int × Int × (List Var) × (List Change) × (List Act))
 | [], m_1_0, m_1_1, m_1_2, m_1_3, m_2, m_3, m_5, o1, o2, out =>
  some (m_1_0, m_1_1, m_1_2, m_1_3, m_2, m_3, m_5, o1, o2, out)
 | x :: rest, m_1_0, m_1_1, m_1_2, m_1_3, m_2, m_3, m_5, o1, o2, out =>
  (bif (x.Kind == 15) then
   (ixO x.Kids 0).bind fun x1 =>
   (z82_raw ({ vars := o1, ev := ({ On := m_1_0, Unit := m_1_1, Port := m_1_2, Head := m_1_3 } : Event), owner := m_2, fuel := m_3, out := o2, e := m_5 } : Machine) x1 1 16).bind fun v =>
   fitO (out.length + [({ Kind := 1, Port := v.1, Field := 0, Value := 0 } : Act)].length) 32 (
   z84_l0s rest v.2.ev.On v.2.ev.Unit v.2.ev.Port v.2.ev.Head v.2.owner v.2.fuel v.2.e v.2.vars v.2.out (out ++ [({ Kind := 1, Port := v.1, Field := 0, Value := 0 } : Act)]))
  else
   (bif (x.Kind == 16) then
    (ixO x.Kids 0).bind fun x2 =>
    ((exG 40000).2 ({ vars := o1, ev := ({ On := m_1_0, Unit := m_1_1, Port := m_1_2, Head := m_1_3 } : Event), owner := m_2, fuel := m_3, out := o2, e := m_5 } : Machine) x2).bind fun v1 =>
    (bif (((setT_ [0, 0, 0, 0, 0, 0, 0, 0, 0, 0, 0, 0] ((z91 x.Text).1) (IntKind.u64.wrap v1.1)).2 != 0) || (decide (v1.1 < 0))) then
     letT (z63 v1.2 13) fun v2 =>
     fitO (out.length + [({ Kind := 2, Port := 0, Field := (z91 x.Text).1, Value := (IntKind.u64.wrap v1.1) } : Act)].length) 32 (
     z84_l0s rest v2.ev.On v2.ev.Unit v2.ev.Port v2.ev.Head v2.owner v2.fuel v2.e v2.vars v2.out (out ++ [({ Kind := 2, Port := 0, Field := (z91 x.Text).1, Value := (IntKind.u64.wrap v1.1) } : Act)]))
    else
     fitO (out.length + [({ Kind := 2, Port := 0, Field := (z91 x.Text).1, Value := (IntKind.u64.wrap v1.1) } : Act)].length) 32 (
     z84_l0s rest v1.2.ev.On v1.2.ev.Unit v1.2.ev.Port v1.2.ev.Head v1.2.owner v1.2.fuel v1.2.e v1.2.vars v1.2.out (out ++ [({ Kind := 2, Port := 0, Field := (z91 x.Text).1, Value := (IntKind.u64.wrap v1.1) } : Act)])))
   else
    fitO (out.length + [({ Kind := 3, Port := 0, Field := 0, Value := 0 } : Act)].length) 32 (
    z84_l0s rest m_1_0 m_1_1 m_1_2 m_1_3 m_2 m_3 m_5 o1 o2 (out ++ [({ Kind := 3, Port := 0, Field := 0, Value := 0 } : Act)]))))
theorem z84_l0_walk (m1 : Machine) (n : Node) (r : (List Act) × Machine) (c0 : Ctx) (hc0 : c0.m.length = 3) (res : ByteArray × Int × Int × (List Int) × Int × Int × Int × (List Var) × (List Change) × (List Act)) (J : AX Try.prog tab z84_F c0 (Rp tab.S c0 (.sl 99 (List.map Act.av r.1) false) [.box 71 [.own 1 1000000, .sc (.string r.2.ev.On), .sc (.int .i64 r.2.ev.Unit), .sc (.int .i64 r.2.ev.Port), .arr .u64 12 r.2.ev.Head, .sc (.int .i64 r.2.owner), .sc (.int .i64 r.2.fuel), .own 2 1000000, .sc (.int .i64 r.2.e)], .row 60 (List.map Var.av r.2.vars) 1000000 true, .row 51 (List.map Change.av r.2.out) 1000000 true]) (some ⟨[.code [1, 1, 1]], [(5, .own 4 1000000)], [.box 71 [.own 1 1000000, .sc (.string res.1), .sc (.int .i64 res.2.1), .sc (.int .i64 res.2.2.1), .arr .u64 12 res.2.2.2.1, .sc (.int .i64 res.2.2.2.2.1), .sc (.int .i64 res.2.2.2.2.2.1), .own 2 1000000, .sc (.int .i64 res.2.2.2.2.2.2.1)], .row 60 (List.map Var.av res.2.2.2.2.2.2.2.1) 1000000 true, .row 51 (List.map Change.av res.2.2.2.2.2.2.2.2.1) 1000000 true, .box 30 (Node.ch n), .row 99 (List.map Act.av res.2.2.2.2.2.2.2.2.2) 1000000 true]⟩)) :
  ∀ (rest : List Node) (t16 : Nat) (z : Int) (hI : z = ((t16 : Nat) : Int)) (hd : n.Kids.drop t16 = rest) (m_1_0 : ByteArray) (m_1_1 : Int) (m_1_2 : Int) (m_1_3 : List Int) (m_2 : Int) (m_3 : Int) (m_5 : Int) (o1 : List Var) (o2 : List Change) (out : List Act) (H : z84_l0s rest m_1_0 m_1_1 m_1_2 m_1_3 m_2 m_3 m_5 o1 o2 out = some res), AX Try.prog tab z84_F c0 (Rp tab.S c0 (.sl 99 (List.map Act.av r.1) false) [.box 71 [.own 1 1000000, .sc (.string r.2.ev.On), .sc (.int .i64 r.2.ev.Unit), .sc (.int .i64 r.2.ev.Port), .arr .u64 12 r.2.ev.Head, .sc (.int .i64 r.2.owner), .sc (.int .i64 r.2.fuel), .own 2 1000000, .sc (.int .i64 r.2.e)], .row 60 (List.map Var.av r.2.vars) 1000000 true, .row 51 (List.map Change.av r.2.out) 1000000 true]) (some ⟨[.code [1, 1, 0, 1, 0, 0], .loop [1, 1, 0, 1, 0], .blk 0, .code [1, 1, 1]], [(0, .ptr 0 0 none), (5, .own 4 1000000), (14, .sl 30 (List.map Node.av n.Kids) false), (15, .sc (.int .i64 (((List.map Node.av n.Kids).length : Nat) : Int))), (16, .sc (.int .i64 z))], [.box 71 [.own 1 1000000, .sc (.string m_1_0), .sc (.int .i64 m_1_1), .sc (.int .i64 m_1_2), .arr .u64 12 m_1_3, .sc (.int .i64 m_2), .sc (.int .i64 m_3), .own 2 1000000, .sc (.int .i64 m_5)], .row 60 (List.map Var.av o1) 1000000 true, .row 51 (List.map Change.av o2) 1000000 true, .box 30 (Node.ch n), .row 99 (List.map Act.av out) 1000000 true]⟩) := by
 intro rest
 induction rest with
 | nil =>
  intro t16 z hI hd m_1_0 m_1_1 m_1_2 m_1_3 m_2 m_3 m_5 o1 o2 out H
  subst hI
  rw [z84_l0s] at H
  refine .facts 14 fun hf => ?_
  have hlen : n.Kids.length ≤ 9223372036854775807 := by have hq := len_ok hf.2.1; rw [List.length_map] at hq; exact hq
  have hge : n.Kids.length ≤ t16 := List.drop_eq_nil_iff.1 hd
  have hc : (decide (((t16 : Nat) : Int) < (((List.map Node.av n.Kids).length : Nat) : Int))) = false := by rw [List.length_map]; exact decide_eq_false (by omega)
  refine .sg 3 [0,5,14,15,16,17] (.cdF hc (.sg 1 [5] (.kp [5] ?_)))
  obtain rfl := Option.some.inj H
  exact .to J
 | cons x rest ih =>
  intro t16 z hI hd m_1_0 m_1_1 m_1_2 m_1_3 m_2 m_3 m_5 o1 o2 out H
  subst hI
  rw [z84_l0s] at H
  refine .facts 14 fun hf => ?_
  have hlen : n.Kids.length ≤ 9223372036854775807 := by have hq := len_ok hf.2.1; rw [List.length_map] at hq; exact hq
  obtain ⟨hlt, hv_t16, hd2⟩ := drop_cons hd
  have hc : (decide (((t16 : Nat) : Int) < (((List.map Node.av n.Kids).length : Nat) : Int))) = true := by rw [List.length_map]; exact decide_eq_true (by omega)
  have hw : IntKind.i64.wrap (((t16 : Nat) : Int) + 1) = ((t16 + 1 : Nat) : Int) := wrapI_succ (by omega)
  refine .sg 3 [0,5,14,15,16,17] (.cdT hc (.sg 4 [0,5,14,15,16] (.rg (.xg [0,5,14,15,16,18] Node.av Node.ag Node.av_eq hv_t16 (.sg 3 [0,5,7,14,15,16] (.dn (.sg 5 [0,5,7,14,15,16,21,26] (.cd (x.Kind == 15) H (fun hb H => ?_) (fun hb H => ?_)))))))))
  ·
   exact .rg (.sg 4 [0,14,15,16,28,29,31] (bndO H fun x1 hv H => (.xg [0,14,15,16,28,29,32] Node.av Node.ag Node.av_eq hv (.sg 1 [0,14,15,16,28,29,33] (bndO H fun v hv H => (.ch [0,14,15,16,28,34] [0,1,2] (z82_walk _ _ _ _ v hv) (.sg 2 [0,14,15,16,28,36] (fitH H fun hfit H => (.ap [0,14,15,16,37] Act.av hfit (.sg 1 [0,5,14,15,16] (.dn (.sg 3 [0,5,14,15,16] (.tl hc0 [0,1,2,3,4] [0,5,14,15,16] (.into (.cl (ih (t16 + 1) _ hw hd2 v.2.ev.On v.2.ev.Unit v.2.ev.Port v.2.ev.Head v.2.owner v.2.fuel v.2.e v.2.vars v.2.out (out ++ [({ Kind := 1, Port := v.1, Field := 0, Value := 0 } : Act)]) H))))))))))))))))
  ·
   refine .sg 2 [0,5,7,14,15,16,38] (.cd (x.Kind == 16) H (fun hb H => ?_) (fun hb H => ?_))
   ·
    refine .sg 1 [0,5,7,14,15,16] (.rg (.sg 2 [0,5,7,14,15,16,42] (.cp [0,5,7,14,15,16,43] (z91_calls x.Text) (.sg 5 [0,5,7,8,14,15,16] (.dn (.sg 1 [0,5,7,8,14,15,16] (.rg (.sg 3 [0,5,8,14,15,16,46,48] (bndO H fun x2 hv H => (.xg [0,5,8,14,15,16,46,49] Node.av Node.ag Node.av_eq hv (.sg 1 [0,5,8,14,15,16,46,50] (bndO H fun v1 hv H => (.ch [0,5,8,14,15,16,51] [0,1,2] ((exG_walk 40000).2 _ _ v1 hv) (.sg 1 [0,5,8,10,14,15,16] (.dn (.sg 2 [0,5,8,10,14,15,16] (.rg (.sg 4 [0,5,8,10,14,15,16,53,54,56] (.cp [0,5,8,10,14,15,16,57] (head_Set_ok [0, 0, 0, 0, 0, 0, 0, 0, 0, 0, 0, 0] ((z91 x.Text).1) (IntKind.u64.wrap v1.1)) (.sg 6 [0,5,8,10,12,14,15,16] (.dn (.sg 1 [0,5,8,10,12,14,15,16] (.rg (.sg 3 [0,5,8,10,14,15,16,62] (.mx 1 [0,5,8,10,14,15,16,65] (.dn (.cd (((setT_ [0, 0, 0, 0, 0, 0, 0, 0, 0, 0, 0, 0] ((z91 x.Text).1) (IntKind.u64.wrap v1.1)).2 != 0) || (decide (v1.1 < 0))) H (fun hb H => ?_) (fun hb H => ?_))))))))))))))))))))))))))))
    ·
     exact .rg (.sg 1 [0,5,8,10,14,15,16,66] (letH H fun v2 hv H => (.ch [0,5,8,10,14,15,16] [0,1,2] (z63_walk _ _ v2 hv) (.dn (.rg (.sg 6 [0,14,15,16,68,73] (fitH H fun hfit H => (.ap [0,14,15,16,74] Act.av hfit (.sg 1 [0,5,14,15,16] (.dn (.sg 3 [0,5,14,15,16] (.tl hc0 [0,1,2,3,4] [0,5,14,15,16] (.into (.cl (ih (t16 + 1) _ hw hd2 v2.ev.On v2.ev.Unit v2.ev.Port v2.ev.Head v2.owner v2.fuel v2.e v2.vars v2.out (out ++ [({ Kind := 2, Port := 0, Field := (z91 x.Text).1, Value := (IntKind.u64.wrap v1.1) } : Act)]) H)))))))))))))))
    ·
     exact .sg 1 [0,5,8,10,14,15,16] (.rg (.sg 6 [0,14,15,16,68,73] (fitH H fun hfit H => (.ap [0,14,15,16,74] Act.av hfit (.sg 1 [0,5,14,15,16] (.dn (.sg 3 [0,5,14,15,16] (.tl hc0 [0,1,2,3,4] [0,5,14,15,16] (.into (.cl (ih (t16 + 1) _ hw hd2 v1.2.ev.On v1.2.ev.Unit v1.2.ev.Port v1.2.ev.Head v1.2.owner v1.2.fuel v1.2.e v1.2.vars v1.2.out (out ++ [({ Kind := 2, Port := 0, Field := (z91 x.Text).1, Value := (IntKind.u64.wrap v1.1) } : Act)]) H)))))))))))
   ·
    exact .rg (.sg 3 [0,14,15,16,22,24] (fitH H fun hfit H => (.ap [0,14,15,16,25] Act.av hfit (.sg 1 [0,5,14,15,16] (.dn (.sg 3 [0,5,14,15,16] (.tl hc0 [0,1,2,3,4] [0,5,14,15,16] (.into (.cl (ih (t16 + 1) _ hw hd2 m_1_0 m_1_1 m_1_2 m_1_3 m_2 m_3 m_5 o1 o2 (out ++ [({ Kind := 3, Port := 0, Field := 0, Value := 0 } : Act)]) H))))))))))

def z84_raw (m1 : Machine) (n : Node) : Option ((List Act) × Machine) :=
 (z84_l0s n.Kids m1.ev.On m1.ev.Unit m1.ev.Port m1.ev.Head m1.owner m1.fuel m1.e m1.vars m1.out ([] : List Act)).bind fun v =>
 some (v.2.2.2.2.2.2.2.2.2, ({ vars := v.2.2.2.2.2.2.2.1, ev := ({ On := v.1, Unit := v.2.1, Port := v.2.2.1, Head := v.2.2.2.1 } : Event), owner := v.2.2.2.2.1, fuel := v.2.2.2.2.2.1, out := v.2.2.2.2.2.2.2.2.1, e := v.2.2.2.2.2.2.1 } : Machine))
theorem z84_walk (m1 : Machine) (n : Node) (r : (List Act) × Machine) (H : z84_raw m1 n = some r) : ACalls Try.prog tab.S 84 [.ptr 0 0 none, Node.ag n] [.box 71 [.own 1 1000000, .sc (.string m1.ev.On), .sc (.int .i64 m1.ev.Unit), .sc (.int .i64 m1.ev.Port), .arr .u64 12 m1.ev.Head, .sc (.int .i64 m1.owner), .sc (.int .i64 m1.fuel), .own 2 1000000, .sc (.int .i64 m1.e)], .row 60 (List.map Var.av m1.vars) 1000000 true, .row 51 (List.map Change.av m1.out) 1000000 true] (.sl 99 (List.map Act.av r.1) false) [.box 71 [.own 1 1000000, .sc (.string r.2.ev.On), .sc (.int .i64 r.2.ev.Unit), .sc (.int .i64 r.2.ev.Port), .arr .u64 12 r.2.ev.Head, .sc (.int .i64 r.2.owner), .sc (.int .i64 r.2.fuel), .own 2 1000000, .sc (.int .i64 r.2.e)], .row 60 (List.map Var.av r.2.vars) 1000000 true, .row 51 (List.map Change.av r.2.out) 1000000 true] := by
 refine .of_AX z84_F Try.func84 fun c0 hc0 => ?_
 rw [z84_raw] at H
 refine .sg 8 [0,5,14,15,16] (.ad 5 99 true (.kp [0,5,14,15,16] ?_))
 refine bndO H fun v hv H => (.into (.to (z84_l0_walk m1 n r c0 hc0 v ?_ n.Kids 0 _ rfl rfl m1.ev.On m1.ev.Unit m1.ev.Port m1.ev.Head m1.owner m1.fuel m1.e m1.vars m1.out ([] : List Act) hv)))
 refine .sg 2 [4] ?_
 obtain rfl := Option.some.inj H
 exact .ret Try.func84 hc0 [0,1,2]

/-! ### (*podesta/eval.machine).change: function 85 -/
noncomputable def z85_F : Go.Sh.Fn := ⟨85, bodyOf Try.f85, 36⟩
def z85_raw (m1 : Machine) (unit : Int) (c : Mod) : Option (Machine) :=
 (bif (decide ((((List.map Change.av m1.out).length : Nat) : Int) ≥ 16)) then
  letT (z63 m1 3) fun v =>
  (bif (v.e == 0) then
   fitO (v.out.length + [({ Unit := unit, Mod := ({ c with Owner := v.owner } : Mod) } : Change)].length) 272 (
   some ({ v with out := (v.out ++ [({ Unit := unit, Mod := ({ c with Owner := v.owner } : Mod) } : Change)]) } : Machine))
  else
   some v)
 else
  (bif (m1.e == 0) then
   fitO (m1.out.length + [({ Unit := unit, Mod := ({ c with Owner := m1.owner } : Mod) } : Change)].length) 272 (
   some ({ m1 with out := (m1.out ++ [({ Unit := unit, Mod := ({ c with Owner := m1.owner } : Mod) } : Change)]) } : Machine))
  else
   some m1))
theorem z85_walk (m1 : Machine) (unit : Int) (c : Mod) (r : Machine) (H : z85_raw m1 unit c = some r) : ACalls Try.prog tab.S 85 [.ptr 0 0 none, .sc (.int .i64 unit), Mod.av c] [.box 71 [.own 1 1000000, .sc (.string m1.ev.On), .sc (.int .i64 m1.ev.Unit), .sc (.int .i64 m1.ev.Port), .arr .u64 12 m1.ev.Head, .sc (.int .i64 m1.owner), .sc (.int .i64 m1.fuel), .own 2 1000000, .sc (.int .i64 m1.e)], .row 60 (List.map Var.av m1.vars) 1000000 true, .row 51 (List.map Change.av m1.out) 1000000 true] (.tup []) [.box 71 [.own 1 1000000, .sc (.string r.ev.On), .sc (.int .i64 r.ev.Unit), .sc (.int .i64 r.ev.Port), .arr .u64 12 r.ev.Head, .sc (.int .i64 r.owner), .sc (.int .i64 r.fuel), .own 2 1000000, .sc (.int .i64 r.e)], .row 60 (List.map Var.av r.vars) 1000000 true, .row 51 (List.map Change.av r.out) 1000000 true] := by
 refine .of_AX z85_F Try.func85 fun c0 hc0 => ?_
 rw [z85_raw] at H
 refine .sg 5 [0,1,5,11] (.cd (decide ((((List.map Change.av m1.out).length : Nat) : Int) ≥ 16)) H (fun hb H => ?_) (fun hb H => ?_))
 ·
  refine .rg (.sg 1 [0,1,5,12] (letH H fun v hv H => (.ch [0,1,5] [0,1,2] (z63_walk _ _ v hv) (.dn (.sg 2 [0,1,5,18] (.cd (v.e == 0) H (fun hb H => ?_) (fun hb H => ?_)))))))
  ·
   refine .sg 2 [0,1,5] (.rg (.sg 9 [24,28,32] (fitH H fun hfit H => (.ap [24,33] Change.av hfit (.sg 3 [] (.dn ?_))))))
   obtain rfl := Option.some.inj H
   exact .ret Try.func85 hc0 [0,1,2]
  ·
   refine .sg 1 [] ?_
   obtain rfl := Option.some.inj H
   exact .ret Try.func85 hc0 [0,1,2]
 ·
  refine .sg 3 [0,1,5,18] (.cd (m1.e == 0) H (fun hb H => ?_) (fun hb H => ?_))
  ·
   refine .sg 2 [0,1,5] (.rg (.sg 9 [24,28,32] (fitH H fun hfit H => (.ap [24,33] Change.av hfit (.sg 3 [] (.dn ?_))))))
   obtain rfl := Option.some.inj H
   exact .ret Try.func85 hc0 [0,1,2]
  ·
   refine .sg 1 [] ?_
   obtain rfl := Option.some.inj H
   exact .ret Try.func85 hc0 [0,1,2]

/-! ### (*podesta/eval.machine).add: function 61 -/
noncomputable def z61_F : Go.Sh.Fn := ⟨61, bodyOf Try.f61, 51⟩
def z61_raw (m1 : Machine) (n : Node) : Option (Machine) :=
 (ixO n.Kids 0).bind fun x =>
 (z82_raw m1 x 0 7).bind fun v =>
 (ixO n.Kids 1).bind fun x1 =>
 (z83_raw v.2 x1).bind fun v1 =>
 (ixO n.Kids 2).bind fun x2 =>
 (z82_raw v1.2 x2 0 65535).bind fun v3 =>
 (ixO n.Kids 3).bind fun x3 =>
 (z82_raw v3.2 x3 0 1048576).bind fun v4 =>
 (ixO n.Kids 4).bind fun x4 =>
 (z82_raw v4.2 x4 0 1048576).bind fun v5 =>
 (ixO n.Kids 5).bind fun x5 =>
 (z84_raw v5.2 x5).bind fun v6 =>
 (z85_raw v6.2 v.1 ({ Kind := 1, Match := v1.1, Prio := v3.1, Acts := v6.1, Idle := v4.1, Hard := v5.1, Owner := 0, Check := (n.Num == 1) } : Mod)).bind fun v7 =>
 some v7
theorem z61_walk (m1 : Machine) (n : Node) (r : Machine) (H : z61_raw m1 n = some r) : ACalls Try.prog tab.S 61 [.ptr 0 0 none, Node.ag n] [.box 71 [.own 1 1000000, .sc (.string m1.ev.On), .sc (.int .i64 m1.ev.Unit), .sc (.int .i64 m1.ev.Port), .arr .u64 12 m1.ev.Head, .sc (.int .i64 m1.owner), .sc (.int .i64 m1.fuel), .own 2 1000000, .sc (.int .i64 m1.e)], .row 60 (List.map Var.av m1.vars) 1000000 true, .row 51 (List.map Change.av m1.out) 1000000 true] (.tup []) [.box 71 [.own 1 1000000, .sc (.string r.ev.On), .sc (.int .i64 r.ev.Unit), .sc (.int .i64 r.ev.Port), .arr .u64 12 r.ev.Head, .sc (.int .i64 r.owner), .sc (.int .i64 r.fuel), .own 2 1000000, .sc (.int .i64 r.e)], .row 60 (List.map Var.av r.vars) 1000000 true, .row 51 (List.map Change.av r.out) 1000000 true] := by
 refine .of_AX z61_F Try.func61 fun c0 hc0 => ?_
 rw [z61_raw] at H
 refine .sg 1 [0,1] (.rg (.bx [0,3] (.dn (.sg 3 [0,3,4] (.rg (.sg 2 [0,3,4,9,10] (bndO H fun x hv H => (.xg [0,3,4,9,11] Node.av Node.ag Node.av_eq hv (.sg 1 [0,3,4,9,12] (bndO H fun v hv H => (.ch [0,3,4,13] [0,1,2] (z82_walk _ _ _ _ v hv) (.sg 1 [0,3,4,5] (.dn (.sg 1 [0,3,4,5] (bndO H fun x1 hv_x1 H => (bndO H fun v1 hv_v1 H => (.rp hc0 [0, 4, 5, 6] [⟨2, [], [], .pure, [(15, .sl 30 (List.map Node.av n.Kids) false)], [.box 71 [.own 1 1000001, .sc (.string v.2.ev.On), .sc (.int .i64 v.2.ev.Unit), .sc (.int .i64 v.2.ev.Port), .arr .u64 12 v.2.ev.Head, .sc (.int .i64 v.2.owner), .sc (.int .i64 v.2.fuel), .own 2 1000001, .sc (.int .i64 v.2.e)], .row 60 (List.map Var.av v.2.vars) 1000001 true, .row 51 (List.map Change.av v.2.out) 1000001 true], .ep [.sc (.int .i64 x1.Kind), .sc (.string x1.Text), .sc (.int .i64 x1.Num), .sl 30 (List.map Node.av x1.Kids) false, .sc (.int .i64 x1.At)] 0 none, [.box 71 [.own 1 1000001, .sc (.string v.2.ev.On), .sc (.int .i64 v.2.ev.Unit), .sc (.int .i64 v.2.ev.Port), .arr .u64 12 v.2.ev.Head, .sc (.int .i64 v.2.owner), .sc (.int .i64 v.2.fuel), .own 2 1000001, .sc (.int .i64 v.2.e)], .row 60 (List.map Var.av v.2.vars) 1000001 true, .row 51 (List.map Change.av v.2.out) 1000001 true]⟩, ⟨4, [], [9], .loud, [(14, .ptr 0 0 none), (17, Node.ag x1)], [.box 71 [.own 1 1000001, .sc (.string v.2.ev.On), .sc (.int .i64 v.2.ev.Unit), .sc (.int .i64 v.2.ev.Port), .arr .u64 12 v.2.ev.Head, .sc (.int .i64 v.2.owner), .sc (.int .i64 v.2.fuel), .own 2 1000001, .sc (.int .i64 v.2.e)], .row 60 (List.map Var.av v.2.vars) 1000001 true, .row 51 (List.map Change.av v.2.out) 1000001 true], Cube.av v1.1, [.box 71 [.own 1 1000002, .sc (.string v1.2.ev.On), .sc (.int .i64 v1.2.ev.Unit), .sc (.int .i64 v1.2.ev.Port), .arr .u64 12 v1.2.ev.Head, .sc (.int .i64 v1.2.owner), .sc (.int .i64 v1.2.fuel), .own 2 1000002, .sc (.int .i64 v1.2.e)], .row 60 (List.map Var.av v1.2.vars) 1000002 true, .row 51 (List.map Change.av v1.2.out) 1000002 true]⟩, ⟨4, [9], [], .loud, [(14, .ptr 0 0 none), (17, Node.ag x1)], [.box 71 [.own 1 1000001, .sc (.string v.2.ev.On), .sc (.int .i64 v.2.ev.Unit), .sc (.int .i64 v.2.ev.Port), .arr .u64 12 v.2.ev.Head, .sc (.int .i64 v.2.owner), .sc (.int .i64 v.2.fuel), .own 2 1000001, .sc (.int .i64 v.2.e)], .row 60 (List.map Var.av v.2.vars) 1000001 true, .row 51 (List.map Change.av v.2.out) 1000001 true, .box 49 [.sc (.int .i64 0), .arr .u64 12 [0, 0, 0, 0, 0, 0, 0, 0, 0, 0, 0, 0], .arr .u64 12 [0, 0, 0, 0, 0, 0, 0, 0, 0, 0, 0, 0], .sc (.int .i64 0), .sl 0 [] true, .sc (.int .i64 0), .sc (.int .i64 0), .sc (.int .i64 0), .sc (.bool false)]], Cube.av v1.1, [.box 71 [.own 1 1000002, .sc (.string v1.2.ev.On), .sc (.int .i64 v1.2.ev.Unit), .sc (.int .i64 v1.2.ev.Port), .arr .u64 12 v1.2.ev.Head, .sc (.int .i64 v1.2.owner), .sc (.int .i64 v1.2.fuel), .own 2 1000002, .sc (.int .i64 v1.2.e)], .row 60 (List.map Var.av v1.2.vars) 1000002 true, .row 51 (List.map Change.av v1.2.out) 1000002 true, .box 49 [.sc (.int .i64 0), .arr .u64 12 [0, 0, 0, 0, 0, 0, 0, 0, 0, 0, 0, 0], .arr .u64 12 [0, 0, 0, 0, 0, 0, 0, 0, 0, 0, 0, 0], .sc (.int .i64 0), .sl 0 [] true, .sc (.int .i64 0), .sc (.int .i64 0), .sc (.int .i64 0), .sc (.bool false)]]⟩] [[0, 1, 2, 3], [0, 1, 2, 3]] (.cons (LQ.xg Node.av Node.ag Node.av_eq hv_x1) (.cons (LQ.ch [0,1,2] (z83_walk _ _ v1 hv_v1)) (.cons (LQ.ch [0,1,2] (z83_walk _ _ v1 hv_v1)) .nil))) (by kernel_rfl) (.sg 1 [0,4,5,6] (.rg (.sg 2 [0,4,5,6,23,24] (bndO H fun x2 hv H => (.xg [0,4,5,6,23,25] Node.av Node.ag Node.av_eq hv (.sg 1 [0,4,5,6,23,26] (bndO H fun v3 hv H => (.ch [0,4,5,6,27] [0,1,2] (z82_walk _ _ _ _ v3 hv) (.sg 2 [0,4,5,6] (.dn (.sg 1 [0,4,5,6] (.rg (.sg 2 [0,4,5,6,29,30] (bndO H fun x3 hv H => (.xg [0,4,5,6,29,31] Node.av Node.ag Node.av_eq hv (.sg 1 [0,4,5,6,29,32] (bndO H fun v4 hv H => (.ch [0,4,5,6,33] [0,1,2] (z82_walk _ _ _ _ v4 hv) (.sg 2 [0,4,5,6] (.dn (.sg 1 [0,4,5,6] (.rg (.sg 2 [0,4,5,6,35,36] (bndO H fun x4 hv H => (.xg [0,4,5,6,35,37] Node.av Node.ag Node.av_eq hv (.sg 1 [0,4,5,6,35,38] (bndO H fun v5 hv H => (.ch [0,4,5,6,39] [0,1,2] (z82_walk _ _ _ _ v5 hv) (.sg 2 [0,4,5,6] (.dn (.sg 1 [0,4,5,6] (.rg (.sg 2 [0,5,6,41,42] (bndO H fun x5 hv H => (.xg [0,5,6,41,43] Node.av Node.ag Node.av_eq hv (.sg 1 [0,5,6,41,44] (bndO H fun v6 hv H => (.ch [0,5,6,45] [0,1,2] (z84_walk _ _ v6 hv) (.sg 2 [0,5,6] (.dn (.rg (.sg 3 [47,48,49] (bndO H fun v7 hv H => (.ch [] [0,1,2] (z85_walk _ _ _ v7 hv) (.dn ?_))))))))))))))))))))))))))))))))))))))))))))))))))))))))))))))
 obtain rfl := Option.some.inj H
 exact .ret Try.func61 hc0 [0,1,2]

/-! ### (*podesta/eval.machine).turn: function 62 -/
noncomputable def z62_F : Go.Sh.Fn := ⟨62, bodyOf Try.f62, 52⟩
def z62_raw (m1 : Machine) (n : Node) (loose : Int) (strict : Int) : Option (Machine) :=
 (ixO n.Kids 0).bind fun x =>
 (z82_raw m1 x 0 7).bind fun v =>
 (ixO n.Kids 1).bind fun x1 =>
 (z83_raw v.2 x1).bind fun v1 =>
 (bif (n.Num == 1) then
  (ixO n.Kids 2).bind fun x2 =>
  (z82_raw v1.2 x2 0 65535).bind fun v2 =>
  (bif (n.Kind == 10) then
   (ixO n.Kids (IntKind.i64.wrap ((((List.map Node.av n.Kids).length : Nat) : Int) - 1))).bind fun x3 =>
   (z84_raw v2.2 x3).bind fun v3 =>
   (z85_raw v3.2 v.1 ({ Kind := strict, Match := v1.1, Prio := v2.1, Acts := v3.1, Idle := 0, Hard := 0, Owner := 0, Check := false } : Mod)).bind fun v4 =>
   some v4
  else
   (z85_raw v2.2 v.1 ({ Kind := strict, Match := v1.1, Prio := v2.1, Acts := [], Idle := 0, Hard := 0, Owner := 0, Check := false } : Mod)).bind fun v5 =>
   some v5)
 else
  (bif (n.Kind == 10) then
   (ixO n.Kids (IntKind.i64.wrap ((((List.map Node.av n.Kids).length : Nat) : Int) - 1))).bind fun x4 =>
   (z84_raw v1.2 x4).bind fun v6 =>
   (z85_raw v6.2 v.1 ({ Kind := loose, Match := v1.1, Prio := 0, Acts := v6.1, Idle := 0, Hard := 0, Owner := 0, Check := false } : Mod)).bind fun v7 =>
   some v7
  else
   (z85_raw v1.2 v.1 ({ Kind := loose, Match := v1.1, Prio := 0, Acts := [], Idle := 0, Hard := 0, Owner := 0, Check := false } : Mod)).bind fun v8 =>
   some v8))
theorem z62_walk (m1 : Machine) (n : Node) (loose : Int) (strict : Int) (r : Machine) (H : z62_raw m1 n loose strict = some r) : ACalls Try.prog tab.S 62 [.ptr 0 0 none, Node.ag n, .sc (.int .i64 loose), .sc (.int .i64 strict)] [.box 71 [.own 1 1000000, .sc (.string m1.ev.On), .sc (.int .i64 m1.ev.Unit), .sc (.int .i64 m1.ev.Port), .arr .u64 12 m1.ev.Head, .sc (.int .i64 m1.owner), .sc (.int .i64 m1.fuel), .own 2 1000000, .sc (.int .i64 m1.e)], .row 60 (List.map Var.av m1.vars) 1000000 true, .row 51 (List.map Change.av m1.out) 1000000 true] (.tup []) [.box 71 [.own 1 1000000, .sc (.string r.ev.On), .sc (.int .i64 r.ev.Unit), .sc (.int .i64 r.ev.Port), .arr .u64 12 r.ev.Head, .sc (.int .i64 r.owner), .sc (.int .i64 r.fuel), .own 2 1000000, .sc (.int .i64 r.e)], .row 60 (List.map Var.av r.vars) 1000000 true, .row 51 (List.map Change.av r.out) 1000000 true] := by
 refine .of_AX z62_F Try.func62 fun c0 hc0 => ?_
 rw [z62_raw] at H
 refine .sg 5 [0,2,3,5,8] (.rg (.sg 2 [0,2,3,5,8,13,14] (bndO H fun x hv H => (.xg [0,2,3,5,8,13,15] Node.av Node.ag Node.av_eq hv (.sg 1 [0,2,3,5,8,13,16] (bndO H fun v hv H => (.ch [0,2,3,5,8,17] [0,1,2] (z82_walk _ _ _ _ v hv) (.sg 1 [0,2,3,5,8,9] (.dn (.sg 1 [0,2,3,5,8,9] (.rg (.sg 3 [0,3,5,8,9,18,19,20] (bndO H fun x1 hv H => (.xg [0,3,5,8,9,18,19,21] Node.av Node.ag Node.av_eq hv (.sg 1 [0,3,5,8,9,18,19,22] (bndO H fun v1 hv H => (.ch [0,3,5,8,9,18,23] [0,1,2] (z83_walk _ _ v1 hv) (.sg 3 [0,3,5,8,9,10] (.dn (.sg 3 [0,3,5,8,9,10,27] (.cd (n.Num == 1) H (fun hb H => ?_) (fun hb H => ?_))))))))))))))))))))))
 ·
  refine .rg (.sg 3 [0,5,8,9,10,28,29,30] (bndO H fun x2 hv H => (.xg [0,5,8,9,10,28,29,31] Node.av Node.ag Node.av_eq hv (.sg 1 [0,5,8,9,10,28,29,32] (bndO H fun v2 hv H => (.ch [0,5,8,9,10,28,33] [0,1,2] (z82_walk _ _ _ _ v2 hv) (.sg 4 [0,5,8,9,10] (.dn (.sg 3 [0,8,9,10,38] (.cd (n.Kind == 10) H (fun hb H => ?_) (fun hb H => ?_)))))))))))
  ·
   refine .rg (.sg 5 [0,9,10,39,40,43] (bndO H fun x3 hv H => (.xg [0,9,10,39,44] Node.av Node.ag Node.av_eq hv (.sg 1 [0,9,10,39,45] (bndO H fun v3 hv H => (.ch [0,9,10,46] [0,1,2] (z84_walk _ _ v3 hv) (.sg 2 [0,9,10] (.dn (.rg (.sg 3 [48,49,50] (bndO H fun v4 hv H => (.ch [] [0,1,2] (z85_walk _ _ _ v4 hv) (.dn ?_)))))))))))))
   obtain rfl := Option.some.inj H
   exact .ret Try.func62 hc0 [0,1,2]
  ·
   refine .sg 1 [0,9,10] (.rg (.sg 3 [48,49,50] (bndO H fun v5 hv H => (.ch [] (ds := [(99, false)]) [0,1,2] (z85_walk _ _ _ v5 hv) (.dn ?_)))))
   obtain rfl := Option.some.inj H
   exact .ret Try.func62 hc0 [0,1,2]
 ·
  refine .sg 4 [0,8,9,10,38] (.cd (n.Kind == 10) H (fun hb H => ?_) (fun hb H => ?_))
  ·
   refine .rg (.sg 5 [0,9,10,39,40,43] (bndO H fun x4 hv H => (.xg [0,9,10,39,44] Node.av Node.ag Node.av_eq hv (.sg 1 [0,9,10,39,45] (bndO H fun v6 hv H => (.ch [0,9,10,46] [0,1,2] (z84_walk _ _ v6 hv) (.sg 2 [0,9,10] (.dn (.rg (.sg 3 [48,49,50] (bndO H fun v7 hv H => (.ch [] [0,1,2] (z85_walk _ _ _ v7 hv) (.dn ?_)))))))))))))
   obtain rfl := Option.some.inj H
   exact .ret Try.func62 hc0 [0,1,2]
  ·
   refine .sg 1 [0,9,10] (.rg (.sg 3 [48,49,50] (bndO H fun v8 hv H => (.ch [] (ds := [(99, false)]) [0,1,2] (z85_walk _ _ _ v8 hv) (.dn ?_)))))
   obtain rfl := Option.some.inj H
   exact .ret Try.func62 hc0 [0,1,2]

/-! ### (*podesta/eval.machine).set: function 59 -/
noncomputable def z59_F : Go.Sh.Fn := ⟨59, bodyOf Try.f59, 33⟩
def z59_raw (m1 : Machine) (n : Node) : Option (Machine) :=
 (ixO n.Kids 0).bind fun x =>
 ((exG 40000).2 m1 x).bind fun v =>
 letT (z78 v.2 n.Text) fun v1 =>
 (bif ((decide (v1.1 ≥ 0)) && (v1.2.e == 0)) then
  (ixO v1.2.vars v1.1).bind fun x1 =>
  some ({ v1.2 with vars := (v1.2.vars.set v1.1.toNat ({ Name := x1.Name, N := v.1 } : Var)) } : Machine)
 else
  some v1.2)
theorem z59_walk (m1 : Machine) (n : Node) (r : Machine) (H : z59_raw m1 n = some r) : ACalls Try.prog tab.S 59 [.ptr 0 0 none, Node.ag n] [.box 71 [.own 1 1000000, .sc (.string m1.ev.On), .sc (.int .i64 m1.ev.Unit), .sc (.int .i64 m1.ev.Port), .arr .u64 12 m1.ev.Head, .sc (.int .i64 m1.owner), .sc (.int .i64 m1.fuel), .own 2 1000000, .sc (.int .i64 m1.e)], .row 60 (List.map Var.av m1.vars) 1000000 true, .row 51 (List.map Change.av m1.out) 1000000 true] (.tup []) [.box 71 [.own 1 1000000, .sc (.string r.ev.On), .sc (.int .i64 r.ev.Unit), .sc (.int .i64 r.ev.Port), .arr .u64 12 r.ev.Head, .sc (.int .i64 r.owner), .sc (.int .i64 r.fuel), .own 2 1000000, .sc (.int .i64 r.e)], .row 60 (List.map Var.av r.vars) 1000000 true, .row 51 (List.map Change.av r.out) 1000000 true] := by
 refine .of_AX z59_F Try.func59 fun c0 hc0 => ?_
 rw [z59_raw] at H
 refine .sg 3 [0,3] (.rg (.sg 3 [0,3,6,8] (bndO H fun x hv H => (.xg [0,3,6,9] Node.av Node.ag Node.av_eq hv (.sg 1 [0,3,6,10] (bndO H fun v hv H => (.ch [0,3,11] [0,1,2] ((exG_walk 40000).2 _ _ v hv) (.sg 1 [0,3,4] (.dn (.sg 1 [0,3,4] (.rg (.sg 3 [0,4,12,14] (letH H fun v1 hv H => (.ch [0,4,15] [0,1,2] (z78_walk _ _ v1 hv) (.sg 1 [0,4,5] (.dn (.sg 1 [0,4,5] (.rg (.sg 3 [0,4,5,18] (.mx 0 [0,4,5,24] (.dn (.cd ((decide (v1.1 ≥ 0)) && (v1.2.e == 0)) H (fun hb H => ?_) (fun hb H => ?_)))))))))))))))))))))))
 ·
  refine .rg (.sg 6 [28,29,30] (bndO H fun x1 hv_x1 H => (.xo [30,31] (ixO_req hv_x1 Var.av) (.sg 1 [30,32] (.st [] Var.av ({ Name := x1.Name, N := v.1 } : Var) (ixO_map hv_x1 Var.av).2 (.dn ?_))))))
  obtain rfl := Option.some.inj H
  exact .ret Try.func59 hc0 [0,1,2]
 ·
  refine .sg 1 [] ?_
  obtain rfl := Option.some.inj H
  exact .ret Try.func59 hc0 [0,1,2]

end Go.Proofs.Yteioljlgcagnnaa

set_option linter.unusedVariables false
set_option linter.unusedSimpArgs false
set_option maxRecDepth 100000
set_option maxHeartbeats 4000000
namespace Go.Proofs.Yteioljlgcagnnaa
open Go.Sh
abbrev K_z23 (g : Machine → (List Node) → Option (Machine)) : Prop := ∀ (m1 : Machine) (list : List Node) (f_list : Bool) (r : Machine) (H : g m1 list = some r), ACalls Try.prog tab.S 23 [.ptr 0 0 none, .sl 30 (List.map Node.av list) f_list] [.box 71 [.own 1 1000000, .sc (.string m1.ev.On), .sc (.int .i64 m1.ev.Unit), .sc (.int .i64 m1.ev.Port), .arr .u64 12 m1.ev.Head, .sc (.int .i64 m1.owner), .sc (.int .i64 m1.fuel), .own 2 1000000, .sc (.int .i64 m1.e)], .row 60 (List.map Var.av m1.vars) 1000000 true, .row 51 (List.map Change.av m1.out) 1000000 true] (.tup []) [.box 71 [.own 1 1000000, .sc (.string r.ev.On), .sc (.int .i64 r.ev.Unit), .sc (.int .i64 r.ev.Port), .arr .u64 12 r.ev.Head, .sc (.int .i64 r.owner), .sc (.int .i64 r.fuel), .own 2 1000000, .sc (.int .i64 r.e)], .row 60 (List.map Var.av r.vars) 1000000 true, .row 51 (List.map Change.av r.out) 1000000 true]
abbrev K_z40 (g : Machine → Node → Option (Machine)) : Prop := ∀ (m1 : Machine) (n : Node) (r : Machine) (H : g m1 n = some r), ACalls Try.prog tab.S 40 [.ptr 0 0 none, Node.ag n] [.box 71 [.own 1 1000000, .sc (.string m1.ev.On), .sc (.int .i64 m1.ev.Unit), .sc (.int .i64 m1.ev.Port), .arr .u64 12 m1.ev.Head, .sc (.int .i64 m1.owner), .sc (.int .i64 m1.fuel), .own 2 1000000, .sc (.int .i64 m1.e)], .row 60 (List.map Var.av m1.vars) 1000000 true, .row 51 (List.map Change.av m1.out) 1000000 true] (.tup []) [.box 71 [.own 1 1000000, .sc (.string r.ev.On), .sc (.int .i64 r.ev.Unit), .sc (.int .i64 r.ev.Port), .arr .u64 12 r.ev.Head, .sc (.int .i64 r.owner), .sc (.int .i64 r.fuel), .own 2 1000000, .sc (.int .i64 r.e)], .row 60 (List.map Var.av r.vars) 1000000 true, .row 51 (List.map Change.av r.out) 1000000 true]
/-! ### (*podesta/eval.machine).stmts: function 23 -/
noncomputable def z23_F : Go.Sh.Fn := ⟨23, bodyOf Try.f23, 18⟩
def z23_l0s (g_z40 : Machine → Node → Option (Machine)) : List Node → ByteArray → Int → Int → List Int → Int → Int → Int → List Var → List Change → Option (ByteArray × Int × Int × (List Int) × Int × Int × Int × (List Var) × (List Change))
 | [], m_1_0, m_1_1, m_1_2, m_1_3, m_2, m_3, m_5, o1, o2 =>
  some (m_1_0, m_1_1, m_1_2, m_1_3, m_2, m_3, m_5, o1, o2)
 | x :: rest, m_1_0, m_1_1, m_1_2, m_1_3, m_2, m_3, m_5, o1, o2 =>
  letT (z39 ({ vars := o1, ev := ({ On := m_1_0, Unit := m_1_1, Port := m_1_2, Head := m_1_3 } : Event), owner := m_2, fuel := m_3, out := o2, e := m_5 } : Machine)) fun v =>
  (bif v.1 then
   (g_z40 v.2 x).bind fun v1 =>
   z23_l0s g_z40 rest v1.ev.On v1.ev.Unit v1.ev.Port v1.ev.Head v1.owner v1.fuel v1.e v1.vars v1.out
  else
   z23_l0s g_z40 rest v.2.ev.On v.2.ev.Unit v.2.ev.Port v.2.ev.Head v.2.owner v.2.fuel v.2.e v.2.vars v.2.out)
theorem z23_l0_walk (g_z23 : Machine → (List Node) → Option (Machine)) (H_g_z23 : K_z23 g_z23) (g_z40 : Machine → Node → Option (Machine)) (H_g_z40 : K_z40 g_z40) (m1 : Machine) (list : List Node) (f_list : Bool) (r : Machine) (c0 : Ctx) (hc0 : c0.m.length = 3) (res : ByteArray × Int × Int × (List Int) × Int × Int × Int × (List Var) × (List Change)) (J : AX Try.prog tab z23_F c0 (Rp tab.S c0 (.tup []) [.box 71 [.own 1 1000000, .sc (.string r.ev.On), .sc (.int .i64 r.ev.Unit), .sc (.int .i64 r.ev.Port), .arr .u64 12 r.ev.Head, .sc (.int .i64 r.owner), .sc (.int .i64 r.fuel), .own 2 1000000, .sc (.int .i64 r.e)], .row 60 (List.map Var.av r.vars) 1000000 true, .row 51 (List.map Change.av r.out) 1000000 true]) (some ⟨[], [], [.box 71 [.own 1 1000000, .sc (.string res.1), .sc (.int .i64 res.2.1), .sc (.int .i64 res.2.2.1), .arr .u64 12 res.2.2.2.1, .sc (.int .i64 res.2.2.2.2.1), .sc (.int .i64 res.2.2.2.2.2.1), .own 2 1000000, .sc (.int .i64 res.2.2.2.2.2.2.1)], .row 60 (List.map Var.av res.2.2.2.2.2.2.2.1) 1000000 true, .row 51 (List.map Change.av res.2.2.2.2.2.2.2.2) 1000000 true]⟩)) :
  ∀ (rest : List Node) (t8 : Nat) (z : Int) (hI : z = ((t8 : Nat) : Int)) (hd : list.drop t8 = rest) (m_1_0 : ByteArray) (m_1_1 : Int) (m_1_2 : Int) (m_1_3 : List Int) (m_2 : Int) (m_3 : Int) (m_5 : Int) (o1 : List Var) (o2 : List Change) (H : z23_l0s g_z40 rest m_1_0 m_1_1 m_1_2 m_1_3 m_2 m_3 m_5 o1 o2 = some res), AX Try.prog tab z23_F c0 (Rp tab.S c0 (.tup []) [.box 71 [.own 1 1000000, .sc (.string r.ev.On), .sc (.int .i64 r.ev.Unit), .sc (.int .i64 r.ev.Port), .arr .u64 12 r.ev.Head, .sc (.int .i64 r.owner), .sc (.int .i64 r.fuel), .own 2 1000000, .sc (.int .i64 r.e)], .row 60 (List.map Var.av r.vars) 1000000 true, .row 51 (List.map Change.av r.out) 1000000 true]) (some ⟨[.code [1, 0, 0], .loop [1, 0], .blk 0], [(0, .ptr 0 0 none), (6, .sl 30 (List.map Node.av list) f_list), (7, .sc (.int .i64 (((List.map Node.av list).length : Nat) : Int))), (8, .sc (.int .i64 z))], [.box 71 [.own 1 1000000, .sc (.string m_1_0), .sc (.int .i64 m_1_1), .sc (.int .i64 m_1_2), .arr .u64 12 m_1_3, .sc (.int .i64 m_2), .sc (.int .i64 m_3), .own 2 1000000, .sc (.int .i64 m_5)], .row 60 (List.map Var.av o1) 1000000 true, .row 51 (List.map Change.av o2) 1000000 true]⟩) := by
 intro rest
 induction rest with
 | nil =>
  intro t8 z hI hd m_1_0 m_1_1 m_1_2 m_1_3 m_2 m_3 m_5 o1 o2 H
  subst hI
  rw [z23_l0s] at H
  refine .facts 6 fun hf => ?_
  have hlen : list.length ≤ 9223372036854775807 := by have hq := len_ok hf.2.1; rw [List.length_map] at hq; exact hq
  have hge : list.length ≤ t8 := List.drop_eq_nil_iff.1 hd
  have hc : (decide (((t8 : Nat) : Int) < (((List.map Node.av list).length : Nat) : Int))) = false := by rw [List.length_map]; exact decide_eq_false (by omega)
  refine .sg 3 [0,6,7,8,9] (.cdF hc (.sg 1 [] (.kp [] ?_)))
  obtain rfl := Option.some.inj H
  exact .to J
 | cons x rest ih =>
  intro t8 z hI hd m_1_0 m_1_1 m_1_2 m_1_3 m_2 m_3 m_5 o1 o2 H
  subst hI
  rw [z23_l0s] at H
  refine .facts 6 fun hf => ?_
  have hlen : list.length ≤ 9223372036854775807 := by have hq := len_ok hf.2.1; rw [List.length_map] at hq; exact hq
  obtain ⟨hlt, hv_t8, hd2⟩ := drop_cons hd
  have hc : (decide (((t8 : Nat) : Int) < (((List.map Node.av list).length : Nat) : Int))) = true := by rw [List.length_map]; exact decide_eq_true (by omega)
  have hw : IntKind.i64.wrap (((t8 : Nat) : Int) + 1) = ((t8 + 1 : Nat) : Int) := wrapI_succ (by omega)
  refine .sg 3 [0,6,7,8,9] (.cdT hc (.sg 4 [0,6,7,8] (.rg (.xg [0,6,7,8,10] Node.av Node.ag Node.av_eq hv_t8 (.sg 3 [0,5,6,7,8] (.dn (.sg 1 [0,5,6,7,8] (.rg (.sg 1 [0,5,6,7,8,12] (letH H fun v hv H => (.ch [0,5,6,7,8,13] [0,1,2] (z39_walk _ v hv) (.dn (.cd v.1 H (fun hb H => ?_) (fun hb H => ?_))))))))))))))
  ·
   exact .rg (.sg 2 [0,6,7,8,14,15] (bndO H fun v1 hv H => (.ch [0,6,7,8] [0,1,2] (H_g_z40 _ _ v1 hv) (.dn (.sg 2 [0,6,7,8] (.tl hc0 [0,1,2] [0,6,7,8] (.into (.cl (ih (t8 + 1) _ hw hd2 v1.ev.On v1.ev.Unit v1.ev.Port v1.ev.Head v1.owner v1.fuel v1.e v1.vars v1.out H)))))))))
  ·
   exact .sg 3 [0,6,7,8] (.tl hc0 [0,1,2] [0,6,7,8] (.into (.cl (ih (t8 + 1) _ hw hd2 v.2.ev.On v.2.ev.Unit v.2.ev.Port v.2.ev.Head v.2.owner v.2.fuel v.2.e v.2.vars v.2.out H))))

def z23_raw (g_z23 : Machine → (List Node) → Option (Machine)) (g_z40 : Machine → Node → Option (Machine)) (m1 : Machine) (list : List Node) : Option (Machine) :=
 (z23_l0s g_z40 list m1.ev.On m1.ev.Unit m1.ev.Port m1.ev.Head m1.owner m1.fuel m1.e m1.vars m1.out).bind fun v =>
 some ({ vars := v.2.2.2.2.2.2.2.1, ev := ({ On := v.1, Unit := v.2.1, Port := v.2.2.1, Head := v.2.2.2.1 } : Event), owner := v.2.2.2.2.1, fuel := v.2.2.2.2.2.1, out := v.2.2.2.2.2.2.2.2, e := v.2.2.2.2.2.2.1 } : Machine)
theorem z23_walk (g_z23 : Machine → (List Node) → Option (Machine)) (H_g_z23 : K_z23 g_z23) (g_z40 : Machine → Node → Option (Machine)) (H_g_z40 : K_z40 g_z40) (m1 : Machine) (list : List Node) (f_list : Bool) (r : Machine) (H : z23_raw g_z23 g_z40 m1 list = some r) : ACalls Try.prog tab.S 23 [.ptr 0 0 none, .sl 30 (List.map Node.av list) f_list] [.box 71 [.own 1 1000000, .sc (.string m1.ev.On), .sc (.int .i64 m1.ev.Unit), .sc (.int .i64 m1.ev.Port), .arr .u64 12 m1.ev.Head, .sc (.int .i64 m1.owner), .sc (.int .i64 m1.fuel), .own 2 1000000, .sc (.int .i64 m1.e)], .row 60 (List.map Var.av m1.vars) 1000000 true, .row 51 (List.map Change.av m1.out) 1000000 true] (.tup []) [.box 71 [.own 1 1000000, .sc (.string r.ev.On), .sc (.int .i64 r.ev.Unit), .sc (.int .i64 r.ev.Port), .arr .u64 12 r.ev.Head, .sc (.int .i64 r.owner), .sc (.int .i64 r.fuel), .own 2 1000000, .sc (.int .i64 r.e)], .row 60 (List.map Var.av r.vars) 1000000 true, .row 51 (List.map Change.av r.out) 1000000 true] := by
 refine .of_AX z23_F Try.func23 fun c0 hc0 => ?_
 rw [z23_raw] at H
 refine .sg 3 [0,6,7,8] ?_
 refine bndO H fun v hv H => (.into (.to (z23_l0_walk g_z23 H_g_z23 g_z40 H_g_z40 m1 list f_list r c0 hc0 v ?_ list 0 _ rfl rfl m1.ev.On m1.ev.Unit m1.ev.Port m1.ev.Head m1.owner m1.fuel m1.e m1.vars m1.out hv)))
 obtain rfl := Option.some.inj H
 exact .ret Try.func23 hc0 [0,1,2]

/-! ### (*podesta/eval.machine).stmt: function 40 -/
noncomputable def z40_F : Go.Sh.Fn := ⟨40, bodyOf Try.f40, 93⟩
def z40_l0 (g_z23 : Machine → (List Node) → Option (Machine)) (n : Node) : Nat → ByteArray → Int → Int → List Int → Int → Int → Int → List Var → List Change → Option (ByteArray × Int × Int × (List Int) × Int × Int × Int × (List Var) × (List Change))
 | 0, _, _, _, _, _, _, _, _, _ => none
 | m + 1, m_1_0, m_1_1, m_1_2, m_1_3, m_2, m_3, m_5, o1, o2 =>
  (ixO n.Kids 0).bind fun x3 =>
 ((exG 40000).2 ({ vars := o1, ev := ({ On := m_1_0, Unit := m_1_1, Port := m_1_2, Head := m_1_3 } : Event), owner := m_2, fuel := m_3, out := o2, e := m_5 } : Machine) x3).bind fun v5 =>
 (bif ((v5.1 != 0) && (v5.2.e == 0)) then
  (ixO n.Kids 1).bind fun x4 =>
  (g_z23 v5.2 x4.Kids).bind fun v6 =>
  z40_l0 g_z23 n m v6.ev.On v6.ev.Unit v6.ev.Port v6.ev.Head v6.owner v6.fuel v6.e v6.vars v6.out
 else
  some (v5.2.ev.On, v5.2.ev.Unit, v5.2.ev.Port, v5.2.ev.Head, v5.2.owner, v5.2.fuel, v5.2.e, v5.2.vars, v5.2.out))
theorem z40_l0_walk (q0 : Nat) (g_z23 : Machine → (List Node) → Option (Machine)) (H_g_z23 : K_z23 g_z23) (g_z40 : Machine → Node → Option (Machine)) (H_g_z40 : K_z40 g_z40) (m1 : Machine) (n : Node)  (r : Machine) (c0 : Ctx) (hc0 : c0.m.length = 3) (res : ByteArray × Int × Int × (List Int) × Int × Int × Int × (List Var) × (List Change)) (J : AX Try.prog tab z40_F c0 (Rp tab.S c0 (.tup []) [.box 71 [.own 1 1000000, .sc (.string r.ev.On), .sc (.int .i64 r.ev.Unit), .sc (.int .i64 r.ev.Port), .arr .u64 12 r.ev.Head, .sc (.int .i64 r.owner), .sc (.int .i64 r.fuel), .own 2 1000000, .sc (.int .i64 r.e)], .row 60 (List.map Var.av r.vars) 1000000 true, .row 51 (List.map Change.av r.out) 1000000 true]) (some ⟨[.blk 0], [], [.box 71 [.own 1 1000000, .sc (.string res.1), .sc (.int .i64 res.2.1), .sc (.int .i64 res.2.2.1), .arr .u64 12 res.2.2.2.1, .sc (.int .i64 res.2.2.2.2.1), .sc (.int .i64 res.2.2.2.2.2.1), .own 2 1000000, .sc (.int .i64 res.2.2.2.2.2.2.1)], .row 60 (List.map Var.av res.2.2.2.2.2.2.2.1) 1000000 true, .row 51 (List.map Change.av res.2.2.2.2.2.2.2.2) 1000000 true, .box 30 (Node.ch n)]⟩)) :
  ∀ (m : Nat) (m_1_0 : ByteArray) (m_1_1 : Int) (m_1_2 : Int) (m_1_3 : List Int) (m_2 : Int) (m_3 : Int) (m_5 : Int) (o1 : List Var) (o2 : List Change) (H : z40_l0 g_z23 n m m_1_0 m_1_1 m_1_2 m_1_3 m_2 m_3 m_5 o1 o2 = some res), AX Try.prog tab z40_F c0 (Rp tab.S c0 (.tup []) [.box 71 [.own 1 1000000, .sc (.string r.ev.On), .sc (.int .i64 r.ev.Unit), .sc (.int .i64 r.ev.Port), .arr .u64 12 r.ev.Head, .sc (.int .i64 r.owner), .sc (.int .i64 r.fuel), .own 2 1000000, .sc (.int .i64 r.e)], .row 60 (List.map Var.av r.vars) 1000000 true, .row 51 (List.map Change.av r.out) 1000000 true]) (some ⟨[.code [1, 1, 0, 1, 1, 1, 1, 1, 1, 1, 0, 0, 0], .loop [1, 1, 0, 1, 1, 1, 1, 1, 1, 1, 0, 0], .blk 1, .blk 0], [(0, .ptr 0 0 none), (3, .ptr 3 0 none)], [.box 71 [.own 1 1000000, .sc (.string m_1_0), .sc (.int .i64 m_1_1), .sc (.int .i64 m_1_2), .arr .u64 12 m_1_3, .sc (.int .i64 m_2), .sc (.int .i64 m_3), .own 2 1000000, .sc (.int .i64 m_5)], .row 60 (List.map Var.av o1) 1000000 true, .row 51 (List.map Change.av o2) 1000000 true, .box 30 (Node.ch n)]⟩) := by
 intro m
 induction m with
 | zero => intro m_1_0 m_1_1 m_1_2 m_1_3 m_2 m_3 m_5 o1 o2 H; cases H
 | succ m ih =>
  intro m_1_0 m_1_1 m_1_2 m_1_3 m_2 m_3 m_5 o1 o2 H
  rw [z40_l0] at H
  refine .sg 2 [0,3] (.rg (.sg 3 [0,3,53,55] (bndO H fun x3 hv H => (.xg [0,3,53,56] Node.av Node.ag Node.av_eq hv (.sg 1 [0,3,53,57] (bndO H fun v5 hv H => (.ch [0,3,58] [0,1,2] ((exG_walk 40000).2 _ _ v5 hv) (.sg 2 [0,3,60] (.mx 0 [0,3,66] (.dn (.cd ((v5.1 != 0) && (v5.2.e == 0)) H (fun hb H => ?_) (fun hb H => ?_))))))))))))
  ·
   exact .sg 2 [0,3] (.rg (.sg 3 [0,3,67,69] (bndO H fun x4 hv H => (.xg [0,3,67,70] Node.av Node.ag Node.av_eq hv (.sg 2 [0,3,67,72] (bndO H fun v6 hv H => (.ch [0,3] [0,1,2] (H_g_z23 _ _ false v6 hv) (.dn (.sg 1 [0,3] (.tl hc0 [0,1,2,3] [0,3] (.into (.to (ih v6.ev.On v6.ev.Unit v6.ev.Port v6.ev.Head v6.owner v6.fuel v6.e v6.vars v6.out H)))))))))))))
  ·
   refine .sg 1 [] (.tl hc0 [0,1,2,3] [] ?_)
   obtain rfl := Option.some.inj H
   exact .to J
def z40_raw (q0 : Nat) (g_z23 : Machine → (List Node) → Option (Machine)) (g_z40 : Machine → Node → Option (Machine)) (m1 : Machine) (n : Node) : Option (Machine) :=
 (bif (n.Kind == 7) then
  (g_z23 m1 n.Kids).bind fun v =>
  some v
 else
  (bif (n.Kind == 4) then
   (z59_raw m1 n).bind fun v1 =>
   some v1
  else
   (bif (n.Kind == 5) then
    (ixO n.Kids 0).bind fun x =>
    ((exG 40000).2 m1 x).bind fun v2 =>
    (bif (v2.1 != 0) then
     (ixO n.Kids 1).bind fun x1 =>
     (g_z23 v2.2 x1.Kids).bind fun v3 =>
     some v3
    else
     (bif ((decide ((((List.map Node.av n.Kids).length : Nat) : Int) > 2)) && (v2.2.e == 0)) then
      (ixO n.Kids 2).bind fun x2 =>
      (g_z23 v2.2 x2.Kids).bind fun v4 =>
      some v4
     else
      some v2.2))
   else
    (bif (n.Kind == 6) then
     (z40_l0 g_z23 n q0 m1.ev.On m1.ev.Unit m1.ev.Port m1.ev.Head m1.owner m1.fuel m1.e m1.vars m1.out).bind fun v5 =>
     some ({ vars := v5.2.2.2.2.2.2.2.1, ev := ({ On := v5.1, Unit := v5.2.1, Port := v5.2.2.1, Head := v5.2.2.2.1 } : Event), owner := v5.2.2.2.2.1, fuel := v5.2.2.2.2.2.1, out := v5.2.2.2.2.2.2.2.2, e := v5.2.2.2.2.2.2.1 } : Machine)
    else
     (bif (n.Kind == 8) then
      (z61_raw m1 n).bind fun v6 =>
      some v6
     else
      (bif (n.Kind == 9) then
       (z62_raw m1 n 3 5).bind fun v7 =>
       some v7
      else
       (bif (n.Kind == 10) then
        (z62_raw m1 n 2 4).bind fun v8 =>
        some v8
       else
        (bif (n.Kind == 11) then
         letT (z63 m1 16) fun v9 =>
         some v9
        else
         some m1))))))))
theorem z40_walk (q0 : Nat) (g_z23 : Machine → (List Node) → Option (Machine)) (H_g_z23 : K_z23 g_z23) (g_z40 : Machine → Node → Option (Machine)) (H_g_z40 : K_z40 g_z40) (m1 : Machine) (n : Node) (r : Machine) (H : z40_raw q0 g_z23 g_z40 m1 n = some r) : ACalls Try.prog tab.S 40 [.ptr 0 0 none, Node.ag n] [.box 71 [.own 1 1000000, .sc (.string m1.ev.On), .sc (.int .i64 m1.ev.Unit), .sc (.int .i64 m1.ev.Port), .arr .u64 12 m1.ev.Head, .sc (.int .i64 m1.owner), .sc (.int .i64 m1.fuel), .own 2 1000000, .sc (.int .i64 m1.e)], .row 60 (List.map Var.av m1.vars) 1000000 true, .row 51 (List.map Change.av m1.out) 1000000 true] (.tup []) [.box 71 [.own 1 1000000, .sc (.string r.ev.On), .sc (.int .i64 r.ev.Unit), .sc (.int .i64 r.ev.Port), .arr .u64 12 r.ev.Head, .sc (.int .i64 r.owner), .sc (.int .i64 r.fuel), .own 2 1000000, .sc (.int .i64 r.e)], .row 60 (List.map Var.av r.vars) 1000000 true, .row 51 (List.map Change.av r.out) 1000000 true] := by
 refine .of_AX z40_F Try.func40 fun c0 hc0 => ?_
 rw [z40_raw] at H
 refine .sg 7 [0,3,5,6] (.cd (n.Kind == 7) H (fun hb H => ?_) (fun hb H => ?_))
 ·
  refine .rg (.sg 3 [8,10] (bndO H fun v hv H => (.ch [] [0,1,2] (H_g_z23 _ _ false v hv) (.dn (.sg 1 [] ?_)))))
  obtain rfl := Option.some.inj H
  exact .ret Try.func40 hc0 [0,1,2]
 ·
  refine .sg 2 [0,3,5,12] (.cd (n.Kind == 4) H (fun hb H => ?_) (fun hb H => ?_))
  ·
   refine .rg (.sg 2 [14,15] (bndO H fun v1 hv H => (.ch [] [0,1,2] (z59_walk _ _ v1 hv) (.dn (.sg 1 [] ?_)))))
   obtain rfl := Option.some.inj H
   exact .ret Try.func40 hc0 [0,1,2]
  ·
   refine .sg 2 [0,3,5,17] (.cd (n.Kind == 5) H (fun hb H => ?_) (fun hb H => ?_))
   ·
    refine .sg 1 [0,3] (.rg (.sg 3 [0,3,19,21] (bndO H fun x hv H => (.xg [0,3,19,22] Node.av Node.ag Node.av_eq hv (.sg 1 [0,3,19,23] (bndO H fun v2 hv H => (.ch [0,3,24] [0,1,2] ((exG_walk 40000).2 _ _ v2 hv) (.sg 1 [0,3,25] (.dn (.cd (v2.1 != 0) H (fun hb H => ?_) (fun hb H => ?_)))))))))))
    ·
     refine .rg (.sg 3 [26,28] (bndO H fun x1 hv H => (.xg [26,29] Node.av Node.ag Node.av_eq hv (.sg 2 [26,31] (bndO H fun v3 hv H => (.ch [] [0,1,2] (H_g_z23 _ _ false v3 hv) (.dn (.sg 1 [] ?_))))))))
     obtain rfl := Option.some.inj H
     exact .ret Try.func40 hc0 [0,1,2]
    ·
     refine .sg 1 [0,3] (.rg (.sg 5 [0,3,37] (.mx 0 [0,3,43] (.dn (.cd ((decide ((((List.map Node.av n.Kids).length : Nat) : Int) > 2)) && (v2.2.e == 0)) H (fun hb H => ?_) (fun hb H => ?_))))))
     ·
      refine .rg (.sg 3 [44,46] (bndO H fun x2 hv H => (.xg [44,47] Node.av Node.ag Node.av_eq hv (.sg 2 [44,49] (bndO H fun v4 hv H => (.ch [] [0,1,2] (H_g_z23 _ _ false v4 hv) (.dn (.sg 1 [] ?_))))))))
      obtain rfl := Option.some.inj H
      exact .ret Try.func40 hc0 [0,1,2]
     ·
      refine .sg 2 [] ?_
      obtain rfl := Option.some.inj H
      exact .ret Try.func40 hc0 [0,1,2]
   ·
    refine .sg 2 [0,3,5,51] (.cd (n.Kind == 6) H (fun hb H => ?_) (fun hb H => ?_))
    ·
     refine .sg 1 [0,3] ?_
     refine bndO H fun v5 hv H => (.into (.to (z40_l0_walk q0 g_z23 H_g_z23 g_z40 H_g_z40 m1 n r c0 hc0 v5 ?_ q0 m1.ev.On m1.ev.Unit m1.ev.Port m1.ev.Head m1.owner m1.fuel m1.e m1.vars m1.out hv)))
     refine .sg 1 [] ?_
     obtain rfl := Option.some.inj H
     exact .ret Try.func40 hc0 [0,1,2]
    ·
     refine .sg 2 [0,3,5,74] (.cd (n.Kind == 8) H (fun hb H => ?_) (fun hb H => ?_))
     ·
      refine .rg (.sg 2 [76,77] (bndO H fun v6 hv H => (.ch [] [0,1,2] (z61_walk _ _ v6 hv) (.dn (.sg 1 [] ?_)))))
      obtain rfl := Option.some.inj H
      exact .ret Try.func40 hc0 [0,1,2]
     ·
      refine .sg 2 [0,3,5,79] (.cd (n.Kind == 9) H (fun hb H => ?_) (fun hb H => ?_))
      ·
       refine .rg (.sg 2 [81,82] (bndO H fun v7 hv H => (.ch [] [0,1,2] (z62_walk _ _ _ _ v7 hv) (.dn (.sg 1 [] ?_)))))
       obtain rfl := Option.some.inj H
       exact .ret Try.func40 hc0 [0,1,2]
      ·
       refine .sg 2 [0,3,5,84] (.cd (n.Kind == 10) H (fun hb H => ?_) (fun hb H => ?_))
       ·
        refine .rg (.sg 2 [86,87] (bndO H fun v8 hv H => (.ch [] [0,1,2] (z62_walk _ _ _ _ v8 hv) (.dn (.sg 1 [] ?_)))))
        obtain rfl := Option.some.inj H
        exact .ret Try.func40 hc0 [0,1,2]
       ·
        refine .sg 2 [0,89] (.cd (n.Kind == 11) H (fun hb H => ?_) (fun hb H => ?_))
        ·
         refine .rg (.sg 1 [91] (letH H fun v9 hv H => (.ch [] [0,1,2] (z63_walk _ _ v9 hv) (.dn (.sg 1 [] ?_)))))
         obtain rfl := Option.some.inj H
         exact .ret Try.func40 hc0 [0,1,2]
        ·
         refine .sg 2 [] ?_
         obtain rfl := Option.some.inj H
         exact .ret Try.func40 hc0 [0,1,2]

def stG : Nat → (Machine → (List Node) → Option (Machine)) × (Machine → Node → Option (Machine))
 | 0 => (fun _ _ => none, fun _ _ => none)
 | q + 1 => (z23_raw (stG q).1 (stG q).2, z40_raw 200000 (stG q).1 (stG q).2)
theorem stG_walk : ∀ q : Nat, K_z23 ((stG q).1) ∧ K_z40 ((stG q).2)
 | 0 => ⟨(fun _ _ _ _ H => nomatch H), (fun _ _ _ H => nomatch H)⟩
 | q + 1 => ⟨z23_walk (stG q).1 (stG_walk q).1 (stG q).2 (stG_walk q).2, z40_walk 200000 (stG q).1 (stG_walk q).1 (stG q).2 (stG_walk q).2⟩
end Go.Proofs.Yteioljlgcagnnaa

set_option linter.unusedVariables false
set_option linter.unusedSimpArgs false
set_option maxRecDepth 100000
set_option maxHeartbeats 4000000
namespace Go.Proofs.Yteioljlgcagnnaa
open Go.Sh
/-! ### eval.Init: function 17 -/
noncomputable def z17_F : Go.Sh.Fn := ⟨17, bodyOf Try.f17, 26⟩
def z17_l0s : List Node → List Var → Option ((List Var))
 | [], out =>
  some out
 | x :: rest, out =>
  (bif (x.Kind == 2) then
   fitO (out.length + [({ Name := x.Text, N := x.Num } : Var)].length) 24 (
   z17_l0s rest (out ++ [({ Name := x.Text, N := x.Num } : Var)]))
  else
   z17_l0s rest out)
theorem z17_l0_walk (n : Node) (r : (List Var)) (c0 : Ctx) (hc0 : c0.m.length = 0) (res : (List Var)) (J : AX Try.prog tab z17_F c0 (Rp tab.S c0 (.sl 60 (List.map Var.av r) false) []) (some ⟨[.code [1, 1, 1]], [(3, .own 1 1000000)], [.box 30 (Node.ch n), .row 60 (List.map Var.av res) 1000000 true]⟩)) :
  ∀ (rest : List Node) (t9 : Nat) (z : Int) (hI : z = ((t9 : Nat) : Int)) (hd : n.Kids.drop t9 = rest) (out : List Var) (H : z17_l0s rest out = some res), AX Try.prog tab z17_F c0 (Rp tab.S c0 (.sl 60 (List.map Var.av r) false) []) (some ⟨[.code [1, 1, 0, 1, 0, 0], .loop [1, 1, 0, 1, 0], .blk 0, .code [1, 1, 1]], [(3, .own 1 1000000), (7, .sl 30 (List.map Node.av n.Kids) false), (8, .sc (.int .i64 (((List.map Node.av n.Kids).length : Nat) : Int))), (9, .sc (.int .i64 z))], [.box 30 (Node.ch n), .row 60 (List.map Var.av out) 1000000 true]⟩) := by
 intro rest
 induction rest with
 | nil =>
  intro t9 z hI hd out H
  subst hI
  rw [z17_l0s] at H
  refine .facts 7 fun hf => ?_
  have hlen : n.Kids.length ≤ 9223372036854775807 := by have hq := len_ok hf.2.1; rw [List.length_map] at hq; exact hq
  have hge : n.Kids.length ≤ t9 := List.drop_eq_nil_iff.1 hd
  have hc : (decide (((t9 : Nat) : Int) < (((List.map Node.av n.Kids).length : Nat) : Int))) = false := by rw [List.length_map]; exact decide_eq_false (by omega)
  refine .sg 3 [3,7,8,9,10] (.cdF hc (.sg 1 [3] (.kp [3] ?_)))
  obtain rfl := Option.some.inj H
  exact .to J
 | cons x rest ih =>
  intro t9 z hI hd out H
  subst hI
  rw [z17_l0s] at H
  refine .facts 7 fun hf => ?_
  have hlen : n.Kids.length ≤ 9223372036854775807 := by have hq := len_ok hf.2.1; rw [List.length_map] at hq; exact hq
  obtain ⟨hlt, hv_t9, hd2⟩ := drop_cons hd
  have hc : (decide (((t9 : Nat) : Int) < (((List.map Node.av n.Kids).length : Nat) : Int))) = true := by rw [List.length_map]; exact decide_eq_true (by omega)
  have hw : IntKind.i64.wrap (((t9 : Nat) : Int) + 1) = ((t9 + 1 : Nat) : Int) := wrapI_succ (by omega)
  refine .sg 3 [3,7,8,9,10] (.cdT hc (.sg 4 [3,7,8,9] (.rg (.xg [3,7,8,9,11] Node.av Node.ag Node.av_eq hv_t9 (.sg 3 [3,5,7,8,9] (.dn (.sg 2 [3,5,7,8,9,15] (.cd (x.Kind == 2) H (fun hb H => ?_) (fun hb H => ?_)))))))))
  ·
   exact .rg (.sg 7 [7,8,9,16,22] (fitH H fun hfit H => (.ap [7,8,9,23] Var.av hfit (.sg 1 [3,7,8,9] (.dn (.sg 2 [3,7,8,9] (.tl hc0 [0,1] [3,7,8,9] (.into (.cl (ih (t9 + 1) _ hw hd2 (out ++ [({ Name := x.Text, N := x.Num } : Var)]) H))))))))))
  ·
   exact .sg 3 [3,7,8,9] (.tl hc0 [0,1] [3,7,8,9] (.into (.cl (ih (t9 + 1) _ hw hd2 out H))))

def z17_raw (n : Node) : Option ((List Var)) :=
 (z17_l0s n.Kids ([] : List Var)).bind fun v =>
 some v
theorem z17_walk (n : Node) (r : (List Var)) (H : z17_raw n = some r) : ACalls Try.prog tab.S 17 [Node.ag n] [] (.sl 60 (List.map Var.av r) false) [] := by
 refine .of_AX z17_F Try.func17 fun c0 hc0 => ?_
 rw [z17_raw] at H
 refine .sg 8 [3,7,8,9] (.ad 3 60 true (.kp [3,7,8,9] ?_))
 refine bndO H fun v hv H => (.into (.to (z17_l0_walk n r c0 hc0 v ?_ n.Kids 0 _ rfl rfl ([] : List Var) hv)))
 refine .sg 2 [2] ?_
 obtain rfl := Option.some.inj H
 exact .ret Try.func17 hc0

/-! ### eval.Run: function 13 -/
noncomputable def eval_Run_F : Go.Sh.Fn := ⟨13, bodyOf Try.f13, 64⟩
def eval_Run_l0s (vars : List Var) (ev : Event) (owner : Int) (fuel : Int) : List Node → List Var → ByteArray → Int → Int → List Int → Int → Int → Int → List Change → Option ((List Var) × ByteArray × Int × Int × (List Int) × Int × Int × Int × (List Change))
 | [], o0, m_1_0, m_1_1, m_1_2, m_1_3, m_2, m_3, m_5, o2 =>
  some (o0, m_1_0, m_1_1, m_1_2, m_1_3, m_2, m_3, m_5, o2)
 | x :: rest, o0, m_1_0, m_1_1, m_1_2, m_1_3, m_2, m_3, m_5, o2 =>
  (bif ((x.Kind == 3) && (x.Text == ev.On)) then
   ((stG 400).1 ({ vars := o0, ev := ({ On := m_1_0, Unit := m_1_1, Port := m_1_2, Head := m_1_3 } : Event), owner := m_2, fuel := m_3, out := o2, e := m_5 } : Machine) x.Kids).bind fun v1 =>
   eval_Run_l0s vars ev owner fuel rest v1.vars v1.ev.On v1.ev.Unit v1.ev.Port v1.ev.Head v1.owner v1.fuel v1.e v1.out
  else
   eval_Run_l0s vars ev owner fuel rest o0 m_1_0 m_1_1 m_1_2 m_1_3 m_2 m_3 m_5 o2)
theorem eval_Run_l0_walk (n : Node) (vars : List Var) (ev : Event) (owner : Int) (fuel : Int) (v : List Var) (f_vars : Bool) (r : (List Var) × (List Change) × Int) (c0 : Ctx) (hc0 : c0.m.length = 0) (res : (List Var) × ByteArray × Int × Int × (List Int) × Int × Int × Int × (List Change)) (J : AX Try.prog tab eval_Run_F c0 (Rp tab.S c0 (.tup [.own 0 1000000, .own 1 1000000, .sc (.int .i64 r.2.2)]) [.row 60 (List.map Var.av r.1) 1000000 true, .row 51 (List.map Change.av r.2.1) 1000000 true]) (some ⟨[.code [1, 1, 1]], [(13, .ptr 1 0 none)], [.row 60 (List.map Var.av res.1) 1000000 true, .box 71 [.own 0 1000000, .sc (.string res.2.1), .sc (.int .i64 res.2.2.1), .sc (.int .i64 res.2.2.2.1), .arr .u64 12 res.2.2.2.2.1, .sc (.int .i64 res.2.2.2.2.2.1), .sc (.int .i64 res.2.2.2.2.2.2.1), .own 2 1000000, .sc (.int .i64 res.2.2.2.2.2.2.2.1)], .row 51 (List.map Change.av res.2.2.2.2.2.2.2.2) 1000000 true]⟩)) :
  ∀ (rest : List Node) (t28 : Nat) (z : Int) (hI : z = ((t28 : Nat) : Int)) (hd : n.Kids.drop t28 = rest) (o0 : List Var) (m_1_0 : ByteArray) (m_1_1 : Int) (m_1_2 : Int) (m_1_3 : List Int) (m_2 : Int) (m_3 : Int) (m_5 : Int) (o2 : List Change) (H : eval_Run_l0s vars ev owner fuel rest o0 m_1_0 m_1_1 m_1_2 m_1_3 m_2 m_3 m_5 o2 = some res), AX Try.prog tab eval_Run_F c0 (Rp tab.S c0 (.tup [.own 0 1000000, .own 1 1000000, .sc (.int .i64 r.2.2)]) [.row 60 (List.map Var.av r.1) 1000000 true, .row 51 (List.map Change.av r.2.1) 1000000 true]) (some ⟨[.code [1, 1, 0, 1, 0, 0], .loop [1, 1, 0, 1, 0], .blk 0, .code [1, 1, 1]], [(7, .ep [.sc (.string ev.On), .sc (.int .i64 ev.Unit), .sc (.int .i64 ev.Port), .arr .u64 12 ev.Head] 0 none), (13, .ptr 1 0 none), (26, .sl 30 (List.map Node.av n.Kids) false), (27, .sc (.int .i64 (((List.map Node.av n.Kids).length : Nat) : Int))), (28, .sc (.int .i64 z))], [.row 60 (List.map Var.av o0) 1000000 true, .box 71 [.own 0 1000000, .sc (.string m_1_0), .sc (.int .i64 m_1_1), .sc (.int .i64 m_1_2), .arr .u64 12 m_1_3, .sc (.int .i64 m_2), .sc (.int .i64 m_3), .own 2 1000000, .sc (.int .i64 m_5)], .row 51 (List.map Change.av o2) 1000000 true]⟩) := by
 intro rest
 induction rest with
 | nil =>
  intro t28 z hI hd o0 m_1_0 m_1_1 m_1_2 m_1_3 m_2 m_3 m_5 o2 H
  subst hI
  rw [eval_Run_l0s] at H
  refine .facts 26 fun hf => ?_
  have hlen : n.Kids.length ≤ 9223372036854775807 := by have hq := len_ok hf.2.1; rw [List.length_map] at hq; exact hq
  have hge : n.Kids.length ≤ t28 := List.drop_eq_nil_iff.1 hd
  have hc : (decide (((t28 : Nat) : Int) < (((List.map Node.av n.Kids).length : Nat) : Int))) = false := by rw [List.length_map]; exact decide_eq_false (by omega)
  refine .sg 3 [7,13,26,27,28,29] (.cdF hc (.sg 1 [13] (.kp [13] ?_)))
  obtain rfl := Option.some.inj H
  exact .to J
 | cons x rest ih =>
  intro t28 z hI hd o0 m_1_0 m_1_1 m_1_2 m_1_3 m_2 m_3 m_5 o2 H
  subst hI
  rw [eval_Run_l0s] at H
  refine .facts 26 fun hf => ?_
  have hlen : n.Kids.length ≤ 9223372036854775807 := by have hq := len_ok hf.2.1; rw [List.length_map] at hq; exact hq
  obtain ⟨hlt, hv_t28, hd2⟩ := drop_cons hd
  have hc : (decide (((t28 : Nat) : Int) < (((List.map Node.av n.Kids).length : Nat) : Int))) = true := by rw [List.length_map]; exact decide_eq_true (by omega)
  have hw : IntKind.i64.wrap (((t28 : Nat) : Int) + 1) = ((t28 + 1 : Nat) : Int) := wrapI_succ (by omega)
  refine .sg 3 [7,13,26,27,28,29] (.cdT hc (.sg 4 [7,13,26,27,28] (.rg (.xg [7,13,26,27,28,30] Node.av Node.ag Node.av_eq hv_t28 (.sg 3 [7,13,15,26,27,28] (.dn (.sg 1 [7,13,15,26,27,28] (.rg (.sg 4 [7,13,15,26,27,28,35] (.mx 0 [7,13,15,26,27,28,41] (.dn (.cd ((x.Kind == 3) && (x.Text == ev.On)) H (fun hb H => ?_) (fun hb H => ?_)))))))))))))
  ·
   exact .rg (.sg 3 [7,13,26,27,28,42,44] (bndO H fun v1 hv H => (.ch [7,13,26,27,28] [1,0,2] ((stG_walk 400).1 _ _ false v1 hv) (.dn (.sg 2 [7,13,26,27,28] (.tl hc0 [0,1,2] [7,13,26,27,28] (.into (.cl (ih (t28 + 1) _ hw hd2 v1.vars v1.ev.On v1.ev.Unit v1.ev.Port v1.ev.Head v1.owner v1.fuel v1.e v1.out H)))))))))
  ·
   exact .sg 3 [7,13,26,27,28] (.tl hc0 [0,1,2] [7,13,26,27,28] (.into (.cl (ih (t28 + 1) _ hw hd2 o0 m_1_0 m_1_1 m_1_2 m_1_3 m_2 m_3 m_5 o2 H))))

def eval_Run_raw (n : Node) (vars : List Var) (ev : Event) (owner : Int) (fuel : Int) : Option ((List Var) × (List Change) × Int) :=
 letT (id vars) fun v =>
 (eval_Run_l0s vars ev owner fuel n.Kids v ev.On ev.Unit ev.Port ev.Head owner (if 100000 < (if 0 > fuel then 0 else fuel) then 100000 else (if 0 > fuel then 0 else fuel)) 0 ([] : List Change)).bind fun v1 =>
 (bif (v1.2.2.2.2.2.2.2.1 != 0) then
  some (([] : List Var), ([] : List Change), v1.2.2.2.2.2.2.2.1)
 else
  some (v1.1, v1.2.2.2.2.2.2.2.2, 0))
theorem eval_Run_walk (n : Node) (vars : List Var) (ev : Event) (owner : Int) (fuel : Int) (f_vars : Bool) (r : (List Var) × (List Change) × Int) (H : eval_Run_raw n vars ev owner fuel = some r) : ACalls Try.prog tab.S 13 [Node.ag n, .sl 60 (List.map Var.av vars) f_vars, Event.av ev, .sc (.int .i64 owner), .sc (.int .i64 fuel)] [] (.tup [.own 0 1000000, .own 1 1000000, .sc (.int .i64 r.2.2)]) [.row 60 (List.map Var.av r.1) 1000000 true, .row 51 (List.map Change.av r.2.1) 1000000 true] := by
 refine .of_AX eval_Run_F Try.func13 fun c0 hc0 => ?_
 rw [eval_Run_raw] at H
 refine .sg 1 [0,1,2,3,4] (.rg (.bx [1,2,3,4,5] (.bx [1,3,4,5,7] (.sg 3 [1,3,4,5,7] (.dn (.sg 1 [1,3,4,5,7] (.rg (.sg 1 [3,4,5,7,16] (letH H fun v hv H => (.ch [3,4,5,7,17] [] (z22_own _ f_vars v hv) (.sg 8 [5,7,13] (.dn (.sg 2 [5,7,13] (.adb 1 7 51 (.sg 2 [7,13,26,27,28] ?_)))))))))))))))
 refine bndO H fun v1 hv H => (.into (.to (eval_Run_l0_walk n vars ev owner fuel v f_vars r c0 hc0 v1 ?_ n.Kids 0 _ rfl rfl v ev.On ev.Unit ev.Port ev.Head owner (if 100000 < (if 0 > fuel then 0 else fuel) then 100000 else (if 0 > fuel then 0 else fuel)) 0 ([] : List Change) hv)))
 refine .sg 3 [13,51] (.cd (v1.2.2.2.2.2.2.2.1 != 0) H (fun hb H => ?_) (fun hb H => ?_))
 ·
  refine .sg 2 [10,11,12] (.ad 10 60 true (.ad 11 51 true ?_))
  obtain rfl := Option.some.inj H
  exact .ret Try.func13 hc0 [3,4]
 ·
  refine .sg 3 [10,11,12] ?_
  obtain rfl := Option.some.inj H
  exact .ret Try.func13 hc0 [0,2]

end Go.Proofs.Yteioljlgcagnnaa

set_option linter.unusedVariables false
set_option linter.unusedSimpArgs false
set_option maxRecDepth 100000
set_option maxHeartbeats 4000000
namespace Go.Proofs.Yteioljlgcagnnaa
open Go.Sh
/-! ### podestalaw18.answers: function 11 -/
noncomputable def z11_F : Go.Sh.Fn := ⟨11, bodyOf Try.f11, 50⟩
def z11_raw : Option (Bool) :=
 (z20_raw 20000 (ByteArray.mk #[118, 97, 114, 32, 120, 32, 61, 32, 49, 59, 32, 111, 110, 32, 116, 105, 99, 107, 32, 123, 32, 120, 32, 61, 32, 120, 32, 43, 32, 49, 59, 32, 125])).bind fun x =>
 (z17_raw  x.1).bind fun x1 =>
 (eval_Run_raw x.1 x1 ({ On := (ByteArray.mk #[116, 105, 99, 107]), Unit := 0, Port := 0, Head := [0, 0, 0, 0, 0, 0, 0, 0, 0, 0, 0, 0] } : Event) 1 100).bind fun v =>
 (bif ((((x.2.E == 0) && (v.2.2 == 0)) && ((((List.map Change.av v.2.1).length : Nat) : Int) == 0)) && ((((List.map Var.av v.1).length : Nat) : Int) == 1)) then
  (ixO v.1 0).bind fun x2 =>
  some ((x2.N == 2) && (x2.Name == (ByteArray.mk #[120])))
 else
  some false)
theorem z11_walk (r : Bool) (H : z11_raw = some r) : ACalls Try.prog tab.S 11 [] [] (.sc (.bool r)) [] := by
 refine .of_AX z11_F Try.func11 fun c0 hc0 => ?_
 rw [z11_raw] at H
 refine .sg 3 [] (.rg (bndO H fun x hv H => (.cp [7] ((z20_walk 20000) _ x hv) (.sg 7 [1,2] (.dn (.sg 1 [1,2] (.rg (.sg 2 [2,11,12] (bndO H fun x1 hv H => (.cp [2,11,13] ((z17_walk ) _ x1 hv) (.sg 1 [2,11,13,14] (bndO H fun v hv H => (.ch [2,15] [] (eval_Run_walk _ _ _ _ _ false v hv) (.sg 7 [2,3,4,5] (.dn (.sg 1 [2,3,4,5] (.rg (.sg 4 [3,4,5,22] (.mx 0 [3,4,25] (.sg 1 [3,4,26] (.mx 0 [3,30] (.sg 1 [3,31] (.mx 0 [3,35] (.sg 1 [3,36] (.sp 36 ((((x.2.E == 0) && (v.2.2 == 0)) && ((((List.map Change.av v.2.1).length : Nat) : Int) == 0)) && ((((List.map Var.av v.1).length : Nat) : Int) == 1)) H (fun hb H => ?_) (fun hb H => ?_))))))))))))))))))))))))))
 ·
  refine .sg 1 [3,36,37] (bndO H fun x2 hv_x2 H => (.xo [3,36,38] (ixO_req hv_x2 Var.av) (.sg 1 [3,36,39] (.lo [3,36,40] (ixO_map hv_x2 Var.av).2 (.sg 3 [3,43] (.mm 43 (x2.N == 2) 6 [.pure, .pure, .read, .read, .read, .pure] [49] 49 (fun z => .sc (.bool (z && (x2.Name == (ByteArray.mk #[120]))))) ?J4 (fun hb J => ?ht4) (fun hb J => ?hf4)))))))
  case ht4 =>
   exact .sg 1 [43,44] (.xo [43,45] (ixO_req hv_x2 Var.av) (.sg 1 [43,46] (.lo [43,47] (ixO_map hv_x2 Var.av).2 (.sg 2 [49] (.cl J)))))
  case hf4 =>
   exact .sg 6 [49] (.cl J)
  refine .sg 1 [0] (.dn ?_)
  obtain rfl := Option.some.inj H
  exact .ret Try.func11 hc0
 ·
  refine .sg 14 [0] (.dn ?_)
  obtain rfl := Option.some.inj H
  exact .ret Try.func11 hc0

theorem z11_ok : ACalls Try.prog tab.S 11 [] [] (.sc (.bool true)) [] := z11_walk true (by kernel_rfl)
end Go.Proofs.Yteioljlgcagnnaa

set_option linter.unusedVariables false
set_option linter.unusedSimpArgs false
set_option maxRecDepth 100000
set_option maxHeartbeats 4000000
namespace Go.Proofs.Yteioljlgcagnnaa
open Go.Sh
/-! ### The scanner, over lists of bytes -/
abbrev bl (s : ByteArray) : List UInt8 := s.data.toList
def lLet (c : UInt8) : Bool := z47 ((c.toNat : Nat) : Int)
def lDig (c : UInt8) : Bool := z48 ((c.toNat : Nat) : Int)
def lWs (c : UInt8) : Bool := (((((c.toNat : Nat) : Int) == 32) || (((c.toNat : Nat) : Int) == 9)) || (((c.toNat : Nat) : Int) == 10)) || (((c.toNat : Nat) : Int) == 13)
def lIn (c d : UInt8) : Bool := lDig d || (lLet c && lLet d)
def lSign (l : List UInt8) : Option (List UInt8) := (z51.map bl).find? fun g => g.isPrefixOf l
def lexT : Nat → List UInt8 → Nat → List Token → Option (Sum (List Token) (List Token × Fault))
 | 0, _, _, _ => none
 | m + 1, l, i, out =>
  match l with
  | [] => some (.inl out)
  | c :: l' =>
   bif lWs c then lexT m l' (i + 1) out
   else bif ((c.toNat : Nat) : Int) == 35 then lexT m ((c :: l').dropWhile fun d => ((d.toNat : Nat) : Int) != 10) (i + ((c :: l').takeWhile fun d => ((d.toNat : Nat) : Int) != 10).length) out
   else bif lLet c || lDig c then
    (z49_raw 20000 ⟨((c :: l').takeWhile (lIn c)).toArray⟩).bind fun x1 =>
    (bif !x1 then
     (z50_raw 20000 ⟨((c :: l').takeWhile (lIn c)).toArray⟩).bind fun x2 =>
     (bif !x2 then some (.inr ([], ({ E := 15, At := i } : Fault)))
     else lexT m ((c :: l').dropWhile (lIn c)) (i + ((c :: l').takeWhile (lIn c)).length) (out ++ [({ Text := ⟨((c :: l').takeWhile (lIn c)).toArray⟩, At := i } : Token)]))
    else lexT m ((c :: l').dropWhile (lIn c)) (i + ((c :: l').takeWhile (lIn c)).length) (out ++ [({ Text := ⟨((c :: l').takeWhile (lIn c)).toArray⟩, At := i } : Token)]))
   else
    match lSign (c :: l') with
    | none => some (.inr ([], ({ E := 15, At := i } : Fault)))
    | some g => lexT m ((c :: l').drop g.length) (i + g.length) (out ++ [({ Text := ⟨g.toArray⟩, At := i } : Token)])
theorem bl_size (s : ByteArray) : s.size = (bl s).length := by
 show s.data.size = s.data.toList.length
 rw [Array.length_toList]
theorem drop_cons' {α : Type} {l l' : List α} {i : Nat} {c : α} (h : l.drop i = c :: l') : i < l.length ∧ l[i]? = some c ∧ l.drop (i + 1) = l' := by
 have h1 : i < l.length := by
  rcases Nat.lt_or_ge i l.length with h1 | h1
  ·exact h1
  ·rw [List.drop_eq_nil_of_le h1] at h; cases h
 refine ⟨h1, ?_, ?_⟩
 ·have := congrArg List.head? h
  rw [List.head?_drop] at this
  exact this
 ·have := congrArg List.tail h
  rw [List.tail_drop] at this
  exact this
theorem byteAt_drop {s : ByteArray} {l' : List UInt8} {i : Nat} {c : UInt8} (h : (bl s).drop i = c :: l') : byteAt s ((i : Nat) : Int) = ((c.toNat : Nat) : Int) := by
 unfold byteAt
 rw [Int.toNat_natCast, List.getD_eq_getElem?_getD, (drop_cons' h).2.1]
 rfl
theorem lt_drop {s : ByteArray} {l' : List UInt8} {i : Nat} {c : UInt8} (h : (bl s).drop i = c :: l') : (decide (((i : Nat) : Int) < ((s.size : Nat) : Int))) = true := by
 have := (drop_cons' h).1
 rw [bl_size]
 exact decide_eq_true (by omega)
theorem req_drop {α : Type} {s : ByteArray} {l' : List UInt8} {i : Nat} {c : UInt8} (h : (bl s).drop i = c :: l') (r : Option α) : reqO (decide (0 ≤ ((i : Nat) : Int)) && decide (((i : Nat) : Int) < ((s.size : Nat) : Int))) r = r := by
 rw [lt_drop h, decide_eq_true (show (0 : Int) ≤ ((i : Nat) : Int) by omega)]
 rfl
theorem ge_drop {s : ByteArray} {i : Nat} (h : (bl s).drop i = []) : (decide (((i : Nat) : Int) < ((s.size : Nat) : Int))) = false := by
 have := List.drop_eq_nil_iff.1 h
 rw [bl_size]
 exact decide_eq_false (by omega)
theorem wrapN {n : Nat} (h : n ≤ 9223372036854775807) : IntKind.i64.wrap ((n : Nat) : Int) = ((n : Nat) : Int) := wrapI_eq (by omega) (by omega)
theorem l1_eq (s : ByteArray) (hs : s.size ≤ 16384) : ∀ (m i : Nat) (l : List UInt8), (bl s).drop i = l → l.length < m → z29_l1 s m ((i : Nat) : Int) = some (((i + (l.takeWhile fun d => ((d.toNat : Nat) : Int) != 10).length : Nat) : Nat) : Int)
 | 0, _, _, _, h => by omega
 | m + 1, i, [], h, hl => by rw [z29_l1, ge_drop h]; rfl
 | m + 1, i, c :: l', h, hl => by
  have hi := (drop_cons' h).1
  rw [← bl_size] at hi
  rw [z29_l1, req_drop h, lt_drop h, byteAt_drop h, wrapI_succ (by omega), l1_eq s hs m (i + 1) l' (drop_cons' h).2.2 (by simpa using hl), List.takeWhile_cons]
  cases hc : (((c.toNat : Nat) : Int) != 10)
  ·rfl
  ·simp only [if_true, List.length_cons, cond_true]
   rw [show i + 1 + (l'.takeWhile fun d => ((d.toNat : Nat) : Int) != 10).length = i + ((l'.takeWhile fun d => ((d.toNat : Nat) : Int) != 10).length + 1) by omega]
theorem l2_eq (s : ByteArray) (hs : s.size ≤ 16384) (i : Nat) (c : UInt8) (hc : byteAt s ((i : Nat) : Int) = ((c.toNat : Nat) : Int)) : ∀ (m n : Nat) (l : List UInt8), (bl s).drop (i + n) = l → l.length < m → i + n ≤ s.size → z29_l2 s ((i : Nat) : Int) m ((n : Nat) : Int) = some (((n + (l.takeWhile (lIn c)).length : Nat) : Nat) : Int)
 | 0, _, _, _, h, _ => by omega
 | m + 1, n, [], h, hl, hn => by
  rw [z29_l2, show ((i : Nat) : Int) + ((n : Nat) : Int) = ((i + n : Nat) : Int) by omega, wrapN (by omega), ge_drop h]; rfl
 | m + 1, n, d :: l', h, hl, hn => by
  have hi := (drop_cons' h).1
  rw [← bl_size] at hi
  have ih := l2_eq s hs i c hc m (n + 1) l' (by rw [show i + (n + 1) = i + n + 1 by omega]; exact (drop_cons' h).2.2) (by simpa using hl) (by omega)
  rw [z29_l2, show ((i : Nat) : Int) + ((n : Nat) : Int) = ((i + n : Nat) : Int) by omega, wrapN (by omega), req_drop h, req_drop h, lt_drop h, byteAt_drop h, hc, wrapI_succ (by omega), ih, List.takeWhile_cons]
  simp only [cond_true, lIn]
  show (bif lDig d then _ else bif lLet c then (bif lLet d then _ else _) else _) = _
  rcases Bool.eq_false_or_eq_true (lDig d) with h1 | h1 <;> rcases Bool.eq_false_or_eq_true (lLet c) with h2 | h2 <;> rcases Bool.eq_false_or_eq_true (lLet d) with h3 | h3 <;> simp only [h1, h2, h3, cond_true, cond_false, Bool.or_true, Bool.true_or, Bool.and_true, Bool.and_false, Bool.false_and, Bool.or_false, Bool.true_and, Bool.false_or, if_true, if_false, Bool.false_eq_true, List.length_cons, List.length_nil, Nat.add_zero] <;> rw [show n + 1 + (List.takeWhile (lIn c) l').length = n + ((List.takeWhile (lIn c) l').length + 1) by omega]
theorem l3_stop (s : ByteArray) (i : Int) (m : Nat) (n k : Int) (h : (n == 0) = false) : z29_l3 s i (m + 1) n k = some n := by
 rw [z29_l3, h, Bool.and_false]; rfl
theorem l4_stop (s : ByteArray) (i : Int) (m : Nat) (n k : Int) (h : (n == 0) = false) : z29_l4 s i (m + 1) n k = some n := by
 rw [z29_l4, h, Bool.and_false]; rfl
theorem l5_stop (s : ByteArray) (i : Int) (m : Nat) (n k : Int) (h : (n == 0) = false) : z29_l5 s i (m + 1) n k = some n := by
 rw [z29_l5, h, Bool.and_false]; rfl
theorem copySlice_data (s : ByteArray) (i j : Nat) : (s.extract i j).data.toList = (s.data.toList.take j).drop i := by
 rw [ByteArray.data_extract, Array.toList_extract, List.extract_eq_take_drop, List.drop_take]
theorem subS_eq {s : ByteArray} {i n : Nat} (h : i + n ≤ s.size) : subS s (some ((i : Nat) : Int)) (some ((i + n : Nat) : Int)) = some ⟨(((bl s).drop i).take n).toArray⟩ := by
 unfold subS
 simp only [Option.getD_some]
 rw [if_pos ⟨by omega, by omega, by omega⟩]
 congr 1
 apply ByteArray.ext
 apply Array.ext'
 rw [Int.toNat_natCast, Int.toNat_natCast, copySlice_data, List.drop_take]
 simp
theorem prefix_beq (g : ByteArray) (l : List UInt8) : ((⟨(l.take (bl g).length).toArray⟩ : ByteArray) == g) = (bl g).isPrefixOf l := by
 rw [ba_beq]
 by_cases h : bl g <+: l
 ·rw [List.isPrefixOf_iff_prefix.2 h]
  refine decide_eq_true ?_
  rw [← List.prefix_iff_eq_take.1 h]
 ·have : (bl g).isPrefixOf l = false := by
   rw [Bool.eq_false_iff]
   exact fun e => h (List.isPrefixOf_iff_prefix.1 e)
  rw [this]
  refine decide_eq_false fun e => h ?_
  have e2 : bl g = l.take (bl g).length := by
   have := congrArg bl e
   simp only [bl, List.toList_toArray] at this
   exact this.symm
  exact List.prefix_iff_eq_take.2 e2
theorem sign_pos : ∀ g ∈ z51, 1 ≤ (bl g).length ∧ (bl g).length ≤ 2 := by
 intro g hg
 simp only [z51, List.mem_cons, List.not_mem_nil, or_false] at hg
 rcases hg with rfl | rfl | rfl | rfl | rfl | rfl | rfl | rfl | rfl | rfl | rfl | rfl | rfl | rfl | rfl | rfl | rfl | rfl | rfl | rfl | rfl | rfl | rfl <;> exact ⟨by decide, by decide⟩
theorem l5_eq (s : ByteArray) (hs : s.size ≤ 16384) (i : Nat) (hi : i ≤ s.size) : ∀ (m k : Nat) (L : List ByteArray), z51.drop k = L → L.length + 1 < m → z29_l5 s ((i : Nat) : Int) m 0 ((k : Nat) : Int) = some ((((match (L.map bl).find? fun g => g.isPrefixOf ((bl s).drop i) with | some g => g.length | none => 0) : Nat) : Nat) : Int)
 | 0, _, _, _, h => by omega
 | m + 1, k, [], h, hm => by
  have hk := List.drop_eq_nil_iff.1 h
  rw [z29_l5, List.length_map, decide_eq_false (show ¬ (((k : Nat) : Int) < ((z51.length : Nat) : Int)) by omega)]
  rfl
 | m + 1, k, g :: L, h, hm => by
  obtain ⟨h1, h2, h3⟩ := drop_cons' h
  have hg : g ∈ z51 := List.mem_of_getElem? h2
  obtain ⟨p1, p2⟩ := sign_pos g hg
  have hl : z51.length = 23 := rfl
  have hx : ixO z51 ((k : Nat) : Int) = some g := by
   unfold ixO
   rw [if_pos (by omega), Int.toNat_natCast]
   exact h2
  have ih := l5_eq s hs i hi m (k + 1) L h3 (by simpa using hm)
  have hgs : g.size = (bl g).length := bl_size g
  rw [z29_l5, List.length_map, decide_eq_true (show ((k : Nat) : Int) < ((z51.length : Nat) : Int) by omega), hx]
  simp only [beq_self_eq_true, Bool.and_self, cond_true, Option.bind_some]
  rw [show ((i : Nat) : Int) + ((g.size : Nat) : Int) = ((i + g.size : Nat) : Int) by omega, wrapN (by omega), wrapI_succ (by omega), List.map_cons, List.find?_cons]
  by_cases hc : i + g.size ≤ s.size
  ·rw [decide_eq_true (show ((i + g.size : Nat) : Int) ≤ ((s.size : Nat) : Int) by omega), subS_eq hc]
   simp only [cond_true, Option.bind_some]
   rw [hgs, prefix_beq]
   cases (bl g).isPrefixOf ((bl s).drop i)
   ·exact ih
   ·obtain ⟨m, rfl⟩ : ∃ m', m = m' + 1 := ⟨m - 1, by rw [List.length_cons] at hm; omega⟩
    rw [cond_true, l5_stop _ _ _ _ _ (beq_false_of_ne (by omega))]
  ·rw [decide_eq_false (show ¬ (((i + g.size : Nat) : Int) ≤ ((s.size : Nat) : Int)) by omega)]
   have : (bl g).isPrefixOf ((bl s).drop i) = false := by
    rw [Bool.eq_false_iff]
    intro e
    have := (List.isPrefixOf_iff_prefix.1 e).length_le
    rw [List.length_drop, ← bl_size, ← bl_size] at this
    omega
   rw [this]
   exact ih
theorem lSign_len {l g : List UInt8} (h : lSign l = some g) : 1 ≤ g.length ∧ g.length ≤ 2 ∧ g <+: l := by
 have h1 := List.find?_some h
 obtain ⟨x, hx, rfl⟩ := List.mem_map.1 (List.mem_of_find?_eq_some h)
 exact ⟨(sign_pos x hx).1, (sign_pos x hx).2, List.isPrefixOf_iff_prefix.1 h1⟩
theorem take_takeWhile {α : Type} (p : α → Bool) (l : List α) : l.take (l.takeWhile p).length = l.takeWhile p := by
 have := List.takeWhile_prefix p (l := l)
 exact (List.prefix_iff_eq_take.1 this).symm
theorem drop_takeWhile {α : Type} (p : α → Bool) : ∀ (l : List α), l.drop (l.takeWhile p).length = l.dropWhile p
 | [] => rfl
 | x :: l => by
  rw [List.takeWhile_cons, List.dropWhile_cons]
  split
  ·rw [List.length_cons, List.drop_succ_cons, drop_takeWhile p l]
  ·rfl
theorem scan_eq (s : ByteArray) (hs : s.size ≤ 16384) : ∀ (m i : Nat) (l : List UInt8) (out : List Token), (bl s).drop i = l → i ≤ s.size → out.length ≤ i → z29_l0 20000 20000 20000 20000 20000 s m ((i : Nat) : Int) out = lexT m l i out
 | 0, _, _, _, _, _, _ => rfl
 | m + 1, i, [], out, h, _, _ => by rw [z29_l0, ge_drop h]; rfl
 | m + 1, i, c :: l', out, h, hi0, ho => by
  have hi := (drop_cons' h).1
  rw [← bl_size] at hi
  have hlen : (c :: l').length = s.size - i := by rw [← h, List.length_drop, ← bl_size]
  have hfit : ∀ (t : Token) (r : Option (Sum (List Token) (List Token × Fault))), fitO (out.length + [t].length) 24 r = r := by
   intro t r
   unfold fitO
   rw [if_pos]
   show (out.length + 1) * 24 ≤ 140737488355328
   omega
  rw [z29_l0, req_drop h, lt_drop h, byteAt_drop h, lexT, cond_true]
  show (bif lWs c then _ else _) = _
  rcases Bool.eq_false_or_eq_true (lWs c) with hw | hw <;> rw [hw]
  ·rw [cond_true, cond_true, wrapI_succ (by omega)]
   exact scan_eq s hs m (i + 1) l' out (drop_cons' h).2.2 (by omega) (by omega)
  rw [cond_false, cond_false]
  rcases Bool.eq_false_or_eq_true (((c.toNat : Nat) : Int) == 35) with h3 | h3 <;> rw [h3]
  ·rw [cond_true, cond_true, l1_eq s hs 20000 i (c :: l') h (by omega), Option.bind_some]
   refine scan_eq s hs m _ _ out ?_ ?_ (by omega)
   ·rw [← List.drop_drop, h, drop_takeWhile]
   ·have := (List.takeWhile_prefix (fun d : UInt8 => ((d.toNat : Nat) : Int) != 10) (l := c :: l')).length_le
    omega
  rw [cond_false, cond_false]
  show (bif lLet c || lDig c then _ else _) = _
  rcases Bool.eq_false_or_eq_true (lLet c || lDig c) with h4 | h4 <;> rw [h4]
  ·have hpos : 1 ≤ ((c :: l').takeWhile (lIn c)).length := by
    have : lIn c c = true := by
     unfold lIn
     rcases Bool.eq_false_or_eq_true (lLet c) with h5 | h5 <;> rw [h5] at h4 ⊢ <;> simp_all
    rw [List.takeWhile_cons, if_pos this, List.length_cons]
    omega
   have hle := (List.takeWhile_prefix (lIn c) (l := c :: l')).length_le
   have hne : ((((c :: l').takeWhile (lIn c)).length : Nat) : Int) ≠ 0 := by omega
   have hl2 := l2_eq s hs i c (byteAt_drop h) 20000 0 (c :: l') h (by omega) (by omega)
   rw [Nat.zero_add, show ((0 : Nat) : Int) = 0 from rfl] at hl2
   have hl3 : z29_l3 s ((i : Nat) : Int) 20000 ((((c :: l').takeWhile (lIn c)).length : Nat) : Int) 0 = some ((((c :: l').takeWhile (lIn c)).length : Nat) : Int) := l3_stop s _ 19999 _ _ (beq_false_of_ne hne)
   have hl4 : z29_l4 s ((i : Nat) : Int) 20000 ((((c :: l').takeWhile (lIn c)).length : Nat) : Int) 0 = some ((((c :: l').takeWhile (lIn c)).length : Nat) : Int) := l4_stop s _ 19999 _ _ (beq_false_of_ne hne)
   have hsub := subS_eq (s := s) (i := i) (n := ((c :: l').takeWhile (lIn c)).length) (by omega)
   rw [h, take_takeWhile] at hsub
   have hnext := scan_eq s hs m (i + ((c :: l').takeWhile (lIn c)).length) ((c :: l').dropWhile (lIn c)) (out ++ [({ Text := ⟨((c :: l').takeWhile (lIn c)).toArray⟩, At := i } : Token)]) (by rw [← List.drop_drop, h, drop_takeWhile]) (by omega) (by rw [List.length_append, List.length_singleton]; omega)
   rw [cond_true, cond_true, hl2, Option.bind_some, show ((i : Nat) : Int) + ((((c :: l').takeWhile (lIn c)).length : Nat) : Int) = ((i + ((c :: l').takeWhile (lIn c)).length : Nat) : Int) by omega, wrapN (by omega), hsub, Option.bind_some]
   congr 1
   funext x1
   cases x1
   ·simp only [Bool.not_false, cond_true]
    congr 1
    funext x2
    cases x2
    ·rfl
    ·simp only [Bool.not_true, cond_false]
     rw [hl3, Option.bind_some, beq_false_of_ne hne, cond_false, show ((i : Nat) : Int) + ((((c :: l').takeWhile (lIn c)).length : Nat) : Int) = ((i + ((c :: l').takeWhile (lIn c)).length : Nat) : Int) by omega, wrapN (by omega), hsub, Option.bind_some, hfit]
     exact hnext
   ·simp only [Bool.not_true, cond_false]
    rw [hl4, Option.bind_some, beq_false_of_ne hne, cond_false, show ((i : Nat) : Int) + ((((c :: l').takeWhile (lIn c)).length : Nat) : Int) = ((i + ((c :: l').takeWhile (lIn c)).length : Nat) : Int) by omega, wrapN (by omega), hsub, Option.bind_some, hfit]
    exact hnext
  ·have hsg : (z51.map bl).find? (fun g => g.isPrefixOf ((bl s).drop i)) = lSign (c :: l') := by rw [h]; rfl
   have hl5 := l5_eq s hs i hi0 20000 0 z51 rfl (by decide)
   rw [hsg, show ((0 : Nat) : Int) = 0 from rfl] at hl5
   rw [cond_false, cond_false, hl5, Option.bind_some]
   cases hq : lSign (c :: l') with
   | none => rfl
   | some g =>
    obtain ⟨g1, g2, g3⟩ := lSign_len hq
    have hgl := g3.length_le
    have hsub := subS_eq (s := s) (i := i) (n := g.length) (by omega)
    rw [h, ← List.prefix_iff_eq_take.1 g3] at hsub
    simp only
    rw [beq_false_of_ne (show ((g.length : Nat) : Int) ≠ 0 by omega), cond_false, show ((i : Nat) : Int) + ((g.length : Nat) : Int) = ((i + g.length : Nat) : Int) by omega, wrapN (by omega), hsub, Option.bind_some, hfit]
    exact scan_eq s hs m (i + g.length) ((c :: l').drop g.length) _ (by rw [← List.drop_drop, h]) (by omega) (by rw [List.length_append, List.length_singleton]; omega)
theorem Scan_eq (s : ByteArray) (hs : s.size ≤ 16384) : z29_raw 20000 20000 20000 20000 20000 20000 s = loopO (lexT 20000 (bl s) 0 []) fun v => some (v, ({ E := 0, At := 0 } : Fault)) := by
 rw [z29_raw, decide_eq_false (show ¬ (((s.size : Nat) : Int) > 16384) by omega), cond_false]
 have := scan_eq s hs 20000 0 (bl s) [] rfl (by omega) (by simp)
 rw [show ((0 : Nat) : Int) = 0 from rfl] at this
 rw [this]

theorem ba_app (l r : List UInt8) : (⟨l.toArray⟩ : ByteArray) ++ (⟨r.toArray⟩ : ByteArray) = ⟨(l ++ r).toArray⟩ := by
 apply ByteArray.ext
 rw [ByteArray.data_append]
 simp
theorem ba_sz (l : List UInt8) : (⟨l.toArray⟩ : ByteArray).size = l.length := by
 rw [bl_size]
theorem fit_ok {α : Type} {n b : Nat} (h : n * b ≤ 140737488355328) (r : Option α) : fitO n b r = r := by
 unfold fitO
 rw [if_pos h]
/-- Parse, its scanner over lists -/
def parseL (l : List UInt8) : Option (Node × Fault) :=
 (loopO (lexT 20000 l 0 []) fun v => some (v, ({ E := 0, At := 0 } : Fault))).bind fun x =>
 (bif (x.2.E != 0) then
  some (({ Kind := 0, Text := ⟨#[]⟩, Num := 0, Kids := [], At := 0 } : Node), x.2)
 else
  (z20_l0 x 20000 x.1 0 ((l.length : Nat) : Int) 0 0 0 ([] : List Node)).bind fun v =>
  (bif (v.2.2.2.2.1 != 0) then
   some (({ Kind := 0, Text := ⟨#[]⟩, Num := 0, Kids := [], At := 0 } : Node), ({ E := v.2.2.2.2.1, At := v.2.2.2.2.2.1 } : Fault))
  else
   some (({ Kind := 1, Text := ⟨#[]⟩, Num := 0, Kids := v.2.2.2.2.2.2, At := 0 } : Node), ({ E := 0, At := 0 } : Fault))))
theorem Parse_l (l : List UInt8) (h : l.length ≤ 16384) : z20_raw 20000 ⟨l.toArray⟩ = parseL l := by
 rw [z20_raw, Scan_eq _ (by rw [ba_sz]; exact h), ba_sz]
 have hb : bl ⟨l.toArray⟩ = l := by
  show l.toArray.toList = l
  simp
 rw [hb]
 rfl

end Go.Proofs.Yteioljlgcagnnaa

set_option linter.unusedVariables false
set_option linter.unusedSimpArgs false
set_option maxRecDepth 100000
set_option maxHeartbeats 4000000
namespace Go.Proofs.Yteioljlgcagnnaa
open Go.Sh
/-! ### podestalaw18.EvalNumbers: function 6 -/
noncomputable def z6_F : Go.Sh.Fn := ⟨6, bodyOf Try.f6, 165⟩
def z6_raw (a : Int) (b : Int) (which : Int) : Option (Bool) :=
 (ixO [(ByteArray.mk #[43]), (ByteArray.mk #[45]), (ByteArray.mk #[42]), (ByteArray.mk #[47]), (ByteArray.mk #[37]), (ByteArray.mk #[61, 61]), (ByteArray.mk #[33, 61]), (ByteArray.mk #[60]), (ByteArray.mk #[60, 61]), (ByteArray.mk #[62]), (ByteArray.mk #[62, 61]), (ByteArray.mk #[38, 38]), (ByteArray.mk #[124, 124])] (IntKind.i64.wrap (Int.tmod which 13))).bind fun x =>
 fitO ((ByteArray.mk #[118, 97, 114, 32, 120, 32, 61, 32, 48, 59, 32, 118, 97, 114, 32, 121, 32, 61, 32, 48, 59, 32, 118, 97, 114, 32, 122, 32, 61, 32, 55, 59, 32, 111, 110, 32, 116, 105, 99, 107, 32, 123, 32, 122, 32, 61, 32, 120, 32]).size + x.size) 1 (
 fitO (((ByteArray.mk #[118, 97, 114, 32, 120, 32, 61, 32, 48, 59, 32, 118, 97, 114, 32, 121, 32, 61, 32, 48, 59, 32, 118, 97, 114, 32, 122, 32, 61, 32, 55, 59, 32, 111, 110, 32, 116, 105, 99, 107, 32, 123, 32, 122, 32, 61, 32, 120, 32]) ++ x).size + (ByteArray.mk #[32, 121, 59, 32, 125]).size) 1 (
 (z20_raw 20000 (((ByteArray.mk #[118, 97, 114, 32, 120, 32, 61, 32, 48, 59, 32, 118, 97, 114, 32, 121, 32, 61, 32, 48, 59, 32, 118, 97, 114, 32, 122, 32, 61, 32, 55, 59, 32, 111, 110, 32, 116, 105, 99, 107, 32, 123, 32, 122, 32, 61, 32, 120, 32]) ++ x) ++ (ByteArray.mk #[32, 121, 59, 32, 125]))).bind fun x1 =>
 (eval_Run_raw x1.1 [({ Name := (ByteArray.mk #[120]), N := a } : Var), ({ Name := (ByteArray.mk #[121]), N := b } : Var), ({ Name := (ByteArray.mk #[122]), N := 7 } : Var)] ({ On := (ByteArray.mk #[116, 105, 99, 107]), Unit := 0, Port := 0, Head := [0, 0, 0, 0, 0, 0, 0, 0, 0, 0, 0, 0] } : Event) 1 10).bind fun v =>
 (bif (x1.2.E != 0) then
  some false
 else
  (bif ((((IntKind.i64.wrap (Int.tmod which 13)) == 3) || ((IntKind.i64.wrap (Int.tmod which 13)) == 4)) && (b == 0)) then
   some ((v.2.2 == 12) && ((((List.map Var.av v.1).length : Nat) : Int) == 0))
  else
   (bif ((IntKind.i64.wrap (Int.tmod which 13)) == 0) then
    (bif ((v.2.2 == 0) && ((((List.map Var.av v.1).length : Nat) : Int) == 3)) then
     (ixO v.1 2).bind fun x2 =>
     (bif (x2.N == (IntKind.i64.wrap (a + b))) then
      (ixO v.1 0).bind fun x3 =>
      (bif (x3.N == a) then
       (ixO v.1 1).bind fun x4 =>
       some (x4.N == b)
      else
       some false)
     else
      some false)
    else
     some false)
   else
    (bif ((IntKind.i64.wrap (Int.tmod which 13)) == 1) then
     (bif ((v.2.2 == 0) && ((((List.map Var.av v.1).length : Nat) : Int) == 3)) then
      (ixO v.1 2).bind fun x5 =>
      (bif (x5.N == (IntKind.i64.wrap (a - b))) then
       (ixO v.1 0).bind fun x6 =>
       (bif (x6.N == a) then
        (ixO v.1 1).bind fun x7 =>
        some (x7.N == b)
       else
        some false)
      else
       some false)
     else
      some false)
    else
     (bif ((IntKind.i64.wrap (Int.tmod which 13)) == 2) then
      (bif ((v.2.2 == 0) && ((((List.map Var.av v.1).length : Nat) : Int) == 3)) then
       (ixO v.1 2).bind fun x8 =>
       (bif (x8.N == (IntKind.i64.wrap (a * b))) then
        (ixO v.1 0).bind fun x9 =>
        (bif (x9.N == a) then
         (ixO v.1 1).bind fun x10 =>
         some (x10.N == b)
        else
         some false)
       else
        some false)
      else
       some false)
     else
      (bif ((IntKind.i64.wrap (Int.tmod which 13)) == 3) then
       reqO (b != 0) (
       (bif ((v.2.2 == 0) && ((((List.map Var.av v.1).length : Nat) : Int) == 3)) then
        (ixO v.1 2).bind fun x11 =>
        (bif (x11.N == (IntKind.i64.wrap (Int.tdiv a b))) then
         (ixO v.1 0).bind fun x12 =>
         (bif (x12.N == a) then
          (ixO v.1 1).bind fun x13 =>
          some (x13.N == b)
         else
          some false)
        else
         some false)
       else
        some false))
      else
       (bif ((IntKind.i64.wrap (Int.tmod which 13)) == 4) then
        reqO (b != 0) (
        (bif ((v.2.2 == 0) && ((((List.map Var.av v.1).length : Nat) : Int) == 3)) then
         (ixO v.1 2).bind fun x14 =>
         (bif (x14.N == (Int.tmod a b)) then
          (ixO v.1 0).bind fun x15 =>
          (bif (x15.N == a) then
           (ixO v.1 1).bind fun x16 =>
           some (x16.N == b)
          else
           some false)
         else
          some false)
        else
         some false))
       else
        (ixO [(a == b), (a != b), (decide (a < b)), (decide (a ≤ b)), (decide (a > b)), (decide (a ≥ b)), ((a != 0) && (b != 0)), ((a != 0) || (b != 0))] (IntKind.i64.wrap ((IntKind.i64.wrap (Int.tmod which 13)) - 5))).bind fun x17 =>
        (bif ((v.2.2 == 0) && ((((List.map Var.av v.1).length : Nat) : Int) == 3)) then
         (ixO v.1 2).bind fun x18 =>
         (bif (x18.N == (bif x17 then (1 : Int) else 0)) then
          (ixO v.1 0).bind fun x19 =>
          (bif (x19.N == a) then
           (ixO v.1 1).bind fun x20 =>
           some (x20.N == b)
          else
           some false)
         else
          some false)
        else
         some false))))))))))
theorem z6_walk (a : Int) (b : Int) (which : Int) (r : Bool) (H : z6_raw a b which = some r) : ACalls Try.prog tab.S 6 [.sc (.int .i64 a), .sc (.int .i64 b), .sc (.int .u8 which)] [] (.sc (.bool r)) [] := by
 refine .of_AX z6_F Try.func6 fun c0 hc0 => ?_
 rw [z6_raw] at H
 refine .sg 5 [0,1,2,7] (.rg (.sg 1 [0,1,7,17] (.re [0,1,7,18] (b := 13) (by decide) (.sg 2 [0,1,7,8] (.dn (.sg 1 [0,1,7,8] (.rg (.sg 2 [0,1,8,21,22] (bndO H fun x hv H => (.xi [0,1,8,23] strA hv (.sg 1 [0,1,8,24] (fitH H fun hfit H => (.sa [0,1,8,25] hfit (fitH H fun hfit H => (.sa [0,1,8,26] hfit (bndO H fun x1 hv H => (.cp [0,1,8,27] ((z20_walk 20000) _ x1 hv) (.sg 7 [0,1,8,9,10] (.dn (.sg 1 [0,1,8,9,10] (.rg (.sg 8 [0,1,8,10,31,37,38] (bndO H fun v hv H => (.ch [0,1,8,10,39] [] (eval_Run_walk _ _ _ _ _ true v hv) (.sg 7 [0,1,8,10,11,13] (.dn (.sg 2 [0,1,8,10,11,13] (.rg (.sg 4 [0,1,8,11,13,46] (.mm 46 (x1.2.E != 0) 3 [.pure, .pure, .pure] [0, 1, 8, 11, 13, 49] 49 (fun z => .sc (.bool z)) ?J1 (fun hb J => ?ht1) (fun hb J => ?hf1)))))))))))))))))))))))))))))))
 case ht1 =>
  exact .sg 3 [0,1,8,11,13,49] (.cl J)
 case hf1 =>
  exact .cp [0,1,8,11,13,46,47] (z11_ok) (.sg 2 [0,1,8,11,13,49] (.cl J))
 refine .dn (.cd (x1.2.E != 0) H (fun hb H => ?_) (fun hb H => ?_))
 ·
  refine .sg 2 [6] ?_
  obtain rfl := Option.some.inj H
  exact .ret Try.func6 hc0
 ·
  refine .sg 3 [0,1,8,11,13] (.rg (.sg 3 [0,1,8,11,13,52] (.mx 1 [0,1,8,11,13,55] (.sg 1 [0,1,8,11,13,56] (.mx 0 [0,1,8,11,13,59] (.dn (.cd ((((IntKind.i64.wrap (Int.tmod which 13)) == 3) || ((IntKind.i64.wrap (Int.tmod which 13)) == 4)) && (b == 0)) H (fun hb H => ?_) (fun hb H => ?_))))))))
  ·
   refine .sg 1 [11,13] (.rg (.sg 3 [11,62] (.mx 0 [66] (.sg 1 [6] (.dn ?_)))))
   obtain rfl := Option.some.inj H
   exact .ret Try.func6 hc0
  ·
   refine .sg 2 [0,1,8,11,13] (.rg (.sg 21 [0,1,8,11,13,69,72,75,78,81,84,87] (.mx 0 [0,1,8,11,13,69,72,75,78,81,84,90] (.sg 3 [0,1,8,11,13,69,72,75,78,81,84,90,93] (.mx 1 [0,1,8,11,13,69,72,75,78,81,84,90,96] (.sg 2 [0,1,8,11,13,14] (.dn (.sg 6 [0,1,8,11,13,14,15,98] (.cd ((IntKind.i64.wrap (Int.tmod which 13)) == 0) H (fun hb H => ?_) (fun hb H => ?_))))))))))
   ·
    refine .sg 3 [0,1,11,13,15] (.rg (.sg 3 [0,1,11,15,136] (.mx 0 [0,1,11,15,140] (.sg 1 [0,1,11,15,141] (.sp 141 ((v.2.2 == 0) && ((((List.map Var.av v.1).length : Nat) : Int) == 3)) H (fun hb H => ?_) (fun hb H => ?_))))))
    ·
     refine .sg 1 [0,1,11,15,141,142] (bndO H fun x2 hv_x2 H => (.xo [0,1,11,15,141,143] (ixO_req hv_x2 Var.av) (.sg 1 [0,1,11,15,141,144] (.lo [0,1,11,15,141,145] (ixO_map hv_x2 Var.av).2 (.sg 4 [0,1,11,149] (.sp 149 (x2.N == (IntKind.i64.wrap (a + b))) H (fun hb H => ?_) (fun hb H => ?_)))))))
     ·
      refine .sg 1 [0,1,11,149,150] (bndO H fun x3 hv_x3 H => (.xo [0,1,11,149,151] (ixO_req hv_x3 Var.av) (.sg 1 [0,1,11,149,152] (.lo [0,1,11,149,153] (ixO_map hv_x3 Var.av).2 (.sg 4 [1,11,157] (.sp 157 (x3.N == a) H (fun hb H => ?_) (fun hb H => ?_)))))))
      ·
       refine .sg 1 [1,157,158] (bndO H fun x4 hv_x4 H => (.xo [1,157,159] (ixO_req hv_x4 Var.av) (.sg 1 [1,157,160] (.lo [1,157,161] (ixO_map hv_x4 Var.av).2 (.sg 4 [6] (.dn ?_))))))
       obtain rfl := Option.some.inj H
       exact .ret Try.func6 hc0
      ·
       refine .sg 8 [6] (.dn ?_)
       obtain rfl := Option.some.inj H
       exact .ret Try.func6 hc0
     ·
      refine .sg 16 [6] (.dn ?_)
      obtain rfl := Option.some.inj H
      exact .ret Try.func6 hc0
    ·
     refine .sg 24 [6] (.dn ?_)
     obtain rfl := Option.some.inj H
     exact .ret Try.func6 hc0
   ·
    refine .sg 2 [0,1,8,11,13,14,15,104] (.cd ((IntKind.i64.wrap (Int.tmod which 13)) == 1) H (fun hb H => ?_) (fun hb H => ?_))
    ·
     refine .sg 3 [0,1,11,13,15] (.rg (.sg 3 [0,1,11,15,136] (.mx 0 [0,1,11,15,140] (.sg 1 [0,1,11,15,141] (.sp 141 ((v.2.2 == 0) && ((((List.map Var.av v.1).length : Nat) : Int) == 3)) H (fun hb H => ?_) (fun hb H => ?_))))))
     ·
      refine .sg 1 [0,1,11,15,141,142] (bndO H fun x5 hv_x5 H => (.xo [0,1,11,15,141,143] (ixO_req hv_x5 Var.av) (.sg 1 [0,1,11,15,141,144] (.lo [0,1,11,15,141,145] (ixO_map hv_x5 Var.av).2 (.sg 4 [0,1,11,149] (.sp 149 (x5.N == (IntKind.i64.wrap (a - b))) H (fun hb H => ?_) (fun hb H => ?_)))))))
      ·
       refine .sg 1 [0,1,11,149,150] (bndO H fun x6 hv_x6 H => (.xo [0,1,11,149,151] (ixO_req hv_x6 Var.av) (.sg 1 [0,1,11,149,152] (.lo [0,1,11,149,153] (ixO_map hv_x6 Var.av).2 (.sg 4 [1,11,157] (.sp 157 (x6.N == a) H (fun hb H => ?_) (fun hb H => ?_)))))))
       ·
        refine .sg 1 [1,157,158] (bndO H fun x7 hv_x7 H => (.xo [1,157,159] (ixO_req hv_x7 Var.av) (.sg 1 [1,157,160] (.lo [1,157,161] (ixO_map hv_x7 Var.av).2 (.sg 4 [6] (.dn ?_))))))
        obtain rfl := Option.some.inj H
        exact .ret Try.func6 hc0
       ·
        refine .sg 8 [6] (.dn ?_)
        obtain rfl := Option.some.inj H
        exact .ret Try.func6 hc0
      ·
       refine .sg 16 [6] (.dn ?_)
       obtain rfl := Option.some.inj H
       exact .ret Try.func6 hc0
     ·
      refine .sg 24 [6] (.dn ?_)
      obtain rfl := Option.some.inj H
      exact .ret Try.func6 hc0
    ·
     refine .sg 2 [0,1,8,11,13,14,15,110] (.cd ((IntKind.i64.wrap (Int.tmod which 13)) == 2) H (fun hb H => ?_) (fun hb H => ?_))
     ·
      refine .sg 3 [0,1,11,13,15] (.rg (.sg 3 [0,1,11,15,136] (.mx 0 [0,1,11,15,140] (.sg 1 [0,1,11,15,141] (.sp 141 ((v.2.2 == 0) && ((((List.map Var.av v.1).length : Nat) : Int) == 3)) H (fun hb H => ?_) (fun hb H => ?_))))))
      ·
       refine .sg 1 [0,1,11,15,141,142] (bndO H fun x8 hv_x8 H => (.xo [0,1,11,15,141,143] (ixO_req hv_x8 Var.av) (.sg 1 [0,1,11,15,141,144] (.lo [0,1,11,15,141,145] (ixO_map hv_x8 Var.av).2 (.sg 4 [0,1,11,149] (.sp 149 (x8.N == (IntKind.i64.wrap (a * b))) H (fun hb H => ?_) (fun hb H => ?_)))))))
       ·
        refine .sg 1 [0,1,11,149,150] (bndO H fun x9 hv_x9 H => (.xo [0,1,11,149,151] (ixO_req hv_x9 Var.av) (.sg 1 [0,1,11,149,152] (.lo [0,1,11,149,153] (ixO_map hv_x9 Var.av).2 (.sg 4 [1,11,157] (.sp 157 (x9.N == a) H (fun hb H => ?_) (fun hb H => ?_)))))))
        ·
         refine .sg 1 [1,157,158] (bndO H fun x10 hv_x10 H => (.xo [1,157,159] (ixO_req hv_x10 Var.av) (.sg 1 [1,157,160] (.lo [1,157,161] (ixO_map hv_x10 Var.av).2 (.sg 4 [6] (.dn ?_))))))
         obtain rfl := Option.some.inj H
         exact .ret Try.func6 hc0
        ·
         refine .sg 8 [6] (.dn ?_)
         obtain rfl := Option.some.inj H
         exact .ret Try.func6 hc0
       ·
        refine .sg 16 [6] (.dn ?_)
        obtain rfl := Option.some.inj H
        exact .ret Try.func6 hc0
      ·
       refine .sg 24 [6] (.dn ?_)
       obtain rfl := Option.some.inj H
       exact .ret Try.func6 hc0
     ·
      refine .sg 2 [0,1,8,11,13,14,15,116] (.cd ((IntKind.i64.wrap (Int.tmod which 13)) == 3) H (fun hb H => ?_) (fun hb H => ?_))
      ·
       refine .rg (.sg 2 [0,1,11,13,119,120] (reqH H fun hreq H => (.qu [0,1,11,13,121] (b := b) hreq (.sg 1 [0,1,11,13,15] (.dn (.sg 2 [0,1,11,13,15] (.rg (.sg 3 [0,1,11,15,136] (.mx 0 [0,1,11,15,140] (.sg 1 [0,1,11,15,141] (.sp 141 ((v.2.2 == 0) && ((((List.map Var.av v.1).length : Nat) : Int) == 3)) H (fun hb H => ?_) (fun hb H => ?_))))))))))))
       ·
        refine .sg 1 [0,1,11,15,141,142] (bndO H fun x11 hv_x11 H => (.xo [0,1,11,15,141,143] (ixO_req hv_x11 Var.av) (.sg 1 [0,1,11,15,141,144] (.lo [0,1,11,15,141,145] (ixO_map hv_x11 Var.av).2 (.sg 4 [0,1,11,149] (.sp 149 (x11.N == (IntKind.i64.wrap (Int.tdiv a b))) H (fun hb H => ?_) (fun hb H => ?_)))))))
        ·
         refine .sg 1 [0,1,11,149,150] (bndO H fun x12 hv_x12 H => (.xo [0,1,11,149,151] (ixO_req hv_x12 Var.av) (.sg 1 [0,1,11,149,152] (.lo [0,1,11,149,153] (ixO_map hv_x12 Var.av).2 (.sg 4 [1,11,157] (.sp 157 (x12.N == a) H (fun hb H => ?_) (fun hb H => ?_)))))))
         ·
          refine .sg 1 [1,157,158] (bndO H fun x13 hv_x13 H => (.xo [1,157,159] (ixO_req hv_x13 Var.av) (.sg 1 [1,157,160] (.lo [1,157,161] (ixO_map hv_x13 Var.av).2 (.sg 4 [6] (.dn ?_))))))
          obtain rfl := Option.some.inj H
          exact .ret Try.func6 hc0
         ·
          refine .sg 8 [6] (.dn ?_)
          obtain rfl := Option.some.inj H
          exact .ret Try.func6 hc0
        ·
         refine .sg 16 [6] (.dn ?_)
         obtain rfl := Option.some.inj H
         exact .ret Try.func6 hc0
       ·
        refine .sg 24 [6] (.dn ?_)
        obtain rfl := Option.some.inj H
        exact .ret Try.func6 hc0
      ·
       refine .sg 2 [0,1,8,11,13,14,15,122] (.cd ((IntKind.i64.wrap (Int.tmod which 13)) == 4) H (fun hb H => ?_) (fun hb H => ?_))
       ·
        refine .rg (.sg 2 [0,1,11,13,125,126] (reqH H fun hreq H => (.re [0,1,11,13,127] (b := b) hreq (.sg 1 [0,1,11,13,15] (.dn (.sg 2 [0,1,11,13,15] (.rg (.sg 3 [0,1,11,15,136] (.mx 0 [0,1,11,15,140] (.sg 1 [0,1,11,15,141] (.sp 141 ((v.2.2 == 0) && ((((List.map Var.av v.1).length : Nat) : Int) == 3)) H (fun hb H => ?_) (fun hb H => ?_))))))))))))
        ·
         refine .sg 1 [0,1,11,15,141,142] (bndO H fun x14 hv_x14 H => (.xo [0,1,11,15,141,143] (ixO_req hv_x14 Var.av) (.sg 1 [0,1,11,15,141,144] (.lo [0,1,11,15,141,145] (ixO_map hv_x14 Var.av).2 (.sg 4 [0,1,11,149] (.sp 149 (x14.N == (Int.tmod a b)) H (fun hb H => ?_) (fun hb H => ?_)))))))
         ·
          refine .sg 1 [0,1,11,149,150] (bndO H fun x15 hv_x15 H => (.xo [0,1,11,149,151] (ixO_req hv_x15 Var.av) (.sg 1 [0,1,11,149,152] (.lo [0,1,11,149,153] (ixO_map hv_x15 Var.av).2 (.sg 4 [1,11,157] (.sp 157 (x15.N == a) H (fun hb H => ?_) (fun hb H => ?_)))))))
          ·
           refine .sg 1 [1,157,158] (bndO H fun x16 hv_x16 H => (.xo [1,157,159] (ixO_req hv_x16 Var.av) (.sg 1 [1,157,160] (.lo [1,157,161] (ixO_map hv_x16 Var.av).2 (.sg 4 [6] (.dn ?_))))))
           obtain rfl := Option.some.inj H
           exact .ret Try.func6 hc0
          ·
           refine .sg 8 [6] (.dn ?_)
           obtain rfl := Option.some.inj H
           exact .ret Try.func6 hc0
         ·
          refine .sg 16 [6] (.dn ?_)
          obtain rfl := Option.some.inj H
          exact .ret Try.func6 hc0
        ·
         refine .sg 24 [6] (.dn ?_)
         obtain rfl := Option.some.inj H
         exact .ret Try.func6 hc0
       ·
        refine .sg 1 [0,1,8,11,13,14,15] (.rg (.sg 3 [0,1,11,13,15,129,131] (bndO H fun x17 hv H => (.xi [0,1,11,13,15,132] boolA hv (.sg 2 [0,1,11,13,15,128] (.dn (.jn x17 [0, 1, 11, 13, 15] (fun z => [(15, .sc (.int .i64 (bif z then (1 : Int) else 0)))]) ?J13 (fun hb J => ?ht13) (fun hb J => ?hf13))))))))
        case ht13 =>
         exact .sg 1 [0,1,11,13,15] (.cl J)
        case hf13 =>
         exact .sg 1 [0,1,11,13,15] (.cl J)
        refine .sg 2 [0,1,11,13,15] (.rg (.sg 3 [0,1,11,15,136] (.mx 0 [0,1,11,15,140] (.sg 1 [0,1,11,15,141] (.sp 141 ((v.2.2 == 0) && ((((List.map Var.av v.1).length : Nat) : Int) == 3)) H (fun hb H => ?_) (fun hb H => ?_))))))
        ·
         refine .sg 1 [0,1,11,15,141,142] (bndO H fun x18 hv_x18 H => (.xo [0,1,11,15,141,143] (ixO_req hv_x18 Var.av) (.sg 1 [0,1,11,15,141,144] (.lo [0,1,11,15,141,145] (ixO_map hv_x18 Var.av).2 (.sg 4 [0,1,11,149] (.sp 149 (x18.N == (bif x17 then (1 : Int) else 0)) H (fun hb H => ?_) (fun hb H => ?_)))))))
         ·
          refine .sg 1 [0,1,11,149,150] (bndO H fun x19 hv_x19 H => (.xo [0,1,11,149,151] (ixO_req hv_x19 Var.av) (.sg 1 [0,1,11,149,152] (.lo [0,1,11,149,153] (ixO_map hv_x19 Var.av).2 (.sg 4 [1,11,157] (.sp 157 (x19.N == a) H (fun hb H => ?_) (fun hb H => ?_)))))))
          ·
           refine .sg 1 [1,157,158] (bndO H fun x20 hv_x20 H => (.xo [1,157,159] (ixO_req hv_x20 Var.av) (.sg 1 [1,157,160] (.lo [1,157,161] (ixO_map hv_x20 Var.av).2 (.sg 4 [6] (.dn ?_))))))
           obtain rfl := Option.some.inj H
           exact .ret Try.func6 hc0
          ·
           refine .sg 8 [6] (.dn ?_)
           obtain rfl := Option.some.inj H
           exact .ret Try.func6 hc0
         ·
          refine .sg 16 [6] (.dn ?_)
          obtain rfl := Option.some.inj H
          exact .ret Try.func6 hc0
        ·
         refine .sg 24 [6] (.dn ?_)
         obtain rfl := Option.some.inj H
         exact .ret Try.func6 hc0

def nsign (k : Nat) : List UInt8 := [[43], [45], [42], [47], [37], [61, 61], [33, 61], [60], [60, 61], [62], [62, 61], [38, 38], [124, 124]].getD k []
def N0 : List UInt8 := [118, 97, 114, 32, 120, 32, 61, 32, 48, 59, 32, 118, 97, 114, 32, 121, 32, 61, 32, 48, 59, 32, 118, 97, 114, 32, 122, 32, 61, 32, 55, 59, 32, 111, 110, 32, 116, 105, 99, 107, 32, 123, 32, 122, 32, 61, 32, 120, 32]
def numV (a b c : Int) : List Var := [({ Name := (ByteArray.mk #[120]), N := a } : Var), ({ Name := (ByteArray.mk #[121]), N := b } : Var), ({ Name := (ByteArray.mk #[122]), N := c } : Var)]
def tickE : Event := ({ On := (ByteArray.mk #[116, 105, 99, 107]), Unit := 0, Port := 0, Head := [0, 0, 0, 0, 0, 0, 0, 0, 0, 0, 0, 0] } : Event)
def numG (k : Nat) (a b : Int) : Option (Int × (List Var) × (List Change) × Int) :=
 (parseL (N0 ++ nsign k ++ [32, 121, 59, 32, 125])).bind fun x1 => (eval_Run_raw x1.1 (numV a b 7) tickE 1 10).bind fun v => some (x1.2.E, v)
theorem num0 (a b : Int) : numG 0 a b = some (0, numV a b (IntKind.i64.wrap (a + b)), [], 0) := by kernel_rfl
theorem num1 (a b : Int) : numG 1 a b = some (0, numV a b (IntKind.i64.wrap (a - b)), [], 0) := by kernel_rfl
theorem num2 (a b : Int) : numG 2 a b = some (0, numV a b (IntKind.i64.wrap (a * b)), [], 0) := by kernel_rfl
theorem num3z (a : Int) : numG 3 a 0 = some (0, [], [], 12) := by kernel_rfl
theorem num3 (a b : Int) (hb : b ≠ 0) : numG 3 a b = some (0, numV a b (IntKind.i64.wrap (Int.tdiv a b)), [], 0) := by
 cases b with
 | ofNat n =>
  cases n with
  | zero => exact absurd rfl hb
  | succ n => kernel_rfl
 | negSucc n => kernel_rfl
theorem num4z (a : Int) : numG 4 a 0 = some (0, [], [], 12) := by kernel_rfl
theorem num4 (a b : Int) (hb : b ≠ 0) : numG 4 a b = some (0, numV a b (Int.tmod a b), [], 0) := by
 cases b with
 | ofNat n =>
  cases n with
  | zero => exact absurd rfl hb
  | succ n => kernel_rfl
 | negSucc n => kernel_rfl
theorem num5 (a b : Int) : numG 5 a b = some (0, numV a b (bif (a == b) then (1 : Int) else 0), [], 0) := by kernel_rfl
theorem num6 (a b : Int) : numG 6 a b = some (0, numV a b (bif (a != b) then (1 : Int) else 0), [], 0) := by kernel_rfl
theorem num7 (a b : Int) : numG 7 a b = some (0, numV a b (bif (decide (a < b)) then (1 : Int) else 0), [], 0) := by kernel_rfl
theorem num8 (a b : Int) : numG 8 a b = some (0, numV a b (bif (decide (a ≤ b)) then (1 : Int) else 0), [], 0) := by kernel_rfl
theorem num9 (a b : Int) : numG 9 a b = some (0, numV a b (bif (decide (a > b)) then (1 : Int) else 0), [], 0) := by kernel_rfl
theorem num10 (a b : Int) : numG 10 a b = some (0, numV a b (bif (decide (a ≥ b)) then (1 : Int) else 0), [], 0) := by kernel_rfl
theorem num11 (a b : Int) : numG 11 a b = some (0, numV a b (bif ((a != 0) && (b != 0)) then (1 : Int) else 0), [], 0) := by
 cases a with
 | ofNat n =>
  cases n with
  | zero => kernel_rfl
  | succ n => kernel_rfl
 | negSucc n => kernel_rfl
theorem num12 (a b : Int) : numG 12 a b = some (0, numV a b (bif ((a != 0) || (b != 0)) then (1 : Int) else 0), [], 0) := by
 cases a with
 | ofNat n =>
  cases n with
  | zero => kernel_rfl
  | succ n => kernel_rfl
 | negSucc n => kernel_rfl
theorem num_split {k : Nat} {a b : Int} {w : Int × (List Var) × (List Change) × Int} (h : numG k a b = some w) : ∃ x1, parseL (N0 ++ nsign k ++ [32, 121, 59, 32, 125]) = some x1 ∧ eval_Run_raw x1.1 (numV a b 7) tickE 1 10 = some w.2 ∧ x1.2.E = w.1 := by
 unfold numG at h
 obtain ⟨x1, h1, h2⟩ := Option.bind_eq_some_iff.1 h
 obtain ⟨v, h3, h4⟩ := Option.bind_eq_some_iff.1 h2
 injection h4 with h4
 subst h4
 exact ⟨x1, h1, h3, rfl⟩
theorem bind2 {X Y : Type} {o : Option X} {f : X → Option Y} {g : X → Y → Option Bool} {x : X} {y : Y} (h1 : o = some x) (h2 : f x = some y) : (o.bind fun x => (f x).bind fun v => g x v) = g x y := by
 rw [h1, Option.bind_some, h2, Option.bind_some]
def nfin (a b r : Int) : Option Bool := (bif (r == r) then (bif (a == a) then some (b == b) else some false) else some false)
theorem nfin_ok (a b r : Int) : nfin a b r = some true := by simp [nfin]
def numbB (k : Nat) (a b : Int) : Option Bool :=
 (parseL (N0 ++ nsign k ++ [32, 121, 59, 32, 125])).bind fun x1 =>
 (eval_Run_raw x1.1 [({ Name := (ByteArray.mk #[120]), N := a } : Var), ({ Name := (ByteArray.mk #[121]), N := b } : Var), ({ Name := (ByteArray.mk #[122]), N := 7 } : Var)] ({ On := (ByteArray.mk #[116, 105, 99, 107]), Unit := 0, Port := 0, Head := [0, 0, 0, 0, 0, 0, 0, 0, 0, 0, 0, 0] } : Event) 1 10).bind fun v =>
 (bif (x1.2.E != 0) then
  some false
 else
  (bif (((((k : Nat) : Int) == 3) || (((k : Nat) : Int) == 4)) && (b == 0)) then
   some ((v.2.2 == 12) && ((((List.map Var.av v.1).length : Nat) : Int) == 0))
  else
   (bif (((k : Nat) : Int) == 0) then
    (bif ((v.2.2 == 0) && ((((List.map Var.av v.1).length : Nat) : Int) == 3)) then
     (ixO v.1 2).bind fun x2 =>
     (bif (x2.N == (IntKind.i64.wrap (a + b))) then
      (ixO v.1 0).bind fun x3 =>
      (bif (x3.N == a) then
       (ixO v.1 1).bind fun x4 =>
       some (x4.N == b)
      else
       some false)
     else
      some false)
    else
     some false)
   else
    (bif (((k : Nat) : Int) == 1) then
     (bif ((v.2.2 == 0) && ((((List.map Var.av v.1).length : Nat) : Int) == 3)) then
      (ixO v.1 2).bind fun x5 =>
      (bif (x5.N == (IntKind.i64.wrap (a - b))) then
       (ixO v.1 0).bind fun x6 =>
       (bif (x6.N == a) then
        (ixO v.1 1).bind fun x7 =>
        some (x7.N == b)
       else
        some false)
      else
       some false)
     else
      some false)
    else
     (bif (((k : Nat) : Int) == 2) then
      (bif ((v.2.2 == 0) && ((((List.map Var.av v.1).length : Nat) : Int) == 3)) then
       (ixO v.1 2).bind fun x8 =>
       (bif (x8.N == (IntKind.i64.wrap (a * b))) then
        (ixO v.1 0).bind fun x9 =>
        (bif (x9.N == a) then
         (ixO v.1 1).bind fun x10 =>
         some (x10.N == b)
        else
         some false)
       else
        some false)
      else
       some false)
     else
      (bif (((k : Nat) : Int) == 3) then
       reqO (b != 0) (
       (bif ((v.2.2 == 0) && ((((List.map Var.av v.1).length : Nat) : Int) == 3)) then
        (ixO v.1 2).bind fun x11 =>
        (bif (x11.N == (IntKind.i64.wrap (Int.tdiv a b))) then
         (ixO v.1 0).bind fun x12 =>
         (bif (x12.N == a) then
          (ixO v.1 1).bind fun x13 =>
          some (x13.N == b)
         else
          some false)
        else
         some false)
       else
        some false))
      else
       (bif (((k : Nat) : Int) == 4) then
        reqO (b != 0) (
        (bif ((v.2.2 == 0) && ((((List.map Var.av v.1).length : Nat) : Int) == 3)) then
         (ixO v.1 2).bind fun x14 =>
         (bif (x14.N == (Int.tmod a b)) then
          (ixO v.1 0).bind fun x15 =>
          (bif (x15.N == a) then
           (ixO v.1 1).bind fun x16 =>
           some (x16.N == b)
          else
           some false)
         else
          some false)
        else
         some false))
       else
        (ixO [(a == b), (a != b), (decide (a < b)), (decide (a ≤ b)), (decide (a > b)), (decide (a ≥ b)), ((a != 0) && (b != 0)), ((a != 0) || (b != 0))] (IntKind.i64.wrap (((k : Nat) : Int) - 5))).bind fun x17 =>
        (bif ((v.2.2 == 0) && ((((List.map Var.av v.1).length : Nat) : Int) == 3)) then
         (ixO v.1 2).bind fun x18 =>
         (bif (x18.N == (bif x17 then (1 : Int) else 0)) then
          (ixO v.1 0).bind fun x19 =>
          (bif (x19.N == a) then
           (ixO v.1 1).bind fun x20 =>
           some (x20.N == b)
          else
           some false)
         else
          some false)
        else
         some false))))))))
theorem numb0 (a b : Int) : numbB 0 a b = some true := by
 obtain ⟨⟨nd, ⟨e, at_⟩⟩, h1, h2, h3⟩ := num_split (num0 a b)
 have h3 : e = 0 := h3
 subst h3
 refine Eq.trans (bind2 h1 h2) ?_
 exact Eq.trans (b := nfin a b (IntKind.i64.wrap (a + b))) (by kernel_rfl) (nfin_ok _ _ _)
theorem numb1 (a b : Int) : numbB 1 a b = some true := by
 obtain ⟨⟨nd, ⟨e, at_⟩⟩, h1, h2, h3⟩ := num_split (num1 a b)
 have h3 : e = 0 := h3
 subst h3
 refine Eq.trans (bind2 h1 h2) ?_
 exact Eq.trans (b := nfin a b (IntKind.i64.wrap (a - b))) (by kernel_rfl) (nfin_ok _ _ _)
theorem numb2 (a b : Int) : numbB 2 a b = some true := by
 obtain ⟨⟨nd, ⟨e, at_⟩⟩, h1, h2, h3⟩ := num_split (num2 a b)
 have h3 : e = 0 := h3
 subst h3
 refine Eq.trans (bind2 h1 h2) ?_
 exact Eq.trans (b := nfin a b (IntKind.i64.wrap (a * b))) (by kernel_rfl) (nfin_ok _ _ _)
theorem numb3 (a b : Int) : numbB 3 a b = some true := by
 cases b with
 | ofNat n =>
  cases n with
  | zero =>
   obtain ⟨⟨nd, ⟨e, at_⟩⟩, h1, h2, h3⟩ := num_split (num3z a)
   have h3 : e = 0 := h3
   subst h3
   refine Eq.trans (bind2 h1 h2) ?_
   kernel_rfl
  | succ n =>
   obtain ⟨⟨nd, ⟨e, at_⟩⟩, h1, h2, h3⟩ := num_split (num3 a (Int.ofNat (n + 1)) (by intro h; cases h))
   have h3 : e = 0 := h3
   subst h3
   refine Eq.trans (bind2 h1 h2) ?_
   exact Eq.trans (b := nfin a (Int.ofNat (n + 1)) (IntKind.i64.wrap (Int.tdiv a (Int.ofNat (n + 1))))) (by kernel_rfl) (nfin_ok _ _ _)
 | negSucc n =>
  obtain ⟨⟨nd, ⟨e, at_⟩⟩, h1, h2, h3⟩ := num_split (num3 a (Int.negSucc n) (by intro h; cases h))
  have h3 : e = 0 := h3
  subst h3
  refine Eq.trans (bind2 h1 h2) ?_
  exact Eq.trans (b := nfin a (Int.negSucc n) (IntKind.i64.wrap (Int.tdiv a (Int.negSucc n)))) (by kernel_rfl) (nfin_ok _ _ _)
theorem numb4 (a b : Int) : numbB 4 a b = some true := by
 cases b with
 | ofNat n =>
  cases n with
  | zero =>
   obtain ⟨⟨nd, ⟨e, at_⟩⟩, h1, h2, h3⟩ := num_split (num4z a)
   have h3 : e = 0 := h3
   subst h3
   refine Eq.trans (bind2 h1 h2) ?_
   kernel_rfl
  | succ n =>
   obtain ⟨⟨nd, ⟨e, at_⟩⟩, h1, h2, h3⟩ := num_split (num4 a (Int.ofNat (n + 1)) (by intro h; cases h))
   have h3 : e = 0 := h3
   subst h3
   refine Eq.trans (bind2 h1 h2) ?_
   exact Eq.trans (b := nfin a (Int.ofNat (n + 1)) (Int.tmod a (Int.ofNat (n + 1)))) (by kernel_rfl) (nfin_ok _ _ _)
 | negSucc n =>
  obtain ⟨⟨nd, ⟨e, at_⟩⟩, h1, h2, h3⟩ := num_split (num4 a (Int.negSucc n) (by intro h; cases h))
  have h3 : e = 0 := h3
  subst h3
  refine Eq.trans (bind2 h1 h2) ?_
  exact Eq.trans (b := nfin a (Int.negSucc n) (Int.tmod a (Int.negSucc n))) (by kernel_rfl) (nfin_ok _ _ _)
theorem numb5 (a b : Int) : numbB 5 a b = some true := by
 obtain ⟨⟨nd, ⟨e, at_⟩⟩, h1, h2, h3⟩ := num_split (num5 a b)
 have h3 : e = 0 := h3
 subst h3
 refine Eq.trans (bind2 h1 h2) ?_
 exact Eq.trans (b := nfin a b (bif (a == b) then (1 : Int) else 0)) (by kernel_rfl) (nfin_ok _ _ _)
theorem numb6 (a b : Int) : numbB 6 a b = some true := by
 obtain ⟨⟨nd, ⟨e, at_⟩⟩, h1, h2, h3⟩ := num_split (num6 a b)
 have h3 : e = 0 := h3
 subst h3
 refine Eq.trans (bind2 h1 h2) ?_
 exact Eq.trans (b := nfin a b (bif (a != b) then (1 : Int) else 0)) (by kernel_rfl) (nfin_ok _ _ _)
theorem numb7 (a b : Int) : numbB 7 a b = some true := by
 obtain ⟨⟨nd, ⟨e, at_⟩⟩, h1, h2, h3⟩ := num_split (num7 a b)
 have h3 : e = 0 := h3
 subst h3
 refine Eq.trans (bind2 h1 h2) ?_
 exact Eq.trans (b := nfin a b (bif (decide (a < b)) then (1 : Int) else 0)) (by kernel_rfl) (nfin_ok _ _ _)
theorem numb8 (a b : Int) : numbB 8 a b = some true := by
 obtain ⟨⟨nd, ⟨e, at_⟩⟩, h1, h2, h3⟩ := num_split (num8 a b)
 have h3 : e = 0 := h3
 subst h3
 refine Eq.trans (bind2 h1 h2) ?_
 exact Eq.trans (b := nfin a b (bif (decide (a ≤ b)) then (1 : Int) else 0)) (by kernel_rfl) (nfin_ok _ _ _)
theorem numb9 (a b : Int) : numbB 9 a b = some true := by
 obtain ⟨⟨nd, ⟨e, at_⟩⟩, h1, h2, h3⟩ := num_split (num9 a b)
 have h3 : e = 0 := h3
 subst h3
 refine Eq.trans (bind2 h1 h2) ?_
 exact Eq.trans (b := nfin a b (bif (decide (a > b)) then (1 : Int) else 0)) (by kernel_rfl) (nfin_ok _ _ _)
theorem numb10 (a b : Int) : numbB 10 a b = some true := by
 obtain ⟨⟨nd, ⟨e, at_⟩⟩, h1, h2, h3⟩ := num_split (num10 a b)
 have h3 : e = 0 := h3
 subst h3
 refine Eq.trans (bind2 h1 h2) ?_
 exact Eq.trans (b := nfin a b (bif (decide (a ≥ b)) then (1 : Int) else 0)) (by kernel_rfl) (nfin_ok _ _ _)
theorem numb11 (a b : Int) : numbB 11 a b = some true := by
 obtain ⟨⟨nd, ⟨e, at_⟩⟩, h1, h2, h3⟩ := num_split (num11 a b)
 have h3 : e = 0 := h3
 subst h3
 refine Eq.trans (bind2 h1 h2) ?_
 exact Eq.trans (b := nfin a b (bif ((a != 0) && (b != 0)) then (1 : Int) else 0)) (by kernel_rfl) (nfin_ok _ _ _)
theorem numb12 (a b : Int) : numbB 12 a b = some true := by
 obtain ⟨⟨nd, ⟨e, at_⟩⟩, h1, h2, h3⟩ := num_split (num12 a b)
 have h3 : e = 0 := h3
 subst h3
 refine Eq.trans (bind2 h1 h2) ?_
 exact Eq.trans (b := nfin a b (bif ((a != 0) || (b != 0)) then (1 : Int) else 0)) (by kernel_rfl) (nfin_ok _ _ _)
theorem numbers_at (k : Nat) (hk : k < 13) (a b : Int) (x : Int) (hx : IntKind.i64.wrap (Int.tmod x 13) = ((k : Nat) : Int)) : z6_raw a b x = some true := by
 have hs : ixO [(ByteArray.mk #[43]), (ByteArray.mk #[45]), (ByteArray.mk #[42]), (ByteArray.mk #[47]), (ByteArray.mk #[37]), (ByteArray.mk #[61, 61]), (ByteArray.mk #[33, 61]), (ByteArray.mk #[60]), (ByteArray.mk #[60, 61]), (ByteArray.mk #[62]), (ByteArray.mk #[62, 61]), (ByteArray.mk #[38, 38]), (ByteArray.mk #[124, 124])] ((k : Nat) : Int) = some ⟨(nsign k).toArray⟩ ∧ (nsign k).length ≤ 2 := by
  match k, hk with
  | 0, _ | 1, _ | 2, _ | 3, _ | 4, _ | 5, _ | 6, _ | 7, _ | 8, _ | 9, _ | 10, _ | 11, _ | 12, _ => exact ⟨rfl, by decide⟩
 have hN : N0.length = 49 := rfl
 rw [z6_raw, hx, hs.1, Option.bind_some]
 rw [show (ByteArray.mk #[118, 97, 114, 32, 120, 32, 61, 32, 48, 59, 32, 118, 97, 114, 32, 121, 32, 61, 32, 48, 59, 32, 118, 97, 114, 32, 122, 32, 61, 32, 55, 59, 32, 111, 110, 32, 116, 105, 99, 107, 32, 123, 32, 122, 32, 61, 32, 120, 32]) = ⟨N0.toArray⟩ from rfl, show (ByteArray.mk #[32, 121, 59, 32, 125]) = ⟨[32, 121, 59, 32, 125].toArray⟩ from rfl, ba_app, ba_app, ba_sz, ba_sz, ba_sz, ba_sz]
 rw [fit_ok (by omega), fit_ok (by rw [List.length_append]; simp only [List.length_cons, List.length_nil]; omega), Parse_l _ (by rw [List.length_append, List.length_append]; simp only [List.length_cons, List.length_nil]; omega)]
 refine Eq.trans (b := numbB k a b) rfl ?_
 match k, hk with
 | 0, _ => exact numb0 a b
 | 1, _ => exact numb1 a b
 | 2, _ => exact numb2 a b
 | 3, _ => exact numb3 a b
 | 4, _ => exact numb4 a b
 | 5, _ => exact numb5 a b
 | 6, _ => exact numb6 a b
 | 7, _ => exact numb7 a b
 | 8, _ => exact numb8 a b
 | 9, _ => exact numb9 a b
 | 10, _ => exact numb10 a b
 | 11, _ => exact numb11 a b
 | 12, _ => exact numb12 a b
theorem EvalNumbers_true (x0 x1 x2 : Int) (w0 : intW .i64 x0) (w1 : intW .i64 x1) (w2 : intW .u8 x2) : z6_raw x0 x1 x2 = some true := by
 have w2 : (decide (IntKind.u8.min ≤ x2) && decide (x2 ≤ IntKind.u8.max)) = true := w2
 rw [Bool.and_eq_true, decide_eq_true_eq, decide_eq_true_eq] at w2
 have e0 : (0 : Int) ≤ x2 := w2.1
 refine numbers_at (x2 % 13).toNat (by omega) x0 x1 x2 ?_
 rw [Int.tmod_eq_emod_of_nonneg e0, wrap_eq (n := x2 % 13) (by omega) (by omega)]
 omega

end Go.Proofs.Yteioljlgcagnnaa

import Derived.Test.YteioljlgcagnnaaM5EvalSound
set_option linter.unusedVariables false
set_option linter.unusedSimpArgs false
set_option maxRecDepth 100000
set_option maxHeartbeats 4000000
namespace Go.Proofs.Yteioljlgcagnnaa
open Go.Sh
noncomputable def z20_F : Go.Sh.Fn := ⟨20, bodyOf Try.f20, 93⟩
def z20_l0 (x : (List Token) × Fault) : Nat → List Token → Int → Int → Int → Int → Int → List Node → Option ((List Token) × Int × Int × Int × Int × Int × (List Node))
 | 0, _, _, _, _, _, _, _ => none
 | m + 1, x_0, x_1, x_2, x_3, x_4_0, x_4_1, o5 =>
  (bif ((x_4_0 == 0) && (decide (x_1 < (((List.map Token.av x.1).length : Nat) : Int)))) then
  (z30_raw ({ L := x_0, I := x_1, End := x_2, Deep := x_3, F := ({ E := x_4_0, At := x_4_1 } : Fault) } : Eye)).bind fun v =>
  (z31_raw v.2 (ByteArray.mk #[118, 97, 114])).bind fun v1 =>
  (bif v1.1 then
   (z32_raw v1.2).bind fun v2 =>
   (z33_raw v2.2 (ByteArray.mk #[61])).bind fun v3 =>
   (z31_raw v3 (ByteArray.mk #[45])).bind fun v4 =>
   (z34_raw v4.2).bind fun v5 =>
   (bif v4.1 then
    (z33_raw v5.2 (ByteArray.mk #[59])).bind fun v6 =>
    fitO (o5.length + [({ Kind := 2, Text := v2.1, Num := (IntKind.i64.wrap (0 - v5.1)), Kids := [], At := v.1 } : Node)].length) 64 (
    z20_l0 x m v6.L v6.I v6.End v6.Deep v6.F.E v6.F.At (o5 ++ [({ Kind := 2, Text := v2.1, Num := (IntKind.i64.wrap (0 - v5.1)), Kids := [], At := v.1 } : Node)]))
   else
    (z33_raw v5.2 (ByteArray.mk #[59])).bind fun v7 =>
    fitO (o5.length + [({ Kind := 2, Text := v2.1, Num := v5.1, Kids := [], At := v.1 } : Node)].length) 64 (
    z20_l0 x m v7.L v7.I v7.End v7.Deep v7.F.E v7.F.At (o5 ++ [({ Kind := 2, Text := v2.1, Num := v5.1, Kids := [], At := v.1 } : Node)])))
  else
   (z33_raw v1.2 (ByteArray.mk #[111, 110])).bind fun v8 =>
   (z32_raw v8).bind fun v9 =>
   ((eyeG 400).2.2.2.2.2.2.2.2 v9.2).bind fun v10 =>
   fitO (o5.length + [({ Kind := 3, Text := v9.1, Num := 0, Kids := v10.1.Kids, At := v.1 } : Node)].length) 64 (
   z20_l0 x m v10.2.L v10.2.I v10.2.End v10.2.Deep v10.2.F.E v10.2.F.At (o5 ++ [({ Kind := 3, Text := v9.1, Num := 0, Kids := v10.1.Kids, At := v.1 } : Node)])))
 else
  some (x_0, x_1, x_2, x_3, x_4_0, x_4_1, o5))
theorem z20_l0_walk (q0 : Nat) (s : ByteArray) (x : (List Token) × Fault)  (r : Node × Fault) (c0 : Ctx) (hc0 : c0.m.length = 0) (res : (List Token) × Int × Int × Int × Int × Int × (List Node)) (J : AX Try.prog tab z20_F c0 (Rp tab.S c0 (.tup [Node.ag r.1, Fault.av r.2]) []) (some ⟨[.code [1, 1, 1, 1, 1, 1]], [(2, .ptr 0 0 none), (3, .ptr 1 0 none), (6, .ptr 3 0 none), (7, .ptr 4 0 none)], [.box 30 [.sc (.int .i64 0), .sc (.string ⟨#[]⟩), .sc (.int .i64 0), .sl 0 [] true, .sc (.int .i64 0)], .box 56 [.sc (.int .i64 0), .sc (.int .i64 0)], .box 56 (Fault.ch x.2), .box 85 [.sl 105 (List.map Token.av res.1) false, .sc (.int .i64 res.2.1), .sc (.int .i64 res.2.2.1), .sc (.int .i64 res.2.2.2.1), .sc (.int .i64 res.2.2.2.2.1), .sc (.int .i64 res.2.2.2.2.2.1)], .box 30 [.sc (.int .i64 1), .sc (.string ⟨#[]⟩), .sc (.int .i64 0), .own 5 1000000, .sc (.int .i64 0)], .row 30 (List.map Node.av res.2.2.2.2.2.2) 1000000 true]⟩)) :
  ∀ (m : Nat) (x_0 : List Token) (x_1 : Int) (x_2 : Int) (x_3 : Int) (x_4_0 : Int) (x_4_1 : Int) (o5 : List Node) (H : z20_l0 x m x_0 x_1 x_2 x_3 x_4_0 x_4_1 o5 = some res), AX Try.prog tab z20_F c0 (Rp tab.S c0 (.tup [Node.ag r.1, Fault.av r.2]) []) (some ⟨[.code [1, 1, 1, 1, 1, 0, 0, 0], .loop [1, 1, 1, 1, 1, 0, 0], .blk 0, .code [1, 1, 1, 1, 1, 1]], [(2, .ptr 0 0 none), (3, .ptr 1 0 none), (4, .sl 105 (List.map Token.av x.1) false), (6, .ptr 3 0 none), (7, .ptr 4 0 none)], [.box 30 [.sc (.int .i64 0), .sc (.string ⟨#[]⟩), .sc (.int .i64 0), .sl 0 [] true, .sc (.int .i64 0)], .box 56 [.sc (.int .i64 0), .sc (.int .i64 0)], .box 56 (Fault.ch x.2), .box 85 [.sl 105 (List.map Token.av x_0) false, .sc (.int .i64 x_1), .sc (.int .i64 x_2), .sc (.int .i64 x_3), .sc (.int .i64 x_4_0), .sc (.int .i64 x_4_1)], .box 30 [.sc (.int .i64 1), .sc (.string ⟨#[]⟩), .sc (.int .i64 0), .own 5 1000000, .sc (.int .i64 0)], .row 30 (List.map Node.av o5) 1000000 true]⟩) := by
 intro m
 induction m with
 | zero => intro x_0 x_1 x_2 x_3 x_4_0 x_4_1 o5 H; cases H
 | succ m ih =>
  intro x_0 x_1 x_2 x_3 x_4_0 x_4_1 o5 H
  rw [z20_l0] at H
  refine .sg 2 [2,3,4,6,7] (.rg (.sg 7 [2,3,4,6,7,32] (.mx 0 [2,3,4,6,7,40] (.dn (.cd ((x_4_0 == 0) && (decide (x_1 < (((List.map Token.av x.1).length : Nat) : Int)))) H (fun hb H => ?_) (fun hb H => ?_))))))
  ·
   refine .sg 3 [2,3,4,6,7] (.rg (.sg 1 [2,3,4,6,7,41] (bndO H fun v hv H => (.ch [2,3,4,6,7,42] [3] (z30_walk _ v hv) (.sg 3 [2,3,4,6,7,8] (.dn (.sg 2 [2,3,4,6,7,8] (.rg (.sg 1 [2,3,4,6,7,8,44] (bndO H fun v1 hv H => (.ch [2,3,4,6,7,8,45] [3] (z31_walk _ _ v1 hv) (.dn (.cd v1.1 H (fun hb H => ?_) (fun hb H => ?_))))))))))))))
   ·
    refine .sg 3 [2,3,4,6,7,8] (.rg (.sg 1 [2,3,4,6,7,8,47] (bndO H fun v2 hv H => (.ch [2,3,4,6,7,8,48] [3] (z32_walk _ v2 hv) (.sg 2 [2,3,4,6,7,8] (.dn (.sg 1 [2,3,4,6,7,8] (.rg (.sg 1 [2,3,4,6,7,8,50] (bndO H fun v3 hv H => (.ch [2,3,4,6,7,8] [3] (z33_walk _ _ v3 hv) (.dn (.sg 1 [2,3,4,6,7,8] (.rg (.sg 1 [2,3,4,6,7,8,52] (bndO H fun v4 hv H => (.ch [2,3,4,6,7,8,53] [3] (z31_walk _ _ v4 hv) (.sg 1 [2,3,4,6,7,8,9] (.dn (.sg 1 [2,3,4,6,7,8,9] (.rg (.sg 1 [2,3,4,6,7,8,9,54] (bndO H fun v5 hv H => (.ch [2,3,4,6,7,8,9,55] [3] (z34_walk _ v5 hv) (.sg 2 [2,3,4,6,7,8,9] (.dn (.sg 3 [2,3,4,6,7,8,57] (.cd v4.1 H (fun hb H => ?_) (fun hb H => ?_)))))))))))))))))))))))))))))
    ·
     exact .sg 1 [2,3,4,6,7,8] (.rg (.sg 1 [2,3,4,6,7,8,62] (bndO H fun v6 hv H => (.ch [2,3,4,6,7,8] [3] (z33_walk _ _ v6 hv) (.dn (.rg (.sg 3 [2,3,4,6,7,75,76] (.wk 76 [(30, false)] (.bg [2,3,4,6,7,75,77] Node.av Node.ag Node.av_eq ([({ Kind := 2, Text := v2.1, Num := (IntKind.i64.wrap (0 - v5.1)), Kids := [], At := v.1 } : Node)] : List Node) 30 true (fitH H fun hfit H => (.ap [2,3,4,6,7,78] Node.av hfit (.sg 2 [2,3,4,6,7] (.dn (.sg 1 [2,3,4,6,7] (.tl hc0 [0,1,2,3,4,5] [2,3,4,6,7] (.into (.to (ih v6.L v6.I v6.End v6.Deep v6.F.E v6.F.At (o5 ++ [({ Kind := 2, Text := v2.1, Num := (IntKind.i64.wrap (0 - v5.1)), Kids := [], At := v.1 } : Node)]) H))))))))))))))))))
    ·
     exact .sg 1 [2,3,4,6,7,8] (.rg (.sg 1 [2,3,4,6,7,8,62] (bndO H fun v7 hv H => (.ch [2,3,4,6,7,8] [3] (z33_walk _ _ v7 hv) (.dn (.rg (.sg 3 [2,3,4,6,7,75,76] (.wk 76 [(30, false)] (.bg [2,3,4,6,7,75,77] Node.av Node.ag Node.av_eq ([({ Kind := 2, Text := v2.1, Num := v5.1, Kids := [], At := v.1 } : Node)] : List Node) 30 true (fitH H fun hfit H => (.ap [2,3,4,6,7,78] Node.av hfit (.sg 2 [2,3,4,6,7] (.dn (.sg 1 [2,3,4,6,7] (.tl hc0 [0,1,2,3,4,5] [2,3,4,6,7] (.into (.to (ih v7.L v7.I v7.End v7.Deep v7.F.E v7.F.At (o5 ++ [({ Kind := 2, Text := v2.1, Num := v5.1, Kids := [], At := v.1 } : Node)]) H))))))))))))))))))
   ·
    exact .sg 1 [2,3,4,6,7,8] (.rg (.sg 1 [2,3,4,6,7,8,64] (bndO H fun v8 hv H => (.ch [2,3,4,6,7,8] [3] (z33_walk _ _ v8 hv) (.dn (.sg 3 [2,3,4,6,7,8] (.rg (.sg 1 [2,3,4,6,7,8,67] (bndO H fun v9 hv H => (.ch [2,3,4,6,7,8,68] [3] (z32_walk _ v9 hv) (.sg 2 [2,3,4,6,7,8] (.dn (.rg (.sg 1 [2,3,4,6,7,8,70] (bndO H fun v10 hv H => (.ch [2,3,4,6,7,8,71] [3] ((eyeG_walk 400).2.2.2.2.2.2.2.2 _ v10 hv) (.fd [2,3,4,6,7,8,72] (.sg 2 [2,3,4,6,7,8] (.dn (.rg (.sg 3 [2,3,4,6,7,75,76] (.bg [2,3,4,6,7,75,77] Node.av Node.ag Node.av_eq ([({ Kind := 3, Text := v9.1, Num := 0, Kids := v10.1.Kids, At := v.1 } : Node)] : List Node) 30 true (fitH H fun hfit H => (.ap [2,3,4,6,7,78] Node.av hfit (.sg 2 [2,3,4,6,7] (.dn (.sg 1 [2,3,4,6,7] (.tl hc0 [0,1,2,3,4,5] [2,3,4,6,7] (.into (.to (ih v10.2.L v10.2.I v10.2.End v10.2.Deep v10.2.F.E v10.2.F.At (o5 ++ [({ Kind := 3, Text := v9.1, Num := 0, Kids := v10.1.Kids, At := v.1 } : Node)]) H)))))))))))))))))))))))))))))))
  ·
   refine .sg 1 [2,3,6,7] (.kp [2,3,6,7] ?_)
   obtain rfl := Option.some.inj H
   exact .to J
def z20_raw (q0 : Nat) (s : ByteArray) : Option (Node × Fault) :=
 (z29_raw 20000 20000 20000 20000 20000 20000 s).bind fun x =>
 (bif (x.2.E != 0) then
  some (({ Kind := 0, Text := ⟨#[]⟩, Num := 0, Kids := [], At := 0 } : Node), x.2)
 else
  (z20_l0 x q0 x.1 0 ((s.size : Nat) : Int) 0 0 0 ([] : List Node)).bind fun v =>
  (bif (v.2.2.2.2.1 != 0) then
   some (({ Kind := 0, Text := ⟨#[]⟩, Num := 0, Kids := [], At := 0 } : Node), ({ E := v.2.2.2.2.1, At := v.2.2.2.2.2.1 } : Fault))
  else
   some (({ Kind := 1, Text := ⟨#[]⟩, Num := 0, Kids := v.2.2.2.2.2.2, At := 0 } : Node), ({ E := 0, At := 0 } : Fault))))
theorem z20_walk (q0 : Nat) (s : ByteArray) (r : Node × Fault) (H : z20_raw q0 s = some r) : ACalls Try.prog tab.S 20 [.sc (.string s)] [] (.tup [Node.ag r.1, Fault.av r.2]) [] := by
 refine .of_AX z20_F Try.func20 fun c0 hc0 => ?_
 rw [z20_raw] at H
 refine .sg 3 [0,2,3] (.rg (.sg 1 [0,2,3,11] (bndO H fun x hv H => (.cp [0,2,3,12] ((z29_walk 20000 20000 20000 20000 20000 20000) _ x hv) (.sg 6 [0,2,3,4,5] (.dn (.sg 3 [0,2,3,4,5,17] (.cd (x.2.E != 0) H (fun hb H => ?_) (fun hb H => ?_)))))))))
 ·
  refine .sg 1 [2,3,5] (.rp hc0 [2, 3] [] [[0, 1, 2], [0, 1, 2]] .nil (by kernel_rfl) ?_)
  obtain rfl := Option.some.inj H
  exact .ret Try.func20 hc0 [] [(30, false)]
 ·
  refine .sg 7 [2,3,4,6,7] (.adb 4 3 30 ?_)
  refine bndO H fun v hv H => (.into (.to (z20_l0_walk q0 s x r c0 hc0 v ?_ q0 x.1 0 ((s.size : Nat) : Int) 0 0 0 ([] : List Node) hv)))
  refine .sg 3 [2,3,6,7,85] (.cd (v.2.2.2.2.1 != 0) H (fun hb H => ?_) (fun hb H => ?_))
  ·
   refine .sg 1 [2,3,6] (.rp hc0 [2, 3] [] [[0, 1, 2, 3, 4, 5], [0, 1, 2, 3, 4, 5]] .nil (by kernel_rfl) ?_)
   obtain rfl := Option.some.inj H
   exact .ret Try.func20 hc0 [] [(30, false)]
  ·
   refine .sg 3 [2,3] ?_
   obtain rfl := Option.some.inj H
   exact .ret Try.func20 hc0
end Go.Proofs.Yteioljlgcagnnaa
namespace Go.Proofs.Yteioljlgcagnnaa
open Go.Sh
noncomputable def z103_F : Go.Sh.Fn := ⟨103, bodyOf Try.f103, 9⟩
def z103 (n : Int) : Bool :=
 ((decide (n ≥ 0)) && (decide (n < 12)))
theorem z103_calls (n : Int) : ACalls Try.prog tab.S 103 [.sc (.int .i64 n)] [] (.sc (.bool (z103 n))) [] := by
 generalize H : z103 n = r
 refine .of_AX z103_F Try.func103 fun c0 hc0 => ?_
 rw [z103] at H
 refine .sg 3 [0] (.rg (.sg 3 [0,5] (.mx 0 [8] (.sg 1 [2] (.dn ?_)))))
 subst H
 exact .ret Try.func103 hc0
noncomputable def z99_F : Go.Sh.Fn := ⟨99, bodyOf Try.f99, 14⟩
def z99 : (List Field) :=
 [({ name := (ByteArray.mk #[105, 110]), size := 16 } : Field), ({ name := (ByteArray.mk #[101, 115, 114, 99]), size := 48 } : Field), ({ name := (ByteArray.mk #[101, 100, 115, 116]), size := 48 } : Field), ({ name := (ByteArray.mk #[101, 116, 121, 112, 101]), size := 16 } : Field), ({ name := (ByteArray.mk #[118, 108, 97, 110]), size := 12 } : Field), ({ name := (ByteArray.mk #[112, 99, 112]), size := 4 } : Field), ({ name := (ByteArray.mk #[115, 114, 99]), size := 32 } : Field), ({ name := (ByteArray.mk #[100, 115, 116]), size := 32 } : Field), ({ name := (ByteArray.mk #[112, 114, 111, 116, 111]), size := 8 } : Field), ({ name := (ByteArray.mk #[116, 111, 115]), size := 8 } : Field), ({ name := (ByteArray.mk #[115, 112, 111, 114, 116]), size := 12 } : Field), ({ name := (ByteArray.mk #[100, 112, 111, 114, 116]), size := 12 } : Field)]
theorem z99_calls : ACalls Try.prog tab.S 99 [] [] (.agg (List.flatMap Field.ch (z99))) [] := by
 generalize H : z99 = r
 refine .of_AX z99_F Try.func99 fun c0 hc0 => ?_
 rw [z99] at H
 refine .sg 4 [0] ?_
 subst H
 exact .ret Try.func99 hc0
noncomputable def z94_F : Go.Sh.Fn := ⟨94, bodyOf Try.f94, 10⟩
def z94_raw (n : Int) : Option (Int) :=
 (bif (!(z103 n)) then
  some 0
 else
  (ixO z99 n).bind fun x =>
  some x.size)
theorem z94_walk (n : Int) (r : Int) (H : z94_raw n = some r) : ACalls Try.prog tab.S 94 [.sc (.int .i64 n)] [] (.sc (.int .i64 r)) [] := by
 refine .of_AX z94_F Try.func94 fun c0 hc0 => ?_
 rw [z94_raw] at H
 refine .sg 4 [0] (.rg (.sg 1 [0,3] (.cp [0,4] (z103_calls n) (.sg 1 [0,5] (.dn (.cd (!(z103 n)) H (fun hb H => ?_) (fun hb H => ?_)))))))
 ·
  refine .sg 2 [2] ?_
  obtain rfl := Option.some.inj H
  exact .ret Try.func94 hc0
 ·
  refine .sg 2 [0] (.rg (.cp [0,6] (z99_calls) (.sg 1 [6,7] (bndO H fun x hv H => (.xr [8] z99 Field.ch 2 hv (.fd [9] (.sg 1 [2] (.dn ?_))))))))
  obtain rfl := Option.some.inj H
  exact .ret Try.func94 hc0
theorem z94_ok (n : Int) : ACalls Try.prog tab.S 94 [.sc (.int .i64 n)] [] (.sc (.int .i64 (sizeT n))) [] := by
 refine z94_walk n (sizeT n) ?_
 rw [z94_raw, z103]
 rcases sizeT_cases n with ⟨h, e⟩ | ⟨h1, h2, k, rfl, hk, e⟩
 ·rw [e]
  have : (decide (n ≥ 0) && decide (n < 12)) = false := by
   rw [Bool.and_eq_false_iff, decide_eq_false_iff_not, decide_eq_false_iff_not]; omega
  rw [this]
  rfl
 ·rw [e, decide_eq_true h1, decide_eq_true h2]
  match k, hk with
  | 0, _ | 1, _ | 2, _ | 3, _ | 4, _ | 5, _ | 6, _ | 7, _ | 8, _ | 9, _ | 10, _ | 11, _ => rfl
noncomputable def z106_F : Go.Sh.Fn := ⟨106, bodyOf Try.f106, 10⟩
def z106_raw (n : Int) (v : Int) : Option (Bool) :=
 reqO (decide (0 ≤ (sizeT n))) (
 some ((Int.fdiv v (2 ^ (min ((sizeT n) : Int).toNat (IntKind.u64).bits))) == 0))
theorem z106_walk (n : Int) (v : Int) (r : Bool) (H : z106_raw n v = some r) : ACalls Try.prog tab.S 106 [.sc (.int .i64 n), .sc (.int .u64 v)] [] (.sc (.bool r)) [] := by
 refine .of_AX z106_F Try.func106 fun c0 hc0 => ?_
 rw [z106_raw] at H
 refine .sg 3 [0,1] (.rg (.sg 2 [5,6] (.cp [5,7] (z94_ok n) (reqH H fun hreq H => (.sr_ [8] (b := (sizeT n)) hreq (.sg 2 [4] (.dn ?_)))))))
 obtain rfl := Option.some.inj H
 exact .ret Try.func106 hc0
theorem fits_fdiv {n v : Int} : (Int.fdiv v (2 ^ (min (sizeT n).toNat (IntKind.u64).bits)) == 0) = (decide (0 ≤ v) && fitsT n v) := by
 have hs := sizeT_in n
 have hm : min (sizeT n).toNat (IntKind.u64).bits = (sizeT n).toNat := Nat.min_eq_left (by show _ ≤ 64; omega)
 rw [hm]
 have hp := pow_pos2 (sizeT n).toNat
 unfold fitsT
 rw [Bool.eq_iff_iff, Bool.and_eq_true, decide_eq_true_eq, decide_eq_true_eq, beq_iff_eq]
 rw [Int.fdiv_eq_ediv_of_nonneg _ (Int.le_of_lt hp)]
 constructor
 ·intro h
  have h1 := Int.mul_ediv_add_emod v ((2 : Int) ^ (sizeT n).toNat)
  have h2 := Int.emod_nonneg v (Int.ne_of_gt hp)
  have h3 := Int.emod_lt_of_pos v hp
  rw [h, Int.mul_zero, Int.zero_add] at h1
  rw [h1] at h2 h3
  exact ⟨h2, h3⟩
 ·intro h
  exact Int.ediv_eq_zero_of_lt h.1 h.2
def fitsH (n v : Int) : Bool := decide (0 ≤ v) && fitsT n v
theorem z106_ok (n v : Int) : ACalls Try.prog tab.S 106 [.sc (.int .i64 n), .sc (.int .u64 v)] [] (.sc (.bool (fitsH n v))) [] := by
 refine z106_walk n v _ ?_
 rw [z106_raw, reqO_eq (decide_eq_true (sizeT_in n).1), fits_fdiv]
 rfl
noncomputable def head_Set_F : Go.Sh.Fn := ⟨96, bodyOf Try.f96, 23⟩
def head_Set_raw (h1 : List Int) (n : Int) (v : Int) : Option ((List Int) × Int) :=
 (bif (!(z103 n)) then
  some ([0, 0, 0, 0, 0, 0, 0, 0, 0, 0, 0, 0], 1)
 else
  (bif (!(fitsH n v)) then
   some ([0, 0, 0, 0, 0, 0, 0, 0, 0, 0, 0, 0], 13)
  else
   reqO (decide (0 ≤ n) && decide (n < ((12 : Nat) : Int))) (
   some ((h1.set (n.toNat) v), 0))))
theorem head_Set_walk (h1 : List Int) (n : Int) (v : Int) (r : (List Int) × Int) (H : head_Set_raw h1 n v = some r) : ACalls Try.prog tab.S 96 [.arr .u64 12 h1, .sc (.int .i64 n), .sc (.int .u64 v)] [] (.tup [.arr .u64 12 r.1, .sc (.int .i64 r.2)]) [] := by
 refine .of_AX head_Set_F Try.func96 fun c0 hc0 => ?_
 rw [head_Set_raw] at H
 refine .sg 5 [1,2,3,6] (.rg (.sg 1 [1,2,3,6,9] (.cp [1,2,3,6,10] (z103_calls n) (.sg 2 [1,2,3,6,8] (.dn (.cd (!(z103 n)) H (fun hb H => ?_) (fun hb H => ?_)))))))
 ·
  refine .sg 2 [6,7] ?_
  obtain rfl := Option.some.inj H
  exact .ret Try.func96 hc0
 ·
  refine .sg 1 [1,2,3,6] (.rg (.sg 2 [1,2,3,6,14,15] (.cp [1,2,3,6,16] (z106_ok n v) (.sg 2 [1,2,3,6,13] (.dn (.cd (!(fitsH n v)) H (fun hb H => ?_) (fun hb H => ?_)))))))
  ·
   refine .sg 2 [6,7] ?_
   obtain rfl := Option.some.inj H
   exact .ret Try.func96 hc0
  ·
   refine .sg 3 [1,2,3,6] (.rg (.sg 2 [3,6,19,20] (reqH H fun hreq H => (.xa [3,6,20,21] hreq (.sg 1 [3,6] (.dn (.sg 2 [6,7] ?_)))))))
   obtain rfl := Option.some.inj H
   exact .ret Try.func96 hc0
def setT_ (h : List Int) (n v : Int) : List Int × Int :=
 if z103 n then (if fitsH n v then (h.set n.toNat v, 0) else ([0, 0, 0, 0, 0, 0, 0, 0, 0, 0, 0, 0], 13)) else ([0, 0, 0, 0, 0, 0, 0, 0, 0, 0, 0, 0], 1)
theorem head_Set_ok (h : List Int) (n v : Int) : ACalls Try.prog tab.S 96 [.arr .u64 12 h, .sc (.int .i64 n), .sc (.int .u64 v)] [] (.tup [.arr .u64 12 (setT_ h n v).1, .sc (.int .i64 (setT_ h n v).2)]) [] := by
 refine head_Set_walk h n v (setT_ h n v) ?_
 rw [head_Set_raw]
 unfold setT_
 cases ht : z103 n
 ·rfl
 ·cases hf : fitsH n v
  ·rfl
  ·have hn : (decide (0 ≤ n) && decide (n < ((12 : Nat) : Int))) = true := ht
   simp only [Bool.not_true, cond_false, if_true]
   rw [reqO_eq hn]
noncomputable def z100_F : Go.Sh.Fn := ⟨100, bodyOf Try.f100, 19⟩
def z100_l0s (f : Field → Bool) : List Field → Nat → Sum (Unit) (Int)
 | [], t8 =>
  (.inl ())
 | x :: rest, t8 =>
  (bif (f x) then
   (.inr ((t8 : Nat) : Int))
  else
   z100_l0s f rest (t8 + 1) )
theorem z100_l0_walk (s : List Field) (F_f : FuncId) (C_f : List AV) (f : Field → Bool) (P_f : plainL C_f = true) (O_f : C_f.all oneA = true) (H_f : ∀ (y0 : Field), ACalls Try.prog tab.S F_f ([Field.av y0] ++ C_f) [] (.sc (.bool (f y0))) []) (f_s : Bool) (r : Int) (c0 : Ctx) (hc0 : c0.m.length = 0) (res : Sum (Unit) (Int)) (J : ∀ w : Unit, res = .inl w → AX Try.prog tab z100_F c0 (Rp tab.S c0 (.sc (.int .i64 r)) []) (some ⟨[.code [1, 1]], [], []⟩)) (Jr : ∀ w, res = .inr w → w = r) :
  ∀ (rest : List Field) (t8 : Nat) (z : Int) (hI : z = ((t8 : Nat) : Int)) (hd : s.drop t8 = rest) (H : z100_l0s f rest t8 = res), AX Try.prog tab z100_F c0 (Rp tab.S c0 (.sc (.int .i64 r)) []) (some ⟨[.code [1, 0, 1, 0, 0], .loop [1, 0, 1, 0], .blk 0, .code [1, 1]], [(0, .sl 140 (List.map Field.av s) f_s), (1, .fn F_f C_f), (7, .sc (.int .i64 (((List.map Field.av s).length : Nat) : Int))), (8, .sc (.int .i64 z))], []⟩) := by
 intro rest
 induction rest with
 | nil =>
  intro t8 z hI hd  H
  subst hI
  rw [z100_l0s] at H
  refine .facts 0 fun hf => ?_
  have hlen : s.length ≤ 9223372036854775807 := by have hq := len_ok hf.2.1; rw [List.length_map] at hq; exact hq
  have hge : s.length ≤ t8 := List.drop_eq_nil_iff.1 hd
  have hc : (decide (((t8 : Nat) : Int) < (((List.map Field.av s).length : Nat) : Int))) = false := by rw [List.length_map]; exact decide_eq_false (by omega)
  exact .sg 3 [0,1,7,8,9] (.cdF hc (.sg 1 [] (.kp [] (.to (J () H.symm)))))
 | cons x rest ih =>
  intro t8 z hI hd  H
  subst hI
  rw [z100_l0s] at H
  refine .facts 0 fun hf => ?_
  have hlen : s.length ≤ 9223372036854775807 := by have hq := len_ok hf.2.1; rw [List.length_map] at hq; exact hq
  obtain ⟨hlt, hv_t8, hd2⟩ := drop_cons hd
  have hc : (decide (((t8 : Nat) : Int) < (((List.map Field.av s).length : Nat) : Int))) = true := by rw [List.length_map]; exact decide_eq_true (by omega)
  have hw : IntKind.i64.wrap (((t8 : Nat) : Int) + 1) = ((t8 + 1 : Nat) : Int) := wrapI_succ (by omega)
  refine .sg 3 [0,1,7,8,9] (.cdT hc (.sg 6 [0,1,5,7,8] (.rg (.sg 3 [0,1,5,7,8,11,12,13] (.xi [0,1,5,7,8,11,14] Field.av hv_t8 (.sg 1 [0,1,5,7,8,11,15] (.cf [0,1,5,7,8,16] (H_f x) P_f O_f (.dn (.cd (f x) H (fun hb H => ?_) (fun hb H => ?_))))))))))
  ·
   refine .sg 2 [4] ?_
   subst H
   obtain rfl := Jr _ rfl
   exact .ret Try.func100 hc0
  ·
   exact .sg 3 [0,1,7,8] (.kp [0,1,7,8] (.into (.cl (ih (t8 + 1) _ hw hd2 H))))
def z100 (s : List Field) (f : Field → Bool) : Int :=
 sumG (fun q => q) (z100_l0s f s 0) fun v =>
 (-1)
theorem z100_calls (s : List Field) (F_f : FuncId) (C_f : List AV) (f : Field → Bool) (P_f : plainL C_f = true) (O_f : C_f.all oneA = true) (H_f : ∀ (y0 : Field), ACalls Try.prog tab.S F_f ([Field.av y0] ++ C_f) [] (.sc (.bool (f y0))) []) (f_s : Bool) : ACalls Try.prog tab.S 100 [.sl 140 (List.map Field.av s) f_s, .fn F_f C_f] [] (.sc (.int .i64 (z100 s f))) [] := by
 generalize H : z100 s f = r
 refine .of_AX z100_F Try.func100 fun c0 hc0 => ?_
 rw [z100] at H
 refine .sg 6 [0,1,7,8] ?_
 rcases sumG_eq H with ⟨v, hv, H⟩ | ⟨r1, hv, hr1⟩
 case inr =>
  refine .into ?_
  replace hr1 : r1 = r := hr1
  subst hr1
  exact .to (z100_l0_walk s F_f C_f f P_f O_f H_f f_s _ c0 hc0 (.inr _) (fun _ e => by cases e) (fun _ e => (Sum.inr.inj e).symm) s 0 _ rfl rfl hv)
 refine .into (.to (z100_l0_walk s F_f C_f f P_f O_f H_f f_s r c0 hc0 (.inl v) (fun w e => ?_) (fun _ e => by cases e) s 0 _ rfl rfl hv))
 have e := Sum.inl.inj e
 subst e
 refine .sg 2 [4] ?_
 subst H
 exact .ret Try.func100 hc0
theorem z100_l0s_eq (f : Field → Bool) : ∀ (l : List Field) (i : Nat), z100_l0s f l i = match l.findIdx? f with | some k => .inr ((i + k : Nat) : Int) | none => .inl ()
 | [], i => rfl
 | x :: l, i => by
   rw [z100_l0s, List.findIdx?_cons, z100_l0s_eq f l (i + 1)]
   cases f x
   ·simp only [cond_false, Bool.false_eq_true, if_false]
    cases l.findIdx? f with
    | none => rfl
    | some k => simp only [Option.map_some]; rw [show i + 1 + k = i + (k + 1) by omega]
   ·rfl
theorem z100_idx (s : List Field) (f : Field → Bool) : z100 s f = idxF f s := by
 rw [z100, z100_l0s_eq]
 unfold idxF sumG
 cases s.findIdx? f with
 | none => rfl
 | some k => simp only [Nat.zero_add]
noncomputable def z101_F : Go.Sh.Fn := ⟨101, bodyOf Try.f101, 8⟩
def z101 (f : Field) (c : ByteArray) : Bool :=
 (f.name == c)
theorem z101_calls (f : Field) (c : ByteArray) : ACalls Try.prog tab.S 101 [Field.av f, .ep [.sc (.string c)] 0 none] [] (.sc (.bool (z101 f c))) [] := by
 generalize H : z101 f c = r
 refine .of_AX z101_F Try.func101 fun c0 hc0 => ?_
 rw [z101] at H
 refine .sg 4 [3] ?_
 subst H
 exact .ret Try.func101 hc0
noncomputable def z91_F : Go.Sh.Fn := ⟨91, bodyOf Try.f91, 14⟩
def z91 (name : ByteArray) : Int × Bool :=
 ((if 0 > (z100 z99 (fun y0 => z101 y0 name)) then 0 else (z100 z99 (fun y0 => z101 y0 name))), (decide ((z100 z99 (fun y0 => z101 y0 name)) ≥ 0)))
theorem z91_calls (name : ByteArray) : ACalls Try.prog tab.S 91 [.sc (.string name)] [] (.tup [.sc (.int .i64 ((z91 name).1)), .sc (.bool ((z91 name).2))]) [] := by
 generalize H : z91 name = r
 refine .of_AX z91_F Try.func91 fun c0 hc0 => ?_
 rw [z91] at H
 refine .sg 1 [0] (.rg (.bx [1] (.sg 2 [1] (.dn (.sg 1 [1] (.rg (.cp [1,6] (z99_calls) (.sg 2 [1,4] (.dn (.sg 1 [1,4] (.gb hc0 0 [] [1,4] (.rg (.ser [1,7] Field.av Field.ch (fun _ => rfl) z99 140 12 (.sg 1 [7,8] (.cl_ [9] (caps := []) (z100_calls z99 101 [.ep [.sc (.string name)] 0 none] (fun y0 => z101 y0 name) rfl rfl (fun y0 => z101_calls y0 name) true) (.same rfl (.fn (caps := [.ep [.sc (.string name)] 0 none]) (by kernel_rfl) .nil)) (by kernel_rfl) rfl rfl (.sg 1 [5] (.dn (.sg 2 [2,3] ?_))))))))))))))))))
 subst H
 exact .ret Try.func91 hc0
noncomputable def z77_F : Go.Sh.Fn := ⟨77, bodyOf Try.f77, 13⟩
def z77_raw (field : Int) : Option (ByteArray) :=
 (bif ((decide (field < 0)) || (decide (field > 11))) then
  some (ByteArray.mk #[])
 else
  (ixO [(ByteArray.mk #[105, 110]), (ByteArray.mk #[101, 115, 114, 99]), (ByteArray.mk #[101, 100, 115, 116]), (ByteArray.mk #[101, 116, 121, 112, 101]), (ByteArray.mk #[118, 108, 97, 110]), (ByteArray.mk #[112, 99, 112]), (ByteArray.mk #[115, 114, 99]), (ByteArray.mk #[100, 115, 116]), (ByteArray.mk #[112, 114, 111, 116, 111]), (ByteArray.mk #[116, 111, 115]), (ByteArray.mk #[115, 112, 111, 114, 116]), (ByteArray.mk #[100, 112, 111, 114, 116])] field).bind fun x =>
  some x)
theorem z77_walk (field : Int) (r : ByteArray) (H : z77_raw field = some r) : ACalls Try.prog tab.S 77 [.sc (.int .i64 field)] [] (.sc (.string r)) [] := by
 refine .of_AX z77_F Try.func77 fun c0 hc0 => ?_
 rw [z77_raw] at H
 refine .sg 4 [0] (.rg (.sg 3 [0,5] (.mx 1 [0,8] (.dn (.cd ((decide (field < 0)) || (decide (field > 11))) H (fun hb H => ?_) (fun hb H => ?_))))))
 ·
  refine .sg 2 [2] ?_
  obtain rfl := Option.some.inj H
  exact .ret Try.func77 hc0
 ·
  refine .sg 2 [0] (.rg (.sg 2 [9,10] (bndO H fun x hv H => (.xi [11] strA hv (.sg 2 [2] (.dn ?_))))))
  obtain rfl := Option.some.inj H
  exact .ret Try.func77 hc0
noncomputable def z57_F : Go.Sh.Fn := ⟨57, bodyOf Try.f57, 14⟩
def z57_l0s (name : ByteArray) : Nat → Nat → Option (Sum (Unit) (Int × Bool))
 | 0, i =>
  some (.inl ())
 | rest + 1, i =>
  (z77_raw ((i : Nat) : Int)).bind fun x1 =>
  (bif (x1 == name) then
   some (.inr (((i : Nat) : Int), true))
  else
   z57_l0s name rest (i + 1) )
theorem z57_l0_walk (name : ByteArray) (r : Int × Bool) (c0 : Ctx) (hc0 : c0.m.length = 0) (res : Sum (Unit) (Int × Bool)) (J : ∀ w : Unit, res = .inl w → AX Try.prog tab z57_F c0 (Rp tab.S c0 (.tup [.sc (.int .i64 r.1), .sc (.bool r.2)]) []) (some ⟨[.code [1, 1]], [], []⟩)) (Jr : ∀ w, res = .inr w → w = r) :
  ∀ (rest : Nat) (i : Nat) (z : Int) (hI : z = ((i : Nat) : Int)) (hd : i + rest = 12) (H : z57_l0s name rest i = some res), AX Try.prog tab z57_F c0 (Rp tab.S c0 (.tup [.sc (.int .i64 r.1), .sc (.bool r.2)]) []) (some ⟨[.code [1, 0, 1, 0, 0], .loop [1, 0, 1, 0], .blk 0, .code [1, 1]], [(0, .sc (.string name)), (4, .sc (.int .i64 z))], []⟩) := by
 intro rest
 induction rest with
 | zero =>
  intro i z hI hd  H
  subst hI
  rw [z57_l0s] at H
  have hc : (decide (((i : Nat) : Int) < 12)) = false := decide_eq_false (by omega)
  exact .sg 3 [0,4,6] (.cdF hc (.sg 1 [] (.kp [] (.to (J () (Option.some.inj H).symm)))))
 | succ rest ih =>
  intro i z hI hd  H
  subst hI
  rw [z57_l0s] at H
  have hlt_i : i < 12 := by omega
  have hc : (decide (((i : Nat) : Int) < 12)) = true := decide_eq_true (by omega)
  have hw : IntKind.i64.wrap (((i : Nat) : Int) + 1) = ((i + 1 : Nat) : Int) := wrapI_succ (by omega)
  refine .sg 3 [0,4,6] (.cdT hc (.sg 4 [0,4] (.rg (.sg 1 [0,4,9] (bndO H fun x1 hv H => (.cp [0,4,10] (z77_walk _ x1 hv) (.sg 2 [0,4,12] (.dn (.cd (x1 == name) H (fun hb H => ?_) (fun hb H => ?_))))))))))
  ·
   refine .sg 2 [2,3] ?_
   obtain rfl := Option.some.inj H
   obtain rfl := Jr _ rfl
   exact .ret Try.func57 hc0
  ·
   exact .sg 3 [0,4] (.kp [0,4] (.into (.cl (ih (i + 1) _ hw (by omega) H))))
def z57_raw (name : ByteArray) : Option (Int × Bool) :=
 loopO (z57_l0s name 12 0) fun v =>
 some (0, false)
theorem z57_walk (name : ByteArray) (r : Int × Bool) (H : z57_raw name = some r) : ACalls Try.prog tab.S 57 [.sc (.string name)] [] (.tup [.sc (.int .i64 r.1), .sc (.bool r.2)]) [] := by
 refine .of_AX z57_F Try.func57 fun c0 hc0 => ?_
 rw [z57_raw] at H
 refine .sg 6 [0,4] ?_
 rcases loopO_some H with ⟨v, hv, H⟩ | hv
 case inr =>
  exact .into (.to (z57_l0_walk name _ c0 hc0 (.inr _) (fun _ e => by cases e) (fun _ e => (Sum.inr.inj e).symm) 12 0 _ rfl rfl hv))
 refine .into (.to (z57_l0_walk name r c0 hc0 (.inl v) (fun w e => ?_) (fun _ e => by cases e) 12 0 _ rfl rfl hv))
 have e := Sum.inl.inj e
 subst e
 refine .sg 2 [2,3] ?_
 obtain rfl := Option.some.inj H
 exact .ret Try.func57 hc0
noncomputable def z37_F : Go.Sh.Fn := ⟨37, bodyOf Try.f37, 33⟩
def z37_raw (on : ByteArray) (name : ByteArray) : Option (Bool) :=
 (z57_raw name).bind fun x =>
 some (((on == (ByteArray.mk #[112, 97, 99, 107, 101, 116])) && ((x.2 || (name == (ByteArray.mk #[117, 110, 105, 116]))) || (name == (ByteArray.mk #[112, 111, 114, 116])))) || ((on == (ByteArray.mk #[114, 101, 109, 111, 118, 101, 100])) && (name == (ByteArray.mk #[117, 110, 105, 116]))))
theorem z37_walk (on : ByteArray) (name : ByteArray) (r : Bool) (H : z37_raw on name = some r) : ACalls Try.prog tab.S 37 [.sc (.string on), .sc (.string name)] [] (.sc (.bool r)) [] := by
 refine .of_AX z37_F Try.func37 fun c0 hc0 => ?_
 rw [z37_raw] at H
 refine .sg 3 [0,1] (.rg (.sg 1 [0,1,8] (bndO H fun x hv H => (.cp [0,1,9] (z57_walk _ x hv) (.sg 5 [0,1,6] (.dn (.sg 1 [0,1,6] (.rg (.sg 3 [0,1,6,14] (.mm 14 (on == (ByteArray.mk #[112, 97, 99, 107, 101, 116])) 10 [.pure, .pure, .pure, .pure, .pure, .pure, .pure, .pure, .pure, .pure] [0, 1, 24] 24 (fun z => .sc (.bool (z && ((x.2 || (name == (ByteArray.mk #[117, 110, 105, 116]))) || (name == (ByteArray.mk #[112, 111, 114, 116])))))) ?J3 (fun hb J => ?ht3) (fun hb J => ?hf3)))))))))))
 case ht3 =>
  exact .sg 2 [0,1,14,16] (.mx 1 [0,1,14,19] (.sg 1 [0,1,14,20] (.mx 1 [0,1,14,23] (.sg 1 [0,1,24] (.cl J)))))
 case hf3 =>
  exact .sg 10 [0,1,24] (.cl J)
 refine .sg 1 [0,1,25] (.mm 25 ((on == (ByteArray.mk #[112, 97, 99, 107, 101, 116])) && ((x.2 || (name == (ByteArray.mk #[117, 110, 105, 116]))) || (name == (ByteArray.mk #[112, 111, 114, 116])))) 7 [.pure, .pure, .pure, .pure, .pure, .pure, .pure] [32] 32 (fun z => .sc (.bool (z || ((on == (ByteArray.mk #[114, 101, 109, 111, 118, 101, 100])) && (name == (ByteArray.mk #[117, 110, 105, 116])))))) ?J7 (fun hb J => ?ht7) (fun hb J => ?hf7))
 case ht7 =>
  exact .sg 7 [32] (.cl J)
 case hf7 =>
  exact .sg 3 [1,25,28] (.mx 0 [25,31] (.sg 1 [32] (.cl J)))
 refine .sg 1 [4] (.dn ?_)
 obtain rfl := Option.some.inj H
 exact .ret Try.func37 hc0
end Go.Proofs.Yteioljlgcagnnaa
namespace Go.Proofs.Yteioljlgcagnnaa
open Go.Sh
noncomputable def z22_F : Go.Sh.Fn := ⟨22, bodyOf Try.f22, 8⟩
theorem z22_own (s : List Var) (f_s : Bool) (r : List Var) (H : id s = r) : ACalls Try.prog tab.S 22 [.sl 60 (List.map Var.av s) f_s] [] (.own 0 1000000) [.row 60 (List.map Var.av r) 1000000 true] := by
 subst H
 have hG := tab_ok
 have hm := mixed
 have hE : Ent Try.prog 22 := ent_of Try.func22 (by kernel_rfl) (by kernel_rfl)
 cases s with
 | nil =>
  refine ACalls.empty hE fun p c => ?_
  refine ACalls.of_AR (G := tab) z22_F (fn := Try.f22) Try.func22 (by kernel_rfl) (by kernel_rfl) (by kernel_rfl) (Nat.le_of_ble_eq_true (by kernel_rfl)) ?_
  intro c0 hc0
  replace hc0 : c0.m.length = 0 := hc0
  refine AR.seg hG hm 4 [0] (k' := [.code [1, 0, 0], .code [1, 0, 1], .code [1, 1]]) (t' := [(0, .sc (.slice p 0 c))]) (h' := []) (by kernel_rfl) ?_
  refine AR.reg hm [.pure, .pure] (by kernel_rfl) ?_
  refine DK.seg hG 1 [0, 3] (t' := [(0, .sc (.slice p 0 c)), (3, .sc (.slice p 0 c))]) (h' := []) (by kernel_rfl) rfl ?_
  refine DK.op' [0, 4] (t' := [(0, .sc (.slice p 0 c)), (4, .sc (.bool p.isNone))]) (h' := []) (LSpec.nilEq hG (p := p) (l := 0) (c := c) (by kernel_rfl)) (by kernel_rfl) rfl (by kernel_rfl) rfl ?_
  refine DK.done (by kernel_rfl) (by kernel_rfl) ?_
  refine AR.cond (.tmp 4) p.isNone (by kernel_rfl) (by kernel_rfl) (fun hb => ?ht) (fun hb => ?hf)
  case ht =>
   refine AR.seg hG hm 2 [2] (k' := [.code [1, 0, 1, 0, 1], .code [1, 1]]) (t' := [(2, .sl 0 [] true)]) (h' := []) (by kernel_rfl) ?_
   exact ((AX.ad 2 60 true (.ret Try.func22 hc0 [0]) : AX _ _ _ _ _ (some ⟨[.code [1, 0, 1, 0, 1], .code [1, 1]], [(2, .sl 0 [] true)], []⟩))).ar
  case hf =>
   refine AR.seg hG hm 2 [0] (k' := [.code [1, 1, 0], .code [1, 1, 1]]) (t' := [(0, .sc (.slice p 0 c))]) (h' := []) (by kernel_rfl) ?_
   refine AR.reg hm [.pure, .pure, .pure, .pure] (by kernel_rfl) ?_
   refine DK.seg hG 2 [5, 6] (t' := [(5, .sl 60 [] true), (6, .sc (.slice p 0 c))]) (h' := []) (by kernel_rfl) rfl ?_
   refine DK.op' [7] (t' := [(7, .sl 60 [] true)]) (h' := []) (LSpec.app0 hG (e0 := 60) (rows := []) (f := true) (by kernel_rfl)) (by kernel_rfl) rfl (by kernel_rfl) rfl ?_
   refine DK.seg hG 1 [2] (t' := [(2, .sl 60 [] true)]) (h' := []) (by kernel_rfl) rfl ?_
   refine DK.done (by kernel_rfl) (by kernel_rfl) ?_
   exact ((AX.ad 2 60 true (.ret Try.func22 hc0 [0]) : AX _ _ _ _ _ (some ⟨[.code [1, 1, 1]], [(2, .sl 60 [] true)], []⟩))).ar
 | cons x xs =>
  refine ACalls.facts hE fun hf => ?_
  have hfit : (([] : List Var).length + (x :: xs).length) * 24 ≤ reach := by
   have h1 : (List.map Var.av (x :: xs)).length * 24 ≤ reach := hf.1.1
   simpa using h1
  refine ACalls.of_AR (G := tab) z22_F (fn := Try.f22) Try.func22 (by kernel_rfl) (by kernel_rfl) (by kernel_rfl) (Nat.le_of_ble_eq_true (by kernel_rfl)) ?_
  intro c0 hc0
  replace hc0 : c0.m.length = 0 := hc0
  refine AR.seg hG hm 4 [0] (k' := [.code [1, 0, 0], .code [1, 0, 1], .code [1, 1]]) (t' := [(0, .sl 60 (List.map Var.av (x :: xs)) f_s)]) (h' := []) (by kernel_rfl) ?_
  refine AR.reg hm [.pure, .pure] (by kernel_rfl) ?_
  refine DK.seg hG 1 [0, 3] (t' := [(0, .sl 60 (List.map Var.av (x :: xs)) f_s), (3, .sl 60 (List.map Var.av (x :: xs)) f_s)]) (h' := []) (by kernel_rfl) rfl ?_
  refine DK.op' [0, 4] (t' := [(0, .sl 60 (List.map Var.av (x :: xs)) f_s), (4, .sc (.bool false))]) (h' := []) (LSpec.neNil hG (by kernel_rfl)) (by kernel_rfl) rfl (by kernel_rfl) rfl ?_
  refine DK.done (by kernel_rfl) (by kernel_rfl) ?_
  refine AR.seg hG hm 3 [0] (k' := [.code [1, 1, 0], .code [1, 1, 1]]) (t' := [(0, .sl 60 (List.map Var.av (x :: xs)) f_s)]) (h' := []) (by kernel_rfl) ?_
  refine AR.reg hm [.pure, .pure, .loud, .pure] (by kernel_rfl) ?_
  refine DK.seg hG 2 [5, 6] (t' := [(5, .sl 60 [] true), (6, .sl 60 (List.map Var.av (x :: xs)) f_s)]) (h' := []) (by kernel_rfl) rfl ?_
  refine DK.op' [7] (t' := [(7, .own 0 1000000)]) (h' := [.row 60 (List.map Var.av ([] ++ (x :: xs))) 1000000 true]) (LSpec.appendB hG Var.av [] (x :: xs) 60 24 rfl hfit (by kernel_rfl)) (by kernel_rfl) (by kernel_rfl) (by kernel_rfl) rfl ?_
  refine DK.seg hG 1 [2] (t' := [(2, .own 0 1000000)]) (h' := [.row 60 (List.map Var.av ([] ++ (x :: xs))) 1000000 true]) (by kernel_rfl) rfl ?_
  refine DK.done (by kernel_rfl) (by kernel_rfl) ?_
  exact (AX.ret Try.func22 hc0 [0] : AX _ _ _ _ _ (some ⟨[.code [1, 1, 1]], [(2, .own 0 1000000)], [.row 60 (List.map Var.av ([] ++ (x :: xs))) 1000000 true]⟩)).ar
structure Machine where
 vars : List Var
 ev : Event
 owner : Int
 fuel : Int
 out : List Change
 e : Int
 deriving DecidableEq, Inhabited
end Go.Proofs.Yteioljlgcagnnaa
namespace Go.Proofs.Yteioljlgcagnnaa
open Go.Sh
noncomputable def z89_F : Go.Sh.Fn := ⟨89, bodyOf Try.f89, 19⟩
def z89_l0s (f : Var → Bool) : List Var → Nat → Sum (Unit) (Int)
 | [], t8 =>
  (.inl ())
 | x :: rest, t8 =>
  (bif (f x) then
   (.inr ((t8 : Nat) : Int))
  else
   z89_l0s f rest (t8 + 1) )
theorem z89_l0_walk (s : List Var) (F_f : FuncId) (C_f : List AV) (f : Var → Bool) (P_f : plainL C_f = true) (O_f : C_f.all oneA = true) (H_f : ∀ (y0 : Var), ACalls Try.prog tab.S F_f ([Var.av y0] ++ C_f) [] (.sc (.bool (f y0))) []) (f_s : Bool) (r : Int) (c0 : Ctx) (hc0 : c0.m.length = 0) (res : Sum (Unit) (Int)) (J : ∀ w : Unit, res = .inl w → AX Try.prog tab z89_F c0 (Rp tab.S c0 (.sc (.int .i64 r)) []) (some ⟨[.code [1, 1]], [], []⟩)) (Jr : ∀ w, res = .inr w → w = r) :
  ∀ (rest : List Var) (t8 : Nat) (z : Int) (hI : z = ((t8 : Nat) : Int)) (hd : s.drop t8 = rest) (H : z89_l0s f rest t8 = res), AX Try.prog tab z89_F c0 (Rp tab.S c0 (.sc (.int .i64 r)) []) (some ⟨[.code [1, 0, 1, 0, 0], .loop [1, 0, 1, 0], .blk 0, .code [1, 1]], [(0, .sl 60 (List.map Var.av s) f_s), (1, .fn F_f C_f), (7, .sc (.int .i64 (((List.map Var.av s).length : Nat) : Int))), (8, .sc (.int .i64 z))], []⟩) := by
 intro rest
 induction rest with
 | nil =>
  intro t8 z hI hd  H
  subst hI
  rw [z89_l0s] at H
  refine .facts 0 fun hf => ?_
  have hlen : s.length ≤ 9223372036854775807 := by have hq := len_ok hf.2.1; rw [List.length_map] at hq; exact hq
  have hge : s.length ≤ t8 := List.drop_eq_nil_iff.1 hd
  have hc : (decide (((t8 : Nat) : Int) < (((List.map Var.av s).length : Nat) : Int))) = false := by rw [List.length_map]; exact decide_eq_false (by omega)
  exact .sg 3 [0,1,7,8,9] (.cdF hc (.sg 1 [] (.kp [] (.to (J () H.symm)))))
 | cons x rest ih =>
  intro t8 z hI hd  H
  subst hI
  rw [z89_l0s] at H
  refine .facts 0 fun hf => ?_
  have hlen : s.length ≤ 9223372036854775807 := by have hq := len_ok hf.2.1; rw [List.length_map] at hq; exact hq
  obtain ⟨hlt, hv_t8, hd2⟩ := drop_cons hd
  have hc : (decide (((t8 : Nat) : Int) < (((List.map Var.av s).length : Nat) : Int))) = true := by rw [List.length_map]; exact decide_eq_true (by omega)
  have hw : IntKind.i64.wrap (((t8 : Nat) : Int) + 1) = ((t8 + 1 : Nat) : Int) := wrapI_succ (by omega)
  refine .sg 3 [0,1,7,8,9] (.cdT hc (.sg 6 [0,1,5,7,8] (.rg (.sg 3 [0,1,5,7,8,11,12,13] (.xi [0,1,5,7,8,11,14] Var.av hv_t8 (.sg 1 [0,1,5,7,8,11,15] (.cf [0,1,5,7,8,16] (H_f x) P_f O_f (.dn (.cd (f x) H (fun hb H => ?_) (fun hb H => ?_))))))))))
  ·
   refine .sg 2 [4] ?_
   subst H
   obtain rfl := Jr _ rfl
   exact .ret Try.func89 hc0
  ·
   exact .sg 3 [0,1,7,8] (.kp [0,1,7,8] (.into (.cl (ih (t8 + 1) _ hw hd2 H))))
def z89 (s : List Var) (f : Var → Bool) : Int :=
 sumG (fun q => q) (z89_l0s f s 0) fun v =>
 (-1)
theorem z89_calls (s : List Var) (F_f : FuncId) (C_f : List AV) (f : Var → Bool) (P_f : plainL C_f = true) (O_f : C_f.all oneA = true) (H_f : ∀ (y0 : Var), ACalls Try.prog tab.S F_f ([Var.av y0] ++ C_f) [] (.sc (.bool (f y0))) []) (f_s : Bool) : ACalls Try.prog tab.S 89 [.sl 60 (List.map Var.av s) f_s, .fn F_f C_f] [] (.sc (.int .i64 (z89 s f))) [] := by
 generalize H : z89 s f = r
 refine .of_AX z89_F Try.func89 fun c0 hc0 => ?_
 rw [z89] at H
 refine .sg 6 [0,1,7,8] ?_
 rcases sumG_eq H with ⟨v, hv, H⟩ | ⟨r1, hv, hr1⟩
 case inr =>
  refine .into ?_
  replace hr1 : r1 = r := hr1
  subst hr1
  exact .to (z89_l0_walk s F_f C_f f P_f O_f H_f f_s _ c0 hc0 (.inr _) (fun _ e => by cases e) (fun _ e => (Sum.inr.inj e).symm) s 0 _ rfl rfl hv)
 refine .into (.to (z89_l0_walk s F_f C_f f P_f O_f H_f f_s r c0 hc0 (.inl v) (fun w e => ?_) (fun _ e => by cases e) s 0 _ rfl rfl hv))
 have e := Sum.inl.inj e
 subst e
 refine .sg 2 [4] ?_
 subst H
 exact .ret Try.func89 hc0
theorem z89_l0s_eq (f : Var → Bool) : ∀ (l : List Var) (i : Nat), z89_l0s f l i = match l.findIdx? f with | some k => .inr ((i + k : Nat) : Int) | none => .inl ()
 | [], i => rfl
 | x :: l, i => by
   rw [z89_l0s, List.findIdx?_cons, z89_l0s_eq f l (i + 1)]
   cases f x
   ·simp only [cond_false, Bool.false_eq_true, if_false]
    cases l.findIdx? f with
    | none => rfl
    | some k => simp only [Option.map_some]; rw [show i + 1 + k = i + (k + 1) by omega]
   ·rfl
theorem z89_idx (s : List Var) (f : Var → Bool) : z89 s f = idxF f s := by
 rw [z89, z89_l0s_eq]
 unfold idxF sumG
 cases s.findIdx? f with
 | none => rfl
 | some k => simp only [Nat.zero_add]
noncomputable def z63_F : Go.Sh.Fn := ⟨63, bodyOf Try.f63, 13⟩
def z63 (m1 : Machine) (e1 : Int) : Machine :=
 (bif (m1.e == 0) then
  ({ m1 with e := e1 } : Machine)
 else
  m1)
theorem z63_walk (m1 : Machine) (e1 : Int) (r : Machine) (H : z63 m1 e1 = r) : ACalls Try.prog tab.S 63 [.ptr 0 0 none, .sc (.int .i64 e1)] [.box 71 [.own 1 1000000, .sc (.string m1.ev.On), .sc (.int .i64 m1.ev.Unit), .sc (.int .i64 m1.ev.Port), .arr .u64 12 m1.ev.Head, .sc (.int .i64 m1.owner), .sc (.int .i64 m1.fuel), .own 2 1000000, .sc (.int .i64 m1.e)], .row 60 (List.map Var.av m1.vars) 1000000 true, .row 51 (List.map Change.av m1.out) 1000000 true] (.tup []) [.box 71 [.own 1 1000000, .sc (.string r.ev.On), .sc (.int .i64 r.ev.Unit), .sc (.int .i64 r.ev.Port), .arr .u64 12 r.ev.Head, .sc (.int .i64 r.owner), .sc (.int .i64 r.fuel), .own 2 1000000, .sc (.int .i64 r.e)], .row 60 (List.map Var.av r.vars) 1000000 true, .row 51 (List.map Change.av r.out) 1000000 true] := by
 refine .of_AX z63_F Try.func63 fun c0 hc0 => ?_
 rw [z63] at H
 refine .sg 2 [0,1,8] (.cd (m1.e == 0) H (fun hb H => ?_) (fun hb H => ?_))
 ·
  refine .sg 1 [] ?_
  subst H
  exact .ret Try.func63 hc0 [0,1,2]
 ·
  refine .sg 1 [] ?_
  subst H
  exact .ret Try.func63 hc0 [0,1,2]
noncomputable def z39_F : Go.Sh.Fn := ⟨39, bodyOf Try.f39, 30⟩
def z39 (m1 : Machine) : Bool × Machine :=
 (bif ((m1.e == 0) && (decide (m1.fuel ≤ 0))) then
  ((11 == 0), ({ m1 with fuel := (IntKind.i64.wrap (m1.fuel - 1)), e := 11 } : Machine))
 else
  ((m1.e == 0), ({ m1 with fuel := (IntKind.i64.wrap (m1.fuel - 1)) } : Machine)))
theorem z39_walk (m1 : Machine) (r : Bool × Machine) (H : z39 m1 = r) : ACalls Try.prog tab.S 39 [.ptr 0 0 none] [.box 71 [.own 1 1000000, .sc (.string m1.ev.On), .sc (.int .i64 m1.ev.Unit), .sc (.int .i64 m1.ev.Port), .arr .u64 12 m1.ev.Head, .sc (.int .i64 m1.owner), .sc (.int .i64 m1.fuel), .own 2 1000000, .sc (.int .i64 m1.e)], .row 60 (List.map Var.av m1.vars) 1000000 true, .row 51 (List.map Change.av m1.out) 1000000 true] (.sc (.bool r.1)) [.box 71 [.own 1 1000000, .sc (.string r.2.ev.On), .sc (.int .i64 r.2.ev.Unit), .sc (.int .i64 r.2.ev.Port), .arr .u64 12 r.2.ev.Head, .sc (.int .i64 r.2.owner), .sc (.int .i64 r.2.fuel), .own 2 1000000, .sc (.int .i64 r.2.e)], .row 60 (List.map Var.av r.2.vars) 1000000 true, .row 51 (List.map Change.av r.2.out) 1000000 true] := by
 refine .of_AX z39_F Try.func39 fun c0 hc0 => ?_
 rw [z39] at H
 refine .sg 4 [0] (.rg (.sg 6 [0,8] (.mx 0 [0,14] (.dn (.cd ((m1.e == 0) && (decide (m1.fuel ≤ 0))) H (fun hb H => ?_) (fun hb H => ?_))))))
 ·
  refine .sg 5 [2] ?_
  subst H
  exact .ret Try.func39 hc0 [0,1,2]
 ·
  refine .sg 5 [2] ?_
  subst H
  exact .ret Try.func39 hc0 [0,1,2]
noncomputable def z90_F : Go.Sh.Fn := ⟨90, bodyOf Try.f90, 8⟩
def z90 (v : Var) (c : ByteArray) : Bool :=
 (v.Name == c)
theorem z90_calls (v : Var) (c : ByteArray) : ACalls Try.prog tab.S 90 [Var.av v, .ep [.sc (.string c)] 0 none] [] (.sc (.bool (z90 v c))) [] := by
 generalize H : z90 v c = r
 refine .of_AX z90_F Try.func90 fun c0 hc0 => ?_
 rw [z90] at H
 refine .sg 4 [3] ?_
 subst H
 exact .ret Try.func90 hc0
noncomputable def z78_F : Go.Sh.Fn := ⟨78, bodyOf Try.f78, 11⟩
def z78 (m1 : Machine) (name : ByteArray) : Int × Machine :=
 ((z89 m1.vars (fun y0 => z90 y0 name)), m1)
theorem z78_walk (m1 : Machine) (name : ByteArray) (r : Int × Machine) (H : z78 m1 name = r) : ACalls Try.prog tab.S 78 [.ptr 0 0 none, .sc (.string name)] [.box 71 [.own 1 1000000, .sc (.string m1.ev.On), .sc (.int .i64 m1.ev.Unit), .sc (.int .i64 m1.ev.Port), .arr .u64 12 m1.ev.Head, .sc (.int .i64 m1.owner), .sc (.int .i64 m1.fuel), .own 2 1000000, .sc (.int .i64 m1.e)], .row 60 (List.map Var.av m1.vars) 1000000 true, .row 51 (List.map Change.av m1.out) 1000000 true] (.sc (.int .i64 r.1)) [.box 71 [.own 1 1000000, .sc (.string r.2.ev.On), .sc (.int .i64 r.2.ev.Unit), .sc (.int .i64 r.2.ev.Port), .arr .u64 12 r.2.ev.Head, .sc (.int .i64 r.2.owner), .sc (.int .i64 r.2.fuel), .own 2 1000000, .sc (.int .i64 r.2.e)], .row 60 (List.map Var.av r.2.vars) 1000000 true, .row 51 (List.map Change.av r.2.out) 1000000 true] := by
 refine .of_AX z78_F Try.func78 fun c0 hc0 => ?_
 rw [z78] at H
 refine .sg 3 [0,3] (.rg (.sg 5 [8,9] (.cl_ [10] (caps := []) (z89_calls m1.vars 90 [.ep [.sc (.string name)] 0 none] (fun y0 => z90 y0 name) rfl rfl (fun y0 => z90_calls y0 name) false) (.same rfl (.fn (caps := [.ptr 3 0 none]) (by kernel_rfl) .nil)) (by kernel_rfl) rfl rfl (.sg 1 [4] (.dn ?_)))))
 subst H
 exact .ret Try.func78 hc0 [0,1,2]
noncomputable def z79_F : Go.Sh.Fn := ⟨79, bodyOf Try.f79, 49⟩
def z79_raw (m1 : Machine) (s : ByteArray) : Option (Int × Machine) :=
 letT (z78 m1 s) fun v =>
 (bif (decide (v.1 ≥ 0)) then
  (ixO v.2.vars v.1).bind fun x =>
  some (x.N, v.2)
 else
  (bif (s == (ByteArray.mk #[117, 110, 105, 116])) then
   some (v.2.ev.Unit, v.2)
  else
   (bif (s == (ByteArray.mk #[112, 111, 114, 116])) then
    some (v.2.ev.Port, v.2)
   else
    reqO (decide (0 ≤ (z91 s).1) && decide ((z91 s).1 < ((12 : Nat) : Int))) (
    some ((IntKind.i64.wrap (v.2.ev.Head.getD (((z91 s).1).toNat) 0)), v.2)))))
theorem z79_walk (m1 : Machine) (s : ByteArray) (r : Int × Machine) (H : z79_raw m1 s = some r) : ACalls Try.prog tab.S 79 [.ptr 0 0 none, .sc (.string s)] [.box 71 [.own 1 1000000, .sc (.string m1.ev.On), .sc (.int .i64 m1.ev.Unit), .sc (.int .i64 m1.ev.Port), .arr .u64 12 m1.ev.Head, .sc (.int .i64 m1.owner), .sc (.int .i64 m1.fuel), .own 2 1000000, .sc (.int .i64 m1.e)], .row 60 (List.map Var.av m1.vars) 1000000 true, .row 51 (List.map Change.av m1.out) 1000000 true] (.sc (.int .i64 r.1)) [.box 71 [.own 1 1000000, .sc (.string r.2.ev.On), .sc (.int .i64 r.2.ev.Unit), .sc (.int .i64 r.2.ev.Port), .arr .u64 12 r.2.ev.Head, .sc (.int .i64 r.2.owner), .sc (.int .i64 r.2.fuel), .own 2 1000000, .sc (.int .i64 r.2.e)], .row 60 (List.map Var.av r.2.vars) 1000000 true, .row 51 (List.map Change.av r.2.out) 1000000 true] := by
 refine .of_AX z79_F Try.func79 fun c0 hc0 => ?_
 rw [z79_raw] at H
 refine .sg 4 [0,1] (.rg (.sg 2 [0,1,8,9] (letH H fun v hv H => (.ch [0,1,10] [0,1,2] (z78_walk _ _ v hv) (.sg 1 [0,1,5] (.dn (.sg 2 [0,1,5,12] (.cd (decide (v.1 ≥ 0)) H (fun hb H => ?_) (fun hb H => ?_)))))))))
 ·
  refine .sg 1 [0,5] (.rg (.sg 5 [16,17] (bndO H fun x hv_x H => (.xo [18] (ixO_req hv_x Var.av) (.sg 1 [19] (.lo [20] (ixO_map hv_x Var.av).2 (.sg 1 [4] (.dn ?_))))))))
  obtain rfl := Option.some.inj H
  exact .ret Try.func79 hc0 [0,1,2]
 ·
  refine .sg 7 [0,1,21,22] (.cd (s == (ByteArray.mk #[117, 110, 105, 116])) H (fun hb H => ?_) (fun hb H => ?_))
  ·
   refine .sg 2 [4] ?_
   obtain rfl := Option.some.inj H
   exact .ret Try.func79 hc0 [0,1,2]
  ·
   refine .sg 2 [0,1,29] (.cd (s == (ByteArray.mk #[112, 111, 114, 116])) H (fun hb H => ?_) (fun hb H => ?_))
   ·
    refine .sg 2 [4] ?_
    obtain rfl := Option.some.inj H
    exact .ret Try.func79 hc0 [0,1,2]
   ·
    refine .sg 3 [0,1] (.rg (.sg 1 [0,37] (.cp [0,38] (z91_calls s) (.sg 5 [0,6] (.dn (.sg 1 [0,6] (.rg (.sg 5 [42,45] (reqH H fun hreq H => (.xa [46] hreq (.sg 3 [4] (.dn ?_))))))))))))
    obtain rfl := Option.some.inj H
    exact .ret Try.func79 hc0 [0,1,2]
noncomputable def z81_F : Go.Sh.Fn := ⟨81, bodyOf Try.f81, 4⟩
def z81 (b : Bool) : Int :=
 (bif b then
  1
 else
  0)
theorem z81_calls (b : Bool) : ACalls Try.prog tab.S 81 [.sc (.bool b)] [] (.sc (.int .i64 (z81 b))) [] := by
 generalize H : z81 b = r
 refine .of_AX z81_F Try.func81 fun c0 hc0 => ?_
 rw [z81] at H
 refine .sg 5 [3] (.cd b H (fun hb H => ?_) (fun hb H => ?_))
 ·
  refine .sg 2 [2] ?_
  subst H
  exact .ret Try.func81 hc0
 ·
  refine .sg 3 [2] ?_
  subst H
  exact .ret Try.func81 hc0
noncomputable def z102_F : Go.Sh.Fn := ⟨102, bodyOf Try.f102, 45⟩
def z102 (s : ByteArray) (a : Int) (b : Int) : Int × Bool :=
 (bif (s == (ByteArray.mk #[61, 61])) then
  ((z81 (a == b)), true)
 else
  (bif (s == (ByteArray.mk #[33, 61])) then
   ((z81 (a != b)), true)
  else
   (bif (s == (ByteArray.mk #[60])) then
    ((z81 (decide (a < b))), true)
   else
    (bif (s == (ByteArray.mk #[60, 61])) then
     ((z81 (decide (a ≤ b))), true)
    else
     (bif (s == (ByteArray.mk #[62])) then
      ((z81 (decide (a > b))), true)
     else
      (bif (s == (ByteArray.mk #[62, 61])) then
       ((z81 (decide (a ≥ b))), true)
      else
       (0, false)))))))
theorem z102_calls (s : ByteArray) (a : Int) (b : Int) : ACalls Try.prog tab.S 102 [.sc (.string s), .sc (.int .i64 a), .sc (.int .i64 b)] [] (.tup [.sc (.int .i64 ((z102 s a b).1)), .sc (.bool ((z102 s a b).2))]) [] := by
 generalize H : z102 s a b = r
 refine .of_AX z102_F Try.func102 fun c0 hc0 => ?_
 rw [z102] at H
 refine .sg 8 [1,2,8,9] (.cd (s == (ByteArray.mk #[61, 61])) H (fun hb H => ?_) (fun hb H => ?_))
 ·
  refine .sg 1 [1,2] (.rg (.sg 3 [13] (.cp [14] (z81_calls (a == b)) (.sg 2 [6,7] (.dn ?_)))))
  subst H
  exact .ret Try.func102 hc0
 ·
  refine .sg 2 [1,2,8,15] (.cd (s == (ByteArray.mk #[33, 61])) H (fun hb H => ?_) (fun hb H => ?_))
  ·
   refine .sg 1 [1,2] (.rg (.sg 3 [19] (.cp [20] (z81_calls (a != b)) (.sg 2 [6,7] (.dn ?_)))))
   subst H
   exact .ret Try.func102 hc0
  ·
   refine .sg 2 [1,2,8,21] (.cd (s == (ByteArray.mk #[60])) H (fun hb H => ?_) (fun hb H => ?_))
   ·
    refine .sg 1 [1,2] (.rg (.sg 3 [25] (.cp [26] (z81_calls (decide (a < b))) (.sg 2 [6,7] (.dn ?_)))))
    subst H
    exact .ret Try.func102 hc0
   ·
    refine .sg 2 [1,2,8,27] (.cd (s == (ByteArray.mk #[60, 61])) H (fun hb H => ?_) (fun hb H => ?_))
    ·
     refine .sg 1 [1,2] (.rg (.sg 3 [31] (.cp [32] (z81_calls (decide (a ≤ b))) (.sg 2 [6,7] (.dn ?_)))))
     subst H
     exact .ret Try.func102 hc0
    ·
     refine .sg 2 [1,2,8,33] (.cd (s == (ByteArray.mk #[62])) H (fun hb H => ?_) (fun hb H => ?_))
     ·
      refine .sg 1 [1,2] (.rg (.sg 3 [37] (.cp [38] (z81_calls (decide (a > b))) (.sg 2 [6,7] (.dn ?_)))))
      subst H
      exact .ret Try.func102 hc0
     ·
      refine .sg 2 [1,2,39] (.cd (s == (ByteArray.mk #[62, 61])) H (fun hb H => ?_) (fun hb H => ?_))
      ·
       refine .sg 1 [1,2] (.rg (.sg 3 [43] (.cp [44] (z81_calls (decide (a ≥ b))) (.sg 2 [6,7] (.dn ?_)))))
       subst H
       exact .ret Try.func102 hc0
      ·
       refine .sg 4 [6,7] ?_
       subst H
       exact .ret Try.func102 hc0
noncomputable def z92_F : Go.Sh.Fn := ⟨92, bodyOf Try.f92, 48⟩
def z92_raw (m1 : Machine) (s : ByteArray) (a : Int) (b : Int) : Option (Int × Machine) :=
 (bif (z102 s a b).2 then
  some ((z102 s a b).1, m1)
 else
  (bif (s == (ByteArray.mk #[43])) then
   some ((IntKind.i64.wrap (a + b)), m1)
  else
   (bif (s == (ByteArray.mk #[45])) then
    some ((IntKind.i64.wrap (a - b)), m1)
   else
    (bif (s == (ByteArray.mk #[42])) then
     some ((IntKind.i64.wrap (a * b)), m1)
    else
     (bif (b == 0) then
      letT (z63 m1 12) fun v =>
      some (0, v)
     else
      (bif (s == (ByteArray.mk #[47])) then
       reqO (b != 0) (
       some ((IntKind.i64.wrap (Int.tdiv a b)), m1))
      else
       reqO (b != 0) (
       some ((Int.tmod a b), m1))))))))
theorem z92_walk (m1 : Machine) (s : ByteArray) (a : Int) (b : Int) (r : Int × Machine) (H : z92_raw m1 s a b = some r) : ACalls Try.prog tab.S 92 [.ptr 0 0 none, .sc (.string s), .sc (.int .i64 a), .sc (.int .i64 b)] [.box 71 [.own 1 1000000, .sc (.string m1.ev.On), .sc (.int .i64 m1.ev.Unit), .sc (.int .i64 m1.ev.Port), .arr .u64 12 m1.ev.Head, .sc (.int .i64 m1.owner), .sc (.int .i64 m1.fuel), .own 2 1000000, .sc (.int .i64 m1.e)], .row 60 (List.map Var.av m1.vars) 1000000 true, .row 51 (List.map Change.av m1.out) 1000000 true] (.sc (.int .i64 r.1)) [.box 71 [.own 1 1000000, .sc (.string r.2.ev.On), .sc (.int .i64 r.2.ev.Unit), .sc (.int .i64 r.2.ev.Port), .arr .u64 12 r.2.ev.Head, .sc (.int .i64 r.2.owner), .sc (.int .i64 r.2.fuel), .own 2 1000000, .sc (.int .i64 r.2.e)], .row 60 (List.map Var.av r.2.vars) 1000000 true, .row 51 (List.map Change.av r.2.out) 1000000 true] := by
 refine .of_AX z92_F Try.func92 fun c0 hc0 => ?_
 rw [z92_raw] at H
 refine .sg 4 [0,1,2,3] (.rg (.sg 3 [0,1,2,3,12,13,14] (.cp [0,1,2,3,15] (z102_calls s a b) (.sg 5 [0,1,2,3,9,10] (.dn (.sg 2 [0,1,2,3,9,18] (.cd ((z102 s a b).2) H (fun hb H => ?_) (fun hb H => ?_))))))))
 ·
  refine .sg 2 [8] ?_
  obtain rfl := Option.some.inj H
  exact .ret Try.func92 hc0 [0,1,2]
 ·
  refine .sg 7 [0,1,2,3,20,21] (.cd (s == (ByteArray.mk #[43])) H (fun hb H => ?_) (fun hb H => ?_))
  ·
   refine .sg 2 [8] ?_
   obtain rfl := Option.some.inj H
   exact .ret Try.func92 hc0 [0,1,2]
  ·
   refine .sg 2 [0,1,2,3,20,26] (.cd (s == (ByteArray.mk #[45])) H (fun hb H => ?_) (fun hb H => ?_))
   ·
    refine .sg 2 [8] ?_
    obtain rfl := Option.some.inj H
    exact .ret Try.func92 hc0 [0,1,2]
   ·
    refine .sg 2 [0,1,2,3,31] (.cd (s == (ByteArray.mk #[42])) H (fun hb H => ?_) (fun hb H => ?_))
    ·
     refine .sg 2 [8] ?_
     obtain rfl := Option.some.inj H
     exact .ret Try.func92 hc0 [0,1,2]
    ·
     refine .sg 5 [0,1,2,3,37] (.cd (b == 0) H (fun hb H => ?_) (fun hb H => ?_))
     ·
      refine .sg 1 [0] (.rg (.sg 1 [38] (letH H fun v hv H => (.ch [] [0,1,2] (z63_walk _ _ v hv) (.dn (.sg 2 [8] ?_))))))
      obtain rfl := Option.some.inj H
      exact .ret Try.func92 hc0 [0,1,2]
     ·
      refine .sg 4 [2,3,41] (.cd (s == (ByteArray.mk #[47])) H (fun hb H => ?_) (fun hb H => ?_))
      ·
       refine .sg 1 [2,3] (.rg (.sg 2 [42,43] (reqH H fun hreq H => (.qu [44] (b := b) hreq (.sg 1 [8] (.dn ?_))))))
       obtain rfl := Option.some.inj H
       exact .ret Try.func92 hc0 [0,1,2]
      ·
       refine .sg 2 [2,3] (.rg (.sg 2 [45,46] (reqH H fun hreq H => (.re [47] (b := b) hreq (.sg 1 [8] (.dn ?_))))))
       obtain rfl := Option.some.inj H
       exact .ret Try.func92 hc0 [0,1,2]
end Go.Proofs.Yteioljlgcagnnaa
namespace Go.Proofs.Yteioljlgcagnnaa
open Go.Sh
noncomputable def z107_F : Go.Sh.Fn := ⟨107, bodyOf Try.f107, 15⟩
def z107_l0s (h1 : List Int) : Nat → Nat → Sum (Unit) (Bool)
 | 0, t6 =>
  (.inl ())
 | rest + 1, t6 =>
  (bif (!(fitsH ((t6 : Nat) : Int) (h1.getD t6 0))) then
   (.inr false)
  else
   z107_l0s h1 rest (t6 + 1) )
theorem z107_l0_walk (h1 : List Int) (r : Bool) (c0 : Ctx) (hc0 : c0.m.length = 0) (res : Sum (Unit) (Bool)) (J : ∀ w : Unit, res = .inl w → AX Try.prog tab z107_F c0 (Rp tab.S c0 (.sc (.bool r)) []) (some ⟨[.code [1, 1]], [], [.box 25 [.arr .u64 12 h1]]⟩)) (Jr : ∀ w, res = .inr w → w = r) :
  ∀ (rest : Nat) (t6 : Nat) (z : Int) (hI : z = ((t6 : Nat) : Int)) (hd : t6 + rest = 12) (H : z107_l0s h1 rest t6 = res), AX Try.prog tab z107_F c0 (Rp tab.S c0 (.sc (.bool r)) []) (some ⟨[.code [1, 0, 1, 0, 0], .loop [1, 0, 1, 0], .blk 0, .code [1, 1]], [(5, .arr .u64 12 h1), (6, .sc (.int .i64 z))], [.box 25 [.arr .u64 12 h1]]⟩) := by
 intro rest
 induction rest with
 | zero =>
  intro t6 z hI hd  H
  subst hI
  rw [z107_l0s] at H
  have hc : (decide (((t6 : Nat) : Int) < 12)) = false := decide_eq_false (by omega)
  exact .sg 3 [5,6,7] (.cdF hc (.sg 1 [] (.kp [] (.to (J () H.symm)))))
 | succ rest ih =>
  intro t6 z hI hd  H
  subst hI
  rw [z107_l0s] at H
  have hlt_t6 : t6 < 12 := by omega
  have hc : (decide (((t6 : Nat) : Int) < 12)) = true := decide_eq_true (by omega)
  have hw : IntKind.i64.wrap (((t6 : Nat) : Int) + 1) = ((t6 + 1 : Nat) : Int) := wrapI_succ (by omega)
  refine .sg 3 [5,6,7] (.cdT hc (.sg 4 [5,6] (.rg (.sg 1 [5,6,8] ?_))))
  have hreq := idx_in 12 hlt_t6 (by decide)
  refine .xv [5,6,8,9] hreq (.sg 2 [3,4,5,6] (.dn (.sg 1 [3,4,5,6] (.rg (.sg 2 [5,6,10,11] (.cp [5,6,12] (z106_ok ((t6 : Nat) : Int) (h1.getD t6 0)) (.sg 1 [5,6,13] (.dn (.cd (!(fitsH ((t6 : Nat) : Int) (h1.getD t6 0))) H (fun hb H => ?_) (fun hb H => ?_))))))))))
  ·
   refine .sg 2 [2] ?_
   subst H
   obtain rfl := Jr _ rfl
   exact .ret Try.func107 hc0
  ·
   exact .sg 3 [5,6] (.kp [5,6] (.into (.cl (ih (t6 + 1) _ hw (by omega) H))))
def z107 (h1 : List Int) : Bool :=
 sumG (fun q => q) (z107_l0s h1 12 0) fun v =>
 true
theorem z107_calls (h1 : List Int) : ACalls Try.prog tab.S 107 [.arr .u64 12 h1] [] (.sc (.bool (z107 h1))) [] := by
 generalize H : z107 h1 = r
 refine .of_AX z107_F Try.func107 fun c0 hc0 => ?_
 rw [z107] at H
 refine .sg 6 [5,6] ?_
 rcases sumG_eq H with ⟨v, hv, H⟩ | ⟨r1, hv, hr1⟩
 case inr =>
  refine .into ?_
  replace hr1 : r1 = r := hr1
  subst hr1
  exact .to (z107_l0_walk h1 _ c0 hc0 (.inr _) (fun _ e => by cases e) (fun _ e => (Sum.inr.inj e).symm) 12 0 _ rfl rfl hv)
 refine .into (.to (z107_l0_walk h1 r c0 hc0 (.inl v) (fun w e => ?_) (fun _ e => by cases e) 12 0 _ rfl rfl hv))
 have e := Sum.inl.inj e
 subst e
 refine .sg 2 [2] ?_
 subst H
 exact .ret Try.func107 hc0
noncomputable def z104_F : Go.Sh.Fn := ⟨104, bodyOf Try.f104, 23⟩
def z104_l0s (c : Cube) : Nat → Nat → Sum (Unit) (Bool)
 | 0, t11 =>
  (.inl ())
 | rest + 1, t11 =>
  (bif ((IntKind.u64.wrap ((BitVec.ofInt 64 (c.Value.getD t11 0) &&& ~~~ (BitVec.ofInt 64 (c.Care.getD (t11) 0))).toNat)) != 0) then
   (.inr false)
  else
   z104_l0s c rest (t11 + 1) )
theorem z104_l0_walk (c : Cube) (r : Bool) (c0 : Ctx) (hc0 : c0.m.length = 0) (res : Sum (Unit) (Bool)) (J : ∀ w : Unit, res = .inl w → AX Try.prog tab z104_F c0 (Rp tab.S c0 (.sc (.bool r)) []) (some ⟨[.code [1, 1, 1]], [], [.box 46 (Cube.ch c)]⟩)) (Jr : ∀ w, res = .inr w → w = r) :
  ∀ (rest : Nat) (t11 : Nat) (z : Int) (hI : z = ((t11 : Nat) : Int)) (hd : t11 + rest = 12) (H : z104_l0s c rest t11 = res), AX Try.prog tab z104_F c0 (Rp tab.S c0 (.sc (.bool r)) []) (some ⟨[.code [1, 1, 0, 1, 0, 0], .loop [1, 1, 0, 1, 0], .blk 0, .code [1, 1, 1]], [(1, .ptr 0 0 none), (10, .arr .u64 12 c.Value), (11, .sc (.int .i64 z))], [.box 46 (Cube.ch c)]⟩) := by
 intro rest
 induction rest with
 | zero =>
  intro t11 z hI hd  H
  subst hI
  rw [z104_l0s] at H
  have hc : (decide (((t11 : Nat) : Int) < 12)) = false := decide_eq_false (by omega)
  exact .sg 3 [1,10,11,12] (.cdF hc (.sg 1 [] (.kp [] (.to (J () H.symm)))))
 | succ rest ih =>
  intro t11 z hI hd  H
  subst hI
  rw [z104_l0s] at H
  have hlt_t11 : t11 < 12 := by omega
  have hc : (decide (((t11 : Nat) : Int) < 12)) = true := decide_eq_true (by omega)
  have hw : IntKind.i64.wrap (((t11 : Nat) : Int) + 1) = ((t11 + 1 : Nat) : Int) := wrapI_succ (by omega)
  refine .sg 3 [1,10,11,12] (.cdT hc (.sg 4 [1,10,11] (.rg (.sg 1 [1,10,11,13] ?_))))
  have hreq := idx_in 12 hlt_t11 (by decide)
  refine .xv [1,10,11,13,14] hreq (.sg 2 [1,3,4,10,11] (.dn (.sg 1 [1,3,4,10,11] (.rg (.sg 3 [1,10,11,15,16,17] ?_)))))
  have hreq := idx_in 12 hlt_t11 (by decide)
  refine .xa [1,10,11,15,18] hreq (.sg 3 [1,10,11,21] (.dn (.cd ((IntKind.u64.wrap ((BitVec.ofInt 64 (c.Value.getD t11 0) &&& ~~~ (BitVec.ofInt 64 (c.Care.getD (t11) 0))).toNat)) != 0) H (fun hb H => ?_) (fun hb H => ?_))))
  ·
   refine .sg 2 [2] ?_
   subst H
   obtain rfl := Jr _ rfl
   exact .ret Try.func104 hc0
  ·
   exact .sg 3 [1,10,11] (.kp [1,10,11] (.into (.cl (ih (t11 + 1) _ hw (by omega) H))))
def z104 (c : Cube) : Bool :=
 (bif (!(z107 c.Care)) then
  false
 else
  sumG (fun q => q) (z104_l0s c 12 0) fun v =>
  true)
theorem z104_calls (c : Cube) : ACalls Try.prog tab.S 104 [Cube.av c] [] (.sc (.bool (z104 c))) [] := by
 generalize H : z104 c = r
 refine .of_AX z104_F Try.func104 fun c0 hc0 => ?_
 rw [z104] at H
 refine .sg 4 [1] (.rg (.sg 2 [1,6] (.cp [1,7] (z107_calls c.Care) (.sg 1 [1,8] (.dn (.cd (!(z107 c.Care)) H (fun hb H => ?_) (fun hb H => ?_)))))))
 ·
  refine .sg 2 [2] ?_
  subst H
  exact .ret Try.func104 hc0
 ·
  refine .sg 5 [1,10,11] ?_
  rcases sumG_eq H with ⟨v, hv, H⟩ | ⟨r1, hv, hr1⟩
  case inr =>
   refine .into ?_
   replace hr1 : r1 = r := hr1
   subst hr1
   exact .to (z104_l0_walk c _ c0 hc0 (.inr _) (fun _ e => by cases e) (fun _ e => (Sum.inr.inj e).symm) 12 0 _ rfl rfl hv)
  refine .into (.to (z104_l0_walk c r c0 hc0 (.inl v) (fun w e => ?_) (fun _ e => by cases e) 12 0 _ rfl rfl hv))
  have e := Sum.inl.inj e
  subst e
  refine .sg 2 [2] ?_
  subst H
  exact .ret Try.func104 hc0
noncomputable def cube_All_F : Go.Sh.Fn := ⟨93, bodyOf Try.f93, 2⟩
def cube_All : Cube :=
 ({ Value := [0, 0, 0, 0, 0, 0, 0, 0, 0, 0, 0, 0], Care := [0, 0, 0, 0, 0, 0, 0, 0, 0, 0, 0, 0] } : Cube)
theorem cube_All_calls : ACalls Try.prog tab.S 93 [] [] (Cube.av (cube_All)) [] := by
 generalize H : cube_All = r
 refine .of_AX cube_All_F Try.func93 fun c0 hc0 => ?_
 rw [cube_All] at H
 refine .sg 4 [0] ?_
 subst H
 exact .ret Try.func93 hc0
noncomputable def z105_F : Go.Sh.Fn := ⟨105, bodyOf Try.f105, 27⟩
def z105_raw (n : Int) (bits : Int) : Option (Int × Bool) :=
 (bif (((!(z103 n)) || (decide (bits < 0))) || (decide (bits > (sizeT n)))) then
  some (0, false)
 else
  reqO (decide (0 ≤ bits)) (
  reqO (decide (0 ≤ (IntKind.i64.wrap ((sizeT n) - bits)))) (
  some ((IntKind.u64.wrap ((IntKind.u64.wrap ((IntKind.u64.wrap (1 * 2 ^ (min (bits : Int).toNat (IntKind.u64).bits))) - 1)) * 2 ^ (min ((IntKind.i64.wrap ((sizeT n) - bits)) : Int).toNat (IntKind.u64).bits))), true))))
theorem z105_walk (n : Int) (bits : Int) (r : Int × Bool) (H : z105_raw n bits = some r) : ACalls Try.prog tab.S 105 [.sc (.int .i64 n), .sc (.int .i64 bits)] [] (.tup [.sc (.int .u64 r.1), .sc (.bool r.2)]) [] := by
 refine .of_AX z105_F Try.func105 fun c0 hc0 => ?_
 rw [z105_raw] at H
 refine .sg 4 [0,1] (.rg (.sg 1 [0,1,6] (.cp [0,1,7] (z103_calls n) (.sg 2 [0,1,9] (.mx 1 [0,1,12] (.sg 1 [0,1,13] (.mm 13 ((!(z103 n)) || (decide (bits < 0))) 5 [.pure, .pure, .pure, .pure, .pure] [0, 1, 18] 18 (fun z => .sc (.bool (z || (decide (bits > (sizeT n)))))) ?J2 (fun hb J => ?ht2) (fun hb J => ?hf2))))))))
 case ht2 =>
  exact .sg 5 [0,1,18] (.cl J)
 case hf2 =>
  exact .sg 2 [0,1,13,14,15] (.cp [0,1,13,14,16] (z94_ok n) (.sg 2 [0,1,18] (.cl J)))
 refine .dn (.cd (((!(z103 n)) || (decide (bits < 0))) || (decide (bits > (sizeT n)))) H (fun hb H => ?_) (fun hb H => ?_))
 ·
  refine .sg 2 [4,5] ?_
  obtain rfl := Option.some.inj H
  exact .ret Try.func105 hc0
 ·
  refine .sg 2 [0,1] (.rg (.sg 1 [0,1,19] (reqH H fun hreq H => (.sl_ [0,1,20] (b := bits) hreq (.sg 2 [1,21,22] (.cp [1,21,23] (z94_ok n) (.sg 2 [21,25] (reqH H fun hreq H => (.sl_ [26] (b := (IntKind.i64.wrap ((sizeT n) - bits))) hreq (.sg 2 [4,5] (.dn ?_)))))))))))
  obtain rfl := Option.some.inj H
  exact .ret Try.func105 hc0
noncomputable def z95_F : Go.Sh.Fn := ⟨95, bodyOf Try.f95, 50⟩
def z95_raw (c : Cube) (n : Int) (v : Int) (bits : Int) : Option (Cube × Int) :=
 (bif (!(z104 c)) then
  some (({ Value := [0, 0, 0, 0, 0, 0, 0, 0, 0, 0, 0, 0], Care := [0, 0, 0, 0, 0, 0, 0, 0, 0, 0, 0, 0] } : Cube), 2)
 else
  (bif ((setT_ c.Value n v).2 != 0) then
   some (({ Value := [0, 0, 0, 0, 0, 0, 0, 0, 0, 0, 0, 0], Care := [0, 0, 0, 0, 0, 0, 0, 0, 0, 0, 0, 0] } : Cube), (setT_ c.Value n v).2)
  else
   (z105_raw n bits).bind fun x =>
   (bif (!x.2) then
    some (({ Value := [0, 0, 0, 0, 0, 0, 0, 0, 0, 0, 0, 0], Care := [0, 0, 0, 0, 0, 0, 0, 0, 0, 0, 0, 0] } : Cube), 13)
   else
    reqO (decide (0 ≤ n) && decide (n < ((12 : Nat) : Int))) (
    reqO (decide (0 ≤ n) && decide (n < ((12 : Nat) : Int))) (
    some (({ Value := (c.Value.set (n.toNat) (IntKind.u64.wrap ((BitVec.ofInt 64 v &&& BitVec.ofInt 64 x.1).toNat))), Care := (c.Care.set (n.toNat) x.1) } : Cube), 0))))))
theorem z95_walk (c : Cube) (n : Int) (v : Int) (bits : Int) (r : Cube × Int) (H : z95_raw c n v bits = some r) : ACalls Try.prog tab.S 95 [Cube.av c, .sc (.int .i64 n), .sc (.int .u64 v), .sc (.int .i64 bits)] [] (.tup [Cube.av r.1, .sc (.int .i64 r.2)]) [] := by
 refine .of_AX z95_F Try.func95 fun c0 hc0 => ?_
 rw [z95_raw] at H
 refine .sg 4 [1,2,3,4,8] (.rg (.sg 1 [1,2,3,4,8,14] (.cp [1,2,3,4,8,15] (z104_calls c) (.sg 1 [1,2,3,4,8,16] (.dn (.cd (!(z104 c)) H (fun hb H => ?_) (fun hb H => ?_)))))))
 ·
  refine .sg 2 [8,9] ?_
  obtain rfl := Option.some.inj H
  exact .ret Try.func95 hc0
 ·
  refine .sg 3 [1,2,3,4,8] (.rg (.sg 4 [1,2,3,4,8,20,21,22] (.cp [1,2,3,4,8,23] (head_Set_ok c.Value n v) (.sg 6 [1,2,3,4,8,11] (.dn (.sg 2 [1,2,3,4,8,11,27] (.cd ((setT_ c.Value n v).2 != 0) H (fun hb H => ?_) (fun hb H => ?_))))))))
  ·
   refine .sg 2 [8,9] ?_
   obtain rfl := Option.some.inj H
   exact .ret Try.func95 hc0
  ·
   refine .sg 2 [1,2,3,4,8] (.rg (.sg 2 [1,2,4,8,31,32] (bndO H fun x hv H => (.cp [1,2,4,8,33] (z105_walk _ _ x hv) (.sg 5 [1,2,4,8,12,13] (.dn (.sg 3 [1,2,4,8,12,37] (.cd (!x.2) H (fun hb H => ?_) (fun hb H => ?_)))))))))
   ·
    refine .sg 2 [8,9] ?_
    obtain rfl := Option.some.inj H
    exact .ret Try.func95 hc0
   ·
    refine .sg 2 [1,2,4,8,12] (.rg (.sg 7 [4,8,39,40,41,44,45] (reqH H fun hreq H => (.xa [4,8,40,41,44,46] hreq (.sg 2 [4,8,40,44,47] (reqH H fun hreq H => (.xa [4,8,44,48] hreq (.sg 1 [4,8] (.dn (.sg 2 [8,9] ?_))))))))))
    obtain rfl := Option.some.inj H
    exact .ret Try.func95 hc0
abbrev K_z80 (g : Machine → Node → Option (Int × Machine)) : Prop := ∀ (m1 : Machine) (n : Node) (r : Int × Machine) (H : g m1 n = some r), ACalls Try.prog tab.S 80 [.ptr 0 0 none, Node.ag n] [.box 71 [.own 1 1000000, .sc (.string m1.ev.On), .sc (.int .i64 m1.ev.Unit), .sc (.int .i64 m1.ev.Port), .arr .u64 12 m1.ev.Head, .sc (.int .i64 m1.owner), .sc (.int .i64 m1.fuel), .own 2 1000000, .sc (.int .i64 m1.e)], .row 60 (List.map Var.av m1.vars) 1000000 true, .row 51 (List.map Change.av m1.out) 1000000 true] (.sc (.int .i64 r.1)) [.box 71 [.own 1 1000000, .sc (.string r.2.ev.On), .sc (.int .i64 r.2.ev.Unit), .sc (.int .i64 r.2.ev.Port), .arr .u64 12 r.2.ev.Head, .sc (.int .i64 r.2.owner), .sc (.int .i64 r.2.fuel), .own 2 1000000, .sc (.int .i64 r.2.e)], .row 60 (List.map Var.av r.2.vars) 1000000 true, .row 51 (List.map Change.av r.2.out) 1000000 true]
abbrev K_z60 (g : Machine → Node → Option (Int × Machine)) : Prop := ∀ (m1 : Machine) (n : Node) (r : Int × Machine) (H : g m1 n = some r), ACalls Try.prog tab.S 60 [.ptr 0 0 none, Node.ag n] [.box 71 [.own 1 1000000, .sc (.string m1.ev.On), .sc (.int .i64 m1.ev.Unit), .sc (.int .i64 m1.ev.Port), .arr .u64 12 m1.ev.Head, .sc (.int .i64 m1.owner), .sc (.int .i64 m1.fuel), .own 2 1000000, .sc (.int .i64 m1.e)], .row 60 (List.map Var.av m1.vars) 1000000 true, .row 51 (List.map Change.av m1.out) 1000000 true] (.sc (.int .i64 r.1)) [.box 71 [.own 1 1000000, .sc (.string r.2.ev.On), .sc (.int .i64 r.2.ev.Unit), .sc (.int .i64 r.2.ev.Port), .arr .u64 12 r.2.ev.Head, .sc (.int .i64 r.2.owner), .sc (.int .i64 r.2.fuel), .own 2 1000000, .sc (.int .i64 r.2.e)], .row 60 (List.map Var.av r.2.vars) 1000000 true, .row 51 (List.map Change.av r.2.out) 1000000 true]
noncomputable def z80_F : Go.Sh.Fn := ⟨80, bodyOf Try.f80, 57⟩
def z80_raw (g_z80 : Machine → Node → Option (Int × Machine)) (g_z60 : Machine → Node → Option (Int × Machine)) (m1 : Machine) (n : Node) : Option (Int × Machine) :=
 (ixO n.Kids 0).bind fun x =>
 (g_z60 m1 x).bind fun v =>
 (bif ((n.Text == (ByteArray.mk #[38, 38])) && (v.1 == 0)) then
  some (0, v.2)
 else
  (bif ((n.Text == (ByteArray.mk #[124, 124])) && (v.1 != 0)) then
   some (1, v.2)
  else
   (ixO n.Kids 1).bind fun x1 =>
   (g_z60 v.2 x1).bind fun v1 =>
   (bif ((n.Text == (ByteArray.mk #[38, 38])) || (n.Text == (ByteArray.mk #[124, 124]))) then
    some ((z81 (v1.1 != 0)), v1.2)
   else
    (bif (v1.2.e != 0) then
     some (0, v1.2)
    else
     (z92_raw v1.2 n.Text v.1 v1.1).bind fun v2 =>
     some (v2.1, v2.2)))))
theorem z80_walk (g_z80 : Machine → Node → Option (Int × Machine)) (H_g_z80 : K_z80 g_z80) (g_z60 : Machine → Node → Option (Int × Machine)) (H_g_z60 : K_z60 g_z60) (m1 : Machine) (n : Node) (r : Int × Machine) (H : z80_raw g_z80 g_z60 m1 n = some r) : ACalls Try.prog tab.S 80 [.ptr 0 0 none, Node.ag n] [.box 71 [.own 1 1000000, .sc (.string m1.ev.On), .sc (.int .i64 m1.ev.Unit), .sc (.int .i64 m1.ev.Port), .arr .u64 12 m1.ev.Head, .sc (.int .i64 m1.owner), .sc (.int .i64 m1.fuel), .own 2 1000000, .sc (.int .i64 m1.e)], .row 60 (List.map Var.av m1.vars) 1000000 true, .row 51 (List.map Change.av m1.out) 1000000 true] (.sc (.int .i64 r.1)) [.box 71 [.own 1 1000000, .sc (.string r.2.ev.On), .sc (.int .i64 r.2.ev.Unit), .sc (.int .i64 r.2.ev.Port), .arr .u64 12 r.2.ev.Head, .sc (.int .i64 r.2.owner), .sc (.int .i64 r.2.fuel), .own 2 1000000, .sc (.int .i64 r.2.e)], .row 60 (List.map Var.av r.2.vars) 1000000 true, .row 51 (List.map Change.av r.2.out) 1000000 true] := by
 refine .of_AX z80_F Try.func80 fun c0 hc0 => ?_
 rw [z80_raw] at H
 refine .sg 3 [0,3] (.rg (.sg 3 [0,3,7,9] (bndO H fun x hv H => (.xg [0,3,7,10] Node.av Node.ag Node.av_eq hv (.sg 1 [0,3,7,11] (bndO H fun v hv H => (.ch [0,3,12] [0,1,2] (H_g_z60 _ _ v hv) (.sg 1 [0,3,5] (.dn (.sg 3 [0,3,5] (.rg (.sg 4 [0,3,5,17] (.mx 0 [0,3,5,20] (.sg 1 [0,3,5,13] (.dn (.cd ((n.Text == (ByteArray.mk #[38, 38])) && (v.1 == 0)) H (fun hb H => ?_) (fun hb H => ?_)))))))))))))))))
 ·
  refine .sg 2 [4] ?_
  obtain rfl := Option.some.inj H
  exact .ret Try.func80 hc0 [0,1,2]
 ·
  refine .sg 1 [0,3,5] (.rg (.sg 4 [0,3,5,25] (.mx 0 [0,3,5,28] (.sg 1 [0,3,5,21] (.dn (.cd ((n.Text == (ByteArray.mk #[124, 124])) && (v.1 != 0)) H (fun hb H => ?_) (fun hb H => ?_)))))))
  ·
   refine .sg 2 [4] ?_
   obtain rfl := Option.some.inj H
   exact .ret Try.func80 hc0 [0,1,2]
  ·
   refine .sg 3 [0,3,5] (.rg (.sg 3 [0,3,5,29,31] (bndO H fun x1 hv H => (.xg [0,3,5,29,32] Node.av Node.ag Node.av_eq hv (.sg 1 [0,3,5,29,33] (bndO H fun v1 hv H => (.ch [0,3,5,34] [0,1,2] (H_g_z60 _ _ v1 hv) (.sg 1 [0,3,5,6] (.dn (.sg 2 [0,3,5,6] (.rg (.sg 4 [0,3,5,6,38] (.mx 1 [0,3,5,6,42] (.dn (.cd ((n.Text == (ByteArray.mk #[38, 38])) || (n.Text == (ByteArray.mk #[124, 124]))) H (fun hb H => ?_) (fun hb H => ?_))))))))))))))))
   ·
    refine .sg 1 [6] (.rg (.sg 2 [44] (.cp [45] (z81_calls (v1.1 != 0)) (.sg 1 [4] (.dn ?_)))))
    obtain rfl := Option.some.inj H
    exact .ret Try.func80 hc0 [0,1,2]
   ·
    refine .sg 4 [0,3,5,6,50] (.cd (v1.2.e != 0) H (fun hb H => ?_) (fun hb H => ?_))
    ·
     refine .sg 2 [4] ?_
     obtain rfl := Option.some.inj H
     exact .ret Try.func80 hc0 [0,1,2]
    ·
     refine .sg 2 [0,3,5,6] (.rg (.sg 5 [51,53,54,55] (bndO H fun v2 hv H => (.ch [56] [0,1,2] (z92_walk _ _ _ _ v2 hv) (.sg 1 [4] (.dn ?_))))))
     obtain rfl := Option.some.inj H
     exact .ret Try.func80 hc0 [0,1,2]
noncomputable def z60_F : Go.Sh.Fn := ⟨60, bodyOf Try.f60, 40⟩
def z60_raw (g_z80 : Machine → Node → Option (Int × Machine)) (g_z60 : Machine → Node → Option (Int × Machine)) (m1 : Machine) (n : Node) : Option (Int × Machine) :=
 letT (z39 m1) fun v =>
 (bif (!v.1) then
  some (0, v.2)
 else
  (bif (n.Kind == 18) then
   some (n.Num, v.2)
  else
   (bif (n.Kind == 19) then
    (z79_raw v.2 n.Text).bind fun v1 =>
    some (v1.1, v1.2)
   else
    (bif (n.Kind == 20) then
     (g_z80 v.2 n).bind fun v2 =>
     some (v2.1, v2.2)
    else
     (ixO n.Kids 0).bind fun x =>
     (g_z60 v.2 x).bind fun v3 =>
     (bif (n.Text == (ByteArray.mk #[33])) then
      some ((z81 (v3.1 == 0)), v3.2)
     else
      some ((IntKind.i64.wrap (0 - v3.1)), v3.2))))))
theorem z60_walk (g_z80 : Machine → Node → Option (Int × Machine)) (H_g_z80 : K_z80 g_z80) (g_z60 : Machine → Node → Option (Int × Machine)) (H_g_z60 : K_z60 g_z60) (m1 : Machine) (n : Node) (r : Int × Machine) (H : z60_raw g_z80 g_z60 m1 n = some r) : ACalls Try.prog tab.S 60 [.ptr 0 0 none, Node.ag n] [.box 71 [.own 1 1000000, .sc (.string m1.ev.On), .sc (.int .i64 m1.ev.Unit), .sc (.int .i64 m1.ev.Port), .arr .u64 12 m1.ev.Head, .sc (.int .i64 m1.owner), .sc (.int .i64 m1.fuel), .own 2 1000000, .sc (.int .i64 m1.e)], .row 60 (List.map Var.av m1.vars) 1000000 true, .row 51 (List.map Change.av m1.out) 1000000 true] (.sc (.int .i64 r.1)) [.box 71 [.own 1 1000000, .sc (.string r.2.ev.On), .sc (.int .i64 r.2.ev.Unit), .sc (.int .i64 r.2.ev.Port), .arr .u64 12 r.2.ev.Head, .sc (.int .i64 r.2.owner), .sc (.int .i64 r.2.fuel), .own 2 1000000, .sc (.int .i64 r.2.e)], .row 60 (List.map Var.av r.2.vars) 1000000 true, .row 51 (List.map Change.av r.2.out) 1000000 true] := by
 refine .of_AX z60_F Try.func60 fun c0 hc0 => ?_
 rw [z60_raw] at H
 refine .sg 4 [0,3] (.rg (.sg 1 [0,3,6] (letH H fun v hv H => (.ch [0,3,7] [0,1,2] (z39_walk _ v hv) (.sg 1 [0,3,8] (.dn (.cd (!v.1) H (fun hb H => ?_) (fun hb H => ?_))))))))
 ·
  refine .sg 2 [4] ?_
  obtain rfl := Option.some.inj H
  exact .ret Try.func60 hc0 [0,1,2]
 ·
  refine .sg 7 [0,3,10,11] (.cd (n.Kind == 18) H (fun hb H => ?_) (fun hb H => ?_))
  ·
   refine .sg 2 [4] ?_
   obtain rfl := Option.some.inj H
   exact .ret Try.func60 hc0 [0,1,2]
  ·
   refine .sg 2 [0,3,10,15] (.cd (n.Kind == 19) H (fun hb H => ?_) (fun hb H => ?_))
   ·
    refine .sg 1 [0,3] (.rg (.sg 3 [17,19] (bndO H fun v1 hv H => (.ch [20] [0,1,2] (z79_walk _ _ v1 hv) (.sg 1 [4] (.dn ?_))))))
    obtain rfl := Option.some.inj H
    exact .ret Try.func60 hc0 [0,1,2]
   ·
    refine .sg 2 [0,3,21] (.cd (n.Kind == 20) H (fun hb H => ?_) (fun hb H => ?_))
    ·
     refine .sg 1 [0,3] (.rg (.sg 2 [23,24] (bndO H fun v2 hv H => (.ch [25] [0,1,2] (H_g_z80 _ _ v2 hv) (.sg 1 [4] (.dn ?_))))))
     obtain rfl := Option.some.inj H
     exact .ret Try.func60 hc0 [0,1,2]
    ·
     refine .sg 3 [0,3] (.rg (.sg 3 [3,26,28] (bndO H fun x hv H => (.xg [3,26,29] Node.av Node.ag Node.av_eq hv (.sg 1 [3,26,30] (bndO H fun v3 hv H => (.ch [3,31] [0,1,2] (H_g_z60 _ _ v3 hv) (.sg 1 [3,5] (.dn (.sg 3 [5,34] (.cd (n.Text == (ByteArray.mk #[33])) H (fun hb H => ?_) (fun hb H => ?_))))))))))))
     ·
      refine .sg 1 [5] (.rg (.sg 2 [36] (.cp [37] (z81_calls (v3.1 == 0)) (.sg 1 [4] (.dn ?_)))))
      obtain rfl := Option.some.inj H
      exact .ret Try.func60 hc0 [0,1,2]
     ·
      refine .sg 3 [4] ?_
      obtain rfl := Option.some.inj H
      exact .ret Try.func60 hc0 [0,1,2]
def exG : Nat → (Machine → Node → Option (Int × Machine)) × (Machine → Node → Option (Int × Machine))
 | 0 => (fun _ _ => none, fun _ _ => none)
 | q + 1 => (z80_raw (exG q).1 (exG q).2, z60_raw (exG q).1 (exG q).2)
theorem exG_walk : ∀ q : Nat, K_z80 ((exG q).1) ∧ K_z60 ((exG q).2)
 | 0 => ⟨(fun _ _ _ H => nomatch H), (fun _ _ _ H => nomatch H)⟩
 | q + 1 => ⟨z80_walk (exG q).1 (exG_walk q).1 (exG q).2 (exG_walk q).2, z60_walk (exG q).1 (exG_walk q).1 (exG q).2 (exG_walk q).2⟩
end Go.Proofs.Yteioljlgcagnnaa
namespace Go.Proofs.Yteioljlgcagnnaa
open Go.Sh
noncomputable def z82_F : Go.Sh.Fn := ⟨82, bodyOf Try.f82, 24⟩
def z82_raw (m1 : Machine) (n : Node) (low : Int) (high : Int) : Option (Int × Machine) :=
 ((exG 40000).2 m1 n).bind fun v =>
 (bif ((decide (v.1 < low)) || (decide (v.1 > high))) then
  letT (z63 v.2 13) fun v1 =>
  some (v.1, v1)
 else
  some (v.1, v.2))
theorem z82_walk (m1 : Machine) (n : Node) (low : Int) (high : Int) (r : Int × Machine) (H : z82_raw m1 n low high = some r) : ACalls Try.prog tab.S 82 [.ptr 0 0 none, Node.ag n, .sc (.int .i64 low), .sc (.int .i64 high)] [.box 71 [.own 1 1000000, .sc (.string m1.ev.On), .sc (.int .i64 m1.ev.Unit), .sc (.int .i64 m1.ev.Port), .arr .u64 12 m1.ev.Head, .sc (.int .i64 m1.owner), .sc (.int .i64 m1.fuel), .own 2 1000000, .sc (.int .i64 m1.e)], .row 60 (List.map Var.av m1.vars) 1000000 true, .row 51 (List.map Change.av m1.out) 1000000 true] (.sc (.int .i64 r.1)) [.box 71 [.own 1 1000000, .sc (.string r.2.ev.On), .sc (.int .i64 r.2.ev.Unit), .sc (.int .i64 r.2.ev.Port), .arr .u64 12 r.2.ev.Head, .sc (.int .i64 r.2.owner), .sc (.int .i64 r.2.fuel), .own 2 1000000, .sc (.int .i64 r.2.e)], .row 60 (List.map Var.av r.2.vars) 1000000 true, .row 51 (List.map Change.av r.2.out) 1000000 true] := by
 refine .of_AX z82_F Try.func82 fun c0 hc0 => ?_
 rw [z82_raw] at H
 refine .sg 3 [0,2,3,5] (.rg (.sg 2 [0,2,3,10,11] (bndO H fun v hv H => (.ch [0,2,3,12] [0,1,2] ((exG_walk 40000).2 _ _ v hv) (.sg 1 [0,2,3,9] (.dn (.sg 2 [0,2,3,9] (.rg (.sg 4 [0,3,9,16] (.mx 1 [0,9,20] (.dn (.cd ((decide (v.1 < low)) || (decide (v.1 > high))) H (fun hb H => ?_) (fun hb H => ?_)))))))))))))
 ·
  refine .rg (.sg 1 [9,21] (letH H fun v1 hv H => (.ch [9] [0,1,2] (z63_walk _ _ v1 hv) (.dn (.sg 2 [8] ?_)))))
  obtain rfl := Option.some.inj H
  exact .ret Try.func82 hc0 [0,1,2]
 ·
  refine .sg 3 [8] ?_
  obtain rfl := Option.some.inj H
  exact .ret Try.func82 hc0 [0,1,2]
noncomputable def z83_F : Go.Sh.Fn := ⟨83, bodyOf Try.f83, 61⟩
def z83_l0s : List Node → ByteArray → Int → Int → List Int → Int → Int → Int → List Var → List Change → List Int → List Int → Option (Sum (ByteArray × Int × Int × (List Int) × Int × Int × Int × (List Var) × (List Change) × (List Int) × (List Int)) (Cube × Machine))
 | [], m_1_0, m_1_1, m_1_2, m_1_3, m_2, m_3, m_5, o1, o2, c_0, c_1 =>
  some (.inl (m_1_0, m_1_1, m_1_2, m_1_3, m_2, m_3, m_5, o1, o2, c_0, c_1))
 | x :: rest, m_1_0, m_1_1, m_1_2, m_1_3, m_2, m_3, m_5, o1, o2, c_0, c_1 =>
  (ixO x.Kids 0).bind fun x1 =>
  ((exG 40000).2 ({ vars := o1, ev := ({ On := m_1_0, Unit := m_1_1, Port := m_1_2, Head := m_1_3 } : Event), owner := m_2, fuel := m_3, out := o2, e := m_5 } : Machine) x1).bind fun v =>
  (z95_raw ({ Value := c_0, Care := c_1 } : Cube) ((z91 x.Text).1) (IntKind.u64.wrap v.1) (bif (decide (x.Num < 0)) then (sizeT ((z91 x.Text).1)) else x.Num)).bind fun x2 =>
  (bif ((x2.2 != 0) || (decide (v.1 < 0))) then
   letT (z63 v.2 13) fun v1 =>
   some (.inr (({ Value := c_0, Care := c_1 } : Cube), v1))
  else
   z83_l0s rest v.2.ev.On v.2.ev.Unit v.2.ev.Port v.2.ev.Head v.2.owner v.2.fuel v.2.e v.2.vars v.2.out x2.1.Value x2.1.Care)
theorem z83_l0_walk (m1 : Machine) (n : Node) (r : Cube × Machine) (c0 : Ctx) (hc0 : c0.m.length = 3) (res : Sum (ByteArray × Int × Int × (List Int) × Int × Int × Int × (List Var) × (List Change) × (List Int) × (List Int)) (Cube × Machine)) (J : ∀ w : ByteArray × Int × Int × (List Int) × Int × Int × Int × (List Var) × (List Change) × (List Int) × (List Int), res = .inl w → AX Try.prog tab z83_F c0 (Rp tab.S c0 (Cube.av r.1) [.box 71 [.own 1 1000000, .sc (.string r.2.ev.On), .sc (.int .i64 r.2.ev.Unit), .sc (.int .i64 r.2.ev.Port), .arr .u64 12 r.2.ev.Head, .sc (.int .i64 r.2.owner), .sc (.int .i64 r.2.fuel), .own 2 1000000, .sc (.int .i64 r.2.e)], .row 60 (List.map Var.av r.2.vars) 1000000 true, .row 51 (List.map Change.av r.2.out) 1000000 true]) (some ⟨[.code [1, 1, 1]], [(4, .ptr 4 0 none), (5, .ptr 5 0 none)], [.box 71 [.own 1 1000000, .sc (.string w.1), .sc (.int .i64 w.2.1), .sc (.int .i64 w.2.2.1), .arr .u64 12 w.2.2.2.1, .sc (.int .i64 w.2.2.2.2.1), .sc (.int .i64 w.2.2.2.2.2.1), .own 2 1000000, .sc (.int .i64 w.2.2.2.2.2.2.1)], .row 60 (List.map Var.av w.2.2.2.2.2.2.2.1) 1000000 true, .row 51 (List.map Change.av w.2.2.2.2.2.2.2.2.1) 1000000 true, .box 30 (Node.ch n), .box 46 [.arr .u64 12 [0, 0, 0, 0, 0, 0, 0, 0, 0, 0, 0, 0], .arr .u64 12 [0, 0, 0, 0, 0, 0, 0, 0, 0, 0, 0, 0]], .box 46 [.arr .u64 12 w.2.2.2.2.2.2.2.2.2.1, .arr .u64 12 w.2.2.2.2.2.2.2.2.2.2]]⟩)) (Jr : ∀ w, res = .inr w → w = r) :
  ∀ (rest : List Node) (t18 : Nat) (z : Int) (hI : z = ((t18 : Nat) : Int)) (hd : n.Kids.drop t18 = rest) (m_1_0 : ByteArray) (m_1_1 : Int) (m_1_2 : Int) (m_1_3 : List Int) (m_2 : Int) (m_3 : Int) (m_5 : Int) (o1 : List Var) (o2 : List Change) (c_0 : List Int) (c_1 : List Int) (H : z83_l0s rest m_1_0 m_1_1 m_1_2 m_1_3 m_2 m_3 m_5 o1 o2 c_0 c_1 = some res), AX Try.prog tab z83_F c0 (Rp tab.S c0 (Cube.av r.1) [.box 71 [.own 1 1000000, .sc (.string r.2.ev.On), .sc (.int .i64 r.2.ev.Unit), .sc (.int .i64 r.2.ev.Port), .arr .u64 12 r.2.ev.Head, .sc (.int .i64 r.2.owner), .sc (.int .i64 r.2.fuel), .own 2 1000000, .sc (.int .i64 r.2.e)], .row 60 (List.map Var.av r.2.vars) 1000000 true, .row 51 (List.map Change.av r.2.out) 1000000 true]) (some ⟨[.code [1, 1, 0, 1, 0, 0], .loop [1, 1, 0, 1, 0], .blk 0, .code [1, 1, 1]], [(0, .ptr 0 0 none), (4, .ptr 4 0 none), (5, .ptr 5 0 none), (16, .sl 30 (List.map Node.av n.Kids) false), (17, .sc (.int .i64 (((List.map Node.av n.Kids).length : Nat) : Int))), (18, .sc (.int .i64 z))], [.box 71 [.own 1 1000000, .sc (.string m_1_0), .sc (.int .i64 m_1_1), .sc (.int .i64 m_1_2), .arr .u64 12 m_1_3, .sc (.int .i64 m_2), .sc (.int .i64 m_3), .own 2 1000000, .sc (.int .i64 m_5)], .row 60 (List.map Var.av o1) 1000000 true, .row 51 (List.map Change.av o2) 1000000 true, .box 30 (Node.ch n), .box 46 [.arr .u64 12 [0, 0, 0, 0, 0, 0, 0, 0, 0, 0, 0, 0], .arr .u64 12 [0, 0, 0, 0, 0, 0, 0, 0, 0, 0, 0, 0]], .box 46 [.arr .u64 12 c_0, .arr .u64 12 c_1]]⟩) := by
 intro rest
 induction rest with
 | nil =>
  intro t18 z hI hd m_1_0 m_1_1 m_1_2 m_1_3 m_2 m_3 m_5 o1 o2 c_0 c_1 H
  subst hI
  rw [z83_l0s] at H
  refine .facts 16 fun hf => ?_
  have hlen : n.Kids.length ≤ 9223372036854775807 := by have hq := len_ok hf.2.1; rw [List.length_map] at hq; exact hq
  have hge : n.Kids.length ≤ t18 := List.drop_eq_nil_iff.1 hd
  have hc : (decide (((t18 : Nat) : Int) < (((List.map Node.av n.Kids).length : Nat) : Int))) = false := by rw [List.length_map]; exact decide_eq_false (by omega)
  exact .sg 3 [0,4,5,16,17,18,19] (.cdF hc (.sg 1 [4,5] (.kp [4,5] (.to (J (m_1_0, m_1_1, m_1_2, m_1_3, m_2, m_3, m_5, o1, o2, c_0, c_1) (Option.some.inj H).symm)))))
 | cons x rest ih =>
  intro t18 z hI hd m_1_0 m_1_1 m_1_2 m_1_3 m_2 m_3 m_5 o1 o2 c_0 c_1 H
  subst hI
  rw [z83_l0s] at H
  refine .facts 16 fun hf => ?_
  have hlen : n.Kids.length ≤ 9223372036854775807 := by have hq := len_ok hf.2.1; rw [List.length_map] at hq; exact hq
  obtain ⟨hlt, hv_t18, hd2⟩ := drop_cons hd
  have hc : (decide (((t18 : Nat) : Int) < (((List.map Node.av n.Kids).length : Nat) : Int))) = true := by rw [List.length_map]; exact decide_eq_true (by omega)
  have hw : IntKind.i64.wrap (((t18 : Nat) : Int) + 1) = ((t18 + 1 : Nat) : Int) := wrapI_succ (by omega)
  refine .sg 3 [0,4,5,16,17,18,19] (.cdT hc (.sg 4 [0,4,5,16,17,18] (.rg (.xg [0,4,5,16,17,18,20] Node.av Node.ag Node.av_eq hv_t18 (.sg 3 [0,4,5,7,16,17,18] (.dn (.sg 1 [0,4,5,7,16,17,18] (.rg (.sg 3 [0,4,5,7,16,17,18,22,24] (bndO H fun x1 hv H => (.xg [0,4,5,7,16,17,18,22,25] Node.av Node.ag Node.av_eq hv (.sg 1 [0,4,5,7,16,17,18,22,26] (bndO H fun v hv H => (.ch [0,4,5,7,16,17,18,27] [0,1,2] ((exG_walk 40000).2 _ _ v hv) (.sg 1 [0,4,5,7,8,16,17,18] (.dn (.sg 1 [0,4,5,7,8,16,17,18] (.rg (.sg 2 [0,4,5,7,8,16,17,18,30] (.cp [0,4,5,7,8,16,17,18,31] (z91_calls x.Text) (.sg 5 [0,4,5,7,8,9,16,17,18] (.dn (.sg 5 [0,4,5,8,9,11,16,17,18,37] (.jn (decide (x.Num < 0)) [0, 4, 5, 8, 9, 11, 16, 17, 18] (fun z => [(11, .sc (.int .i64 (bif z then (sizeT ((z91 x.Text).1)) else x.Num)))]) ?J7 (fun hb J => ?ht7) (fun hb J => ?hf7)))))))))))))))))))))))))
  case ht7 =>
   exact .rg (.sg 1 [0,4,5,8,9,16,17,18,38] (.cp [0,4,5,8,9,16,17,18,39] (z94_ok ((z91 x.Text).1)) (.sg 1 [0,4,5,8,9,11,16,17,18] (.dn (.sg 0 [0,4,5,8,9,11,16,17,18] (.cl J))))))
  case hf7 =>
   exact .sg 1 [0,4,5,8,9,11,16,17,18] (.cl J)
  refine .sg 1 [0,4,5,8,9,11,16,17,18] (.rg (.sg 5 [0,4,5,8,16,17,18,41,42,44,45] (bndO H fun x2 hv H => (.cp [0,4,5,8,16,17,18,46] (z95_walk _ _ _ _ x2 hv) (.sg 6 [0,4,5,8,12,13,16,17,18] (.dn (.sg 2 [0,4,5,8,12,13,16,17,18] (.rg (.sg 3 [0,4,5,8,12,16,17,18,51] (.mx 1 [0,4,5,12,16,17,18,54] (.dn (.cd ((x2.2 != 0) || (decide (v.1 < 0))) H (fun hb H => ?_) (fun hb H => ?_)))))))))))))
  ·
   refine .sg 1 [0,4,5] (.rg (.sg 1 [4,5,55] (letH H fun v1 hv H => (.ch [4,5] [0,1,2] (z63_walk _ _ v1 hv) (.dn (.sg 2 [4] ?_))))))
   obtain rfl := Option.some.inj H
   obtain rfl := Jr _ rfl
   exact .ret Try.func83 hc0 [0,1,2]
  ·
   exact .sg 4 [0,4,5,16,17,18] (.tl hc0 [0,1,2,3,4,5] [0,4,5,16,17,18] (.into (.cl (ih (t18 + 1) _ hw hd2 v.2.ev.On v.2.ev.Unit v.2.ev.Port v.2.ev.Head v.2.owner v.2.fuel v.2.e v.2.vars v.2.out x2.1.Value x2.1.Care H))))
def z83_raw (m1 : Machine) (n : Node) : Option (Cube × Machine) :=
 loopO (z83_l0s n.Kids m1.ev.On m1.ev.Unit m1.ev.Port m1.ev.Head m1.owner m1.fuel m1.e m1.vars m1.out cube_All.Value cube_All.Care) fun v =>
 some (({ Value := v.2.2.2.2.2.2.2.2.2.1, Care := v.2.2.2.2.2.2.2.2.2.2 } : Cube), ({ vars := v.2.2.2.2.2.2.2.1, ev := ({ On := v.1, Unit := v.2.1, Port := v.2.2.1, Head := v.2.2.2.1 } : Event), owner := v.2.2.2.2.1, fuel := v.2.2.2.2.2.1, out := v.2.2.2.2.2.2.2.2.1, e := v.2.2.2.2.2.2.1 } : Machine))
theorem z83_walk (m1 : Machine) (n : Node) (r : Cube × Machine) (H : z83_raw m1 n = some r) : ACalls Try.prog tab.S 83 [.ptr 0 0 none, Node.ag n] [.box 71 [.own 1 1000000, .sc (.string m1.ev.On), .sc (.int .i64 m1.ev.Unit), .sc (.int .i64 m1.ev.Port), .arr .u64 12 m1.ev.Head, .sc (.int .i64 m1.owner), .sc (.int .i64 m1.fuel), .own 2 1000000, .sc (.int .i64 m1.e)], .row 60 (List.map Var.av m1.vars) 1000000 true, .row 51 (List.map Change.av m1.out) 1000000 true] (Cube.av r.1) [.box 71 [.own 1 1000000, .sc (.string r.2.ev.On), .sc (.int .i64 r.2.ev.Unit), .sc (.int .i64 r.2.ev.Port), .arr .u64 12 r.2.ev.Head, .sc (.int .i64 r.2.owner), .sc (.int .i64 r.2.fuel), .own 2 1000000, .sc (.int .i64 r.2.e)], .row 60 (List.map Var.av r.2.vars) 1000000 true, .row 51 (List.map Change.av r.2.out) 1000000 true] := by
 refine .of_AX z83_F Try.func83 fun c0 hc0 => ?_
 rw [z83_raw] at H
 refine .sg 3 [0,3,4] (.rg (.cp [0,3,4,14] (cube_All_calls) (.sg 2 [0,3,4,5] (.dn (.sg 4 [0,4,5,16,17,18] ?_)))))
 rcases loopO_some H with ⟨v, hv, H⟩ | hv
 case inr =>
  exact .into (.to (z83_l0_walk m1 n _ c0 hc0 (.inr _) (fun _ e => by cases e) (fun _ e => (Sum.inr.inj e).symm) n.Kids 0 _ rfl rfl m1.ev.On m1.ev.Unit m1.ev.Port m1.ev.Head m1.owner m1.fuel m1.e m1.vars m1.out cube_All.Value cube_All.Care hv))
 refine .into (.to (z83_l0_walk m1 n r c0 hc0 (.inl v) (fun w e => ?_) (fun _ e => by cases e) n.Kids 0 _ rfl rfl m1.ev.On m1.ev.Unit m1.ev.Port m1.ev.Head m1.owner m1.fuel m1.e m1.vars m1.out cube_All.Value cube_All.Care hv))
 have e := Sum.inl.inj e
 subst e
 refine .sg 2 [4] ?_
 obtain rfl := Option.some.inj H
 exact .ret Try.func83 hc0 [0,1,2]
noncomputable def z84_F : Go.Sh.Fn := ⟨84, bodyOf Try.f84, 77⟩
def z84_l0s : List Node → ByteArray → Int → Int → List Int → Int → Int → Int → List Var → List Change → List Act → Option (ByteArray × Int × Int × (List Int) × Int × Int × Int × (List Var) × (List Change) × (List Act))
 | [], m_1_0, m_1_1, m_1_2, m_1_3, m_2, m_3, m_5, o1, o2, out =>
  some (m_1_0, m_1_1, m_1_2, m_1_3, m_2, m_3, m_5, o1, o2, out)
 | x :: rest, m_1_0, m_1_1, m_1_2, m_1_3, m_2, m_3, m_5, o1, o2, out =>
  (bif (x.Kind == 15) then
   (ixO x.Kids 0).bind fun x1 =>
   (z82_raw ({ vars := o1, ev := ({ On := m_1_0, Unit := m_1_1, Port := m_1_2, Head := m_1_3 } : Event), owner := m_2, fuel := m_3, out := o2, e := m_5 } : Machine) x1 1 16).bind fun v =>
   fitO (out.length + [({ Kind := 1, Port := v.1, Field := 0, Value := 0 } : Act)].length) 32 (
   z84_l0s rest v.2.ev.On v.2.ev.Unit v.2.ev.Port v.2.ev.Head v.2.owner v.2.fuel v.2.e v.2.vars v.2.out (out ++ [({ Kind := 1, Port := v.1, Field := 0, Value := 0 } : Act)]))
  else
   (bif (x.Kind == 16) then
    (ixO x.Kids 0).bind fun x2 =>
    ((exG 40000).2 ({ vars := o1, ev := ({ On := m_1_0, Unit := m_1_1, Port := m_1_2, Head := m_1_3 } : Event), owner := m_2, fuel := m_3, out := o2, e := m_5 } : Machine) x2).bind fun v1 =>
    (bif (((setT_ [0, 0, 0, 0, 0, 0, 0, 0, 0, 0, 0, 0] ((z91 x.Text).1) (IntKind.u64.wrap v1.1)).2 != 0) || (decide (v1.1 < 0))) then
     letT (z63 v1.2 13) fun v2 =>
     fitO (out.length + [({ Kind := 2, Port := 0, Field := (z91 x.Text).1, Value := (IntKind.u64.wrap v1.1) } : Act)].length) 32 (
     z84_l0s rest v2.ev.On v2.ev.Unit v2.ev.Port v2.ev.Head v2.owner v2.fuel v2.e v2.vars v2.out (out ++ [({ Kind := 2, Port := 0, Field := (z91 x.Text).1, Value := (IntKind.u64.wrap v1.1) } : Act)]))
    else
     fitO (out.length + [({ Kind := 2, Port := 0, Field := (z91 x.Text).1, Value := (IntKind.u64.wrap v1.1) } : Act)].length) 32 (
     z84_l0s rest v1.2.ev.On v1.2.ev.Unit v1.2.ev.Port v1.2.ev.Head v1.2.owner v1.2.fuel v1.2.e v1.2.vars v1.2.out (out ++ [({ Kind := 2, Port := 0, Field := (z91 x.Text).1, Value := (IntKind.u64.wrap v1.1) } : Act)])))
   else
    fitO (out.length + [({ Kind := 3, Port := 0, Field := 0, Value := 0 } : Act)].length) 32 (
    z84_l0s rest m_1_0 m_1_1 m_1_2 m_1_3 m_2 m_3 m_5 o1 o2 (out ++ [({ Kind := 3, Port := 0, Field := 0, Value := 0 } : Act)]))))
theorem z84_l0_walk (m1 : Machine) (n : Node) (r : (List Act) × Machine) (c0 : Ctx) (hc0 : c0.m.length = 3) (res : ByteArray × Int × Int × (List Int) × Int × Int × Int × (List Var) × (List Change) × (List Act)) (J : AX Try.prog tab z84_F c0 (Rp tab.S c0 (.sl 99 (List.map Act.av r.1) false) [.box 71 [.own 1 1000000, .sc (.string r.2.ev.On), .sc (.int .i64 r.2.ev.Unit), .sc (.int .i64 r.2.ev.Port), .arr .u64 12 r.2.ev.Head, .sc (.int .i64 r.2.owner), .sc (.int .i64 r.2.fuel), .own 2 1000000, .sc (.int .i64 r.2.e)], .row 60 (List.map Var.av r.2.vars) 1000000 true, .row 51 (List.map Change.av r.2.out) 1000000 true]) (some ⟨[.code [1, 1, 1]], [(5, .own 4 1000000)], [.box 71 [.own 1 1000000, .sc (.string res.1), .sc (.int .i64 res.2.1), .sc (.int .i64 res.2.2.1), .arr .u64 12 res.2.2.2.1, .sc (.int .i64 res.2.2.2.2.1), .sc (.int .i64 res.2.2.2.2.2.1), .own 2 1000000, .sc (.int .i64 res.2.2.2.2.2.2.1)], .row 60 (List.map Var.av res.2.2.2.2.2.2.2.1) 1000000 true, .row 51 (List.map Change.av res.2.2.2.2.2.2.2.2.1) 1000000 true, .box 30 (Node.ch n), .row 99 (List.map Act.av res.2.2.2.2.2.2.2.2.2) 1000000 true]⟩)) :
  ∀ (rest : List Node) (t16 : Nat) (z : Int) (hI : z = ((t16 : Nat) : Int)) (hd : n.Kids.drop t16 = rest) (m_1_0 : ByteArray) (m_1_1 : Int) (m_1_2 : Int) (m_1_3 : List Int) (m_2 : Int) (m_3 : Int) (m_5 : Int) (o1 : List Var) (o2 : List Change) (out : List Act) (H : z84_l0s rest m_1_0 m_1_1 m_1_2 m_1_3 m_2 m_3 m_5 o1 o2 out = some res), AX Try.prog tab z84_F c0 (Rp tab.S c0 (.sl 99 (List.map Act.av r.1) false) [.box 71 [.own 1 1000000, .sc (.string r.2.ev.On), .sc (.int .i64 r.2.ev.Unit), .sc (.int .i64 r.2.ev.Port), .arr .u64 12 r.2.ev.Head, .sc (.int .i64 r.2.owner), .sc (.int .i64 r.2.fuel), .own 2 1000000, .sc (.int .i64 r.2.e)], .row 60 (List.map Var.av r.2.vars) 1000000 true, .row 51 (List.map Change.av r.2.out) 1000000 true]) (some ⟨[.code [1, 1, 0, 1, 0, 0], .loop [1, 1, 0, 1, 0], .blk 0, .code [1, 1, 1]], [(0, .ptr 0 0 none), (5, .own 4 1000000), (14, .sl 30 (List.map Node.av n.Kids) false), (15, .sc (.int .i64 (((List.map Node.av n.Kids).length : Nat) : Int))), (16, .sc (.int .i64 z))], [.box 71 [.own 1 1000000, .sc (.string m_1_0), .sc (.int .i64 m_1_1), .sc (.int .i64 m_1_2), .arr .u64 12 m_1_3, .sc (.int .i64 m_2), .sc (.int .i64 m_3), .own 2 1000000, .sc (.int .i64 m_5)], .row 60 (List.map Var.av o1) 1000000 true, .row 51 (List.map Change.av o2) 1000000 true, .box 30 (Node.ch n), .row 99 (List.map Act.av out) 1000000 true]⟩) := by
 intro rest
 induction rest with
 | nil =>
  intro t16 z hI hd m_1_0 m_1_1 m_1_2 m_1_3 m_2 m_3 m_5 o1 o2 out H
  subst hI
  rw [z84_l0s] at H
  refine .facts 14 fun hf => ?_
  have hlen : n.Kids.length ≤ 9223372036854775807 := by have hq := len_ok hf.2.1; rw [List.length_map] at hq; exact hq
  have hge : n.Kids.length ≤ t16 := List.drop_eq_nil_iff.1 hd
  have hc : (decide (((t16 : Nat) : Int) < (((List.map Node.av n.Kids).length : Nat) : Int))) = false := by rw [List.length_map]; exact decide_eq_false (by omega)
  refine .sg 3 [0,5,14,15,16,17] (.cdF hc (.sg 1 [5] (.kp [5] ?_)))
  obtain rfl := Option.some.inj H
  exact .to J
 | cons x rest ih =>
  intro t16 z hI hd m_1_0 m_1_1 m_1_2 m_1_3 m_2 m_3 m_5 o1 o2 out H
  subst hI
  rw [z84_l0s] at H
  refine .facts 14 fun hf => ?_
  have hlen : n.Kids.length ≤ 9223372036854775807 := by have hq := len_ok hf.2.1; rw [List.length_map] at hq; exact hq
  obtain ⟨hlt, hv_t16, hd2⟩ := drop_cons hd
  have hc : (decide (((t16 : Nat) : Int) < (((List.map Node.av n.Kids).length : Nat) : Int))) = true := by rw [List.length_map]; exact decide_eq_true (by omega)
  have hw : IntKind.i64.wrap (((t16 : Nat) : Int) + 1) = ((t16 + 1 : Nat) : Int) := wrapI_succ (by omega)
  refine .sg 3 [0,5,14,15,16,17] (.cdT hc (.sg 4 [0,5,14,15,16] (.rg (.xg [0,5,14,15,16,18] Node.av Node.ag Node.av_eq hv_t16 (.sg 3 [0,5,7,14,15,16] (.dn (.sg 5 [0,5,7,14,15,16,21,26] (.cd (x.Kind == 15) H (fun hb H => ?_) (fun hb H => ?_)))))))))
  ·
   exact .rg (.sg 4 [0,14,15,16,28,29,31] (bndO H fun x1 hv H => (.xg [0,14,15,16,28,29,32] Node.av Node.ag Node.av_eq hv (.sg 1 [0,14,15,16,28,29,33] (bndO H fun v hv H => (.ch [0,14,15,16,28,34] [0,1,2] (z82_walk _ _ _ _ v hv) (.sg 2 [0,14,15,16,28,36] (fitH H fun hfit H => (.ap [0,14,15,16,37] Act.av hfit (.sg 1 [0,5,14,15,16] (.dn (.sg 3 [0,5,14,15,16] (.tl hc0 [0,1,2,3,4] [0,5,14,15,16] (.into (.cl (ih (t16 + 1) _ hw hd2 v.2.ev.On v.2.ev.Unit v.2.ev.Port v.2.ev.Head v.2.owner v.2.fuel v.2.e v.2.vars v.2.out (out ++ [({ Kind := 1, Port := v.1, Field := 0, Value := 0 } : Act)]) H))))))))))))))))
  ·
   refine .sg 2 [0,5,7,14,15,16,38] (.cd (x.Kind == 16) H (fun hb H => ?_) (fun hb H => ?_))
   ·
    refine .sg 1 [0,5,7,14,15,16] (.rg (.sg 2 [0,5,7,14,15,16,42] (.cp [0,5,7,14,15,16,43] (z91_calls x.Text) (.sg 5 [0,5,7,8,14,15,16] (.dn (.sg 1 [0,5,7,8,14,15,16] (.rg (.sg 3 [0,5,8,14,15,16,46,48] (bndO H fun x2 hv H => (.xg [0,5,8,14,15,16,46,49] Node.av Node.ag Node.av_eq hv (.sg 1 [0,5,8,14,15,16,46,50] (bndO H fun v1 hv H => (.ch [0,5,8,14,15,16,51] [0,1,2] ((exG_walk 40000).2 _ _ v1 hv) (.sg 1 [0,5,8,10,14,15,16] (.dn (.sg 2 [0,5,8,10,14,15,16] (.rg (.sg 4 [0,5,8,10,14,15,16,53,54,56] (.cp [0,5,8,10,14,15,16,57] (head_Set_ok [0, 0, 0, 0, 0, 0, 0, 0, 0, 0, 0, 0] ((z91 x.Text).1) (IntKind.u64.wrap v1.1)) (.sg 6 [0,5,8,10,12,14,15,16] (.dn (.sg 1 [0,5,8,10,12,14,15,16] (.rg (.sg 3 [0,5,8,10,14,15,16,62] (.mx 1 [0,5,8,10,14,15,16,65] (.dn (.cd (((setT_ [0, 0, 0, 0, 0, 0, 0, 0, 0, 0, 0, 0] ((z91 x.Text).1) (IntKind.u64.wrap v1.1)).2 != 0) || (decide (v1.1 < 0))) H (fun hb H => ?_) (fun hb H => ?_))))))))))))))))))))))))))))
    ·
     exact .rg (.sg 1 [0,5,8,10,14,15,16,66] (letH H fun v2 hv H => (.ch [0,5,8,10,14,15,16] [0,1,2] (z63_walk _ _ v2 hv) (.dn (.rg (.sg 6 [0,14,15,16,68,73] (fitH H fun hfit H => (.ap [0,14,15,16,74] Act.av hfit (.sg 1 [0,5,14,15,16] (.dn (.sg 3 [0,5,14,15,16] (.tl hc0 [0,1,2,3,4] [0,5,14,15,16] (.into (.cl (ih (t16 + 1) _ hw hd2 v2.ev.On v2.ev.Unit v2.ev.Port v2.ev.Head v2.owner v2.fuel v2.e v2.vars v2.out (out ++ [({ Kind := 2, Port := 0, Field := (z91 x.Text).1, Value := (IntKind.u64.wrap v1.1) } : Act)]) H)))))))))))))))
    ·
     exact .sg 1 [0,5,8,10,14,15,16] (.rg (.sg 6 [0,14,15,16,68,73] (fitH H fun hfit H => (.ap [0,14,15,16,74] Act.av hfit (.sg 1 [0,5,14,15,16] (.dn (.sg 3 [0,5,14,15,16] (.tl hc0 [0,1,2,3,4] [0,5,14,15,16] (.into (.cl (ih (t16 + 1) _ hw hd2 v1.2.ev.On v1.2.ev.Unit v1.2.ev.Port v1.2.ev.Head v1.2.owner v1.2.fuel v1.2.e v1.2.vars v1.2.out (out ++ [({ Kind := 2, Port := 0, Field := (z91 x.Text).1, Value := (IntKind.u64.wrap v1.1) } : Act)]) H)))))))))))
   ·
    exact .rg (.sg 3 [0,14,15,16,22,24] (fitH H fun hfit H => (.ap [0,14,15,16,25] Act.av hfit (.sg 1 [0,5,14,15,16] (.dn (.sg 3 [0,5,14,15,16] (.tl hc0 [0,1,2,3,4] [0,5,14,15,16] (.into (.cl (ih (t16 + 1) _ hw hd2 m_1_0 m_1_1 m_1_2 m_1_3 m_2 m_3 m_5 o1 o2 (out ++ [({ Kind := 3, Port := 0, Field := 0, Value := 0 } : Act)]) H))))))))))
def z84_raw (m1 : Machine) (n : Node) : Option ((List Act) × Machine) :=
 (z84_l0s n.Kids m1.ev.On m1.ev.Unit m1.ev.Port m1.ev.Head m1.owner m1.fuel m1.e m1.vars m1.out ([] : List Act)).bind fun v =>
 some (v.2.2.2.2.2.2.2.2.2, ({ vars := v.2.2.2.2.2.2.2.1, ev := ({ On := v.1, Unit := v.2.1, Port := v.2.2.1, Head := v.2.2.2.1 } : Event), owner := v.2.2.2.2.1, fuel := v.2.2.2.2.2.1, out := v.2.2.2.2.2.2.2.2.1, e := v.2.2.2.2.2.2.1 } : Machine))
theorem z84_walk (m1 : Machine) (n : Node) (r : (List Act) × Machine) (H : z84_raw m1 n = some r) : ACalls Try.prog tab.S 84 [.ptr 0 0 none, Node.ag n] [.box 71 [.own 1 1000000, .sc (.string m1.ev.On), .sc (.int .i64 m1.ev.Unit), .sc (.int .i64 m1.ev.Port), .arr .u64 12 m1.ev.Head, .sc (.int .i64 m1.owner), .sc (.int .i64 m1.fuel), .own 2 1000000, .sc (.int .i64 m1.e)], .row 60 (List.map Var.av m1.vars) 1000000 true, .row 51 (List.map Change.av m1.out) 1000000 true] (.sl 99 (List.map Act.av r.1) false) [.box 71 [.own 1 1000000, .sc (.string r.2.ev.On), .sc (.int .i64 r.2.ev.Unit), .sc (.int .i64 r.2.ev.Port), .arr .u64 12 r.2.ev.Head, .sc (.int .i64 r.2.owner), .sc (.int .i64 r.2.fuel), .own 2 1000000, .sc (.int .i64 r.2.e)], .row 60 (List.map Var.av r.2.vars) 1000000 true, .row 51 (List.map Change.av r.2.out) 1000000 true] := by
 refine .of_AX z84_F Try.func84 fun c0 hc0 => ?_
 rw [z84_raw] at H
 refine .sg 8 [0,5,14,15,16] (.ad 5 99 true (.kp [0,5,14,15,16] ?_))
 refine bndO H fun v hv H => (.into (.to (z84_l0_walk m1 n r c0 hc0 v ?_ n.Kids 0 _ rfl rfl m1.ev.On m1.ev.Unit m1.ev.Port m1.ev.Head m1.owner m1.fuel m1.e m1.vars m1.out ([] : List Act) hv)))
 refine .sg 2 [4] ?_
 obtain rfl := Option.some.inj H
 exact .ret Try.func84 hc0 [0,1,2]
noncomputable def z85_F : Go.Sh.Fn := ⟨85, bodyOf Try.f85, 36⟩
def z85_raw (m1 : Machine) (unit : Int) (c : Mod) : Option (Machine) :=
 (bif (decide ((((List.map Change.av m1.out).length : Nat) : Int) ≥ 16)) then
  letT (z63 m1 3) fun v =>
  (bif (v.e == 0) then
   fitO (v.out.length + [({ Unit := unit, Mod := ({ c with Owner := v.owner } : Mod) } : Change)].length) 272 (
   some ({ v with out := (v.out ++ [({ Unit := unit, Mod := ({ c with Owner := v.owner } : Mod) } : Change)]) } : Machine))
  else
   some v)
 else
  (bif (m1.e == 0) then
   fitO (m1.out.length + [({ Unit := unit, Mod := ({ c with Owner := m1.owner } : Mod) } : Change)].length) 272 (
   some ({ m1 with out := (m1.out ++ [({ Unit := unit, Mod := ({ c with Owner := m1.owner } : Mod) } : Change)]) } : Machine))
  else
   some m1))
theorem z85_walk (m1 : Machine) (unit : Int) (c : Mod) (r : Machine) (H : z85_raw m1 unit c = some r) : ACalls Try.prog tab.S 85 [.ptr 0 0 none, .sc (.int .i64 unit), Mod.av c] [.box 71 [.own 1 1000000, .sc (.string m1.ev.On), .sc (.int .i64 m1.ev.Unit), .sc (.int .i64 m1.ev.Port), .arr .u64 12 m1.ev.Head, .sc (.int .i64 m1.owner), .sc (.int .i64 m1.fuel), .own 2 1000000, .sc (.int .i64 m1.e)], .row 60 (List.map Var.av m1.vars) 1000000 true, .row 51 (List.map Change.av m1.out) 1000000 true] (.tup []) [.box 71 [.own 1 1000000, .sc (.string r.ev.On), .sc (.int .i64 r.ev.Unit), .sc (.int .i64 r.ev.Port), .arr .u64 12 r.ev.Head, .sc (.int .i64 r.owner), .sc (.int .i64 r.fuel), .own 2 1000000, .sc (.int .i64 r.e)], .row 60 (List.map Var.av r.vars) 1000000 true, .row 51 (List.map Change.av r.out) 1000000 true] := by
 refine .of_AX z85_F Try.func85 fun c0 hc0 => ?_
 rw [z85_raw] at H
 refine .sg 5 [0,1,5,11] (.cd (decide ((((List.map Change.av m1.out).length : Nat) : Int) ≥ 16)) H (fun hb H => ?_) (fun hb H => ?_))
 ·
  refine .rg (.sg 1 [0,1,5,12] (letH H fun v hv H => (.ch [0,1,5] [0,1,2] (z63_walk _ _ v hv) (.dn (.sg 2 [0,1,5,18] (.cd (v.e == 0) H (fun hb H => ?_) (fun hb H => ?_)))))))
  ·
   refine .sg 2 [0,1,5] (.rg (.sg 9 [24,28,32] (fitH H fun hfit H => (.ap [24,33] Change.av hfit (.sg 3 [] (.dn ?_))))))
   obtain rfl := Option.some.inj H
   exact .ret Try.func85 hc0 [0,1,2]
  ·
   refine .sg 1 [] ?_
   obtain rfl := Option.some.inj H
   exact .ret Try.func85 hc0 [0,1,2]
 ·
  refine .sg 3 [0,1,5,18] (.cd (m1.e == 0) H (fun hb H => ?_) (fun hb H => ?_))
  ·
   refine .sg 2 [0,1,5] (.rg (.sg 9 [24,28,32] (fitH H fun hfit H => (.ap [24,33] Change.av hfit (.sg 3 [] (.dn ?_))))))
   obtain rfl := Option.some.inj H
   exact .ret Try.func85 hc0 [0,1,2]
  ·
   refine .sg 1 [] ?_
   obtain rfl := Option.some.inj H
   exact .ret Try.func85 hc0 [0,1,2]
noncomputable def z61_F : Go.Sh.Fn := ⟨61, bodyOf Try.f61, 51⟩
def z61_raw (m1 : Machine) (n : Node) : Option (Machine) :=
 (ixO n.Kids 0).bind fun x =>
 (z82_raw m1 x 0 7).bind fun v =>
 (ixO n.Kids 1).bind fun x1 =>
 (z83_raw v.2 x1).bind fun v1 =>
 (ixO n.Kids 2).bind fun x2 =>
 (z82_raw v1.2 x2 0 65535).bind fun v3 =>
 (ixO n.Kids 3).bind fun x3 =>
 (z82_raw v3.2 x3 0 1048576).bind fun v4 =>
 (ixO n.Kids 4).bind fun x4 =>
 (z82_raw v4.2 x4 0 1048576).bind fun v5 =>
 (ixO n.Kids 5).bind fun x5 =>
 (z84_raw v5.2 x5).bind fun v6 =>
 (z85_raw v6.2 v.1 ({ Kind := 1, Match := v1.1, Prio := v3.1, Acts := v6.1, Idle := v4.1, Hard := v5.1, Owner := 0, Check := (n.Num == 1) } : Mod)).bind fun v7 =>
 some v7
theorem z61_walk (m1 : Machine) (n : Node) (r : Machine) (H : z61_raw m1 n = some r) : ACalls Try.prog tab.S 61 [.ptr 0 0 none, Node.ag n] [.box 71 [.own 1 1000000, .sc (.string m1.ev.On), .sc (.int .i64 m1.ev.Unit), .sc (.int .i64 m1.ev.Port), .arr .u64 12 m1.ev.Head, .sc (.int .i64 m1.owner), .sc (.int .i64 m1.fuel), .own 2 1000000, .sc (.int .i64 m1.e)], .row 60 (List.map Var.av m1.vars) 1000000 true, .row 51 (List.map Change.av m1.out) 1000000 true] (.tup []) [.box 71 [.own 1 1000000, .sc (.string r.ev.On), .sc (.int .i64 r.ev.Unit), .sc (.int .i64 r.ev.Port), .arr .u64 12 r.ev.Head, .sc (.int .i64 r.owner), .sc (.int .i64 r.fuel), .own 2 1000000, .sc (.int .i64 r.e)], .row 60 (List.map Var.av r.vars) 1000000 true, .row 51 (List.map Change.av r.out) 1000000 true] := by
 refine .of_AX z61_F Try.func61 fun c0 hc0 => ?_
 rw [z61_raw] at H
 refine .sg 1 [0,1] (.rg (.bx [0,3] (.dn (.sg 3 [0,3,4] (.rg (.sg 2 [0,3,4,9,10] (bndO H fun x hv H => (.xg [0,3,4,9,11] Node.av Node.ag Node.av_eq hv (.sg 1 [0,3,4,9,12] (bndO H fun v hv H => (.ch [0,3,4,13] [0,1,2] (z82_walk _ _ _ _ v hv) (.sg 1 [0,3,4,5] (.dn (.sg 1 [0,3,4,5] (bndO H fun x1 hv_x1 H => (bndO H fun v1 hv_v1 H => (.rp hc0 [0, 4, 5, 6] [⟨2, [], [], .pure, [(15, .sl 30 (List.map Node.av n.Kids) false)], [.box 71 [.own 1 1000001, .sc (.string v.2.ev.On), .sc (.int .i64 v.2.ev.Unit), .sc (.int .i64 v.2.ev.Port), .arr .u64 12 v.2.ev.Head, .sc (.int .i64 v.2.owner), .sc (.int .i64 v.2.fuel), .own 2 1000001, .sc (.int .i64 v.2.e)], .row 60 (List.map Var.av v.2.vars) 1000001 true, .row 51 (List.map Change.av v.2.out) 1000001 true], .ep [.sc (.int .i64 x1.Kind), .sc (.string x1.Text), .sc (.int .i64 x1.Num), .sl 30 (List.map Node.av x1.Kids) false, .sc (.int .i64 x1.At)] 0 none, [.box 71 [.own 1 1000001, .sc (.string v.2.ev.On), .sc (.int .i64 v.2.ev.Unit), .sc (.int .i64 v.2.ev.Port), .arr .u64 12 v.2.ev.Head, .sc (.int .i64 v.2.owner), .sc (.int .i64 v.2.fuel), .own 2 1000001, .sc (.int .i64 v.2.e)], .row 60 (List.map Var.av v.2.vars) 1000001 true, .row 51 (List.map Change.av v.2.out) 1000001 true]⟩, ⟨4, [], [9], .loud, [(14, .ptr 0 0 none), (17, Node.ag x1)], [.box 71 [.own 1 1000001, .sc (.string v.2.ev.On), .sc (.int .i64 v.2.ev.Unit), .sc (.int .i64 v.2.ev.Port), .arr .u64 12 v.2.ev.Head, .sc (.int .i64 v.2.owner), .sc (.int .i64 v.2.fuel), .own 2 1000001, .sc (.int .i64 v.2.e)], .row 60 (List.map Var.av v.2.vars) 1000001 true, .row 51 (List.map Change.av v.2.out) 1000001 true], Cube.av v1.1, [.box 71 [.own 1 1000002, .sc (.string v1.2.ev.On), .sc (.int .i64 v1.2.ev.Unit), .sc (.int .i64 v1.2.ev.Port), .arr .u64 12 v1.2.ev.Head, .sc (.int .i64 v1.2.owner), .sc (.int .i64 v1.2.fuel), .own 2 1000002, .sc (.int .i64 v1.2.e)], .row 60 (List.map Var.av v1.2.vars) 1000002 true, .row 51 (List.map Change.av v1.2.out) 1000002 true]⟩, ⟨4, [9], [], .loud, [(14, .ptr 0 0 none), (17, Node.ag x1)], [.box 71 [.own 1 1000001, .sc (.string v.2.ev.On), .sc (.int .i64 v.2.ev.Unit), .sc (.int .i64 v.2.ev.Port), .arr .u64 12 v.2.ev.Head, .sc (.int .i64 v.2.owner), .sc (.int .i64 v.2.fuel), .own 2 1000001, .sc (.int .i64 v.2.e)], .row 60 (List.map Var.av v.2.vars) 1000001 true, .row 51 (List.map Change.av v.2.out) 1000001 true, .box 49 [.sc (.int .i64 0), .arr .u64 12 [0, 0, 0, 0, 0, 0, 0, 0, 0, 0, 0, 0], .arr .u64 12 [0, 0, 0, 0, 0, 0, 0, 0, 0, 0, 0, 0], .sc (.int .i64 0), .sl 0 [] true, .sc (.int .i64 0), .sc (.int .i64 0), .sc (.int .i64 0), .sc (.bool false)]], Cube.av v1.1, [.box 71 [.own 1 1000002, .sc (.string v1.2.ev.On), .sc (.int .i64 v1.2.ev.Unit), .sc (.int .i64 v1.2.ev.Port), .arr .u64 12 v1.2.ev.Head, .sc (.int .i64 v1.2.owner), .sc (.int .i64 v1.2.fuel), .own 2 1000002, .sc (.int .i64 v1.2.e)], .row 60 (List.map Var.av v1.2.vars) 1000002 true, .row 51 (List.map Change.av v1.2.out) 1000002 true, .box 49 [.sc (.int .i64 0), .arr .u64 12 [0, 0, 0, 0, 0, 0, 0, 0, 0, 0, 0, 0], .arr .u64 12 [0, 0, 0, 0, 0, 0, 0, 0, 0, 0, 0, 0], .sc (.int .i64 0), .sl 0 [] true, .sc (.int .i64 0), .sc (.int .i64 0), .sc (.int .i64 0), .sc (.bool false)]]⟩] [[0, 1, 2, 3], [0, 1, 2, 3]] (.cons (LQ.xg Node.av Node.ag Node.av_eq hv_x1) (.cons (LQ.ch [0,1,2] (z83_walk _ _ v1 hv_v1)) (.cons (LQ.ch [0,1,2] (z83_walk _ _ v1 hv_v1)) .nil))) (by kernel_rfl) (.sg 1 [0,4,5,6] (.rg (.sg 2 [0,4,5,6,23,24] (bndO H fun x2 hv H => (.xg [0,4,5,6,23,25] Node.av Node.ag Node.av_eq hv (.sg 1 [0,4,5,6,23,26] (bndO H fun v3 hv H => (.ch [0,4,5,6,27] [0,1,2] (z82_walk _ _ _ _ v3 hv) (.sg 2 [0,4,5,6] (.dn (.sg 1 [0,4,5,6] (.rg (.sg 2 [0,4,5,6,29,30] (bndO H fun x3 hv H => (.xg [0,4,5,6,29,31] Node.av Node.ag Node.av_eq hv (.sg 1 [0,4,5,6,29,32] (bndO H fun v4 hv H => (.ch [0,4,5,6,33] [0,1,2] (z82_walk _ _ _ _ v4 hv) (.sg 2 [0,4,5,6] (.dn (.sg 1 [0,4,5,6] (.rg (.sg 2 [0,4,5,6,35,36] (bndO H fun x4 hv H => (.xg [0,4,5,6,35,37] Node.av Node.ag Node.av_eq hv (.sg 1 [0,4,5,6,35,38] (bndO H fun v5 hv H => (.ch [0,4,5,6,39] [0,1,2] (z82_walk _ _ _ _ v5 hv) (.sg 2 [0,4,5,6] (.dn (.sg 1 [0,4,5,6] (.rg (.sg 2 [0,5,6,41,42] (bndO H fun x5 hv H => (.xg [0,5,6,41,43] Node.av Node.ag Node.av_eq hv (.sg 1 [0,5,6,41,44] (bndO H fun v6 hv H => (.ch [0,5,6,45] [0,1,2] (z84_walk _ _ v6 hv) (.sg 2 [0,5,6] (.dn (.rg (.sg 3 [47,48,49] (bndO H fun v7 hv H => (.ch [] [0,1,2] (z85_walk _ _ _ v7 hv) (.dn ?_))))))))))))))))))))))))))))))))))))))))))))))))))))))))))))))
 obtain rfl := Option.some.inj H
 exact .ret Try.func61 hc0 [0,1,2]
noncomputable def z62_F : Go.Sh.Fn := ⟨62, bodyOf Try.f62, 52⟩
def z62_raw (m1 : Machine) (n : Node) (loose : Int) (strict : Int) : Option (Machine) :=
 (ixO n.Kids 0).bind fun x =>
 (z82_raw m1 x 0 7).bind fun v =>
 (ixO n.Kids 1).bind fun x1 =>
 (z83_raw v.2 x1).bind fun v1 =>
 (bif (n.Num == 1) then
  (ixO n.Kids 2).bind fun x2 =>
  (z82_raw v1.2 x2 0 65535).bind fun v2 =>
  (bif (n.Kind == 10) then
   (ixO n.Kids (IntKind.i64.wrap ((((List.map Node.av n.Kids).length : Nat) : Int) - 1))).bind fun x3 =>
   (z84_raw v2.2 x3).bind fun v3 =>
   (z85_raw v3.2 v.1 ({ Kind := strict, Match := v1.1, Prio := v2.1, Acts := v3.1, Idle := 0, Hard := 0, Owner := 0, Check := false } : Mod)).bind fun v4 =>
   some v4
  else
   (z85_raw v2.2 v.1 ({ Kind := strict, Match := v1.1, Prio := v2.1, Acts := [], Idle := 0, Hard := 0, Owner := 0, Check := false } : Mod)).bind fun v5 =>
   some v5)
 else
  (bif (n.Kind == 10) then
   (ixO n.Kids (IntKind.i64.wrap ((((List.map Node.av n.Kids).length : Nat) : Int) - 1))).bind fun x4 =>
   (z84_raw v1.2 x4).bind fun v6 =>
   (z85_raw v6.2 v.1 ({ Kind := loose, Match := v1.1, Prio := 0, Acts := v6.1, Idle := 0, Hard := 0, Owner := 0, Check := false } : Mod)).bind fun v7 =>
   some v7
  else
   (z85_raw v1.2 v.1 ({ Kind := loose, Match := v1.1, Prio := 0, Acts := [], Idle := 0, Hard := 0, Owner := 0, Check := false } : Mod)).bind fun v8 =>
   some v8))
theorem z62_walk (m1 : Machine) (n : Node) (loose : Int) (strict : Int) (r : Machine) (H : z62_raw m1 n loose strict = some r) : ACalls Try.prog tab.S 62 [.ptr 0 0 none, Node.ag n, .sc (.int .i64 loose), .sc (.int .i64 strict)] [.box 71 [.own 1 1000000, .sc (.string m1.ev.On), .sc (.int .i64 m1.ev.Unit), .sc (.int .i64 m1.ev.Port), .arr .u64 12 m1.ev.Head, .sc (.int .i64 m1.owner), .sc (.int .i64 m1.fuel), .own 2 1000000, .sc (.int .i64 m1.e)], .row 60 (List.map Var.av m1.vars) 1000000 true, .row 51 (List.map Change.av m1.out) 1000000 true] (.tup []) [.box 71 [.own 1 1000000, .sc (.string r.ev.On), .sc (.int .i64 r.ev.Unit), .sc (.int .i64 r.ev.Port), .arr .u64 12 r.ev.Head, .sc (.int .i64 r.owner), .sc (.int .i64 r.fuel), .own 2 1000000, .sc (.int .i64 r.e)], .row 60 (List.map Var.av r.vars) 1000000 true, .row 51 (List.map Change.av r.out) 1000000 true] := by
 refine .of_AX z62_F Try.func62 fun c0 hc0 => ?_
 rw [z62_raw] at H
 refine .sg 5 [0,2,3,5,8] (.rg (.sg 2 [0,2,3,5,8,13,14] (bndO H fun x hv H => (.xg [0,2,3,5,8,13,15] Node.av Node.ag Node.av_eq hv (.sg 1 [0,2,3,5,8,13,16] (bndO H fun v hv H => (.ch [0,2,3,5,8,17] [0,1,2] (z82_walk _ _ _ _ v hv) (.sg 1 [0,2,3,5,8,9] (.dn (.sg 1 [0,2,3,5,8,9] (.rg (.sg 3 [0,3,5,8,9,18,19,20] (bndO H fun x1 hv H => (.xg [0,3,5,8,9,18,19,21] Node.av Node.ag Node.av_eq hv (.sg 1 [0,3,5,8,9,18,19,22] (bndO H fun v1 hv H => (.ch [0,3,5,8,9,18,23] [0,1,2] (z83_walk _ _ v1 hv) (.sg 3 [0,3,5,8,9,10] (.dn (.sg 3 [0,3,5,8,9,10,27] (.cd (n.Num == 1) H (fun hb H => ?_) (fun hb H => ?_))))))))))))))))))))))
 ·
  refine .rg (.sg 3 [0,5,8,9,10,28,29,30] (bndO H fun x2 hv H => (.xg [0,5,8,9,10,28,29,31] Node.av Node.ag Node.av_eq hv (.sg 1 [0,5,8,9,10,28,29,32] (bndO H fun v2 hv H => (.ch [0,5,8,9,10,28,33] [0,1,2] (z82_walk _ _ _ _ v2 hv) (.sg 4 [0,5,8,9,10] (.dn (.sg 3 [0,8,9,10,38] (.cd (n.Kind == 10) H (fun hb H => ?_) (fun hb H => ?_)))))))))))
  ·
   refine .rg (.sg 5 [0,9,10,39,40,43] (bndO H fun x3 hv H => (.xg [0,9,10,39,44] Node.av Node.ag Node.av_eq hv (.sg 1 [0,9,10,39,45] (bndO H fun v3 hv H => (.ch [0,9,10,46] [0,1,2] (z84_walk _ _ v3 hv) (.sg 2 [0,9,10] (.dn (.rg (.sg 3 [48,49,50] (bndO H fun v4 hv H => (.ch [] [0,1,2] (z85_walk _ _ _ v4 hv) (.dn ?_)))))))))))))
   obtain rfl := Option.some.inj H
   exact .ret Try.func62 hc0 [0,1,2]
  ·
   refine .sg 1 [0,9,10] (.rg (.sg 3 [48,49,50] (bndO H fun v5 hv H => (.ch [] (ds := [(99, false)]) [0,1,2] (z85_walk _ _ _ v5 hv) (.dn ?_)))))
   obtain rfl := Option.some.inj H
   exact .ret Try.func62 hc0 [0,1,2]
 ·
  refine .sg 4 [0,8,9,10,38] (.cd (n.Kind == 10) H (fun hb H => ?_) (fun hb H => ?_))
  ·
   refine .rg (.sg 5 [0,9,10,39,40,43] (bndO H fun x4 hv H => (.xg [0,9,10,39,44] Node.av Node.ag Node.av_eq hv (.sg 1 [0,9,10,39,45] (bndO H fun v6 hv H => (.ch [0,9,10,46] [0,1,2] (z84_walk _ _ v6 hv) (.sg 2 [0,9,10] (.dn (.rg (.sg 3 [48,49,50] (bndO H fun v7 hv H => (.ch [] [0,1,2] (z85_walk _ _ _ v7 hv) (.dn ?_)))))))))))))
   obtain rfl := Option.some.inj H
   exact .ret Try.func62 hc0 [0,1,2]
  ·
   refine .sg 1 [0,9,10] (.rg (.sg 3 [48,49,50] (bndO H fun v8 hv H => (.ch [] (ds := [(99, false)]) [0,1,2] (z85_walk _ _ _ v8 hv) (.dn ?_)))))
   obtain rfl := Option.some.inj H
   exact .ret Try.func62 hc0 [0,1,2]
noncomputable def z59_F : Go.Sh.Fn := ⟨59, bodyOf Try.f59, 33⟩
def z59_raw (m1 : Machine) (n : Node) : Option (Machine) :=
 (ixO n.Kids 0).bind fun x =>
 ((exG 40000).2 m1 x).bind fun v =>
 letT (z78 v.2 n.Text) fun v1 =>
 (bif ((decide (v1.1 ≥ 0)) && (v1.2.e == 0)) then
  (ixO v1.2.vars v1.1).bind fun x1 =>
  some ({ v1.2 with vars := (v1.2.vars.set v1.1.toNat ({ Name := x1.Name, N := v.1 } : Var)) } : Machine)
 else
  some v1.2)
theorem z59_walk (m1 : Machine) (n : Node) (r : Machine) (H : z59_raw m1 n = some r) : ACalls Try.prog tab.S 59 [.ptr 0 0 none, Node.ag n] [.box 71 [.own 1 1000000, .sc (.string m1.ev.On), .sc (.int .i64 m1.ev.Unit), .sc (.int .i64 m1.ev.Port), .arr .u64 12 m1.ev.Head, .sc (.int .i64 m1.owner), .sc (.int .i64 m1.fuel), .own 2 1000000, .sc (.int .i64 m1.e)], .row 60 (List.map Var.av m1.vars) 1000000 true, .row 51 (List.map Change.av m1.out) 1000000 true] (.tup []) [.box 71 [.own 1 1000000, .sc (.string r.ev.On), .sc (.int .i64 r.ev.Unit), .sc (.int .i64 r.ev.Port), .arr .u64 12 r.ev.Head, .sc (.int .i64 r.owner), .sc (.int .i64 r.fuel), .own 2 1000000, .sc (.int .i64 r.e)], .row 60 (List.map Var.av r.vars) 1000000 true, .row 51 (List.map Change.av r.out) 1000000 true] := by
 refine .of_AX z59_F Try.func59 fun c0 hc0 => ?_
 rw [z59_raw] at H
 refine .sg 3 [0,3] (.rg (.sg 3 [0,3,6,8] (bndO H fun x hv H => (.xg [0,3,6,9] Node.av Node.ag Node.av_eq hv (.sg 1 [0,3,6,10] (bndO H fun v hv H => (.ch [0,3,11] [0,1,2] ((exG_walk 40000).2 _ _ v hv) (.sg 1 [0,3,4] (.dn (.sg 1 [0,3,4] (.rg (.sg 3 [0,4,12,14] (letH H fun v1 hv H => (.ch [0,4,15] [0,1,2] (z78_walk _ _ v1 hv) (.sg 1 [0,4,5] (.dn (.sg 1 [0,4,5] (.rg (.sg 3 [0,4,5,18] (.mx 0 [0,4,5,24] (.dn (.cd ((decide (v1.1 ≥ 0)) && (v1.2.e == 0)) H (fun hb H => ?_) (fun hb H => ?_)))))))))))))))))))))))
 ·
  refine .rg (.sg 6 [28,29,30] (bndO H fun x1 hv_x1 H => (.xo [30,31] (ixO_req hv_x1 Var.av) (.sg 1 [30,32] (.st [] Var.av ({ Name := x1.Name, N := v.1 } : Var) (ixO_map hv_x1 Var.av).2 (.dn ?_))))))
  obtain rfl := Option.some.inj H
  exact .ret Try.func59 hc0 [0,1,2]
 ·
  refine .sg 1 [] ?_
  obtain rfl := Option.some.inj H
  exact .ret Try.func59 hc0 [0,1,2]
end Go.Proofs.Yteioljlgcagnnaa
namespace Go.Proofs.Yteioljlgcagnnaa
open Go.Sh
abbrev K_z23 (g : Machine → (List Node) → Option (Machine)) : Prop := ∀ (m1 : Machine) (list : List Node) (f_list : Bool) (r : Machine) (H : g m1 list = some r), ACalls Try.prog tab.S 23 [.ptr 0 0 none, .sl 30 (List.map Node.av list) f_list] [.box 71 [.own 1 1000000, .sc (.string m1.ev.On), .sc (.int .i64 m1.ev.Unit), .sc (.int .i64 m1.ev.Port), .arr .u64 12 m1.ev.Head, .sc (.int .i64 m1.owner), .sc (.int .i64 m1.fuel), .own 2 1000000, .sc (.int .i64 m1.e)], .row 60 (List.map Var.av m1.vars) 1000000 true, .row 51 (List.map Change.av m1.out) 1000000 true] (.tup []) [.box 71 [.own 1 1000000, .sc (.string r.ev.On), .sc (.int .i64 r.ev.Unit), .sc (.int .i64 r.ev.Port), .arr .u64 12 r.ev.Head, .sc (.int .i64 r.owner), .sc (.int .i64 r.fuel), .own 2 1000000, .sc (.int .i64 r.e)], .row 60 (List.map Var.av r.vars) 1000000 true, .row 51 (List.map Change.av r.out) 1000000 true]
abbrev K_z40 (g : Machine → Node → Option (Machine)) : Prop := ∀ (m1 : Machine) (n : Node) (r : Machine) (H : g m1 n = some r), ACalls Try.prog tab.S 40 [.ptr 0 0 none, Node.ag n] [.box 71 [.own 1 1000000, .sc (.string m1.ev.On), .sc (.int .i64 m1.ev.Unit), .sc (.int .i64 m1.ev.Port), .arr .u64 12 m1.ev.Head, .sc (.int .i64 m1.owner), .sc (.int .i64 m1.fuel), .own 2 1000000, .sc (.int .i64 m1.e)], .row 60 (List.map Var.av m1.vars) 1000000 true, .row 51 (List.map Change.av m1.out) 1000000 true] (.tup []) [.box 71 [.own 1 1000000, .sc (.string r.ev.On), .sc (.int .i64 r.ev.Unit), .sc (.int .i64 r.ev.Port), .arr .u64 12 r.ev.Head, .sc (.int .i64 r.owner), .sc (.int .i64 r.fuel), .own 2 1000000, .sc (.int .i64 r.e)], .row 60 (List.map Var.av r.vars) 1000000 true, .row 51 (List.map Change.av r.out) 1000000 true]
noncomputable def z23_F : Go.Sh.Fn := ⟨23, bodyOf Try.f23, 18⟩
def z23_l0s (g_z40 : Machine → Node → Option (Machine)) : List Node → ByteArray → Int → Int → List Int → Int → Int → Int → List Var → List Change → Option (ByteArray × Int × Int × (List Int) × Int × Int × Int × (List Var) × (List Change))
 | [], m_1_0, m_1_1, m_1_2, m_1_3, m_2, m_3, m_5, o1, o2 =>
  some (m_1_0, m_1_1, m_1_2, m_1_3, m_2, m_3, m_5, o1, o2)
 | x :: rest, m_1_0, m_1_1, m_1_2, m_1_3, m_2, m_3, m_5, o1, o2 =>
  letT (z39 ({ vars := o1, ev := ({ On := m_1_0, Unit := m_1_1, Port := m_1_2, Head := m_1_3 } : Event), owner := m_2, fuel := m_3, out := o2, e := m_5 } : Machine)) fun v =>
  (bif v.1 then
   (g_z40 v.2 x).bind fun v1 =>
   z23_l0s g_z40 rest v1.ev.On v1.ev.Unit v1.ev.Port v1.ev.Head v1.owner v1.fuel v1.e v1.vars v1.out
  else
   z23_l0s g_z40 rest v.2.ev.On v.2.ev.Unit v.2.ev.Port v.2.ev.Head v.2.owner v.2.fuel v.2.e v.2.vars v.2.out)
theorem z23_l0_walk (g_z23 : Machine → (List Node) → Option (Machine)) (H_g_z23 : K_z23 g_z23) (g_z40 : Machine → Node → Option (Machine)) (H_g_z40 : K_z40 g_z40) (m1 : Machine) (list : List Node) (f_list : Bool) (r : Machine) (c0 : Ctx) (hc0 : c0.m.length = 3) (res : ByteArray × Int × Int × (List Int) × Int × Int × Int × (List Var) × (List Change)) (J : AX Try.prog tab z23_F c0 (Rp tab.S c0 (.tup []) [.box 71 [.own 1 1000000, .sc (.string r.ev.On), .sc (.int .i64 r.ev.Unit), .sc (.int .i64 r.ev.Port), .arr .u64 12 r.ev.Head, .sc (.int .i64 r.owner), .sc (.int .i64 r.fuel), .own 2 1000000, .sc (.int .i64 r.e)], .row 60 (List.map Var.av r.vars) 1000000 true, .row 51 (List.map Change.av r.out) 1000000 true]) (some ⟨[], [], [.box 71 [.own 1 1000000, .sc (.string res.1), .sc (.int .i64 res.2.1), .sc (.int .i64 res.2.2.1), .arr .u64 12 res.2.2.2.1, .sc (.int .i64 res.2.2.2.2.1), .sc (.int .i64 res.2.2.2.2.2.1), .own 2 1000000, .sc (.int .i64 res.2.2.2.2.2.2.1)], .row 60 (List.map Var.av res.2.2.2.2.2.2.2.1) 1000000 true, .row 51 (List.map Change.av res.2.2.2.2.2.2.2.2) 1000000 true]⟩)) :
  ∀ (rest : List Node) (t8 : Nat) (z : Int) (hI : z = ((t8 : Nat) : Int)) (hd : list.drop t8 = rest) (m_1_0 : ByteArray) (m_1_1 : Int) (m_1_2 : Int) (m_1_3 : List Int) (m_2 : Int) (m_3 : Int) (m_5 : Int) (o1 : List Var) (o2 : List Change) (H : z23_l0s g_z40 rest m_1_0 m_1_1 m_1_2 m_1_3 m_2 m_3 m_5 o1 o2 = some res), AX Try.prog tab z23_F c0 (Rp tab.S c0 (.tup []) [.box 71 [.own 1 1000000, .sc (.string r.ev.On), .sc (.int .i64 r.ev.Unit), .sc (.int .i64 r.ev.Port), .arr .u64 12 r.ev.Head, .sc (.int .i64 r.owner), .sc (.int .i64 r.fuel), .own 2 1000000, .sc (.int .i64 r.e)], .row 60 (List.map Var.av r.vars) 1000000 true, .row 51 (List.map Change.av r.out) 1000000 true]) (some ⟨[.code [1, 0, 0], .loop [1, 0], .blk 0], [(0, .ptr 0 0 none), (6, .sl 30 (List.map Node.av list) f_list), (7, .sc (.int .i64 (((List.map Node.av list).length : Nat) : Int))), (8, .sc (.int .i64 z))], [.box 71 [.own 1 1000000, .sc (.string m_1_0), .sc (.int .i64 m_1_1), .sc (.int .i64 m_1_2), .arr .u64 12 m_1_3, .sc (.int .i64 m_2), .sc (.int .i64 m_3), .own 2 1000000, .sc (.int .i64 m_5)], .row 60 (List.map Var.av o1) 1000000 true, .row 51 (List.map Change.av o2) 1000000 true]⟩) := by
 intro rest
 induction rest with
 | nil =>
  intro t8 z hI hd m_1_0 m_1_1 m_1_2 m_1_3 m_2 m_3 m_5 o1 o2 H
  subst hI
  rw [z23_l0s] at H
  refine .facts 6 fun hf => ?_
  have hlen : list.length ≤ 9223372036854775807 := by have hq := len_ok hf.2.1; rw [List.length_map] at hq; exact hq
  have hge : list.length ≤ t8 := List.drop_eq_nil_iff.1 hd
  have hc : (decide (((t8 : Nat) : Int) < (((List.map Node.av list).length : Nat) : Int))) = false := by rw [List.length_map]; exact decide_eq_false (by omega)
  refine .sg 3 [0,6,7,8,9] (.cdF hc (.sg 1 [] (.kp [] ?_)))
  obtain rfl := Option.some.inj H
  exact .to J
 | cons x rest ih =>
  intro t8 z hI hd m_1_0 m_1_1 m_1_2 m_1_3 m_2 m_3 m_5 o1 o2 H
  subst hI
  rw [z23_l0s] at H
  refine .facts 6 fun hf => ?_
  have hlen : list.length ≤ 9223372036854775807 := by have hq := len_ok hf.2.1; rw [List.length_map] at hq; exact hq
  obtain ⟨hlt, hv_t8, hd2⟩ := drop_cons hd
  have hc : (decide (((t8 : Nat) : Int) < (((List.map Node.av list).length : Nat) : Int))) = true := by rw [List.length_map]; exact decide_eq_true (by omega)
  have hw : IntKind.i64.wrap (((t8 : Nat) : Int) + 1) = ((t8 + 1 : Nat) : Int) := wrapI_succ (by omega)
  refine .sg 3 [0,6,7,8,9] (.cdT hc (.sg 4 [0,6,7,8] (.rg (.xg [0,6,7,8,10] Node.av Node.ag Node.av_eq hv_t8 (.sg 3 [0,5,6,7,8] (.dn (.sg 1 [0,5,6,7,8] (.rg (.sg 1 [0,5,6,7,8,12] (letH H fun v hv H => (.ch [0,5,6,7,8,13] [0,1,2] (z39_walk _ v hv) (.dn (.cd v.1 H (fun hb H => ?_) (fun hb H => ?_))))))))))))))
  ·
   exact .rg (.sg 2 [0,6,7,8,14,15] (bndO H fun v1 hv H => (.ch [0,6,7,8] [0,1,2] (H_g_z40 _ _ v1 hv) (.dn (.sg 2 [0,6,7,8] (.tl hc0 [0,1,2] [0,6,7,8] (.into (.cl (ih (t8 + 1) _ hw hd2 v1.ev.On v1.ev.Unit v1.ev.Port v1.ev.Head v1.owner v1.fuel v1.e v1.vars v1.out H)))))))))
  ·
   exact .sg 3 [0,6,7,8] (.tl hc0 [0,1,2] [0,6,7,8] (.into (.cl (ih (t8 + 1) _ hw hd2 v.2.ev.On v.2.ev.Unit v.2.ev.Port v.2.ev.Head v.2.owner v.2.fuel v.2.e v.2.vars v.2.out H))))
def z23_raw (g_z23 : Machine → (List Node) → Option (Machine)) (g_z40 : Machine → Node → Option (Machine)) (m1 : Machine) (list : List Node) : Option (Machine) :=
 (z23_l0s g_z40 list m1.ev.On m1.ev.Unit m1.ev.Port m1.ev.Head m1.owner m1.fuel m1.e m1.vars m1.out).bind fun v =>
 some ({ vars := v.2.2.2.2.2.2.2.1, ev := ({ On := v.1, Unit := v.2.1, Port := v.2.2.1, Head := v.2.2.2.1 } : Event), owner := v.2.2.2.2.1, fuel := v.2.2.2.2.2.1, out := v.2.2.2.2.2.2.2.2, e := v.2.2.2.2.2.2.1 } : Machine)
theorem z23_walk (g_z23 : Machine → (List Node) → Option (Machine)) (H_g_z23 : K_z23 g_z23) (g_z40 : Machine → Node → Option (Machine)) (H_g_z40 : K_z40 g_z40) (m1 : Machine) (list : List Node) (f_list : Bool) (r : Machine) (H : z23_raw g_z23 g_z40 m1 list = some r) : ACalls Try.prog tab.S 23 [.ptr 0 0 none, .sl 30 (List.map Node.av list) f_list] [.box 71 [.own 1 1000000, .sc (.string m1.ev.On), .sc (.int .i64 m1.ev.Unit), .sc (.int .i64 m1.ev.Port), .arr .u64 12 m1.ev.Head, .sc (.int .i64 m1.owner), .sc (.int .i64 m1.fuel), .own 2 1000000, .sc (.int .i64 m1.e)], .row 60 (List.map Var.av m1.vars) 1000000 true, .row 51 (List.map Change.av m1.out) 1000000 true] (.tup []) [.box 71 [.own 1 1000000, .sc (.string r.ev.On), .sc (.int .i64 r.ev.Unit), .sc (.int .i64 r.ev.Port), .arr .u64 12 r.ev.Head, .sc (.int .i64 r.owner), .sc (.int .i64 r.fuel), .own 2 1000000, .sc (.int .i64 r.e)], .row 60 (List.map Var.av r.vars) 1000000 true, .row 51 (List.map Change.av r.out) 1000000 true] := by
 refine .of_AX z23_F Try.func23 fun c0 hc0 => ?_
 rw [z23_raw] at H
 refine .sg 3 [0,6,7,8] ?_
 refine bndO H fun v hv H => (.into (.to (z23_l0_walk g_z23 H_g_z23 g_z40 H_g_z40 m1 list f_list r c0 hc0 v ?_ list 0 _ rfl rfl m1.ev.On m1.ev.Unit m1.ev.Port m1.ev.Head m1.owner m1.fuel m1.e m1.vars m1.out hv)))
 obtain rfl := Option.some.inj H
 exact .ret Try.func23 hc0 [0,1,2]
noncomputable def z40_F : Go.Sh.Fn := ⟨40, bodyOf Try.f40, 93⟩
def z40_l0 (g_z23 : Machine → (List Node) → Option (Machine)) (n : Node) : Nat → ByteArray → Int → Int → List Int → Int → Int → Int → List Var → List Change → Option (ByteArray × Int × Int × (List Int) × Int × Int × Int × (List Var) × (List Change))
 | 0, _, _, _, _, _, _, _, _, _ => none
 | m + 1, m_1_0, m_1_1, m_1_2, m_1_3, m_2, m_3, m_5, o1, o2 =>
  (ixO n.Kids 0).bind fun x3 =>
 ((exG 40000).2 ({ vars := o1, ev := ({ On := m_1_0, Unit := m_1_1, Port := m_1_2, Head := m_1_3 } : Event), owner := m_2, fuel := m_3, out := o2, e := m_5 } : Machine) x3).bind fun v5 =>
 (bif ((v5.1 != 0) && (v5.2.e == 0)) then
  (ixO n.Kids 1).bind fun x4 =>
  (g_z23 v5.2 x4.Kids).bind fun v6 =>
  z40_l0 g_z23 n m v6.ev.On v6.ev.Unit v6.ev.Port v6.ev.Head v6.owner v6.fuel v6.e v6.vars v6.out
 else
  some (v5.2.ev.On, v5.2.ev.Unit, v5.2.ev.Port, v5.2.ev.Head, v5.2.owner, v5.2.fuel, v5.2.e, v5.2.vars, v5.2.out))
theorem z40_l0_walk (q0 : Nat) (g_z23 : Machine → (List Node) → Option (Machine)) (H_g_z23 : K_z23 g_z23) (g_z40 : Machine → Node → Option (Machine)) (H_g_z40 : K_z40 g_z40) (m1 : Machine) (n : Node)  (r : Machine) (c0 : Ctx) (hc0 : c0.m.length = 3) (res : ByteArray × Int × Int × (List Int) × Int × Int × Int × (List Var) × (List Change)) (J : AX Try.prog tab z40_F c0 (Rp tab.S c0 (.tup []) [.box 71 [.own 1 1000000, .sc (.string r.ev.On), .sc (.int .i64 r.ev.Unit), .sc (.int .i64 r.ev.Port), .arr .u64 12 r.ev.Head, .sc (.int .i64 r.owner), .sc (.int .i64 r.fuel), .own 2 1000000, .sc (.int .i64 r.e)], .row 60 (List.map Var.av r.vars) 1000000 true, .row 51 (List.map Change.av r.out) 1000000 true]) (some ⟨[.blk 0], [], [.box 71 [.own 1 1000000, .sc (.string res.1), .sc (.int .i64 res.2.1), .sc (.int .i64 res.2.2.1), .arr .u64 12 res.2.2.2.1, .sc (.int .i64 res.2.2.2.2.1), .sc (.int .i64 res.2.2.2.2.2.1), .own 2 1000000, .sc (.int .i64 res.2.2.2.2.2.2.1)], .row 60 (List.map Var.av res.2.2.2.2.2.2.2.1) 1000000 true, .row 51 (List.map Change.av res.2.2.2.2.2.2.2.2) 1000000 true, .box 30 (Node.ch n)]⟩)) :
  ∀ (m : Nat) (m_1_0 : ByteArray) (m_1_1 : Int) (m_1_2 : Int) (m_1_3 : List Int) (m_2 : Int) (m_3 : Int) (m_5 : Int) (o1 : List Var) (o2 : List Change) (H : z40_l0 g_z23 n m m_1_0 m_1_1 m_1_2 m_1_3 m_2 m_3 m_5 o1 o2 = some res), AX Try.prog tab z40_F c0 (Rp tab.S c0 (.tup []) [.box 71 [.own 1 1000000, .sc (.string r.ev.On), .sc (.int .i64 r.ev.Unit), .sc (.int .i64 r.ev.Port), .arr .u64 12 r.ev.Head, .sc (.int .i64 r.owner), .sc (.int .i64 r.fuel), .own 2 1000000, .sc (.int .i64 r.e)], .row 60 (List.map Var.av r.vars) 1000000 true, .row 51 (List.map Change.av r.out) 1000000 true]) (some ⟨[.code [1, 1, 0, 1, 1, 1, 1, 1, 1, 1, 0, 0, 0], .loop [1, 1, 0, 1, 1, 1, 1, 1, 1, 1, 0, 0], .blk 1, .blk 0], [(0, .ptr 0 0 none), (3, .ptr 3 0 none)], [.box 71 [.own 1 1000000, .sc (.string m_1_0), .sc (.int .i64 m_1_1), .sc (.int .i64 m_1_2), .arr .u64 12 m_1_3, .sc (.int .i64 m_2), .sc (.int .i64 m_3), .own 2 1000000, .sc (.int .i64 m_5)], .row 60 (List.map Var.av o1) 1000000 true, .row 51 (List.map Change.av o2) 1000000 true, .box 30 (Node.ch n)]⟩) := by
 intro m
 induction m with
 | zero => intro m_1_0 m_1_1 m_1_2 m_1_3 m_2 m_3 m_5 o1 o2 H; cases H
 | succ m ih =>
  intro m_1_0 m_1_1 m_1_2 m_1_3 m_2 m_3 m_5 o1 o2 H
  rw [z40_l0] at H
  refine .sg 2 [0,3] (.rg (.sg 3 [0,3,53,55] (bndO H fun x3 hv H => (.xg [0,3,53,56] Node.av Node.ag Node.av_eq hv (.sg 1 [0,3,53,57] (bndO H fun v5 hv H => (.ch [0,3,58] [0,1,2] ((exG_walk 40000).2 _ _ v5 hv) (.sg 2 [0,3,60] (.mx 0 [0,3,66] (.dn (.cd ((v5.1 != 0) && (v5.2.e == 0)) H (fun hb H => ?_) (fun hb H => ?_))))))))))))
  ·
   exact .sg 2 [0,3] (.rg (.sg 3 [0,3,67,69] (bndO H fun x4 hv H => (.xg [0,3,67,70] Node.av Node.ag Node.av_eq hv (.sg 2 [0,3,67,72] (bndO H fun v6 hv H => (.ch [0,3] [0,1,2] (H_g_z23 _ _ false v6 hv) (.dn (.sg 1 [0,3] (.tl hc0 [0,1,2,3] [0,3] (.into (.to (ih v6.ev.On v6.ev.Unit v6.ev.Port v6.ev.Head v6.owner v6.fuel v6.e v6.vars v6.out H)))))))))))))
  ·
   refine .sg 1 [] (.tl hc0 [0,1,2,3] [] ?_)
   obtain rfl := Option.some.inj H
   exact .to J
def z40_raw (q0 : Nat) (g_z23 : Machine → (List Node) → Option (Machine)) (g_z40 : Machine → Node → Option (Machine)) (m1 : Machine) (n : Node) : Option (Machine) :=
 (bif (n.Kind == 7) then
  (g_z23 m1 n.Kids).bind fun v =>
  some v
 else
  (bif (n.Kind == 4) then
   (z59_raw m1 n).bind fun v1 =>
   some v1
  else
   (bif (n.Kind == 5) then
    (ixO n.Kids 0).bind fun x =>
    ((exG 40000).2 m1 x).bind fun v2 =>
    (bif (v2.1 != 0) then
     (ixO n.Kids 1).bind fun x1 =>
     (g_z23 v2.2 x1.Kids).bind fun v3 =>
     some v3
    else
     (bif ((decide ((((List.map Node.av n.Kids).length : Nat) : Int) > 2)) && (v2.2.e == 0)) then
      (ixO n.Kids 2).bind fun x2 =>
      (g_z23 v2.2 x2.Kids).bind fun v4 =>
      some v4
     else
      some v2.2))
   else
    (bif (n.Kind == 6) then
     (z40_l0 g_z23 n q0 m1.ev.On m1.ev.Unit m1.ev.Port m1.ev.Head m1.owner m1.fuel m1.e m1.vars m1.out).bind fun v5 =>
     some ({ vars := v5.2.2.2.2.2.2.2.1, ev := ({ On := v5.1, Unit := v5.2.1, Port := v5.2.2.1, Head := v5.2.2.2.1 } : Event), owner := v5.2.2.2.2.1, fuel := v5.2.2.2.2.2.1, out := v5.2.2.2.2.2.2.2.2, e := v5.2.2.2.2.2.2.1 } : Machine)
    else
     (bif (n.Kind == 8) then
      (z61_raw m1 n).bind fun v6 =>
      some v6
     else
      (bif (n.Kind == 9) then
       (z62_raw m1 n 3 5).bind fun v7 =>
       some v7
      else
       (bif (n.Kind == 10) then
        (z62_raw m1 n 2 4).bind fun v8 =>
        some v8
       else
        (bif (n.Kind == 11) then
         letT (z63 m1 16) fun v9 =>
         some v9
        else
         some m1))))))))
theorem z40_walk (q0 : Nat) (g_z23 : Machine → (List Node) → Option (Machine)) (H_g_z23 : K_z23 g_z23) (g_z40 : Machine → Node → Option (Machine)) (H_g_z40 : K_z40 g_z40) (m1 : Machine) (n : Node) (r : Machine) (H : z40_raw q0 g_z23 g_z40 m1 n = some r) : ACalls Try.prog tab.S 40 [.ptr 0 0 none, Node.ag n] [.box 71 [.own 1 1000000, .sc (.string m1.ev.On), .sc (.int .i64 m1.ev.Unit), .sc (.int .i64 m1.ev.Port), .arr .u64 12 m1.ev.Head, .sc (.int .i64 m1.owner), .sc (.int .i64 m1.fuel), .own 2 1000000, .sc (.int .i64 m1.e)], .row 60 (List.map Var.av m1.vars) 1000000 true, .row 51 (List.map Change.av m1.out) 1000000 true] (.tup []) [.box 71 [.own 1 1000000, .sc (.string r.ev.On), .sc (.int .i64 r.ev.Unit), .sc (.int .i64 r.ev.Port), .arr .u64 12 r.ev.Head, .sc (.int .i64 r.owner), .sc (.int .i64 r.fuel), .own 2 1000000, .sc (.int .i64 r.e)], .row 60 (List.map Var.av r.vars) 1000000 true, .row 51 (List.map Change.av r.out) 1000000 true] := by
 refine .of_AX z40_F Try.func40 fun c0 hc0 => ?_
 rw [z40_raw] at H
 refine .sg 7 [0,3,5,6] (.cd (n.Kind == 7) H (fun hb H => ?_) (fun hb H => ?_))
 ·
  refine .rg (.sg 3 [8,10] (bndO H fun v hv H => (.ch [] [0,1,2] (H_g_z23 _ _ false v hv) (.dn (.sg 1 [] ?_)))))
  obtain rfl := Option.some.inj H
  exact .ret Try.func40 hc0 [0,1,2]
 ·
  refine .sg 2 [0,3,5,12] (.cd (n.Kind == 4) H (fun hb H => ?_) (fun hb H => ?_))
  ·
   refine .rg (.sg 2 [14,15] (bndO H fun v1 hv H => (.ch [] [0,1,2] (z59_walk _ _ v1 hv) (.dn (.sg 1 [] ?_)))))
   obtain rfl := Option.some.inj H
   exact .ret Try.func40 hc0 [0,1,2]
  ·
   refine .sg 2 [0,3,5,17] (.cd (n.Kind == 5) H (fun hb H => ?_) (fun hb H => ?_))
   ·
    refine .sg 1 [0,3] (.rg (.sg 3 [0,3,19,21] (bndO H fun x hv H => (.xg [0,3,19,22] Node.av Node.ag Node.av_eq hv (.sg 1 [0,3,19,23] (bndO H fun v2 hv H => (.ch [0,3,24] [0,1,2] ((exG_walk 40000).2 _ _ v2 hv) (.sg 1 [0,3,25] (.dn (.cd (v2.1 != 0) H (fun hb H => ?_) (fun hb H => ?_)))))))))))
    ·
     refine .rg (.sg 3 [26,28] (bndO H fun x1 hv H => (.xg [26,29] Node.av Node.ag Node.av_eq hv (.sg 2 [26,31] (bndO H fun v3 hv H => (.ch [] [0,1,2] (H_g_z23 _ _ false v3 hv) (.dn (.sg 1 [] ?_))))))))
     obtain rfl := Option.some.inj H
     exact .ret Try.func40 hc0 [0,1,2]
    ·
     refine .sg 1 [0,3] (.rg (.sg 5 [0,3,37] (.mx 0 [0,3,43] (.dn (.cd ((decide ((((List.map Node.av n.Kids).length : Nat) : Int) > 2)) && (v2.2.e == 0)) H (fun hb H => ?_) (fun hb H => ?_))))))
     ·
      refine .rg (.sg 3 [44,46] (bndO H fun x2 hv H => (.xg [44,47] Node.av Node.ag Node.av_eq hv (.sg 2 [44,49] (bndO H fun v4 hv H => (.ch [] [0,1,2] (H_g_z23 _ _ false v4 hv) (.dn (.sg 1 [] ?_))))))))
      obtain rfl := Option.some.inj H
      exact .ret Try.func40 hc0 [0,1,2]
     ·
      refine .sg 2 [] ?_
      obtain rfl := Option.some.inj H
      exact .ret Try.func40 hc0 [0,1,2]
   ·
    refine .sg 2 [0,3,5,51] (.cd (n.Kind == 6) H (fun hb H => ?_) (fun hb H => ?_))
    ·
     refine .sg 1 [0,3] ?_
     refine bndO H fun v5 hv H => (.into (.to (z40_l0_walk q0 g_z23 H_g_z23 g_z40 H_g_z40 m1 n r c0 hc0 v5 ?_ q0 m1.ev.On m1.ev.Unit m1.ev.Port m1.ev.Head m1.owner m1.fuel m1.e m1.vars m1.out hv)))
     refine .sg 1 [] ?_
     obtain rfl := Option.some.inj H
     exact .ret Try.func40 hc0 [0,1,2]
    ·
     refine .sg 2 [0,3,5,74] (.cd (n.Kind == 8) H (fun hb H => ?_) (fun hb H => ?_))
     ·
      refine .rg (.sg 2 [76,77] (bndO H fun v6 hv H => (.ch [] [0,1,2] (z61_walk _ _ v6 hv) (.dn (.sg 1 [] ?_)))))
      obtain rfl := Option.some.inj H
      exact .ret Try.func40 hc0 [0,1,2]
     ·
      refine .sg 2 [0,3,5,79] (.cd (n.Kind == 9) H (fun hb H => ?_) (fun hb H => ?_))
      ·
       refine .rg (.sg 2 [81,82] (bndO H fun v7 hv H => (.ch [] [0,1,2] (z62_walk _ _ _ _ v7 hv) (.dn (.sg 1 [] ?_)))))
       obtain rfl := Option.some.inj H
       exact .ret Try.func40 hc0 [0,1,2]
      ·
       refine .sg 2 [0,3,5,84] (.cd (n.Kind == 10) H (fun hb H => ?_) (fun hb H => ?_))
       ·
        refine .rg (.sg 2 [86,87] (bndO H fun v8 hv H => (.ch [] [0,1,2] (z62_walk _ _ _ _ v8 hv) (.dn (.sg 1 [] ?_)))))
        obtain rfl := Option.some.inj H
        exact .ret Try.func40 hc0 [0,1,2]
       ·
        refine .sg 2 [0,89] (.cd (n.Kind == 11) H (fun hb H => ?_) (fun hb H => ?_))
        ·
         refine .rg (.sg 1 [91] (letH H fun v9 hv H => (.ch [] [0,1,2] (z63_walk _ _ v9 hv) (.dn (.sg 1 [] ?_)))))
         obtain rfl := Option.some.inj H
         exact .ret Try.func40 hc0 [0,1,2]
        ·
         refine .sg 2 [] ?_
         obtain rfl := Option.some.inj H
         exact .ret Try.func40 hc0 [0,1,2]
def stG : Nat → (Machine → (List Node) → Option (Machine)) × (Machine → Node → Option (Machine))
 | 0 => (fun _ _ => none, fun _ _ => none)
 | q + 1 => (z23_raw (stG q).1 (stG q).2, z40_raw 200000 (stG q).1 (stG q).2)
theorem stG_walk : ∀ q : Nat, K_z23 ((stG q).1) ∧ K_z40 ((stG q).2)
 | 0 => ⟨(fun _ _ _ _ H => nomatch H), (fun _ _ _ H => nomatch H)⟩
 | q + 1 => ⟨z23_walk (stG q).1 (stG_walk q).1 (stG q).2 (stG_walk q).2, z40_walk 200000 (stG q).1 (stG_walk q).1 (stG q).2 (stG_walk q).2⟩
end Go.Proofs.Yteioljlgcagnnaa
namespace Go.Proofs.Yteioljlgcagnnaa
open Go.Sh
noncomputable def z17_F : Go.Sh.Fn := ⟨17, bodyOf Try.f17, 26⟩
def z17_l0s : List Node → List Var → Option ((List Var))
 | [], out =>
  some out
 | x :: rest, out =>
  (bif (x.Kind == 2) then
   fitO (out.length + [({ Name := x.Text, N := x.Num } : Var)].length) 24 (
   z17_l0s rest (out ++ [({ Name := x.Text, N := x.Num } : Var)]))
  else
   z17_l0s rest out)
theorem z17_l0_walk (n : Node) (r : (List Var)) (c0 : Ctx) (hc0 : c0.m.length = 0) (res : (List Var)) (J : AX Try.prog tab z17_F c0 (Rp tab.S c0 (.sl 60 (List.map Var.av r) false) []) (some ⟨[.code [1, 1, 1]], [(3, .own 1 1000000)], [.box 30 (Node.ch n), .row 60 (List.map Var.av res) 1000000 true]⟩)) :
  ∀ (rest : List Node) (t9 : Nat) (z : Int) (hI : z = ((t9 : Nat) : Int)) (hd : n.Kids.drop t9 = rest) (out : List Var) (H : z17_l0s rest out = some res), AX Try.prog tab z17_F c0 (Rp tab.S c0 (.sl 60 (List.map Var.av r) false) []) (some ⟨[.code [1, 1, 0, 1, 0, 0], .loop [1, 1, 0, 1, 0], .blk 0, .code [1, 1, 1]], [(3, .own 1 1000000), (7, .sl 30 (List.map Node.av n.Kids) false), (8, .sc (.int .i64 (((List.map Node.av n.Kids).length : Nat) : Int))), (9, .sc (.int .i64 z))], [.box 30 (Node.ch n), .row 60 (List.map Var.av out) 1000000 true]⟩) := by
 intro rest
 induction rest with
 | nil =>
  intro t9 z hI hd out H
  subst hI
  rw [z17_l0s] at H
  refine .facts 7 fun hf => ?_
  have hlen : n.Kids.length ≤ 9223372036854775807 := by have hq := len_ok hf.2.1; rw [List.length_map] at hq; exact hq
  have hge : n.Kids.length ≤ t9 := List.drop_eq_nil_iff.1 hd
  have hc : (decide (((t9 : Nat) : Int) < (((List.map Node.av n.Kids).length : Nat) : Int))) = false := by rw [List.length_map]; exact decide_eq_false (by omega)
  refine .sg 3 [3,7,8,9,10] (.cdF hc (.sg 1 [3] (.kp [3] ?_)))
  obtain rfl := Option.some.inj H
  exact .to J
 | cons x rest ih =>
  intro t9 z hI hd out H
  subst hI
  rw [z17_l0s] at H
  refine .facts 7 fun hf => ?_
  have hlen : n.Kids.length ≤ 9223372036854775807 := by have hq := len_ok hf.2.1; rw [List.length_map] at hq; exact hq
  obtain ⟨hlt, hv_t9, hd2⟩ := drop_cons hd
  have hc : (decide (((t9 : Nat) : Int) < (((List.map Node.av n.Kids).length : Nat) : Int))) = true := by rw [List.length_map]; exact decide_eq_true (by omega)
  have hw : IntKind.i64.wrap (((t9 : Nat) : Int) + 1) = ((t9 + 1 : Nat) : Int) := wrapI_succ (by omega)
  refine .sg 3 [3,7,8,9,10] (.cdT hc (.sg 4 [3,7,8,9] (.rg (.xg [3,7,8,9,11] Node.av Node.ag Node.av_eq hv_t9 (.sg 3 [3,5,7,8,9] (.dn (.sg 2 [3,5,7,8,9,15] (.cd (x.Kind == 2) H (fun hb H => ?_) (fun hb H => ?_)))))))))
  ·
   exact .rg (.sg 7 [7,8,9,16,22] (fitH H fun hfit H => (.ap [7,8,9,23] Var.av hfit (.sg 1 [3,7,8,9] (.dn (.sg 2 [3,7,8,9] (.tl hc0 [0,1] [3,7,8,9] (.into (.cl (ih (t9 + 1) _ hw hd2 (out ++ [({ Name := x.Text, N := x.Num } : Var)]) H))))))))))
  ·
   exact .sg 3 [3,7,8,9] (.tl hc0 [0,1] [3,7,8,9] (.into (.cl (ih (t9 + 1) _ hw hd2 out H))))
def z17_raw (n : Node) : Option ((List Var)) :=
 (z17_l0s n.Kids ([] : List Var)).bind fun v =>
 some v
theorem z17_walk (n : Node) (r : (List Var)) (H : z17_raw n = some r) : ACalls Try.prog tab.S 17 [Node.ag n] [] (.sl 60 (List.map Var.av r) false) [] := by
 refine .of_AX z17_F Try.func17 fun c0 hc0 => ?_
 rw [z17_raw] at H
 refine .sg 8 [3,7,8,9] (.ad 3 60 true (.kp [3,7,8,9] ?_))
 refine bndO H fun v hv H => (.into (.to (z17_l0_walk n r c0 hc0 v ?_ n.Kids 0 _ rfl rfl ([] : List Var) hv)))
 refine .sg 2 [2] ?_
 obtain rfl := Option.some.inj H
 exact .ret Try.func17 hc0
noncomputable def eval_Run_F : Go.Sh.Fn := ⟨13, bodyOf Try.f13, 64⟩
def eval_Run_l0s (vars : List Var) (ev : Event) (owner : Int) (fuel : Int) : List Node → List Var → ByteArray → Int → Int → List Int → Int → Int → Int → List Change → Option ((List Var) × ByteArray × Int × Int × (List Int) × Int × Int × Int × (List Change))
 | [], o0, m_1_0, m_1_1, m_1_2, m_1_3, m_2, m_3, m_5, o2 =>
  some (o0, m_1_0, m_1_1, m_1_2, m_1_3, m_2, m_3, m_5, o2)
 | x :: rest, o0, m_1_0, m_1_1, m_1_2, m_1_3, m_2, m_3, m_5, o2 =>
  (bif ((x.Kind == 3) && (x.Text == ev.On)) then
   ((stG 400).1 ({ vars := o0, ev := ({ On := m_1_0, Unit := m_1_1, Port := m_1_2, Head := m_1_3 } : Event), owner := m_2, fuel := m_3, out := o2, e := m_5 } : Machine) x.Kids).bind fun v1 =>
   eval_Run_l0s vars ev owner fuel rest v1.vars v1.ev.On v1.ev.Unit v1.ev.Port v1.ev.Head v1.owner v1.fuel v1.e v1.out
  else
   eval_Run_l0s vars ev owner fuel rest o0 m_1_0 m_1_1 m_1_2 m_1_3 m_2 m_3 m_5 o2)
theorem eval_Run_l0_walk (n : Node) (vars : List Var) (ev : Event) (owner : Int) (fuel : Int) (v : List Var) (f_vars : Bool) (r : (List Var) × (List Change) × Int) (c0 : Ctx) (hc0 : c0.m.length = 0) (res : (List Var) × ByteArray × Int × Int × (List Int) × Int × Int × Int × (List Change)) (J : AX Try.prog tab eval_Run_F c0 (Rp tab.S c0 (.tup [.own 0 1000000, .own 1 1000000, .sc (.int .i64 r.2.2)]) [.row 60 (List.map Var.av r.1) 1000000 true, .row 51 (List.map Change.av r.2.1) 1000000 true]) (some ⟨[.code [1, 1, 1]], [(13, .ptr 1 0 none)], [.row 60 (List.map Var.av res.1) 1000000 true, .box 71 [.own 0 1000000, .sc (.string res.2.1), .sc (.int .i64 res.2.2.1), .sc (.int .i64 res.2.2.2.1), .arr .u64 12 res.2.2.2.2.1, .sc (.int .i64 res.2.2.2.2.2.1), .sc (.int .i64 res.2.2.2.2.2.2.1), .own 2 1000000, .sc (.int .i64 res.2.2.2.2.2.2.2.1)], .row 51 (List.map Change.av res.2.2.2.2.2.2.2.2) 1000000 true]⟩)) :
  ∀ (rest : List Node) (t28 : Nat) (z : Int) (hI : z = ((t28 : Nat) : Int)) (hd : n.Kids.drop t28 = rest) (o0 : List Var) (m_1_0 : ByteArray) (m_1_1 : Int) (m_1_2 : Int) (m_1_3 : List Int) (m_2 : Int) (m_3 : Int) (m_5 : Int) (o2 : List Change) (H : eval_Run_l0s vars ev owner fuel rest o0 m_1_0 m_1_1 m_1_2 m_1_3 m_2 m_3 m_5 o2 = some res), AX Try.prog tab eval_Run_F c0 (Rp tab.S c0 (.tup [.own 0 1000000, .own 1 1000000, .sc (.int .i64 r.2.2)]) [.row 60 (List.map Var.av r.1) 1000000 true, .row 51 (List.map Change.av r.2.1) 1000000 true]) (some ⟨[.code [1, 1, 0, 1, 0, 0], .loop [1, 1, 0, 1, 0], .blk 0, .code [1, 1, 1]], [(7, .ep [.sc (.string ev.On), .sc (.int .i64 ev.Unit), .sc (.int .i64 ev.Port), .arr .u64 12 ev.Head] 0 none), (13, .ptr 1 0 none), (26, .sl 30 (List.map Node.av n.Kids) false), (27, .sc (.int .i64 (((List.map Node.av n.Kids).length : Nat) : Int))), (28, .sc (.int .i64 z))], [.row 60 (List.map Var.av o0) 1000000 true, .box 71 [.own 0 1000000, .sc (.string m_1_0), .sc (.int .i64 m_1_1), .sc (.int .i64 m_1_2), .arr .u64 12 m_1_3, .sc (.int .i64 m_2), .sc (.int .i64 m_3), .own 2 1000000, .sc (.int .i64 m_5)], .row 51 (List.map Change.av o2) 1000000 true]⟩) := by
 intro rest
 induction rest with
 | nil =>
  intro t28 z hI hd o0 m_1_0 m_1_1 m_1_2 m_1_3 m_2 m_3 m_5 o2 H
  subst hI
  rw [eval_Run_l0s] at H
  refine .facts 26 fun hf => ?_
  have hlen : n.Kids.length ≤ 9223372036854775807 := by have hq := len_ok hf.2.1; rw [List.length_map] at hq; exact hq
  have hge : n.Kids.length ≤ t28 := List.drop_eq_nil_iff.1 hd
  have hc : (decide (((t28 : Nat) : Int) < (((List.map Node.av n.Kids).length : Nat) : Int))) = false := by rw [List.length_map]; exact decide_eq_false (by omega)
  refine .sg 3 [7,13,26,27,28,29] (.cdF hc (.sg 1 [13] (.kp [13] ?_)))
  obtain rfl := Option.some.inj H
  exact .to J
 | cons x rest ih =>
  intro t28 z hI hd o0 m_1_0 m_1_1 m_1_2 m_1_3 m_2 m_3 m_5 o2 H
  subst hI
  rw [eval_Run_l0s] at H
  refine .facts 26 fun hf => ?_
  have hlen : n.Kids.length ≤ 9223372036854775807 := by have hq := len_ok hf.2.1; rw [List.length_map] at hq; exact hq
  obtain ⟨hlt, hv_t28, hd2⟩ := drop_cons hd
  have hc : (decide (((t28 : Nat) : Int) < (((List.map Node.av n.Kids).length : Nat) : Int))) = true := by rw [List.length_map]; exact decide_eq_true (by omega)
  have hw : IntKind.i64.wrap (((t28 : Nat) : Int) + 1) = ((t28 + 1 : Nat) : Int) := wrapI_succ (by omega)
  refine .sg 3 [7,13,26,27,28,29] (.cdT hc (.sg 4 [7,13,26,27,28] (.rg (.xg [7,13,26,27,28,30] Node.av Node.ag Node.av_eq hv_t28 (.sg 3 [7,13,15,26,27,28] (.dn (.sg 1 [7,13,15,26,27,28] (.rg (.sg 4 [7,13,15,26,27,28,35] (.mx 0 [7,13,15,26,27,28,41] (.dn (.cd ((x.Kind == 3) && (x.Text == ev.On)) H (fun hb H => ?_) (fun hb H => ?_)))))))))))))
  ·
   exact .rg (.sg 3 [7,13,26,27,28,42,44] (bndO H fun v1 hv H => (.ch [7,13,26,27,28] [1,0,2] ((stG_walk 400).1 _ _ false v1 hv) (.dn (.sg 2 [7,13,26,27,28] (.tl hc0 [0,1,2] [7,13,26,27,28] (.into (.cl (ih (t28 + 1) _ hw hd2 v1.vars v1.ev.On v1.ev.Unit v1.ev.Port v1.ev.Head v1.owner v1.fuel v1.e v1.out H)))))))))
  ·
   exact .sg 3 [7,13,26,27,28] (.tl hc0 [0,1,2] [7,13,26,27,28] (.into (.cl (ih (t28 + 1) _ hw hd2 o0 m_1_0 m_1_1 m_1_2 m_1_3 m_2 m_3 m_5 o2 H))))
def eval_Run_raw (n : Node) (vars : List Var) (ev : Event) (owner : Int) (fuel : Int) : Option ((List Var) × (List Change) × Int) :=
 letT (id vars) fun v =>
 (eval_Run_l0s vars ev owner fuel n.Kids v ev.On ev.Unit ev.Port ev.Head owner (if 100000 < (if 0 > fuel then 0 else fuel) then 100000 else (if 0 > fuel then 0 else fuel)) 0 ([] : List Change)).bind fun v1 =>
 (bif (v1.2.2.2.2.2.2.2.1 != 0) then
  some (([] : List Var), ([] : List Change), v1.2.2.2.2.2.2.2.1)
 else
  some (v1.1, v1.2.2.2.2.2.2.2.2, 0))
theorem eval_Run_walk (n : Node) (vars : List Var) (ev : Event) (owner : Int) (fuel : Int) (f_vars : Bool) (r : (List Var) × (List Change) × Int) (H : eval_Run_raw n vars ev owner fuel = some r) : ACalls Try.prog tab.S 13 [Node.ag n, .sl 60 (List.map Var.av vars) f_vars, Event.av ev, .sc (.int .i64 owner), .sc (.int .i64 fuel)] [] (.tup [.own 0 1000000, .own 1 1000000, .sc (.int .i64 r.2.2)]) [.row 60 (List.map Var.av r.1) 1000000 true, .row 51 (List.map Change.av r.2.1) 1000000 true] := by
 refine .of_AX eval_Run_F Try.func13 fun c0 hc0 => ?_
 rw [eval_Run_raw] at H
 refine .sg 1 [0,1,2,3,4] (.rg (.bx [1,2,3,4,5] (.bx [1,3,4,5,7] (.sg 3 [1,3,4,5,7] (.dn (.sg 1 [1,3,4,5,7] (.rg (.sg 1 [3,4,5,7,16] (letH H fun v hv H => (.ch [3,4,5,7,17] [] (z22_own _ f_vars v hv) (.sg 8 [5,7,13] (.dn (.sg 2 [5,7,13] (.adb 1 7 51 (.sg 2 [7,13,26,27,28] ?_)))))))))))))))
 refine bndO H fun v1 hv H => (.into (.to (eval_Run_l0_walk n vars ev owner fuel v f_vars r c0 hc0 v1 ?_ n.Kids 0 _ rfl rfl v ev.On ev.Unit ev.Port ev.Head owner (if 100000 < (if 0 > fuel then 0 else fuel) then 100000 else (if 0 > fuel then 0 else fuel)) 0 ([] : List Change) hv)))
 refine .sg 3 [13,51] (.cd (v1.2.2.2.2.2.2.2.1 != 0) H (fun hb H => ?_) (fun hb H => ?_))
 ·
  refine .sg 2 [10,11,12] (.ad 10 60 true (.ad 11 51 true ?_))
  obtain rfl := Option.some.inj H
  exact .ret Try.func13 hc0 [3,4]
 ·
  refine .sg 3 [10,11,12] ?_
  obtain rfl := Option.some.inj H
  exact .ret Try.func13 hc0 [0,2]
end Go.Proofs.Yteioljlgcagnnaa
namespace Go.Proofs.Yteioljlgcagnnaa
open Go.Sh
noncomputable def z11_F : Go.Sh.Fn := ⟨11, bodyOf Try.f11, 50⟩
def z11_raw : Option (Bool) :=
 (z20_raw 20000 (ByteArray.mk #[118, 97, 114, 32, 120, 32, 61, 32, 49, 59, 32, 111, 110, 32, 116, 105, 99, 107, 32, 123, 32, 120, 32, 61, 32, 120, 32, 43, 32, 49, 59, 32, 125])).bind fun x =>
 (z17_raw  x.1).bind fun x1 =>
 (eval_Run_raw x.1 x1 ({ On := (ByteArray.mk #[116, 105, 99, 107]), Unit := 0, Port := 0, Head := [0, 0, 0, 0, 0, 0, 0, 0, 0, 0, 0, 0] } : Event) 1 100).bind fun v =>
 (bif ((((x.2.E == 0) && (v.2.2 == 0)) && ((((List.map Change.av v.2.1).length : Nat) : Int) == 0)) && ((((List.map Var.av v.1).length : Nat) : Int) == 1)) then
  (ixO v.1 0).bind fun x2 =>
  some ((x2.N == 2) && (x2.Name == (ByteArray.mk #[120])))
 else
  some false)
theorem z11_walk (r : Bool) (H : z11_raw = some r) : ACalls Try.prog tab.S 11 [] [] (.sc (.bool r)) [] := by
 refine .of_AX z11_F Try.func11 fun c0 hc0 => ?_
 rw [z11_raw] at H
 refine .sg 3 [] (.rg (bndO H fun x hv H => (.cp [7] ((z20_walk 20000) _ x hv) (.sg 7 [1,2] (.dn (.sg 1 [1,2] (.rg (.sg 2 [2,11,12] (bndO H fun x1 hv H => (.cp [2,11,13] ((z17_walk ) _ x1 hv) (.sg 1 [2,11,13,14] (bndO H fun v hv H => (.ch [2,15] [] (eval_Run_walk _ _ _ _ _ false v hv) (.sg 7 [2,3,4,5] (.dn (.sg 1 [2,3,4,5] (.rg (.sg 4 [3,4,5,22] (.mx 0 [3,4,25] (.sg 1 [3,4,26] (.mx 0 [3,30] (.sg 1 [3,31] (.mx 0 [3,35] (.sg 1 [3,36] (.sp 36 ((((x.2.E == 0) && (v.2.2 == 0)) && ((((List.map Change.av v.2.1).length : Nat) : Int) == 0)) && ((((List.map Var.av v.1).length : Nat) : Int) == 1)) H (fun hb H => ?_) (fun hb H => ?_))))))))))))))))))))))))))
 ·
  refine .sg 1 [3,36,37] (bndO H fun x2 hv_x2 H => (.xo [3,36,38] (ixO_req hv_x2 Var.av) (.sg 1 [3,36,39] (.lo [3,36,40] (ixO_map hv_x2 Var.av).2 (.sg 3 [3,43] (.mm 43 (x2.N == 2) 6 [.pure, .pure, .read, .read, .read, .pure] [49] 49 (fun z => .sc (.bool (z && (x2.Name == (ByteArray.mk #[120]))))) ?J4 (fun hb J => ?ht4) (fun hb J => ?hf4)))))))
  case ht4 =>
   exact .sg 1 [43,44] (.xo [43,45] (ixO_req hv_x2 Var.av) (.sg 1 [43,46] (.lo [43,47] (ixO_map hv_x2 Var.av).2 (.sg 2 [49] (.cl J)))))
  case hf4 =>
   exact .sg 6 [49] (.cl J)
  refine .sg 1 [0] (.dn ?_)
  obtain rfl := Option.some.inj H
  exact .ret Try.func11 hc0
 ·
  refine .sg 14 [0] (.dn ?_)
  obtain rfl := Option.some.inj H
  exact .ret Try.func11 hc0
theorem z11_ok : ACalls Try.prog tab.S 11 [] [] (.sc (.bool true)) [] := z11_walk true (by kernel_rfl)
end Go.Proofs.Yteioljlgcagnnaa
namespace Go.Proofs.Yteioljlgcagnnaa
open Go.Sh
abbrev bl (s : ByteArray) : List UInt8 := s.data.toList
def lLet (c : UInt8) : Bool := z47 ((c.toNat : Nat) : Int)
def lDig (c : UInt8) : Bool := z48 ((c.toNat : Nat) : Int)
def lWs (c : UInt8) : Bool := (((((c.toNat : Nat) : Int) == 32) || (((c.toNat : Nat) : Int) == 9)) || (((c.toNat : Nat) : Int) == 10)) || (((c.toNat : Nat) : Int) == 13)
def lIn (c d : UInt8) : Bool := lDig d || (lLet c && lLet d)
def lSign (l : List UInt8) : Option (List UInt8) := (z51.map bl).find? fun g => g.isPrefixOf l
def lexT : Nat → List UInt8 → Nat → List Token → Option (Sum (List Token) (List Token × Fault))
 | 0, _, _, _ => none
 | m + 1, l, i, out =>
  match l with
  | [] => some (.inl out)
  | c :: l' =>
   bif lWs c then lexT m l' (i + 1) out
   else bif ((c.toNat : Nat) : Int) == 35 then lexT m ((c :: l').dropWhile fun d => ((d.toNat : Nat) : Int) != 10) (i + ((c :: l').takeWhile fun d => ((d.toNat : Nat) : Int) != 10).length) out
   else bif lLet c || lDig c then
    (z49_raw 20000 ⟨((c :: l').takeWhile (lIn c)).toArray⟩).bind fun x1 =>
    (bif !x1 then
     (z50_raw 20000 ⟨((c :: l').takeWhile (lIn c)).toArray⟩).bind fun x2 =>
     (bif !x2 then some (.inr ([], ({ E := 15, At := i } : Fault)))
     else lexT m ((c :: l').dropWhile (lIn c)) (i + ((c :: l').takeWhile (lIn c)).length) (out ++ [({ Text := ⟨((c :: l').takeWhile (lIn c)).toArray⟩, At := i } : Token)]))
    else lexT m ((c :: l').dropWhile (lIn c)) (i + ((c :: l').takeWhile (lIn c)).length) (out ++ [({ Text := ⟨((c :: l').takeWhile (lIn c)).toArray⟩, At := i } : Token)]))
   else
    match lSign (c :: l') with
    | none => some (.inr ([], ({ E := 15, At := i } : Fault)))
    | some g => lexT m ((c :: l').drop g.length) (i + g.length) (out ++ [({ Text := ⟨g.toArray⟩, At := i } : Token)])
theorem bl_size (s : ByteArray) : s.size = (bl s).length := by
 show s.data.size = s.data.toList.length
 rw [Array.length_toList]
theorem drop_cons' {α : Type} {l l' : List α} {i : Nat} {c : α} (h : l.drop i = c :: l') : i < l.length ∧ l[i]? = some c ∧ l.drop (i + 1) = l' := by
 have h1 : i < l.length := by
  rcases Nat.lt_or_ge i l.length with h1 | h1
  ·exact h1
  ·rw [List.drop_eq_nil_of_le h1] at h; cases h
 refine ⟨h1, ?_, ?_⟩
 ·have := congrArg List.head? h
  rw [List.head?_drop] at this
  exact this
 ·have := congrArg List.tail h
  rw [List.tail_drop] at this
  exact this
theorem byteAt_drop {s : ByteArray} {l' : List UInt8} {i : Nat} {c : UInt8} (h : (bl s).drop i = c :: l') : byteAt s ((i : Nat) : Int) = ((c.toNat : Nat) : Int) := by
 unfold byteAt
 rw [Int.toNat_natCast, List.getD_eq_getElem?_getD, (drop_cons' h).2.1]
 rfl
theorem lt_drop {s : ByteArray} {l' : List UInt8} {i : Nat} {c : UInt8} (h : (bl s).drop i = c :: l') : (decide (((i : Nat) : Int) < ((s.size : Nat) : Int))) = true := by
 have := (drop_cons' h).1
 rw [bl_size]
 exact decide_eq_true (by omega)
theorem req_drop {α : Type} {s : ByteArray} {l' : List UInt8} {i : Nat} {c : UInt8} (h : (bl s).drop i = c :: l') (r : Option α) : reqO (decide (0 ≤ ((i : Nat) : Int)) && decide (((i : Nat) : Int) < ((s.size : Nat) : Int))) r = r := by
 rw [lt_drop h, decide_eq_true (show (0 : Int) ≤ ((i : Nat) : Int) by omega)]
 rfl
theorem ge_drop {s : ByteArray} {i : Nat} (h : (bl s).drop i = []) : (decide (((i : Nat) : Int) < ((s.size : Nat) : Int))) = false := by
 have := List.drop_eq_nil_iff.1 h
 rw [bl_size]
 exact decide_eq_false (by omega)
theorem wrapN {n : Nat} (h : n ≤ 9223372036854775807) : IntKind.i64.wrap ((n : Nat) : Int) = ((n : Nat) : Int) := wrapI_eq (by omega) (by omega)
theorem l1_eq (s : ByteArray) (hs : s.size ≤ 16384) : ∀ (m i : Nat) (l : List UInt8), (bl s).drop i = l → l.length < m → z29_l1 s m ((i : Nat) : Int) = some (((i + (l.takeWhile fun d => ((d.toNat : Nat) : Int) != 10).length : Nat) : Nat) : Int)
 | 0, _, _, _, h => by omega
 | m + 1, i, [], h, hl => by rw [z29_l1, ge_drop h]; rfl
 | m + 1, i, c :: l', h, hl => by
  have hi := (drop_cons' h).1
  rw [← bl_size] at hi
  rw [z29_l1, req_drop h, lt_drop h, byteAt_drop h, wrapI_succ (by omega), l1_eq s hs m (i + 1) l' (drop_cons' h).2.2 (by simpa using hl), List.takeWhile_cons]
  cases hc : (((c.toNat : Nat) : Int) != 10)
  ·rfl
  ·simp only [if_true, List.length_cons, cond_true]
   rw [show i + 1 + (l'.takeWhile fun d => ((d.toNat : Nat) : Int) != 10).length = i + ((l'.takeWhile fun d => ((d.toNat : Nat) : Int) != 10).length + 1) by omega]
theorem l2_eq (s : ByteArray) (hs : s.size ≤ 16384) (i : Nat) (c : UInt8) (hc : byteAt s ((i : Nat) : Int) = ((c.toNat : Nat) : Int)) : ∀ (m n : Nat) (l : List UInt8), (bl s).drop (i + n) = l → l.length < m → i + n ≤ s.size → z29_l2 s ((i : Nat) : Int) m ((n : Nat) : Int) = some (((n + (l.takeWhile (lIn c)).length : Nat) : Nat) : Int)
 | 0, _, _, _, h, _ => by omega
 | m + 1, n, [], h, hl, hn => by
  rw [z29_l2, show ((i : Nat) : Int) + ((n : Nat) : Int) = ((i + n : Nat) : Int) by omega, wrapN (by omega), ge_drop h]; rfl
 | m + 1, n, d :: l', h, hl, hn => by
  have hi := (drop_cons' h).1
  rw [← bl_size] at hi
  have ih := l2_eq s hs i c hc m (n + 1) l' (by rw [show i + (n + 1) = i + n + 1 by omega]; exact (drop_cons' h).2.2) (by simpa using hl) (by omega)
  rw [z29_l2, show ((i : Nat) : Int) + ((n : Nat) : Int) = ((i + n : Nat) : Int) by omega, wrapN (by omega), req_drop h, req_drop h, lt_drop h, byteAt_drop h, hc, wrapI_succ (by omega), ih, List.takeWhile_cons]
  simp only [cond_true, lIn]
  show (bif lDig d then _ else bif lLet c then (bif lLet d then _ else _) else _) = _
  rcases Bool.eq_false_or_eq_true (lDig d) with h1 | h1 <;> rcases Bool.eq_false_or_eq_true (lLet c) with h2 | h2 <;> rcases Bool.eq_false_or_eq_true (lLet d) with h3 | h3 <;> simp only [h1, h2, h3, cond_true, cond_false, Bool.or_true, Bool.true_or, Bool.and_true, Bool.and_false, Bool.false_and, Bool.or_false, Bool.true_and, Bool.false_or, if_true, if_false, Bool.false_eq_true, List.length_cons, List.length_nil, Nat.add_zero] <;> rw [show n + 1 + (List.takeWhile (lIn c) l').length = n + ((List.takeWhile (lIn c) l').length + 1) by omega]
theorem l3_stop (s : ByteArray) (i : Int) (m : Nat) (n k : Int) (h : (n == 0) = false) : z29_l3 s i (m + 1) n k = some n := by
 rw [z29_l3, h, Bool.and_false]; rfl
theorem l4_stop (s : ByteArray) (i : Int) (m : Nat) (n k : Int) (h : (n == 0) = false) : z29_l4 s i (m + 1) n k = some n := by
 rw [z29_l4, h, Bool.and_false]; rfl
theorem l5_stop (s : ByteArray) (i : Int) (m : Nat) (n k : Int) (h : (n == 0) = false) : z29_l5 s i (m + 1) n k = some n := by
 rw [z29_l5, h, Bool.and_false]; rfl
theorem copySlice_data (s : ByteArray) (i j : Nat) : (s.extract i j).data.toList = (s.data.toList.take j).drop i := by
 rw [ByteArray.data_extract, Array.toList_extract, List.extract_eq_take_drop, List.drop_take]
theorem subS_eq {s : ByteArray} {i n : Nat} (h : i + n ≤ s.size) : subS s (some ((i : Nat) : Int)) (some ((i + n : Nat) : Int)) = some ⟨(((bl s).drop i).take n).toArray⟩ := by
 unfold subS
 simp only [Option.getD_some]
 rw [if_pos ⟨by omega, by omega, by omega⟩]
 congr 1
 apply ByteArray.ext
 apply Array.ext'
 rw [Int.toNat_natCast, Int.toNat_natCast, copySlice_data, List.drop_take]
 simp
theorem prefix_beq (g : ByteArray) (l : List UInt8) : ((⟨(l.take (bl g).length).toArray⟩ : ByteArray) == g) = (bl g).isPrefixOf l := by
 rw [ba_beq]
 by_cases h : bl g <+: l
 ·rw [List.isPrefixOf_iff_prefix.2 h]
  refine decide_eq_true ?_
  rw [← List.prefix_iff_eq_take.1 h]
 ·have : (bl g).isPrefixOf l = false := by
   rw [Bool.eq_false_iff]
   exact fun e => h (List.isPrefixOf_iff_prefix.1 e)
  rw [this]
  refine decide_eq_false fun e => h ?_
  have e2 : bl g = l.take (bl g).length := by
   have := congrArg bl e
   simp only [bl, List.toList_toArray] at this
   exact this.symm
  exact List.prefix_iff_eq_take.2 e2
theorem sign_pos : ∀ g ∈ z51, 1 ≤ (bl g).length ∧ (bl g).length ≤ 2 := by
 intro g hg
 simp only [z51, List.mem_cons, List.not_mem_nil, or_false] at hg
 rcases hg with rfl | rfl | rfl | rfl | rfl | rfl | rfl | rfl | rfl | rfl | rfl | rfl | rfl | rfl | rfl | rfl | rfl | rfl | rfl | rfl | rfl | rfl | rfl <;> exact ⟨by decide, by decide⟩
theorem l5_eq (s : ByteArray) (hs : s.size ≤ 16384) (i : Nat) (hi : i ≤ s.size) : ∀ (m k : Nat) (L : List ByteArray), z51.drop k = L → L.length + 1 < m → z29_l5 s ((i : Nat) : Int) m 0 ((k : Nat) : Int) = some ((((match (L.map bl).find? fun g => g.isPrefixOf ((bl s).drop i) with | some g => g.length | none => 0) : Nat) : Nat) : Int)
 | 0, _, _, _, h => by omega
 | m + 1, k, [], h, hm => by
  have hk := List.drop_eq_nil_iff.1 h
  rw [z29_l5, List.length_map, decide_eq_false (show ¬ (((k : Nat) : Int) < ((z51.length : Nat) : Int)) by omega)]
  rfl
 | m + 1, k, g :: L, h, hm => by
  obtain ⟨h1, h2, h3⟩ := drop_cons' h
  have hg : g ∈ z51 := List.mem_of_getElem? h2
  obtain ⟨p1, p2⟩ := sign_pos g hg
  have hl : z51.length = 23 := rfl
  have hx : ixO z51 ((k : Nat) : Int) = some g := by
   unfold ixO
   rw [if_pos (by omega), Int.toNat_natCast]
   exact h2
  have ih := l5_eq s hs i hi m (k + 1) L h3 (by simpa using hm)
  have hgs : g.size = (bl g).length := bl_size g
  rw [z29_l5, List.length_map, decide_eq_true (show ((k : Nat) : Int) < ((z51.length : Nat) : Int) by omega), hx]
  simp only [beq_self_eq_true, Bool.and_self, cond_true, Option.bind_some]
  rw [show ((i : Nat) : Int) + ((g.size : Nat) : Int) = ((i + g.size : Nat) : Int) by omega, wrapN (by omega), wrapI_succ (by omega), List.map_cons, List.find?_cons]
  by_cases hc : i + g.size ≤ s.size
  ·rw [decide_eq_true (show ((i + g.size : Nat) : Int) ≤ ((s.size : Nat) : Int) by omega), subS_eq hc]
   simp only [cond_true, Option.bind_some]
   rw [hgs, prefix_beq]
   cases (bl g).isPrefixOf ((bl s).drop i)
   ·exact ih
   ·obtain ⟨m, rfl⟩ : ∃ m', m = m' + 1 := ⟨m - 1, by rw [List.length_cons] at hm; omega⟩
    rw [cond_true, l5_stop _ _ _ _ _ (beq_false_of_ne (by omega))]
  ·rw [decide_eq_false (show ¬ (((i + g.size : Nat) : Int) ≤ ((s.size : Nat) : Int)) by omega)]
   have : (bl g).isPrefixOf ((bl s).drop i) = false := by
    rw [Bool.eq_false_iff]
    intro e
    have := (List.isPrefixOf_iff_prefix.1 e).length_le
    rw [List.length_drop, ← bl_size, ← bl_size] at this
    omega
   rw [this]
   exact ih
theorem lSign_len {l g : List UInt8} (h : lSign l = some g) : 1 ≤ g.length ∧ g.length ≤ 2 ∧ g <+: l := by
 have h1 := List.find?_some h
 obtain ⟨x, hx, rfl⟩ := List.mem_map.1 (List.mem_of_find?_eq_some h)
 exact ⟨(sign_pos x hx).1, (sign_pos x hx).2, List.isPrefixOf_iff_prefix.1 h1⟩
theorem take_takeWhile {α : Type} (p : α → Bool) (l : List α) : l.take (l.takeWhile p).length = l.takeWhile p := by
 have := List.takeWhile_prefix p (l := l)
 exact (List.prefix_iff_eq_take.1 this).symm
theorem drop_takeWhile {α : Type} (p : α → Bool) : ∀ (l : List α), l.drop (l.takeWhile p).length = l.dropWhile p
 | [] => rfl
 | x :: l => by
  rw [List.takeWhile_cons, List.dropWhile_cons]
  split
  ·rw [List.length_cons, List.drop_succ_cons, drop_takeWhile p l]
  ·rfl
theorem scan_eq (s : ByteArray) (hs : s.size ≤ 16384) : ∀ (m i : Nat) (l : List UInt8) (out : List Token), (bl s).drop i = l → i ≤ s.size → out.length ≤ i → z29_l0 20000 20000 20000 20000 20000 s m ((i : Nat) : Int) out = lexT m l i out
 | 0, _, _, _, _, _, _ => rfl
 | m + 1, i, [], out, h, _, _ => by rw [z29_l0, ge_drop h]; rfl
 | m + 1, i, c :: l', out, h, hi0, ho => by
  have hi := (drop_cons' h).1
  rw [← bl_size] at hi
  have hlen : (c :: l').length = s.size - i := by rw [← h, List.length_drop, ← bl_size]
  have hfit : ∀ (t : Token) (r : Option (Sum (List Token) (List Token × Fault))), fitO (out.length + [t].length) 24 r = r := by
   intro t r
   unfold fitO
   rw [if_pos]
   show (out.length + 1) * 24 ≤ 140737488355328
   omega
  rw [z29_l0, req_drop h, lt_drop h, byteAt_drop h, lexT, cond_true]
  show (bif lWs c then _ else _) = _
  rcases Bool.eq_false_or_eq_true (lWs c) with hw | hw <;> rw [hw]
  ·rw [cond_true, cond_true, wrapI_succ (by omega)]
   exact scan_eq s hs m (i + 1) l' out (drop_cons' h).2.2 (by omega) (by omega)
  rw [cond_false, cond_false]
  rcases Bool.eq_false_or_eq_true (((c.toNat : Nat) : Int) == 35) with h3 | h3 <;> rw [h3]
  ·rw [cond_true, cond_true, l1_eq s hs 20000 i (c :: l') h (by omega), Option.bind_some]
   refine scan_eq s hs m _ _ out ?_ ?_ (by omega)
   ·rw [← List.drop_drop, h, drop_takeWhile]
   ·have := (List.takeWhile_prefix (fun d : UInt8 => ((d.toNat : Nat) : Int) != 10) (l := c :: l')).length_le
    omega
  rw [cond_false, cond_false]
  show (bif lLet c || lDig c then _ else _) = _
  rcases Bool.eq_false_or_eq_true (lLet c || lDig c) with h4 | h4 <;> rw [h4]
  ·have hpos : 1 ≤ ((c :: l').takeWhile (lIn c)).length := by
    have : lIn c c = true := by
     unfold lIn
     rcases Bool.eq_false_or_eq_true (lLet c) with h5 | h5 <;> rw [h5] at h4 ⊢ <;> simp_all
    rw [List.takeWhile_cons, if_pos this, List.length_cons]
    omega
   have hle := (List.takeWhile_prefix (lIn c) (l := c :: l')).length_le
   have hne : ((((c :: l').takeWhile (lIn c)).length : Nat) : Int) ≠ 0 := by omega
   have hl2 := l2_eq s hs i c (byteAt_drop h) 20000 0 (c :: l') h (by omega) (by omega)
   rw [Nat.zero_add, show ((0 : Nat) : Int) = 0 from rfl] at hl2
   have hl3 : z29_l3 s ((i : Nat) : Int) 20000 ((((c :: l').takeWhile (lIn c)).length : Nat) : Int) 0 = some ((((c :: l').takeWhile (lIn c)).length : Nat) : Int) := l3_stop s _ 19999 _ _ (beq_false_of_ne hne)
   have hl4 : z29_l4 s ((i : Nat) : Int) 20000 ((((c :: l').takeWhile (lIn c)).length : Nat) : Int) 0 = some ((((c :: l').takeWhile (lIn c)).length : Nat) : Int) := l4_stop s _ 19999 _ _ (beq_false_of_ne hne)
   have hsub := subS_eq (s := s) (i := i) (n := ((c :: l').takeWhile (lIn c)).length) (by omega)
   rw [h, take_takeWhile] at hsub
   have hnext := scan_eq s hs m (i + ((c :: l').takeWhile (lIn c)).length) ((c :: l').dropWhile (lIn c)) (out ++ [({ Text := ⟨((c :: l').takeWhile (lIn c)).toArray⟩, At := i } : Token)]) (by rw [← List.drop_drop, h, drop_takeWhile]) (by omega) (by rw [List.length_append, List.length_singleton]; omega)
   rw [cond_true, cond_true, hl2, Option.bind_some, show ((i : Nat) : Int) + ((((c :: l').takeWhile (lIn c)).length : Nat) : Int) = ((i + ((c :: l').takeWhile (lIn c)).length : Nat) : Int) by omega, wrapN (by omega), hsub, Option.bind_some]
   congr 1
   funext x1
   cases x1
   ·simp only [Bool.not_false, cond_true]
    congr 1
    funext x2
    cases x2
    ·rfl
    ·simp only [Bool.not_true, cond_false]
     rw [hl3, Option.bind_some, beq_false_of_ne hne, cond_false, show ((i : Nat) : Int) + ((((c :: l').takeWhile (lIn c)).length : Nat) : Int) = ((i + ((c :: l').takeWhile (lIn c)).length : Nat) : Int) by omega, wrapN (by omega), hsub, Option.bind_some, hfit]
     exact hnext
   ·simp only [Bool.not_true, cond_false]
    rw [hl4, Option.bind_some, beq_false_of_ne hne, cond_false, show ((i : Nat) : Int) + ((((c :: l').takeWhile (lIn c)).length : Nat) : Int) = ((i + ((c :: l').takeWhile (lIn c)).length : Nat) : Int) by omega, wrapN (by omega), hsub, Option.bind_some, hfit]
    exact hnext
  ·have hsg : (z51.map bl).find? (fun g => g.isPrefixOf ((bl s).drop i)) = lSign (c :: l') := by rw [h]; rfl
   have hl5 := l5_eq s hs i hi0 20000 0 z51 rfl (by decide)
   rw [hsg, show ((0 : Nat) : Int) = 0 from rfl] at hl5
   rw [cond_false, cond_false, hl5, Option.bind_some]
   cases hq : lSign (c :: l') with
   | none => rfl
   | some g =>
    obtain ⟨g1, g2, g3⟩ := lSign_len hq
    have hgl := g3.length_le
    have hsub := subS_eq (s := s) (i := i) (n := g.length) (by omega)
    rw [h, ← List.prefix_iff_eq_take.1 g3] at hsub
    simp only
    rw [beq_false_of_ne (show ((g.length : Nat) : Int) ≠ 0 by omega), cond_false, show ((i : Nat) : Int) + ((g.length : Nat) : Int) = ((i + g.length : Nat) : Int) by omega, wrapN (by omega), hsub, Option.bind_some, hfit]
    exact scan_eq s hs m (i + g.length) ((c :: l').drop g.length) _ (by rw [← List.drop_drop, h]) (by omega) (by rw [List.length_append, List.length_singleton]; omega)
theorem Scan_eq (s : ByteArray) (hs : s.size ≤ 16384) : z29_raw 20000 20000 20000 20000 20000 20000 s = loopO (lexT 20000 (bl s) 0 []) fun v => some (v, ({ E := 0, At := 0 } : Fault)) := by
 rw [z29_raw, decide_eq_false (show ¬ (((s.size : Nat) : Int) > 16384) by omega), cond_false]
 have := scan_eq s hs 20000 0 (bl s) [] rfl (by omega) (by simp)
 rw [show ((0 : Nat) : Int) = 0 from rfl] at this
 rw [this]
theorem ba_sz (l : List UInt8) : (⟨l.toArray⟩ : ByteArray).size = l.length := by
 rw [bl_size]
theorem fit_ok {α : Type} {n b : Nat} (h : n * b ≤ 140737488355328) (r : Option α) : fitO n b r = r := by
 unfold fitO
 rw [if_pos h]
end Go.Proofs.Yteioljlgcagnnaa
namespace Go.Proofs.Yteioljlgcagnnaa
open Go.Sh
def expr (m : Machine) (n : Node) : Option (Int × Machine) := (exG 40000).2 m n
def matchC : List Node → Machine → Cube → Option (Cube × Machine)
 | [], m, c => some (c, m)
 | x :: rest, m, c =>
  (ixO x.Kids 0).bind fun x1 =>
  (expr m x1).bind fun v =>
  (z95_raw c ((z91 x.Text).1) (IntKind.u64.wrap v.1) (bif (decide (x.Num < 0)) then (sizeT ((z91 x.Text).1)) else x.Num)).bind fun x2 =>
  (bif ((x2.2 != 0) || (decide (v.1 < 0))) then some (c, z63 v.2 13) else matchC rest v.2 x2.1)
theorem match_eq0 : ∀ (l : List Node) (m : Machine) (c : Cube), loopO (z83_l0s l m.ev.On m.ev.Unit m.ev.Port m.ev.Head m.owner m.fuel m.e m.vars m.out c.Value c.Care) (fun v =>
  some (({ Value := v.2.2.2.2.2.2.2.2.2.1, Care := v.2.2.2.2.2.2.2.2.2.2 } : Cube), ({ vars := v.2.2.2.2.2.2.2.1, ev := ({ On := v.1, Unit := v.2.1, Port := v.2.2.1, Head := v.2.2.2.1 } : Event), owner := v.2.2.2.2.1, fuel := v.2.2.2.2.2.1, out := v.2.2.2.2.2.2.2.2.1, e := v.2.2.2.2.2.2.1 } : Machine))) = matchC l m c
 | [], m, c => rfl
 | x :: rest, m, c => by
  rw [z83_l0s, matchC]
  show loopO ((ixO x.Kids 0).bind fun x1 => (expr m x1).bind fun v => _) _ = _
  cases ixO x.Kids 0 with
  | none => rfl
  | some x1 =>
   simp only [Option.bind_some]
   cases expr m x1 with
   | none => rfl
   | some v =>
    simp only [Option.bind_some]
    show loopO ((z95_raw c _ _ _).bind _) _ = _
    cases z95_raw c ((z91 x.Text).1) (IntKind.u64.wrap v.1) (bif (decide (x.Num < 0)) then (sizeT ((z91 x.Text).1)) else x.Num) with
    | none => rfl
    | some x2 =>
     simp only [Option.bind_some]
     cases (x2.2 != 0) || (decide (v.1 < 0)) with
     | true => rfl
     | false => exact match_eq0 rest v.2 x2.1
theorem match_eq (m : Machine) (n : Node) : z83_raw m n = matchC n.Kids m cube_All := by
 rw [z83_raw]
 exact match_eq0 n.Kids m cube_All
def actsC : List Node → Machine → List Act → Option ((List Act) × Machine)
 | [], m, out => some (out, m)
 | x :: rest, m, out =>
  (bif (x.Kind == 15) then
   (ixO x.Kids 0).bind fun x1 =>
   (z82_raw m x1 1 16).bind fun v =>
   fitO (out.length + [({ Kind := 1, Port := v.1, Field := 0, Value := 0 } : Act)].length) 32 (
   actsC rest v.2 (out ++ [({ Kind := 1, Port := v.1, Field := 0, Value := 0 } : Act)]))
  else
   (bif (x.Kind == 16) then
    (ixO x.Kids 0).bind fun x2 =>
    (expr m x2).bind fun v1 =>
    fitO (out.length + [({ Kind := 2, Port := 0, Field := (z91 x.Text).1, Value := (IntKind.u64.wrap v1.1) } : Act)].length) 32 (
    actsC rest (bif (((setT_ [0, 0, 0, 0, 0, 0, 0, 0, 0, 0, 0, 0] ((z91 x.Text).1) (IntKind.u64.wrap v1.1)).2 != 0) || (decide (v1.1 < 0))) then z63 v1.2 13 else v1.2) (out ++ [({ Kind := 2, Port := 0, Field := (z91 x.Text).1, Value := (IntKind.u64.wrap v1.1) } : Act)]))
   else
    fitO (out.length + [({ Kind := 3, Port := 0, Field := 0, Value := 0 } : Act)].length) 32 (
    actsC rest m (out ++ [({ Kind := 3, Port := 0, Field := 0, Value := 0 } : Act)]))))
theorem acts_eq0 : ∀ (l : List Node) (m : Machine) (out : List Act), ((z84_l0s l m.ev.On m.ev.Unit m.ev.Port m.ev.Head m.owner m.fuel m.e m.vars m.out out).bind fun v =>
  some (v.2.2.2.2.2.2.2.2.2, ({ vars := v.2.2.2.2.2.2.2.1, ev := ({ On := v.1, Unit := v.2.1, Port := v.2.2.1, Head := v.2.2.2.1 } : Event), owner := v.2.2.2.2.1, fuel := v.2.2.2.2.2.1, out := v.2.2.2.2.2.2.2.2.1, e := v.2.2.2.2.2.2.1 } : Machine))) = actsC l m out
 | [], m, out => rfl
 | x :: rest, m, out => by
  rw [z84_l0s, actsC]
  cases x.Kind == 15 with
  | true =>
   simp only [cond_true]
   show ((ixO x.Kids 0).bind fun x1 => (z82_raw m x1 1 16).bind fun v => _).bind _ = _
   cases ixO x.Kids 0 with
   | none => rfl
   | some x1 =>
    simp only [Option.bind_some]
    cases z82_raw m x1 1 16 with
    | none => rfl
    | some v =>
     simp only [Option.bind_some]
     unfold fitO
     split
     ·exact acts_eq0 rest v.2 _
     ·rfl
  | false =>
   simp only [cond_false]
   cases x.Kind == 16 with
   | true =>
    simp only [cond_true]
    show ((ixO x.Kids 0).bind fun x1 => (expr m x1).bind fun v => _).bind _ = _
    cases ixO x.Kids 0 with
    | none => rfl
    | some x1 =>
     simp only [Option.bind_some]
     cases expr m x1 with
     | none => rfl
     | some v =>
      simp only [Option.bind_some]
      cases ((setT_ [0, 0, 0, 0, 0, 0, 0, 0, 0, 0, 0, 0] ((z91 x.Text).1) (IntKind.u64.wrap v.1)).2 != 0) || (decide (v.1 < 0)) with
      | true =>
       simp only [cond_true, letT]
       unfold fitO
       split
       ·exact acts_eq0 rest (z63 v.2 13) _
       ·rfl
      | false =>
       simp only [cond_false]
       unfold fitO
       split
       ·exact acts_eq0 rest v.2 _
       ·rfl
   | false =>
    simp only [cond_false]
    unfold fitO
    split
    ·exact acts_eq0 rest m _
    ·rfl
theorem acts_eq (m : Machine) (n : Node) : z84_raw m n = actsC n.Kids m [] := by
 rw [z84_raw]
 exact acts_eq0 n.Kids m []
def stmtsC (g : Machine → Node → Option Machine) : List Node → Machine → Option Machine
 | [], m => some m
 | x :: rest, m => bif (z39 m).1 then (g (z39 m).2 x).bind fun v => stmtsC g rest v else stmtsC g rest (z39 m).2
theorem stmts_eq0 (g : Machine → Node → Option Machine) : ∀ (l : List Node) (m : Machine), ((z23_l0s g l m.ev.On m.ev.Unit m.ev.Port m.ev.Head m.owner m.fuel m.e m.vars m.out).bind fun v =>
  some ({ vars := v.2.2.2.2.2.2.2.1, ev := ({ On := v.1, Unit := v.2.1, Port := v.2.2.1, Head := v.2.2.2.1 } : Event), owner := v.2.2.2.2.1, fuel := v.2.2.2.2.2.1, out := v.2.2.2.2.2.2.2.2, e := v.2.2.2.2.2.2.1 } : Machine)) = stmtsC g l m
 | [], m => rfl
 | x :: rest, m => by
  rw [z23_l0s, stmtsC]
  show Option.bind (letT (z39 m) fun v => _) _ = _
  simp only [letT]
  generalize z39 m = w
  obtain ⟨b, m'⟩ := w
  cases b with
  | true =>
   simp only [cond_true]
   cases g m' x with
   | none => rfl
   | some v => exact stmts_eq0 g rest v
  | false => exact stmts_eq0 g rest m'
def whileC (g : Machine → List Node → Option Machine) (n : Node) : Nat → Machine → Option Machine
 | 0, _ => none
 | k + 1, m =>
  (ixO n.Kids 0).bind fun x3 =>
  (expr m x3).bind fun v5 =>
  (bif ((v5.1 != 0) && (v5.2.e == 0)) then
   (ixO n.Kids 1).bind fun x4 =>
   (g v5.2 x4.Kids).bind fun v6 => whileC g n k v6
  else some v5.2)
theorem while_eq0 (g : Machine → List Node → Option Machine) (n : Node) : ∀ (k : Nat) (m : Machine), ((z40_l0 g n k m.ev.On m.ev.Unit m.ev.Port m.ev.Head m.owner m.fuel m.e m.vars m.out).bind fun v5 =>
  some ({ vars := v5.2.2.2.2.2.2.2.1, ev := ({ On := v5.1, Unit := v5.2.1, Port := v5.2.2.1, Head := v5.2.2.2.1 } : Event), owner := v5.2.2.2.2.1, fuel := v5.2.2.2.2.2.1, out := v5.2.2.2.2.2.2.2.2, e := v5.2.2.2.2.2.2.1 } : Machine)) = whileC g n k m
 | 0, m => rfl
 | k + 1, m => by
  rw [z40_l0, whileC]
  show ((ixO n.Kids 0).bind fun x3 => (expr m x3).bind fun v5 => _).bind _ = _
  cases ixO n.Kids 0 with
  | none => rfl
  | some x3 =>
   simp only [Option.bind_some]
   cases expr m x3 with
   | none => rfl
   | some v5 =>
    simp only [Option.bind_some]
    cases (v5.1 != 0) && (v5.2.e == 0) with
    | true =>
     simp only [cond_true]
     cases ixO n.Kids 1 with
     | none => rfl
     | some x4 =>
      simp only [Option.bind_some]
      cases g v5.2 x4.Kids with
      | none => rfl
      | some v6 => exact while_eq0 g n k v6
    | false => rfl
def stmtC (gs : Machine → List Node → Option Machine) (m : Machine) (n : Node) : Option Machine :=
 bif n.Kind == 7 then gs m n.Kids
 else bif n.Kind == 4 then z59_raw m n
 else bif n.Kind == 5 then
  (ixO n.Kids 0).bind fun x =>
  (expr m x).bind fun v2 =>
  (bif v2.1 != 0 then (ixO n.Kids 1).bind fun x1 => gs v2.2 x1.Kids
  else bif (decide (((n.Kids.length : Nat) : Int) > 2)) && (v2.2.e == 0) then (ixO n.Kids 2).bind fun x2 => gs v2.2 x2.Kids
  else some v2.2)
 else bif n.Kind == 6 then whileC gs n 200000 m
 else bif n.Kind == 8 then z61_raw m n
 else bif n.Kind == 9 then z62_raw m n 3 5
 else bif n.Kind == 10 then z62_raw m n 2 4
 else bif n.Kind == 11 then some (z63 m 16)
 else some m
theorem bind_some_id {α : Type} (x : Option α) : (x.bind fun v => some v) = x := by cases x <;> rfl
theorem stmt_eq (gs : Machine → List Node → Option Machine) (g : Machine → Node → Option Machine) (m : Machine) (n : Node) : z40_raw 200000 gs g m n = stmtC gs m n := by
 rw [z40_raw, stmtC]
 simp only [bind_some_id, List.length_map, letT]
 rw [while_eq0]
 rfl
theorem stmts_eq (gs : Machine → List Node → Option Machine) (g : Machine → Node → Option Machine) (m : Machine) (l : List Node) : z23_raw gs g m l = stmtsC g l m := by
 rw [z23_raw]
 exact stmts_eq0 g l m
theorem stG_succ (q : Nat) : stG (q + 1) = (fun m l => stmtsC (stG q).2 l m, stmtC (stG q).1) := by
 rw [stG]
 congr 1
 ·funext m l; exact stmts_eq _ _ m l
 ·funext m n; exact stmt_eq _ _ m n
def runC (ev : Event) : List Node → Machine → Option Machine
 | [], m => some m
 | x :: rest, m => bif ((x.Kind == 3) && (x.Text == ev.On)) then ((stG 400).1 m x.Kids).bind fun v => runC ev rest v else runC ev rest m
def fuelC (fuel : Int) : Int := if 100000 < (if 0 > fuel then 0 else fuel) then 100000 else (if 0 > fuel then 0 else fuel)
theorem run_eq0 (vars : List Var) (ev : Event) (owner fuel : Int) : ∀ (l : List Node) (m : Machine), ((eval_Run_l0s vars ev owner fuel l m.vars m.ev.On m.ev.Unit m.ev.Port m.ev.Head m.owner m.fuel m.e m.out).bind fun v1 =>
 (bif (v1.2.2.2.2.2.2.2.1 != 0) then
  some (([] : List Var), ([] : List Change), v1.2.2.2.2.2.2.2.1)
 else
  some (v1.1, v1.2.2.2.2.2.2.2.2, 0))) = (runC ev l m).bind fun m => (bif (m.e != 0) then some (([] : List Var), ([] : List Change), m.e) else some (m.vars, m.out, 0))
 | [], m => rfl
 | x :: rest, m => by
  rw [eval_Run_l0s, runC]
  cases (x.Kind == 3) && (x.Text == ev.On) with
  | true =>
   simp only [cond_true]
   show Option.bind (Option.bind ((stG 400).1 m x.Kids) fun v1 => _) _ = _
   cases (stG 400).1 m x.Kids with
   | none => rfl
   | some v => exact run_eq0 vars ev owner fuel rest v
  | false => exact run_eq0 vars ev owner fuel rest m
theorem run_eq (n : Node) (vars : List Var) (ev : Event) (owner fuel : Int) : eval_Run_raw n vars ev owner fuel = (runC ev n.Kids ⟨vars, ev, owner, fuelC fuel, [], 0⟩).bind fun m => (bif (m.e != 0) then some (([] : List Var), ([] : List Change), m.e) else some (m.vars, m.out, 0)) := by
 rw [eval_Run_raw]
 exact run_eq0 vars ev owner fuel n.Kids ⟨vars, ev, owner, fuelC fuel, [], 0⟩
def FSh (d : Int) (m1 m2 : Machine) : Prop := m2.vars = m1.vars ∧ m2.ev = m1.ev ∧ m2.owner = m1.owner ∧ m2.out = m1.out ∧ m2.e = m1.e ∧ (m1.e = 0 → m2.fuel = m1.fuel + d ∧ 0 ≤ m1.fuel ∧ m1.fuel ≤ 1000000)
def KP (m m' : Machine) : Prop := m'.vars.map (·.Name) = m.vars.map (·.Name)
structure FGood {V : Type} (f : Machine → Option (V × Machine)) : Prop where
 keep : ∀ m v m', f m = some (v, m') → KP m m'
 stay : ∀ m v m', f m = some (v, m') → m.e ≠ 0 → m'.e = m.e
 shift : ∀ d m1 m2 v m1', 0 ≤ d → d ≤ 1000000 → FSh d m1 m2 → f m1 = some (v, m1') → m1'.e ≠ 11 → ∃ m2', f m2 = some (v, m2') ∧ FSh d m1' m2'
theorem FGood.pure {V : Type} (v : V) : FGood fun m => some (v, m) where
 keep := fun m v' m' h => by injection h with h; injection h with _ h; rw [h]; rfl
 stay := fun m v' m' h _ => by injection h with h; injection h with _ h; rw [h]
 shift := fun d m1 m2 v' m1' _ _ hs h _ => by injection h with h; injection h with h1 h2; subst h1; subst h2; exact ⟨m2, rfl, hs⟩
theorem FGood.none {V : Type} : FGood fun _ => (none : Option (V × Machine)) where
 keep := fun m v' m' h => by cases h
 stay := fun m v' m' h _ => by cases h
 shift := fun d m1 m2 v' m1' _ _ hs h _ => by cases h
theorem FGood.bind {V W : Type} {f : Machine → Option (V × Machine)} {g : V → Machine → Option (W × Machine)} (hf : FGood f) (hg : ∀ v, FGood (g v)) : FGood fun m => (f m).bind fun r => g r.1 r.2 where
 keep := fun m w m' h => by
  obtain ⟨⟨v, ma⟩, h1, h2⟩ := Option.bind_eq_some_iff.1 h
  exact ((hg v).keep ma w m' h2).trans (hf.keep m v ma h1)
 stay := fun m w m' h he => by
  obtain ⟨⟨v, ma⟩, h1, h2⟩ := Option.bind_eq_some_iff.1 h
  have e1 := hf.stay m v ma h1 he
  rw [(hg v).stay ma w m' h2 (by rw [e1]; exact he), e1]
 shift := fun d m1 m2 w m1' d0 d1 hs h he => by
  obtain ⟨⟨v, ma⟩, h1, h2⟩ := Option.bind_eq_some_iff.1 h
  have hne : ma.e ≠ 11 := by
   intro e
   have := (hg v).stay ma w m1' h2 (by rw [e]; decide)
   exact he (this.trans e)
  obtain ⟨mb, g1, g2⟩ := hf.shift d m1 m2 v ma d0 d1 hs h1 hne
  obtain ⟨mc, g3, g4⟩ := (hg v).shift d ma mb w m1' d0 d1 g2 h2 he
  exact ⟨mc, by rw [g1, Option.bind_some]; exact g3, g4⟩
theorem FGood.bind' {V W : Type} {f : Machine → Option (V × Machine)} {g : V × Machine → Option (W × Machine)} (hf : FGood f) (hg : ∀ v, FGood fun m => g (v, m)) : FGood fun m => (f m).bind g :=
 FGood.bind (g := fun v m => g (v, m)) hf hg
theorem FGood.bindO {V W : Type} (o : Option V) {g : V → Machine → Option (W × Machine)} (hg : ∀ v, FGood (g v)) : FGood fun m => o.bind fun x => g x m := by
 cases o with
 | none => exact FGood.none
 | some v => exact hg v
theorem FGood.req {W : Type} (c : Bool) {g : Machine → Option (W × Machine)} (hg : FGood g) : FGood fun m => reqO c (g m) := by
 unfold reqO
 cases c
 ·exact FGood.none
 ·exact hg
theorem FGood.cond {W : Type} (c : Bool) {f g : Machine → Option (W × Machine)} (hf : FGood f) (hg : FGood g) : FGood fun m => bif c then f m else g m := by
 cases c
 ·exact hg
 ·exact hf
theorem FGood.condM {W : Type} (c : Machine → Bool) (hc : ∀ d m1 m2, FSh d m1 m2 → c m2 = c m1) {f g : Machine → Option (W × Machine)} (hf : FGood f) (hg : FGood g) : FGood fun m => bif c m then f m else g m where
 keep := fun m w m' h => by
  cases hq : c m <;> rw [hq] at h
  ·exact hg.keep m w m' h
  ·exact hf.keep m w m' h
 stay := fun m w m' h he => by
  cases hq : c m <;> rw [hq] at h
  ·exact hg.stay m w m' h he
  ·exact hf.stay m w m' h he
 shift := fun d m1 m2 w m1' d0 d1 hs h he => by
  have e := hc d m1 m2 hs
  cases hq : c m1 <;> rw [hq] at h <;> rw [hq] at e
  ·obtain ⟨m2', h1, h2⟩ := hg.shift d m1 m2 w m1' d0 d1 hs h he
   exact ⟨m2', by rw [e]; exact h1, h2⟩
  ·obtain ⟨m2', h1, h2⟩ := hf.shift d m1 m2 w m1' d0 d1 hs h he
   exact ⟨m2', by rw [e]; exact h1, h2⟩
theorem FGood.read {V W : Type} (o : Machine → V) (ho : ∀ d m1 m2, FSh d m1 m2 → o m2 = o m1) {g : V → Machine → Option (W × Machine)} (hg : ∀ v, FGood (g v)) : FGood fun m => g (o m) m where
 keep := fun m w m' h => (hg (o m)).keep m w m' h
 stay := fun m w m' h he => (hg (o m)).stay m w m' h he
 shift := fun d m1 m2 w m1' d0 d1 hs h he => by
  rw [ho d m1 m2 hs]
  exact (hg (o m1)).shift d m1 m2 w m1' d0 d1 hs h he
theorem FGood.readO {V W : Type} (o : Machine → Option V) (ho : ∀ d m1 m2, FSh d m1 m2 → o m2 = o m1) {g : V → Machine → Option (W × Machine)} (hg : ∀ v, FGood (g v)) : FGood fun m => (o m).bind fun x => g x m :=
 FGood.read o ho (g := fun v m => v.bind fun x => g x m) fun v => FGood.bindO v hg
theorem fail_e (m : Machine) (e : Int) : (z63 m e) = { m with e := bif m.e == 0 then e else m.e } := by
 unfold z63
 cases h : m.e == 0 <;> simp
theorem FGood.fail {V : Type} (v : V) (e : Int) (he : e ≠ 0) : FGood fun m => some (v, z63 m e) where
 keep := fun m v' m' h => by
  injection h with h
  injection h with _ h
  rw [← h, fail_e]
  rfl
 stay := fun m v' m' h h0 => by
  injection h with h
  injection h with _ h
  rw [← h, fail_e, beq_false_of_ne h0]
  rfl
 shift := fun d m1 m2 v' m1' _ _ hs h _ => by
  injection h with h
  injection h with h1 h2
  subst h1
  subst h2
  refine ⟨_, rfl, ?_⟩
  obtain ⟨s1, s2, s3, s4, s5, s6⟩ := hs
  rw [fail_e, fail_e]
  refine ⟨s1, s2, s3, s4, by simp only [s5], fun hz => ?_⟩
  simp only at hz
  cases hq : m1.e == 0 <;> rw [hq] at hz
  ·have := beq_eq_false_iff_ne.1 hq
   exact absurd hz this
  ·exact absurd hz he
theorem burn_good : FGood fun m => some (z39 m) where
 keep := fun m v m' h => by
  injection h with h
  unfold z39 at h
  cases hq : (m.e == 0) && (decide (m.fuel ≤ 0)) <;> rw [hq] at h <;> injection h with _ h <;> rw [← h] <;> rfl
 stay := fun m v m' h h0 => by
  injection h with h
  unfold z39 at h
  rw [beq_false_of_ne h0, Bool.false_and, cond_false] at h
  injection h with _ h
  rw [← h]
 shift := fun d m1 m2 v m1' d0 d1 hs h he => by
  injection h with h
  obtain ⟨s1, s2, s3, s4, s5, s6⟩ := hs
  unfold z39 at h ⊢
  rw [s5]
  cases hq : m1.e == 0
  ·rw [hq, Bool.false_and, cond_false] at h
   rw [Bool.false_and, cond_false]
   injection h with h1 h2
   subst h1
   subst h2
   refine ⟨_, rfl, s1, s2, s3, s4, rfl, fun hz => ?_⟩
   exact absurd hz (beq_eq_false_iff_ne.1 hq)
  ·have hz : m1.e = 0 := by simpa using hq
   obtain ⟨f1, f2, f3⟩ := s6 hz
   rw [hq, Bool.true_and] at h
   rw [Bool.true_and, f1]
   by_cases hf : m1.fuel ≤ 0
   ·rw [decide_eq_true hf, cond_true] at h
    injection h with _ h
    rw [← h] at he
    exact absurd rfl he
   ·rw [decide_eq_false hf, cond_false] at h
    rw [decide_eq_false (by omega), cond_false]
    injection h with h1 h2
    subst h1
    subst h2
    refine ⟨_, rfl, s1, s2, s3, s4, rfl, fun _ => ?_⟩
    show IntKind.i64.wrap (m1.fuel + d - 1) = IntKind.i64.wrap (m1.fuel - 1) + d ∧ 0 ≤ IntKind.i64.wrap (m1.fuel - 1) ∧ IntKind.i64.wrap (m1.fuel - 1) ≤ 1000000
    rw [wrap_eq (by omega) (by omega), wrap_eq (by omega) (by omega)]
    omega
theorem FGood.letBurn {V : Type} {g : Bool × Machine → Option (V × Machine)} (hg : ∀ b, FGood fun m => g (b, m)) : FGood fun m => letT (z39 m) g := FGood.bind' burn_good hg
def uM (f : Machine → Option Machine) (m : Machine) : Option (Unit × Machine) := (f m).map fun m' => ((), m')
def UGood (f : Machine → Option Machine) : Prop := FGood (uM f)
theorem UGood.bind {W : Type} {f : Machine → Option Machine} {g : Machine → Option (W × Machine)} (hf : UGood f) (hg : FGood g) : FGood fun m => (f m).bind g := by
 have h := FGood.bind (g := fun _ => g) hf (fun _ => hg)
 have e : (fun m => (uM f m).bind fun r => g r.2) = fun m => (f m).bind g := by
  funext m
  unfold uM
  cases f m <;> rfl
 rw [← e]
 exact h
theorem uM_bind {V : Type} (f : Machine → Option (V × Machine)) (g : V → Machine → Option Machine) : uM (fun m => (f m).bind fun r => g r.1 r.2) = fun m => (f m).bind fun r => uM (g r.1) r.2 := by
 funext m
 unfold uM
 dsimp only
 cases f m <;> rfl
theorem UGood.bindU {f g : Machine → Option Machine} (hf : UGood f) (hg : UGood g) : UGood fun m => (f m).bind g := by
 have e : uM (fun m => (f m).bind g) = fun m => (f m).bind (uM g) := by
  funext m
  unfold uM
  dsimp only
  cases f m <;> rfl
 unfold UGood
 rw [e]
 exact UGood.bind hf hg
theorem UGood.bindF {V : Type} {f : Machine → Option (V × Machine)} {g : V → Machine → Option Machine} (hf : FGood f) (hg : ∀ v, UGood (g v)) : UGood fun m => (f m).bind fun r => g r.1 r.2 := by
 unfold UGood
 rw [uM_bind]
 exact FGood.bind hf hg
theorem UGood.pure : UGood fun m => some m := FGood.pure ()
theorem UGood.none : UGood fun _ => none := FGood.none
theorem UGood.fail (e : Int) (he : e ≠ 0) : UGood fun m => some (z63 m e) := FGood.fail () e he
theorem UGood.cond (c : Bool) {f g : Machine → Option Machine} (hf : UGood f) (hg : UGood g) : UGood fun m => bif c then f m else g m := by
 cases c
 ·exact hg
 ·exact hf
theorem UGood.condM (c : Machine → Bool) (hc : ∀ d m1 m2, FSh d m1 m2 → c m2 = c m1) {f g : Machine → Option Machine} (hf : UGood f) (hg : UGood g) : UGood fun m => bif c m then f m else g m := by
 have e : uM (fun m => bif c m then f m else g m) = fun m => bif c m then uM f m else uM g m := by
  funext m
  unfold uM
  dsimp only
  cases c m <;> rfl
 unfold UGood
 rw [e]
 exact FGood.condM c hc hf hg
theorem UGood.bindO {V : Type} (o : Option V) {g : V → Machine → Option Machine} (hg : ∀ v, UGood (g v)) : UGood fun m => o.bind fun x => g x m := by
 cases o with
 | none => exact UGood.none
 | some v => exact hg v
theorem UGood.read {V : Type} (o : Machine → V) (ho : ∀ d m1 m2, FSh d m1 m2 → o m2 = o m1) {g : V → Machine → Option Machine} (hg : ∀ v, UGood (g v)) : UGood fun m => g (o m) m :=
 FGood.read o ho (g := fun v m => uM (g v) m) hg
theorem FSh.evars {d : Int} {m1 m2 : Machine} (h : FSh d m1 m2) : m2.vars = m1.vars := h.1
theorem FSh.eev {d : Int} {m1 m2 : Machine} (h : FSh d m1 m2) : m2.ev = m1.ev := h.2.1
theorem FSh.ee {d : Int} {m1 m2 : Machine} (h : FSh d m1 m2) : m2.e = m1.e := h.2.2.2.2.1
def nameC (m : Machine) (s : ByteArray) : Option Int :=
 bif (decide ((z78 m s).1 ≥ 0)) then (ixO m.vars (z78 m s).1).map (·.N)
 else bif (s == (ByteArray.mk #[117, 110, 105, 116])) then some m.ev.Unit
 else bif (s == (ByteArray.mk #[112, 111, 114, 116])) then some m.ev.Port
 else reqO (decide (0 ≤ (z91 s).1) && decide ((z91 s).1 < ((12 : Nat) : Int))) (some (IntKind.i64.wrap (m.ev.Head.getD ((z91 s).1.toNat) 0)))
theorem name_eq (m : Machine) (s : ByteArray) : z79_raw m s = (nameC m s).bind fun v => some (v, m) := by
 unfold z79_raw nameC letT
 have h2 : (z78 m s).2 = m := rfl
 dsimp only
 rw [h2]
 cases decide ((z78 m s).1 ≥ 0) with
 | true => simp only [cond_true]; cases ixO m.vars (z78 m s).1 <;> rfl
 | false =>
  simp only [cond_false]
  cases (s == (ByteArray.mk #[117, 110, 105, 116])) with
  | true => rfl
  | false =>
   simp only [cond_false]
   cases (s == (ByteArray.mk #[112, 111, 114, 116])) with
   | true => rfl
   | false =>
    simp only [cond_false]
    unfold reqO
    cases (decide (0 ≤ (z91 s).1) && decide ((z91 s).1 < ((12 : Nat) : Int))) <;> rfl
theorem nameC_eq {d : Int} {m1 m2 : Machine} (h : FSh d m1 m2) (s : ByteArray) : nameC m2 s = nameC m1 s := by
 unfold nameC z78
 rw [h.evars, h.eev]
theorem name_good (s : ByteArray) : FGood fun m => z79_raw m s := by
 have e : (fun m => z79_raw m s) = fun m => (nameC m s).bind fun v => some (v, m) := by funext m; exact name_eq m s
 rw [e]
 exact FGood.readO (fun m => nameC m s) (fun d m1 m2 h => nameC_eq h s) fun v => FGood.pure v
theorem sum_good (s : ByteArray) (a b : Int) : FGood fun m => z92_raw m s a b := by
 unfold z92_raw
 refine FGood.cond _ (FGood.pure _) (FGood.cond _ (FGood.pure _) (FGood.cond _ (FGood.pure _) (FGood.cond _ (FGood.pure _) (FGood.cond _ ?_ (FGood.cond _ (FGood.req _ (FGood.pure _)) (FGood.req _ (FGood.pure _)))))))
 exact FGood.fail 0 12 (by decide)
theorem ex_good : ∀ q : Nat, (∀ n, FGood fun m => (exG q).1 m n) ∧ (∀ n, FGood fun m => (exG q).2 m n)
 | 0 => ⟨fun n => FGood.none, fun n => FGood.none⟩
 | q + 1 => by
  obtain ⟨h1, h2⟩ := ex_good q
  refine ⟨fun n => ?_, fun n => ?_⟩
  ·show FGood fun m => z80_raw (exG q).1 (exG q).2 m n
   unfold z80_raw
   refine FGood.bindO _ fun x => FGood.bind' (h2 x) fun v => ?_
   dsimp only
   refine FGood.cond _ (FGood.pure _) (FGood.cond _ (FGood.pure _) (FGood.bindO _ fun x1 => FGood.bind' (h2 x1) fun v1 => ?_))
   dsimp only
   refine FGood.cond _ (FGood.pure _) (FGood.condM (fun m => m.e != 0) (fun d m1 m2 h => by rw [h.ee]) (FGood.pure _) (FGood.bind' (sum_good n.Text v v1) fun v2 => FGood.pure v2))
  ·show FGood fun m => z60_raw (exG q).1 (exG q).2 m n
   unfold z60_raw
   refine FGood.letBurn fun b => ?_
   dsimp only
   refine FGood.cond _ (FGood.pure _) (FGood.cond _ (FGood.pure _) (FGood.cond _ (FGood.bind' (name_good n.Text) fun v => FGood.pure v) (FGood.cond _ (FGood.bind' (h1 n) fun v => FGood.pure v) (FGood.bindO _ fun x => FGood.bind' (h2 x) fun v => ?_))))
   dsimp only
   exact FGood.cond _ (FGood.pure _) (FGood.pure _)
theorem expr_good (n : Node) : FGood fun m => expr m n := (ex_good 40000).2 n
theorem matchC_good : ∀ (l : List Node) (c : Cube), FGood fun m => matchC l m c
 | [], c => FGood.pure c
 | x :: rest, c => by
  unfold matchC
  refine FGood.bindO _ fun x1 => FGood.bind' (expr_good x1) fun v => ?_
  dsimp only
  refine FGood.bindO _ fun x2 => ?_
  refine FGood.condM _ (fun _ _ _ _ => rfl) ?_ ?_
  ·exact FGood.fail c 13 (by decide)
  ·exact matchC_good rest x2.1
theorem UGood.letBurn {g : Bool → Machine → Option Machine} (hg : ∀ b, UGood (g b)) : UGood fun m => g (z39 m).1 (z39 m).2 := UGood.bindF (f := fun m => some (z39 m)) burn_good hg
end Go.Proofs.Yteioljlgcagnnaa
namespace Go.Proofs.Yteioljlgcagnnaa
open Go.Sh
def wfE : Nat → Node → Prop
 | 0, _ => False
 | q + 1, n => (n.Kind = 18 ∧ n.Kids = []) ∨ (n.Kind = 19 ∧ n.Kids = []) ∨ (n.Kind = 20 ∧ ∃ a b, n.Kids = [a, b] ∧ wfE q a ∧ wfE q b) ∨ (n.Kind = 21 ∧ ∃ a, n.Kids = [a] ∧ wfE q a ∧ (n.Text = (ByteArray.mk #[45]) ∨ n.Text = (ByteArray.mk #[33])))
theorem Field_range (s : ByteArray) : 0 ≤ (z91 s).1 ∧ (z91 s).1 < 12 := by
 unfold z91
 rw [z100_idx]
 unfold idxF
 cases h : z99.findIdx? (fun y0 => z101 y0 s) with
 | none => simp
 | some k =>
  have hk := (List.findIdx?_eq_some_iff_findIdx_eq.1 h).1
  have hl : z99.length = 12 := rfl
  dsimp only
  rw [if_neg (by omega)]
  omega
theorem name_tot (m : Machine) (s : ByteArray) : ∃ v, z79_raw m s = some (v, m) := by
 rw [name_eq]
 unfold nameC
 have hat : (z78 m s).1 = idxF (fun y0 => z90 y0 s) m.vars := by
  unfold z78
  exact z89_idx _ _
 rw [hat]
 unfold idxF
 cases h : m.vars.findIdx? (fun y0 => z90 y0 s) with
 | some k =>
  have hk := (List.findIdx?_eq_some_iff_findIdx_eq.1 h).1
  dsimp only
  rw [decide_eq_true (by omega), cond_true]
  unfold ixO
  rw [if_pos (by omega), Int.toNat_natCast, List.getElem?_eq_getElem hk]
  exact ⟨_, rfl⟩
 | none =>
  dsimp only
  rw [decide_eq_false (by omega), cond_false]
  cases (s == (ByteArray.mk #[117, 110, 105, 116])) with
  | true => exact ⟨_, rfl⟩
  | false =>
   rw [cond_false]
   cases (s == (ByteArray.mk #[112, 111, 114, 116])) with
   | true => exact ⟨_, rfl⟩
   | false =>
    obtain ⟨h1, h2⟩ := Field_range s
    rw [cond_false, decide_eq_true h1, decide_eq_true (show (z91 s).1 < ((12 : Nat) : Int) from h2)]
    exact ⟨_, rfl⟩
theorem sum_tot (m : Machine) (s : ByteArray) (a b : Int) : ∃ r, z92_raw m s a b = some r := by
 unfold z92_raw
 cases (z102 s a b).2 with
 | true => exact ⟨_, rfl⟩
 | false =>
  rw [cond_false]
  cases (s == (ByteArray.mk #[43])) with
  | true => exact ⟨_, rfl⟩
  | false =>
   rw [cond_false]
   cases (s == (ByteArray.mk #[45])) with
   | true => exact ⟨_, rfl⟩
   | false =>
    rw [cond_false]
    cases (s == (ByteArray.mk #[42])) with
    | true => exact ⟨_, rfl⟩
    | false =>
     rw [cond_false]
     cases hb : (b == 0) with
     | true => exact ⟨_, rfl⟩
     | false =>
      rw [cond_false]
      have : (b != 0) = true := by simp [bne, hb]
      rw [this]
      cases (s == (ByteArray.mk #[47])) <;> exact ⟨_, rfl⟩
theorem ixO_0 {α : Type} (a : α) (l : List α) : ixO (a :: l) 0 = some a := rfl
theorem ixO_1 {α : Type} (a b : α) (l : List α) : ixO (a :: b :: l) 1 = some b := rfl
def Kept (m m' : Machine) : Prop := m'.vars = m.vars ∧ m'.ev = m.ev ∧ m'.owner = m.owner ∧ m'.out = m.out ∧ (m'.e = 0 → m.e = 0 ∧ m'.fuel ≤ m.fuel)
theorem Kept.refl (m : Machine) : Kept m m := ⟨rfl, rfl, rfl, rfl, fun h => ⟨h, Int.le_refl _⟩⟩
theorem Kept.trans {a b c : Machine} (h : Kept a b) (k : Kept b c) : Kept a c :=
 ⟨k.1.trans h.1, k.2.1.trans h.2.1, k.2.2.1.trans h.2.2.1, k.2.2.2.1.trans h.2.2.2.1, fun e => by
  obtain ⟨e1, f1⟩ := k.2.2.2.2 e
  obtain ⟨e2, f2⟩ := h.2.2.2.2 e1
  exact ⟨e2, Int.le_trans f1 f2⟩⟩
theorem Kept.fail (m : Machine) (e : Int) (he : e ≠ 0) : Kept m (z63 m e) := by
 rw [fail_e]
 refine ⟨rfl, rfl, rfl, rfl, fun h => ?_⟩
 simp only at h
 cases hq : m.e == 0 <;> rw [hq] at h
 ·exact ⟨h, Int.le_refl _⟩
 ·exact absurd h he
def FuelOk (m : Machine) : Prop := m.e = 0 → 0 ≤ m.fuel ∧ m.fuel ≤ 1000000
theorem burn_kept (m : Machine) (hf : FuelOk m) : Kept m (z39 m).2 ∧ FuelOk (z39 m).2 ∧ (z39 m).1 = ((z39 m).2.e == 0) ∧ ((z39 m).2.e = 0 → (z39 m).2.fuel + 1 = m.fuel) := by
 unfold z39
 cases hq : m.e == 0
 ·have hne := beq_eq_false_iff_ne.1 hq
  rw [Bool.false_and, cond_false]
  exact ⟨⟨rfl, rfl, rfl, rfl, fun h => absurd h hne⟩, (show FuelOk _ from fun h => absurd h hne), hq.symm, fun h => absurd h hne⟩
 ·have hz : m.e = 0 := by simpa using hq
  obtain ⟨f1, f2⟩ := hf hz
  rw [Bool.true_and]
  by_cases hl : m.fuel ≤ 0
  ·rw [decide_eq_true hl, cond_true]
   have h11 : ¬ ((11 : Int) = 0) := by decide
   exact ⟨⟨rfl, rfl, rfl, rfl, fun h => absurd h h11⟩, (show FuelOk _ from fun h => absurd h h11), rfl, fun h => absurd h h11⟩
  ·rw [decide_eq_false hl, cond_false]
   have hw : IntKind.i64.wrap (m.fuel - 1) = m.fuel - 1 := wrap_eq (by omega) (by omega)
   refine ⟨⟨rfl, rfl, rfl, rfl, fun _ => ⟨hz, ?_⟩⟩, fun _ => ?_, hq.symm, fun _ => ?_⟩ <;> dsimp only <;> rw [hw] <;> omega
theorem FuelOk.kept {m m' : Machine} (h : FuelOk m) (h2 : FuelOk m') : True := trivial
theorem fail_ok {m : Machine} (h : FuelOk m) (e : Int) (he : e ≠ 0) : FuelOk (z63 m e) := by
 intro hz
 rw [fail_e] at hz ⊢
 simp only at hz ⊢
 cases hq : m.e == 0 <;> rw [hq] at hz
 ·exact h hz
 ·exact absurd hz he
theorem sum_kept {m m' : Machine} {s : ByteArray} {a b v : Int} (h : z92_raw m s a b = some (v, m')) (hf : FuelOk m) : Kept m m' ∧ FuelOk m' := by
 have hp : ∀ {w : Int} {m' : Machine}, some (w, m) = some (v, m') → Kept m m' ∧ FuelOk m' := by
  intro w m' h
  injection h with h
  injection h with _ h
  subst h
  exact ⟨Kept.refl _, hf⟩
 unfold z92_raw at h
 cases h1 : (z102 s a b).2 <;> rw [h1] at h
 ·rw [cond_false] at h
  cases h2 : (s == (ByteArray.mk #[43])) <;> rw [h2] at h
  ·rw [cond_false] at h
   cases h3 : (s == (ByteArray.mk #[45])) <;> rw [h3] at h
   ·rw [cond_false] at h
    cases h4 : (s == (ByteArray.mk #[42])) <;> rw [h4] at h
    ·rw [cond_false] at h
     cases h5 : (b == 0) <;> rw [h5] at h
     ·rw [cond_false] at h
      cases h6 : (s == (ByteArray.mk #[47])) <;> rw [h6] at h <;> exact hp (reqO_some h).2
     ·injection h with h
      injection h with _ h
      subst h
      exact ⟨Kept.fail m 12 (by decide), fail_ok hf 12 (by decide)⟩
    ·exact hp h
   ·exact hp h
  ·exact hp h
 ·exact hp h
theorem bind_pair {A B : Type} (x : Option (A × B)) : (x.bind fun v => some (v.1, v.2)) = x := by cases x <;> rfl
theorem burnOf (m : Machine) (hf : FuelOk m) : ∃ b m', z39 m = (b, m') ∧ Kept m m' ∧ FuelOk m' ∧ b = (m'.e == 0) ∧ (m'.e = 0 → m'.fuel + 1 = m.fuel) := by
 obtain ⟨h1, h2, h3, h4⟩ := burn_kept m hf
 exact ⟨_, _, rfl, h1, h2, h3, h4⟩
def Asks (m : Machine) (o : Option (Int × Machine)) : Prop := ∃ v m', o = some (v, m') ∧ Kept m m' ∧ FuelOk m' ∧ (m'.e = 0 → m'.fuel + 1 ≤ m.fuel)
theorem ex_tot : ∀ (d : Nat) (n : Node), wfE d n → ∀ q : Nat, 2 * d ≤ q → ∀ m, FuelOk m → Asks m ((exG q).2 m n)
 | 0, _, h, _, _, _, _ => h.elim
 | d + 1, n, h, q, hq, m, hf => by
  obtain ⟨q, rfl⟩ : ∃ k, q = k + 2 := ⟨q - 2, by omega⟩
  have ih := ex_tot d
  show Asks m (z60_raw (exG (q + 1)).1 (exG (q + 1)).2 m n)
  unfold z60_raw
  obtain ⟨b, mb, hb, kb, fb, bb, ub⟩ := burnOf m hf
  rw [hb]
  unfold letT
  dsimp only
  cases hbb : b with
  | false =>
   have hne : mb.e ≠ 0 := by
    rw [hbb] at bb
    exact beq_eq_false_iff_ne.1 bb.symm
   exact ⟨0, mb, rfl, kb, fb, fun e => absurd e hne⟩
  | true =>
   have done : ∀ v, Asks m (some (v, mb)) := fun v => ⟨v, mb, rfl, kb, fb, fun e => by have := ub e; omega⟩
   have on_ : ∀ (v : Int) (m' : Machine), Kept mb m' → FuelOk m' → Asks m (some (v, m')) := fun v m' k f => ⟨v, m', rfl, kb.trans k, f, fun e => by
    obtain ⟨e1, f1⟩ := k.2.2.2.2 e
    have := ub e1
    omega⟩
   rw [Bool.not_true, cond_false]
   rcases h with ⟨h, _⟩ | ⟨h, _⟩ | ⟨h, x, y, hk, wx, wy⟩ | ⟨h, x, hk, wx, _⟩
   ·rw [h]
    exact done _
   ·rw [h]
    obtain ⟨v, hv⟩ := name_tot mb n.Text
    show Asks m (bif (19 : Int) == 18 then _ else bif (19 : Int) == 19 then _ else _)
    rw [show ((19 : Int) == 18) = false from rfl, show ((19 : Int) == 19) = true from rfl, cond_false, cond_true, hv]
    exact done v
   ·rw [h, show ((20 : Int) == 18) = false from rfl, show ((20 : Int) == 19) = false from rfl, show ((20 : Int) == 20) = true from rfl, cond_false, cond_false, cond_true, bind_pair]
    show Asks m (z80_raw (exG q).1 (exG q).2 mb n)
    unfold z80_raw
    obtain ⟨v, m1, e1, k1, f1, u1⟩ := ih x wx q (by omega) mb fb
    rw [hk, ixO_0, Option.bind_some, e1, Option.bind_some]
    dsimp only
    cases (n.Text == (ByteArray.mk #[38, 38])) && (v == 0) with
    | true => exact on_ _ _ k1 f1
    | false =>
     rw [cond_false]
     cases (n.Text == (ByteArray.mk #[124, 124])) && (v != 0) with
     | true => exact on_ _ _ k1 f1
     | false =>
      obtain ⟨w, m2, e2, k2, f2, u2⟩ := ih y wy q (by omega) m1 f1
      rw [cond_false, ixO_1, Option.bind_some, e2, Option.bind_some]
      dsimp only
      cases (n.Text == (ByteArray.mk #[38, 38])) || (n.Text == (ByteArray.mk #[124, 124])) with
      | true => exact on_ _ _ (k1.trans k2) f2
      | false =>
       rw [cond_false]
       cases m2.e != 0 with
       | true => exact on_ _ _ (k1.trans k2) f2
       | false =>
        obtain ⟨⟨z, m3⟩, e3⟩ := sum_tot m2 n.Text v w
        obtain ⟨k3, f3⟩ := sum_kept e3 f2
        rw [cond_false, e3]
        exact on_ _ _ ((k1.trans k2).trans k3) f3
   ·rw [h, show ((21 : Int) == 18) = false from rfl, show ((21 : Int) == 19) = false from rfl, show ((21 : Int) == 20) = false from rfl, cond_false, cond_false, cond_false]
    obtain ⟨v, m1, e1, k1, f1, u1⟩ := ih x wx (q + 1) (by omega) mb fb
    rw [hk, ixO_0, Option.bind_some, e1, Option.bind_some]
    dsimp only
    cases n.Text == (ByteArray.mk #[33]) <;> exact on_ _ _ k1 f1
def wfM (d : Nat) (n : Node) : Prop := n.Kind = 12 ∧ n.Kids.length ≤ 16385 ∧ ∀ x ∈ n.Kids, ∃ a, x.Kids = [a] ∧ wfE d a ∧ x.Kind = 13 ∧ -1 ≤ x.Num
def wfA (d : Nat) (n : Node) : Prop := n.Kind = 14 ∧ n.Kids.length ≤ 1000000 ∧ ∀ x ∈ n.Kids, (x.Kind = 15 ∨ x.Kind = 16 ∨ x.Kind = 17) ∧ ((x.Kind = 15 ∨ x.Kind = 16) → ∃ a, x.Kids = [a] ∧ wfE d a) ∧ (x.Kind = 17 → x.Kids = [])
def wfS (d : Nat) : Nat → Node → Prop
 | 0, _ => False
 | q + 1, n =>
  (n.Kind = 7 ∧ ∀ k ∈ n.Kids, wfS d q k) ∨
  (n.Kind = 4 ∧ ∃ a, n.Kids = [a] ∧ wfE d a) ∨
  (n.Kind = 5 ∧ ∃ a b l, n.Kids = a :: b :: l ∧ wfE d a ∧ (b.Kind = 7 ∧ ∀ k ∈ b.Kids, wfS d q k) ∧ (l = [] ∨ ∃ c, l = [c] ∧ c.Kind = 7 ∧ ∀ k ∈ c.Kids, wfS d q k)) ∨
  (n.Kind = 6 ∧ ∃ a b, n.Kids = [a, b] ∧ wfE d a ∧ b.Kind = 7 ∧ ∀ k ∈ b.Kids, wfS d q k) ∨
  (n.Kind = 8 ∧ ∃ u m p i h a, n.Kids = [u, m, p, i, h, a] ∧ wfE d u ∧ wfM d m ∧ wfE d p ∧ wfE d i ∧ wfE d h ∧ wfA d a) ∨
  (n.Kind = 9 ∧ ∃ u m l, n.Kids = u :: m :: l ∧ wfE d u ∧ wfM d m ∧ ((n.Num ≠ 1 ∧ l = []) ∨ (n.Num = 1 ∧ ∃ p, l = [p] ∧ wfE d p))) ∨
  (n.Kind = 10 ∧ ∃ u m l a, n.Kids = u :: m :: (l ++ [a]) ∧ wfE d u ∧ wfM d m ∧ wfA d a ∧ ((n.Num ≠ 1 ∧ l = []) ∨ (n.Num = 1 ∧ ∃ p, l = [p] ∧ wfE d p))) ∨
  (n.Kind = 11 ∧ n.Kids = [])
def Run1 (m m' : Machine) : Prop := m'.ev = m.ev ∧ m'.owner = m.owner ∧ m'.out.length ≤ 16 ∧ FuelOk m' ∧ (m'.e = 0 → m.e = 0 ∧ m'.fuel ≤ m.fuel)
theorem Run1.of {m m' : Machine} (k : Kept m m') (f : FuelOk m') (ho : m.out.length ≤ 16) : Run1 m m' := ⟨k.2.1, k.2.2.1, by rw [k.2.2.2.1]; exact ho, f, k.2.2.2.2⟩
theorem Run1.trans {a b c : Machine} (h : Run1 a b) (k : Run1 b c) : Run1 a c := ⟨k.1.trans h.1, k.2.1.trans h.2.1, k.2.2.1, k.2.2.2.1, fun e => by
 obtain ⟨e1, f1⟩ := k.2.2.2.2 e
 obtain ⟨e2, f2⟩ := h.2.2.2.2 e1
 exact ⟨e2, Int.le_trans f1 f2⟩⟩
theorem Mask_tot (n bits : Int) : ∃ r, z105_raw n bits = some r := by
 unfold z105_raw
 have hs := sizeT_in n
 cases hc : ((!(z103 n)) || (decide (bits < 0))) || (decide (bits > (sizeT n))) with
 | true => exact ⟨_, rfl⟩
 | false =>
  rw [Bool.or_eq_false_iff, Bool.or_eq_false_iff, decide_eq_false_iff_not, decide_eq_false_iff_not] at hc
  rw [cond_false, decide_eq_true (show 0 ≤ bits by omega), wrap_eq (by omega) (by omega), decide_eq_true (show 0 ≤ sizeT n - bits by omega)]
  exact ⟨_, rfl⟩
theorem With_tot (c : Cube) (n v bits : Int) (h0 : 0 ≤ n) (h1 : n < 12) : ∃ r, z95_raw c n v bits = some r := by
 unfold z95_raw
 cases !(z104 c) with
 | true => exact ⟨_, rfl⟩
 | false =>
  rw [cond_false]
  cases (setT_ c.Value n v).2 != 0 with
  | true => exact ⟨_, rfl⟩
  | false =>
   obtain ⟨r, hr⟩ := Mask_tot n bits
   rw [cond_false, hr, Option.bind_some]
   cases !r.2 with
   | true => exact ⟨_, rfl⟩
   | false =>
    rw [cond_false, decide_eq_true h0, decide_eq_true (show n < ((12 : Nat) : Int) from h1)]
    exact ⟨_, rfl⟩
theorem matchC_tot {d : Nat} (hd : 2 * d ≤ 40000) : ∀ (l : List Node) (m : Machine) (c : Cube), (∀ x ∈ l, ∃ a, x.Kids = [a] ∧ wfE d a) → FuelOk m → ∃ r m', matchC l m c = some (r, m') ∧ Kept m m' ∧ FuelOk m'
 | [], m, c, _, hf => ⟨c, m, rfl, Kept.refl m, hf⟩
 | x :: rest, m, c, h, hf => by
  obtain ⟨a, hk, wa⟩ := h x List.mem_cons_self
  obtain ⟨v, m1, e1, k1, f1, _⟩ := ex_tot d a wa 40000 hd m hf
  have e1 : expr m a = some (v, m1) := e1
  obtain ⟨h0, h1⟩ := Field_range x.Text
  obtain ⟨w, hw⟩ := With_tot c (z91 x.Text).1 (IntKind.u64.wrap v) (bif (decide (x.Num < 0)) then (sizeT ((z91 x.Text).1)) else x.Num) h0 h1
  rw [matchC, hk, ixO_0, Option.bind_some, e1, Option.bind_some]
  dsimp only
  rw [hw, Option.bind_some]
  cases (w.2 != 0) || (decide (v < 0)) with
  | true => exact ⟨_, _, rfl, k1.trans (Kept.fail m1 13 (by decide)), fail_ok f1 13 (by decide)⟩
  | false =>
   obtain ⟨r, m2, e2, k2, f2⟩ := matchC_tot hd rest m1 w.1 (fun y hy => h y (List.mem_cons_of_mem _ hy)) f1
   exact ⟨r, m2, e2, k1.trans k2, f2⟩
end Go.Proofs.Yteioljlgcagnnaa